/- What BA rests on, part 1 of 5: my own texts, put together (merge.py). -/
import Derived.Deep.RegionHeld3
import Derived.WalkKit
import Derived.ProofKit
import Derived.Lib.Hide
import Derived.OpenShut
import Derived.Deep.MidRow
import Derived.Test.YtnlhpncaldcllaaGreatRows
import Derived.WalkSpells
import Derived.StillTactics
import Derived.Laws.Pointers
import Derived.Laws.CopyOwn
import Derived.Laws.AppendOwnNone
import Derived.RowKit3
import Derived.BigQuiet
import Derived.Deep.QuietTactic
import Derived.Deep.LoopGhost
import Derived.Deep.DeepFit
import Derived.WalkLawsBesides
import Derived.Shelf.Spec.BitsCarry
import Derived.Laws.IdiomStrings
import Derived.Maps.RangeWalk
import Derived.Great.BuildSlice
import Derived.Lib.AppendZerosOnto
import Derived.Deep.DeepCutAuto
import Derived.Lib.SliceRun
import Derived.ShutString
import Derived.ChangeOld
set_option maxRecDepth 100000
namespace Go.Proofs.YtnlhpncaldcllaaGreat
open Go Go.RowKit
section
variable {P:Program} {ops:Array Oper} {Q:Exit→Act→World→Prop} {md:Region.Mode}
def jq (md:Region.Mode) (ops:Array Oper):Bool:=
 (List.range ops.size).all fun i=>((ops[i]?).map fun o=>o.after.all fun e=> !Region.binds md e||decide (e.on<i)).getD true
theorem qt (h:jq md ops=true) {i:Nat} {o:Oper} (ho:ops[i]?=some o) {e:Edge} (he:e∈o.after) (hb:Region.binds md e=true):e.on<i:=by
 have hlt:i<ops.size:=(Array.getElem?_eq_some_iff.1 ho).1
 unfold jq at h
 rw [List.all_eq_true] at h
 have h1:=h i (by simpa using hlt)
 simp only [ho,Option.map_some,Option.getD_some,Array.all_eq_true_iff_forall_mem,Bool.or_eq_true,Bool.not_eq_true',decide_eq_true_eq] at h1
 rcases h1 e he with h2|h2
 ·rw [h2] at hb;cases hb
 ·exact h2
def jJ (L:Nat→Bool) (i:Nat):Nat→Bool:=fun j=>if j=i then true else L j
theorem pt (L:Nat→Bool) (i:Nat):jJ L i i=true:=by simp [jJ]
theorem jK {L:Nat→Bool} {i j:Nat} (h:j≠i):jJ L i j=L j:=by simp [jJ,h]
theorem uW {L:Nat→Bool} {i j:Nat} (h:L j=true):jJ L i j=true:=by unfold jJ;split<;>simp [h]
def Ap (listed:Array Bool):Nat→Bool:=fun j=>listed.getD j false
theorem FI (n:Nat):Ap (Array.replicate n false)=fun _=>false:=by
 funext j
 unfold Ap
 rw [Array.getD_eq_getD_getElem?]
 by_cases h:j<n
 ·simp [h]
 ·rw [Array.getElem?_eq_none (by simpa using h)];rfl
theorem NQ {listed:Array Bool} {i:Nat} (hi:i<listed.size):Ap (listed.setIfInBounds i true)=jJ (Ap listed) i:=by
 funext j
 unfold Ap jJ
 by_cases h:j=i
 ·subst h;simp [hi]
 ·rw [if_neg h];exact getD_set_ne false (Ne.symm h)
theorem u3 (he:jq md ops=true) {listed:Array Bool} (hs:listed.size=ops.size) (hr:Region.ready md ops listed= []):
  ∀i,i<ops.size→Ap listed i=true:=by
 intro i
 induction i using Nat.strongRecOn with
 |_ i ih=>
  intro hi
  cases h:Ap listed i with
  |true=>rfl
  |false=>
   have:i∈Region.ready md ops listed:=by
    rw [mem_ready]
    refine ⟨?_,ops[i],by simp [hi],fun e he' hb=> ?_⟩
    ·unfold Ap at h;simpa [show i<listed.size by omega] using h
    ·have:=qt he (i:=i) (o:=ops[i]) (by simp [hi]) he' hb
     exact ih _ this (by omega)
   rw [hr] at this;cases this
theorem C_ (he:jq md ops=true) (I:(Nat→Bool)→Act→World→Prop)
  (hstep:∀i o,ops[i]?=some o→∀L a w,I L a w→L i=false→(∀e∈o.after,Region.binds md e=true→L e.on=true)→wpOp P ops Q i (fun a' w'=>I (jJ L i) a' w') a w)
  (hdone:∀L a w,(∀i,i<ops.size→L i=true)→I L a w→Q .normal a w):
  ∀fuel (listed:Array Bool) a w,listed.size=ops.size→listed.count false≤fuel→I (Ap listed) a w→wpAny P md ops Q fuel listed a w:=by
 intro fuel
 induction fuel with
 |zero=>
  intro listed a w hs hc hI
  have hall:∀i,i<ops.size→Ap listed i=true:=fun i hi=>by
   have h0:listed.count false=0:=by omega
   have hn:false ∉ listed:=Array.count_eq_zero.1 h0
   have hlt:i<listed.size:=by omega
   unfold Ap
   cases hb:listed.getD i false with
   |true=>rfl
   |false=>
    exfalso;apply hn
    simp [hlt] at hb
    exact hb▸Array.getElem_mem hlt
  refine ⟨?_,hdone _ _ _ hall hI⟩
  apply List.eq_nil_iff_forall_not_mem.2
  intro i hi
  obtain ⟨h0,o,ho,_⟩:=mem_ready.1 hi
  have hlt:i<ops.size:=(Array.getElem?_eq_some_iff.1 ho).1
  have h1:=hall i hlt
  unfold Ap at h1
  simp [show i<listed.size by omega] at h0 h1
  rw [h0] at h1;cases h1
 |succ fuel ih=>
  intro listed a w hs hc hI
  refine ⟨fun hr=>hdone _ _ _ (u3 he hs hr) hI,fun i hi=> ?_⟩
  obtain ⟨h0,o,ho,hdep⟩:=mem_ready.1 hi
  have hlt:i<ops.size:=(Array.getElem?_eq_some_iff.1 ho).1
  have hltL:i<listed.size:=by omega
  have hb:listed[i]=false:=by simpa [hltL] using h0
  refine wpOp_mono (fun a' w' h=>ih _ a' w' (by simpa using hs) ?_ (by rw [NQ hltL];exact h)) (hstep i o ho (Ap listed) a w hI (by unfold Ap;simpa [hltL] using hb) hdep)
  have e:(listed.setIfInBounds i true).count false+1=listed.count false:=by
   have hset:listed.setIfInBounds i true=listed.set i true hltL:=by simp [Array.setIfInBounds,hltL]
   rw [hset,Array.count_set]
   have hpos:0<listed.count false:=Array.count_pos_iff.2 (hb▸Array.getElem_mem hltL)
   simp [hb];omega
  omega
section steps
variable {wt:Nat→Nat→Bool} {fr:(Nat→Value)→Array Value} {df:List Deferred} {G:Nat→(Nat→Bool)→(Nat→Value)→World→Prop} {J:(Nat→Bool)→(Nat→Value)→World→Prop} {i:Nat} {o:Oper}
end steps
section regions
variable {id:Nat} {a:Act} {w:World} (fr:(Nat→Value)→Array Value) (G:Nat→(Nat→Bool)→(Nat→Value)→World→Prop) (J:(Nat→Bool)→(Nat→Value)→World→Prop) (u0:Nat→Value)
end regions
end
end Go.Proofs.YtnlhpncaldcllaaGreat
namespace Go.Proofs.YtnlhpncaldcllaaGreat
structure Pr (p:Nat):Prop where
 two:2≤p
 div:∀m,m∣p→m=1∨m=p
theorem Pr.cop {p a:Nat} (h:Pr p) (ha:¬p∣a):Nat.Coprime p a:=by
 rcases h.div (Nat.gcd p a) (Nat.gcd_dvd_left p a) with h1|h1
 ·exact h1
 ·exact absurd (h1▸Nat.gcd_dvd_right p a) ha
theorem Pr.mul {p a b:Nat} (h:Pr p) (hd:p∣a*b):p∣a∨p∣b:=by
 by_cases ha:p∣a
 ·exact .inl ha
 ·exact .inr ((h.cop ha).dvd_of_dvd_mul_left hd)
theorem pd:∀n,2≤n→∃p,Pr p∧p∣n:=by
 intro n
 induction n using Nat.strongRecOn with
 |_ n ih=>
  intro hn
  by_cases h:∃m,m∣n∧m≠1∧m≠n
  ·obtain ⟨m,hd,h1,h2⟩:=h
   have hle:=Nat.le_of_dvd (by omega) hd
   have h0:m≠0:=by rintro rfl;have:=Nat.eq_zero_of_zero_dvd hd;omega
   obtain ⟨p,hp,hpm⟩:=ih m (by omega) (by omega)
   exact ⟨p,hp,Nat.dvd_trans hpm hd⟩
  ·refine ⟨n,⟨hn,fun m hm=> ?_⟩,Nat.dvd_refl n⟩
   by_cases h1:m=1
   ·exact .inl h1
   ·by_cases h2:m=n
    ·exact .inr h2
    ·exact absurd ⟨m,hm,h1,h2⟩ h
def choose:Nat→Nat→Nat
 |_,0=>1
 |0,_+1=>0
 |n+1,k+1=>choose n k+choose n (k+1)
theorem eH:∀n k,n<k→choose n k=0
 |0,k+1,_=>rfl
 |n+1,k+1,h=>by rw [choose,eH n k (by omega),eH n (k+1) (by omega)]
theorem kL:∀n,choose n n=1
 |0=>rfl
 |n+1=>by rw [choose,kL n,eH n (n+1) (by omega)]
theorem eI (n:Nat):choose n 0=1:=by cases n<;>rfl
theorem fE:∀n k,(k+1)*choose (n+1) (k+1)=(n+1)*choose n k
 |0,0=>rfl
 |0,k+1=>by simp [choose]
 |n+1,0=>by
  have h:=fE n 0
  rw [eI] at h
  have e:choose (n+1+1) (0+1)=choose (n+1) 0+choose (n+1) (0+1):=rfl
  rw [e,eI]
  omega
 |n+1,k+1=>by
  have h1:=fE n k
  have h2:=fE n (k+1)
  have e1:choose (n+1+1) (k+1+1)=choose (n+1) (k+1)+choose (n+1) (k+1+1):=rfl
  have e2:choose (n+1) (k+1)=choose n k+choose n (k+1):=rfl
  generalize hA:choose (n+1) (k+1)=A at*
  generalize choose (n+1) (k+1+1)=B at*
  generalize choose (n+1+1) (k+1+1)=C at*
  generalize choose n k=a at*
  generalize choose n (k+1)=b at*
  subst e1 e2
  grind
def cE (n x:Nat):Nat→Nat
 |0=>0
 |k+1=>cE n x k+choose n k*x^k
theorem kJ (n x:Nat):∀k,cE (n+1) x (k+1)=cE n x (k+1)+x*cE n x k
 |0=>by simp [cE,eI]
 |k+1=>by
  have h:=kJ n x k
  rw [cE,h]
  simp only [cE,choose,Nat.pow_succ]
  grind
theorem P2 (n x:Nat):(x+1)^n=cE n x (n+1):=by
 induction n with
 |zero=>simp [cE,choose]
 |succ n ih=>
  have e:cE n x (n+1+1)=cE n x (n+1):=by
   show cE n x (n+1)+choose n (n+1)*x^(n+1)=_
   rw [eH n (n+1) (by omega)];omega
  rw [kJ,Nat.pow_succ,ih,e,Nat.mul_add,Nat.mul_one,Nat.mul_comm x];omega
theorem Pr.choose {p:Nat} (hp:Pr p) (k:Nat) (h0:0<k) (h1:k<p):p∣choose p k:=by
 obtain ⟨n,rfl⟩:∃n,p=n+1:=⟨p-1,by have:=hp.two;omega⟩
 obtain ⟨j,rfl⟩:∃j,k=j+1:=⟨k-1,by omega⟩
 have h:=fE n j
 have hd:n+1∣(j+1)*Go.Proofs.YtnlhpncaldcllaaGreat.choose (n+1) (j+1):=⟨_,h⟩
 rcases hp.mul hd with h2|h2
 ·exact absurd (Nat.le_of_dvd (by omega) h2) (by omega)
 ·exact h2
theorem wh {p x:Nat} (hp:Pr p):∀k,1≤k→k≤p→cE p x k%p=1%p:=by
 intro k
 induction k with
 |zero=>omega
 |succ k ih=>
  intro _ h2
  by_cases hk:k=0
  ·subst hk;simp [cE,eI]
  ·rw [cE,Nat.add_mod,ih (by omega) (by omega),Nat.mul_mod,Nat.mod_eq_zero_of_dvd (hp.choose k (by omega) (by omega)),Nat.zero_mul,Nat.zero_mod,Nat.add_zero,Nat.mod_mod]
theorem Ju {p:Nat} (hp:Pr p) (x:Nat):x^p%p=x%p:=by
 induction x with
 |zero=>rw [Nat.zero_pow (by have:=hp.two;omega)]
 |succ x ih=>
  rw [P2,cE,kL,Nat.one_mul,Nat.add_mod,wh hp p (by have:=hp.two;omega) (Nat.le_refl _),ih,←Nat.add_mod,Nat.add_comm]
theorem wT {p:Nat} (hp:Pr p) (x:Nat) (hx:¬p∣x):x^(p-1)%p=1:=by
 have h:=Ju hp x
 have h2:=hp.two
 have hd:p∣x*(x^(p-1)-1):=by
  rw [Nat.mul_sub,Nat.mul_one,show x*x^(p-1)=x^p from by rw [Nat.mul_comm,←Nat.pow_succ];congr 1;omega]
  exact Nat.dvd_of_mod_eq_zero (Nat.sub_mod_eq_zero_of_mod_eq h)
 have hx0:0<x:=Nat.pos_of_ne_zero (by rintro rfl;exact hx (Nat.dvd_zero p))
 have hp1:0<x^(p-1):=Nat.pow_pos hx0
 rcases hp.mul hd with h3|h3
 ·exact absurd h3 hx
 ·have h4:=Nat.mod_eq_zero_of_dvd h3
  have h5:x^(p-1)=(x^(p-1)-1)+1:=by omega
  rw [h5,Nat.add_mod,h4,Nat.zero_add,Nat.mod_mod,Nat.mod_eq_of_lt (by omega)]
def gK (n:Nat):Nat→Nat→Nat→Nat
 |0,_,_=>1%n
 |f+1,a,e=>if e=0 then 1%n else let r:=gK n f (a*a%n) (e/2);if e%2=1 then r*a%n else r
theorem en (a n e:Nat):(a%n)^e%n=a^e%n:=by
 induction e with
 |zero=>rfl
 |succ e ih=>rw [Nat.pow_succ,Nat.pow_succ,Nat.mul_mod,ih,Nat.mod_mod,←Nat.mul_mod]
theorem cQ (n:Nat):∀f a e,e<2^f→gK n f a e=a^e%n
 |0,a,e,h=>by
  obtain rfl:e=0:=by simp at h;exact h
  rfl
 |f+1,a,e,h=>by
  unfold gK
  by_cases h0:e=0
  ·subst h0;simp
  ·rw [if_neg h0]
   have hf:e/2<2^f:=by rw [Nat.pow_succ] at h;omega
   have hr:=cQ n f (a*a%n) (e/2) hf
   have h2:(a*a%n)^(e/2)%n=a^(2*(e/2))%n:=by
    rw [en,←Nat.pow_two,←Nat.pow_mul]
   simp only [hr,h2]
   by_cases h1:e%2=1
   ·rw [if_pos h1,Nat.mul_mod,Nat.mod_mod,←Nat.mul_mod,←Nat.pow_succ]
    congr 2;omega
   ·rw [if_neg h1]
    congr 2;omega
theorem Kk (a r:Nat):∀m n,a^m%r=1%r→a^n%r=1%r→a^(Nat.gcd m n)%r=1%r:=by
 intro m n
 induction m,n using Nat.gcd.induction with
 |H0 n=>intro _ h;rw [Nat.gcd_zero_left];exact h
 |H1 m n hm ih=>
  intro h1 h2
  rw [Nat.gcd_rec]
  refine ih ?_ h1
  have e:a^n=(a^m)^(n/m)*a^(n%m):=by rw [←Nat.pow_mul,←Nat.pow_add,Nat.div_add_mod]
  rw [e,Nat.mul_mod,←en,h1,en,Nat.one_pow,←Nat.mul_mod,Nat.one_mul] at h2
  exact h2
theorem nr {N a q r:Nat} (hN:2≤N) (hq:Pr q) (hqN:q∣N-1) (h1:a^(N-1)%N=1) (h2:Nat.gcd (a^((N-1)/q)%N+(N-1)) N=1) (hr:Pr r) (hrN:r∣N):q∣r-1:=by
 have ha:¬r∣a:=by
  intro hd
  have h3:r∣a^(N-1):=Nat.dvd_trans hd ⟨a^(N-1-1),by rw [←Nat.pow_succ'];congr 1;omega⟩
  have h4:=Nat.div_add_mod (a^(N-1)) N
  rw [h1] at h4
  have h5:r∣N*(a^(N-1)/N):=Nat.dvd_trans hrN (Nat.dvd_mul_right _ _)
  have h6:r∣1:=(Nat.dvd_add_right h5).1 (by rw [h4];exact h3)
  have:=Nat.le_of_dvd (by omega) h6
  have:=hr.two;omega
 have hF:=wT hr a ha
 have hr1:1%r=1:=Nat.mod_eq_of_lt (by have:=hr.two;omega)
 have hM:a^(N-1)%r=1%r:=by
  rw [←Nat.mod_mod_of_dvd (a^(N-1)) hrN,h1]
 by_cases hd:q∣r-1
 ·exact hd
 ·exfalso
  have hg:Nat.gcd (N-1) (r-1)∣(N-1)/q:=by
   obtain ⟨c,hc⟩:=hqN
   rw [hc,Nat.mul_div_cancel_left _ (by have:=hq.two;omega)]
   have hcop:Nat.Coprime (Nat.gcd (q*c) (r-1)) q:=by
    refine Nat.Coprime.symm (hq.cop fun hx=>hd (Nat.dvd_trans hx (Nat.gcd_dvd_right _ _)))
   exact hcop.dvd_of_dvd_mul_left (Nat.gcd_dvd_left _ _)
  have h3:=Kk a r (N-1) (r-1) hM (by rw [hr1];exact hF)
  obtain ⟨k,hk⟩:=hg
  have h4:a^((N-1)/q)%r=1%r:=by
   rw [hk,Nat.pow_mul,←en,h3,en,Nat.one_pow]
  have h5:r∣a^((N-1)/q)%N+(N-1):=by
   apply Nat.dvd_of_mod_eq_zero
   rw [Nat.add_mod,Nat.mod_mod_of_dvd _ hrN,h4,hr1]
   obtain ⟨c,hc⟩:=hrN
   have hc0:0<c:=Nat.pos_of_ne_zero (by rintro rfl;omega)
   have:N-1=(r-1)+r*(c-1):=by rw [Nat.mul_sub,←hc];have:=Nat.le_of_dvd (by omega) (show r∣N from ⟨c,hc⟩);have:=hr.two;omega
   rw [this,Nat.add_mul_mod_self_left,Nat.mod_eq_of_lt (show r-1<r by have:=hr.two;omega),show 1+(r-1)=r by have:=hr.two;omega,Nat.mod_self]
  have h6:r∣1:=h2▸Nat.dvd_gcd h5 hrN
  have:=Nat.le_of_dvd (by omega) h6
  have:=hr.two;omega
theorem nw {N:Nat} (hN:2≤N) (h:∀r,Pr r→r∣N→N<r*r):Pr N:=by
 refine ⟨hN,fun m hm=> ?_⟩
 obtain ⟨c,hc⟩:=hm
 by_cases hm1:m=1
 ·exact .inl hm1
 ·by_cases hc1:c=1
  ·subst hc1;exact .inr (by omega)
  ·exfalso
   have hm0:2≤m:=by
    rcases Nat.lt_or_ge m 2 with h|h
    ·have:m=0:=by omega
     subst this;omega
    ·exact h
   have hc0:2≤c:=by
    rcases Nat.lt_or_ge c 2 with h|h
    ·have:c=0:=by omega
     subst this;omega
    ·exact h
   obtain ⟨r,hr,hrm⟩:=pd m hm0
   obtain ⟨s,hs,hsc⟩:=pd c hc0
   have h1:=h r hr (hc▸Nat.dvd_trans hrm (Nat.dvd_mul_right _ _))
   have h2:=h s hs (hc▸Nat.dvd_trans hsc (Nat.dvd_mul_left _ _))
   have h3:=Nat.le_of_dvd (by omega) hrm
   have h4:=Nat.le_of_dvd (by omega) hsc
   rw [hc] at h1 h2
   have h5:m*c<m*m:=Nat.lt_of_lt_of_le h1 (Nat.mul_le_mul h3 h3)
   have h6:m*c<c*c:=Nat.lt_of_lt_of_le h2 (Nat.mul_le_mul h4 h4)
   have h7:c<m:=Nat.lt_of_mul_lt_mul_left h5
   have h8:m<c:=Nat.lt_of_mul_lt_mul_right h6
   omega
theorem jI {N a q f:Nat} (hN:2≤N) (hq:Pr q) (hqN:(N-1)%q=0) (hf:N-1<2^f) (h1:gK N f a (N-1)=1) (h2:Nat.gcd (gK N f a ((N-1)/q)+(N-1)) N=1) (hs:N<q*q):Pr N:=by
 rw [cQ N f _ _ hf] at h1
 rw [cQ N f _ _ (Nat.lt_of_le_of_lt (Nat.div_le_self _ _) hf)] at h2
 refine nw hN fun r hr hrN=> ?_
 have h3:=nr hN hq (Nat.dvd_of_mod_eq_zero hqN) h1 h2 hr hrN
 have h4:=Nat.le_of_dvd (by have:=hr.two;omega) h3
 exact Nat.lt_of_lt_of_le hs (Nat.mul_le_mul (by omega) (by omega))
theorem pm {N a q s f:Nat} (hN:2≤N) (hq:Pr q) (hs:Pr s) (hqs:Nat.gcd q s=1) (hqN:(N-1)%q=0) (hsN:(N-1)%s=0) (hf:N-1<2^f) (h1:gK N f a (N-1)=1) (h2:Nat.gcd (gK N f a ((N-1)/q)+(N-1)) N=1) (h3:Nat.gcd (gK N f a ((N-1)/s)+(N-1)) N=1) (hb:N<q*s*(q*s)):Pr N:=by
 rw [cQ N f _ _ hf] at h1
 rw [cQ N f _ _ (Nat.lt_of_le_of_lt (Nat.div_le_self _ _) hf)] at h2 h3
 refine nw hN fun r hr hrN=> ?_
 have h4:=nr hN hq (Nat.dvd_of_mod_eq_zero hqN) h1 h2 hr hrN
 have h5:=nr hN hs (Nat.dvd_of_mod_eq_zero hsN) h1 h3 hr hrN
 have h6:q*s∣r-1:=Nat.Coprime.mul_dvd_of_dvd_of_dvd hqs h4 h5
 have h7:=Nat.le_of_dvd (by have:=hr.two;omega) h6
 exact Nat.lt_of_lt_of_le hb (Nat.mul_le_mul (by omega) (by omega))
def AC (n:Nat):Nat→Nat→Bool
 |0,_=>true
 |f+1,d=>if n%d=0 then false else AC n f (d+1)
theorem nc (n:Nat):∀f d,AC n f d=true→∀m,d≤m→m<d+f→n%m≠0
 |0,d,_,m,h1,h2=>by omega
 |f+1,d,h,m,h1,h2=>by
  unfold AC at h
  by_cases h0:n%d=0
  ·rw [if_pos h0] at h;cases h
  ·rw [if_neg h0] at h
   by_cases hm:m=d
   ·rw [hm];exact h0
   ·exact nc n f (d+1) h m (by omega) (by omega)
theorem bU {n f:Nat} (hn:2≤n) (h:AC n f 2=true) (hf:n<(f+2)*(f+2)):Pr n:=by
 refine nw hn fun r hr hrn=> ?_
 by_cases h1:r<f+2
 ·exact absurd (Nat.mod_eq_zero_of_dvd hrn) (nc n f 2 h r hr.two (by omega))
 ·exact Nat.lt_of_lt_of_le hf (Nat.mul_le_mul (by omega) (by omega))
theorem Oa:Pr 991:=bU (f:=31) (by omega) (by decide +kernel) (by omega)
theorem N9:Pr 103:=bU (f:=10) (by omega) (by decide +kernel) (by omega)
theorem yG:Pr 8574133:=pm (a:=2) (q:=991) (s:=103) (f:=24) (by omega) Oa N9 (by decide +kernel) (by decide +kernel) (by decide +kernel) (by decide +kernel) (by decide +kernel) (by decide +kernel) (by decide +kernel) (by decide +kernel)
theorem N_:Pr 127:=bU (f:=11) (by omega) (by decide +kernel) (by omega)
theorem iE:Pr 1919519569386763:=pm (a:=2) (q:=8574133) (s:=127) (f:=51) (by omega) yG N_ (by decide +kernel) (by decide +kernel) (by decide +kernel) (by decide +kernel) (by decide +kernel) (by decide +kernel) (by decide +kernel) (by decide +kernel)
theorem Cb:Pr 569003:=bU (f:=754) (by omega) (by decide +kernel) (by omega)
theorem ou:Pr 2773320623:=jI (a:=2) (q:=569003) (f:=32) (by omega) Cb (by decide +kernel) (by decide +kernel) (by decide +kernel) (by decide +kernel) (by decide +kernel)
theorem nu:Pr 72106336199:=jI (a:=2) (q:=2773320623) (f:=37) (by omega) ou (by decide +kernel) (by decide +kernel) (by decide +kernel) (by decide +kernel) (by decide +kernel)
theorem cm:Pr 75445702479781427272750846543864801:=pm (a:=2) (q:=1919519569386763) (s:=72106336199) (f:=116) (by omega) iE nu (by decide +kernel) (by decide +kernel) (by decide +kernel) (by decide +kernel) (by decide +kernel) (by decide +kernel) (by decide +kernel) (by decide +kernel)
theorem B_:Pr 430751:=bU (f:=656) (by omega) (by decide +kernel) (by omega)
theorem Kp:Pr 4153:=bU (f:=64) (by omega) (by decide +kernel) (by omega)
theorem gL:Pr 31757755568855353:=pm (a:=2) (q:=430751) (s:=4153) (f:=55) (by omega) B_ Kp (by decide +kernel) (by decide +kernel) (by decide +kernel) (by decide +kernel) (by decide +kernel) (by decide +kernel) (by decide +kernel) (by decide +kernel)
theorem aP:Pr 74058212732561358302231226437062788676166966415465897661863160754340907:=pm (a:=2) (q:=75445702479781427272750846543864801) (s:=31757755568855353) (f:=236) (by omega) cm gL (by decide +kernel) (by decide +kernel) (by decide +kernel) (by decide +kernel) (by decide +kernel) (by decide +kernel) (by decide +kernel) (by decide +kernel)
theorem aJ:Pr 57896044618658097711785492504343953926634992332820282019728792003956564819949:=jI (a:=2) (q:=74058212732561358302231226437062788676166966415465897661863160754340907) (f:=255) (by omega) aP (by decide +kernel) (by decide +kernel) (by decide +kernel) (by decide +kernel) (by decide +kernel)
theorem Ko:Pr 2551:=bU (f:=50) (by omega) (by decide +kernel) (by omega)
theorem yF:Pr 1224481:=jI (a:=2) (q:=2551) (f:=21) (by omega) Ko (by decide +kernel) (by decide +kernel) (by decide +kernel) (by decide +kernel) (by decide +kernel)
theorem Ca:Pr 531581:=bU (f:=729) (by omega) (by decide +kernel) (by omega)
theorem iD:Pr 1257559732178653:=pm (a:=2) (q:=1224481) (s:=531581) (f:=51) (by omega) yF Ca (by decide +kernel) (by decide +kernel) (by decide +kernel) (by decide +kernel) (by decide +kernel) (by decide +kernel) (by decide +kernel) (by decide +kernel)
theorem fW:Pr 4434155615661930479:=jI (a:=2) (q:=1257559732178653) (f:=62) (by omega) iD (by decide +kernel) (by decide +kernel) (by decide +kernel) (by decide +kernel) (by decide +kernel)
theorem du:Pr 172054593956031949258510691:=jI (a:=2) (q:=4434155615661930479) (f:=88) (by omega) fW (by decide +kernel) (by decide +kernel) (by decide +kernel) (by decide +kernel) (by decide +kernel)
theorem bQ:Pr 19757330305831588566944191468367130476339:=jI (a:=2) (q:=172054593956031949258510691) (f:=134) (by omega) du (by decide +kernel) (by decide +kernel) (by decide +kernel) (by decide +kernel) (by decide +kernel)
theorem bM:Pr 276602624281642239937218680557139826668747:=jI (a:=2) (q:=19757330305831588566944191468367130476339) (f:=138) (by omega) bQ (by decide +kernel) (by decide +kernel) (by decide +kernel) (by decide +kernel) (by decide +kernel)
theorem aK:Pr 7237005577332262213973186563042994240857116359379907606001950938285454250989:=jI (a:=2) (q:=276602624281642239937218680557139826668747) (f:=253) (by omega) bM (by decide +kernel) (by decide +kernel) (by decide +kernel) (by decide +kernel) (by decide +kernel)
def Pq:Nat:=57896044618658097711785492504343953926634992332820282019728792003956564819949
def eV:Nat:=57896044618658097711785492504343953926634992332820282019728792003956564819947
theorem v_:0<Pq:=by unfold Pq;omega
theorem SE:(57896044618658097711785492504343953926634992332820282019728792003956564819968:Nat)%Pq=19%Pq:=by decide +kernel
def cr (f:Nat→Nat) (c0:Nat):Nat→Nat
 |0=>c0
 |i+1=>(f i+cr f c0 i)/2251799813685248
def bP (f:Nat→Nat) (c0:Nat) (i:Nat):Nat:=(f i+cr f c0 i)%2251799813685248
def val (f:Nat→Nat):Nat:=f 0+2251799813685248*(f 1+2251799813685248*(f 2+2251799813685248*(f 3+2251799813685248*f 4)))
theorem lB (f:Nat→Nat) (c0:Nat):val (bP f c0)+57896044618658097711785492504343953926634992332820282019728792003956564819968*cr f c0 5=val f+c0:=by
 unfold val bP
 simp only [cr]
 omega
def cF (f:Nat→Nat):Nat→Nat:=
 let g:=bP (bP f 0) (cr f 0 5*19)
 let c:=cr (bP f 0) (cr f 0 5*19) 5*19
 fun i=>if i=0 then g 0+c else g i
structure oD (f:Nat→Nat):Prop where
 l0:f 0<2251799813685248+20
 l1:f 1<2251799813685248
 l2:f 2<2251799813685248
 l3:f 3<2251799813685248
 l4:f 4<2251799813685248
theorem dw (a c:Nat):(a+57896044618658097711785492504343953926634992332820282019728792003956564819968*c)%Pq=(a+c*19)%Pq:=by
 rw [Nat.add_mod,Nat.mul_mod,SE,←Nat.mul_mod,←Nat.add_mod,Nat.mul_comm 19]
theorem qb (f:Nat→Nat):val (cF f)%Pq=val f%Pq:=by
 have h1:=lB f 0
 have h2:=lB (bP f 0) (cr f 0 5*19)
 have e:val (cF f)=val (bP (bP f 0) (cr f 0 5*19))+cr (bP f 0) (cr f 0 5*19) 5*19:=by
  simp only [val,cF,if_true,if_neg (show ¬(1=0) by omega),if_neg (show ¬(2=0) by omega),if_neg (show ¬(3=0) by omega),if_neg (show ¬(4=0) by omega)]
  omega
 rw [e,←dw,h2,←dw,h1,Nat.add_zero]
theorem oO (f:Nat→Nat) (c0:Nat) (h:∀i,i<5→f i≤9223372036854775808) (hc:c0≤9223372036854775807):∀i,i≤5→cr f c0 i≤9223372036854775807
 |0,_=>hc
 |i+1,hi=>by
  have h1:=oO f c0 h hc i (by omega)
  have h2:=h i (by omega)
  unfold cr
  omega
theorem Sq (f:Nat→Nat) (h:∀i,i<5→f i≤9223372036854775808):cr f 0 5≤4097:=by
 have h1:=oO f 0 h (by omega) 4 (by omega)
 have h2:=h 4 (by omega)
 have h3:=oO f 0 h (by omega) 3 (by omega)
 have h4:=h 3 (by omega)
 have e:cr f 0 5=(f 4+cr f 0 4)/2251799813685248:=rfl
 have e2:cr f 0 4=(f 3+cr f 0 3)/2251799813685248:=rfl
 omega
theorem dq (f:Nat→Nat) (c0 i:Nat):bP f c0 i<2251799813685248:=Nat.mod_lt _ (by omega)
theorem wz (f:Nat→Nat) (c0:Nat) (h:∀i,f i<2251799813685248) (hc:c0≤2251799813685248):∀i,1≤i→cr f c0 i≤1
 |0,h0=>by omega
 |1,_=>by have:=h 0;unfold cr;simp only [cr];omega
 |i+2,_=>by
  have h1:=wz f c0 h hc (i+1) (by omega)
  have h2:=h (i+1)
  rw [cr];omega
theorem qa (f:Nat→Nat) (h:∀i,i<5→f i≤9223372036854775808):oD (cF f):=by
 have h5:=Sq f h
 have h1:=wz (bP f 0) (cr f 0 5*19) (dq f 0) (by omega) 5 (by omega)
 have hp:=dq (bP f 0) (cr f 0 5*19)
 refine ⟨?_,?_,?_,?_,?_⟩
 ·show bP (bP f 0) (cr f 0 5*19) 0+cr (bP f 0) (cr f 0 5*19) 5*19<_
  have:=hp 0;omega
 ·exact hp 1
 ·exact hp 2
 ·exact hp 3
 ·exact hp 4
theorem Ts:Pr Pq:=aJ
instance:NeZero Pq:=⟨by unfold Pq;omega⟩
abbrev F:=Fin Pq
def fn (n:Nat):F:=⟨n%Pq,Nat.mod_lt _ v_⟩
def bz (x:F) (n:Nat):F:=⟨x.val^n%Pq,Nat.mod_lt _ v_⟩
def bk (x:F):F:=bz x eV
theorem bJ (x:F) (n:Nat):(bz x n).val=x.val^n%Pq:=rfl
theorem F.ext' {x y:F} (h:x.val=y.val):x=y:=Fin.ext h
theorem F.mul_val (x y:F):(x*y).val=x.val*y.val%Pq:=rfl
theorem F.add_val (x y:F):(x+y).val=(x.val+y.val)%Pq:=rfl
theorem ee (x:F) (m n:Nat):bz x (m+n)=bz x m*bz x n:=by
 apply F.ext'
 rw [F.mul_val,bJ,bJ,bJ,Nat.pow_add,Nat.mul_mod]
theorem mo (x:F):bz x 1=x:=by
 apply F.ext';rw [bJ,Nat.pow_one,Nat.mod_eq_of_lt x.isLt]
theorem o7 (x:F):bz x 0=1:=by
 apply F.ext';rw [bJ,Nat.pow_zero];rfl
theorem EE (x:F) (m n:Nat):bz (bz x m) n=bz x (m*n):=by
 apply F.ext';rw [bJ,bJ,bJ,en,←Nat.pow_mul]
theorem od (x y:F) (n:Nat):bz (x*y) n=bz x n*bz y n:=by
 apply F.ext';rw [bJ,F.mul_val,F.mul_val,bJ,bJ,en,Nat.mul_pow,Nat.mul_mod]
theorem tV (n:Nat) (h:0<n):bz 0 n=0:=by
 apply F.ext';rw [bJ,show (0:F).val=0 from rfl,Nat.zero_pow h];rfl
theorem F.val_ne {x:F} (h:x≠0):¬Pq∣x.val:=by
 intro hd
 apply h
 apply F.ext'
 show x.val=0
 rw [←Nat.mod_eq_of_lt x.isLt];exact Nat.mod_eq_zero_of_dvd hd
theorem qE {x:F} (h:x≠0):bz x (Pq-1)=1:=by
 apply F.ext';rw [bJ,wT Ts _ (F.val_ne h)];rfl
theorem cU {x:F} (h:x≠0):x*bk x=1:=by
 have h1:=qE h
 rw [show Pq-1=1+eV from by unfold Pq eV;omega,ee,mo] at h1
 exact h1
instance:Inv F:=⟨bk⟩
instance:Div F:=⟨fun a b=>a*bk b⟩
theorem ke:bk 0=0:=tV _ (by unfold eV;omega)
theorem BB (x:F):bk (bk x)=x:=by
 by_cases h:x=0
 ·subst h;rw [ke,ke]
 ·have h1:=cU h
  have h2:bk x≠0:=by
   intro e
   have h3:=congrArg Fin.val h1
   rw [e,F.mul_val,show (0:F).val=0 from rfl,Nat.mul_zero] at h3
   exact absurd h3 (by decide)
  have h4:=cU h2
  calc bk (bk x)=1*bk (bk x):=by grind
   _=(x*bk x)*bk (bk x):=by rw [h1]
   _=x*(bk x*bk (bk x)):=by grind
   _=x:=by rw [h4];grind
theorem ED:bk 1=1:=by
 have h:=cU (x:=1) (by intro h;have:=congrArg Fin.val h;exact absurd this (by decide))
 grind
instance fieldPow:HPow F Int F:=⟨fun x n=>match n with | .ofNat n=>bz x n| .negSucc n=>bk (bz x (n+1))⟩
instance fieldF:Lean.Grind.Field F where
 zpow:=fieldPow
 div_eq_mul_inv:=fun _ _=>rfl
 zero_ne_one:=by intro h;have:=congrArg Fin.val h;exact absurd this (by decide)
 inv_zero:=ke
 mul_inv_cancel:=cU
 zpow_zero:=fun a=>o7 a
 zpow_succ:=fun a n=>by
  show bz a (n+1)=bz a n*a
  rw [ee,mo]
 zpow_neg:=fun a n=>by
  cases n with
  |ofNat n=>
   cases n with
   |zero=>
    show bz a 0=bk (bz a 0)
    rw [o7,ED]
   |succ n=>rfl
  |negSucc n=>
   show bz a (n+1)=bk (bk (bz a (n+1)))
   rw [BB]
theorem F.dom {x y:F} (h:x*y=0):x=0∨y=0:=by grind
def nI:F:=fn 19681161376707505956807079304988542015446066515923890162744021073123829784752
theorem A2:nI*nI= -1:=by decide +kernel
def d9:Nat:=7237005577332262213973186563042994240829374041602535252466099000494570602494
def n_:Nat:=28948022309329048855892746252171976963317496166410141009864396001978282409974
theorem zZ:n_+n_=Pq-1:=by decide +kernel
theorem By:(2*d9)+(2*d9)=2+n_:=by decide +kernel
theorem Fq {y:F} (h:y≠0):bz y n_=1∨bz y n_= -1:=by
 have h1:=qE h
 rw [←zZ,ee] at h1
 have h2:(bz y n_-1)*(bz y n_+1)=0:=by grind
 rcases F.dom h2 with h|h
 ·left;grind
 ·right;grind
def eT (x:F):F:=if bz x d9*bz x d9=x then bz x d9 else bz x d9*nI
def cu (x:F):Int:=if eT x*eT x=x then 0 else 7
def bt (x:F):F:=if eT x*eT x=x then (if (eT x).val%2=1 then -eT x else eT x) else 0
theorem IW (y:F):eT (y*y)*eT (y*y)=y*y:=by
 have h2:bz y 2=y*y:=by rw [show 2=1+1 from rfl,ee,mo]
 have h1:bz (y*y) d9*bz (y*y) d9=y*y*bz y n_:=by
  rw [←h2,EE,←ee,By,ee]
 unfold eT
 split
 ·assumption
 ·rename_i h
  by_cases hy:y=0
  ·subst hy
   rw [h1] at h;grind
  ·rcases Fq hy with e|e
   ·rw [h1,e] at h;grind
   ·rw [e] at h1
    have:=A2
    grind
theorem u9 (y:F):cu (y*y)=0:=by unfold cu;rw [if_pos (IW y)]
theorem Az (x:F):(-x).val=(Pq-x.val)%Pq:=rfl
theorem JZ (v:Nat) (h:v<Pq) (h1:v%2=1):(Pq-v)%Pq%2=0:=by
 rw [Nat.mod_eq_of_lt (show Pq-v<Pq by omega)]
 have:Pq%2=1:=by decide +kernel
 omega
theorem yM (x:F):(bt x).val%2=0:=by
 unfold bt
 by_cases h:eT x*eT x=x
 ·rw [if_pos h]
  by_cases h1:(eT x).val%2=1
  ·rw [if_pos h1,Az]
   exact JZ _ (eT x).isLt h1
  ·rw [if_neg h1];exact (Nat.mod_two_eq_zero_or_one _).resolve_right h1
 ·rw [if_neg h];rfl
theorem pu {x:F} (h:cu x=0):bt x*bt x=x:=by
 unfold cu at h
 unfold bt
 by_cases e:eT x*eT x=x
 ·rw [if_pos e]
  generalize eT x=c at*
  by_cases h1:c.val%2=1
  ·rw [if_pos h1]
   clear h1 h
   grind
  ·rw [if_neg h1];exact e
 ·rw [if_neg e] at h;cases h
theorem KA (y:F):bt (y*y)=y∨bt (y*y)= -y:=by
 have h:=pu (u9 y)
 have h2:(bt (y*y)-y)*(bt (y*y)+y)=0:=by grind
 rcases F.dom h2 with h|h
 ·left;grind
 ·right;grind
end Go.Proofs.YtnlhpncaldcllaaGreat
namespace Go.Proofs.YtnlhpncaldcllaaGreat
open Go.RowKit
theorem sk {k:IntKind} {a b:Int} (h:a=b):Ending.returned (.int k a)=Ending.returned (.int k b):=by rw [h]
theorem gN {a b:Bool} (h:a=b):Ending.returned (.bool a)=Ending.returned (.bool b):=by rw [h]
def bV (c:UInt8):Value:= .int .u8 (c.toNat:Int)
structure iP (w:World) (a:Option Addr) (n cap:Nat) (l:List UInt8):Prop where
 hlen:l.length=n
 hcap:n≤cap
 hmax:cap≤maxLen
 get:∀i (h:i<l.length),∃b o,a=some ⟨b,o,none⟩∧w.cell? ⟨b,o+i,none⟩=some (bV l[i])
 hnil:a=none→cap=0
def am (w:World) (g:Nat) (cs:List Value) (E:TypeId):Prop:=w.heap[g]?=some (.cells cs.toArray E (0,0))
theorem am.lt {w:World} {g:Nat} {cs:List Value} {E:TypeId} (h:am w g cs E):g<w.heap.size:=by
 unfold am at h
 by_cases hg:g<w.heap.size
 ·exact hg
 ·rw [Array.getElem?_eq_none (by omega)] at h;simp at h
theorem am.cell {w:World} {g:Nat} {cs:List Value} {E:TypeId} (h:am w g cs E) (i:Nat):w.cell? ⟨g,i,none⟩=cs[i]?:=by
 unfold am at h
 simp [World.cell?,h]
theorem am.frozen {w:World} {g:Nat} {cs:List Value} {E:TypeId} (h:am w g cs E) (i:Nat):w.frozen? ⟨g,i,none⟩=false:=by
 unfold am at h
 simp [World.frozen?,h]
theorem am.below {w w':World} {B g:Nat} {cs:List Value} {E:TypeId} (h:am w g cs E) (hb:Below B w w') (hg:g<B):am w' g cs E:=by
 unfold am at*
 rw [hb.block g hg];exact h
theorem am.below' {w w':World} {g:Nat} {cs:List Value} {E:TypeId} (h:am w g cs E) (hb:Below w.heap.size w w'):am w' g cs E:=h.below hb h.lt
theorem am.alloc {w:World} {g:Nat} {cs:List Value} {E:TypeId} (h:am w g cs E) (o:Obj):am (w.alloc o) g cs E:=
 h.below ((Below.refl _ _).alloc (Nat.le_refl _) o) h.lt
theorem am.drew {w:World} {g:Nat} {cs:List Value} {E:TypeId} (h:am w g cs E):am w.drew g cs E:=h
theorem am.set {w:World} {g:Nat} {cs:List Value} {E:TypeId} (h:am w g cs E) (i:Nat) (v:Value):am (w.setCell ⟨g,i,none⟩ v) g (cs.set i v) E:=by
 unfold am at*
 simp [World.setCell,Array.getElem?_modify,h]
theorem am.other {w:World} {g:Nat} {cs:List Value} {E:TypeId} (h:am w g cs E) (a:Addr) (hne:a.block≠g) (v:Value):am (w.setCell a v) g cs E:=by
 unfold am at*
 rw [Below.heap_setCell _ _ _ _ (by omega)];exact h
theorem am.new (w:World) (cs:Array Value) (E:TypeId):am (w.alloc (.cells cs E)) w.heap.size cs.toList E:=by
 unfold am
 show (w.heap.push _)[w.heap.size]?=_
 simp
theorem am.new' {w:World} {cs:Array Value} {E:TypeId} {g:Nat} (hg:g=w.heap.size):am (w.alloc (.cells cs E)) g cs.toList E:=by
 subst hg;exact am.new _ _ _
theorem am.own {w:World} {base E g n:Nat} {xs:List Value} (h:w.ownsRow base E 1 (.slice (some ⟨g,0,none⟩) n n) n xs):am w g xs E:=by
 obtain ⟨h1,h2⟩:=h
 rcases h2 with ⟨h2,_⟩|⟨g',cap,cur,hv,_,hg,_,_,hs,ht⟩
 ·cases h2
 ·obtain ⟨h3,_,h5⟩:g=g'∧n=n∧n=cap:=by simpa using hv
  subst h3 h5
  have:cur.toList=xs:=by rw [←ht,List.take_of_length_le (by simp [hs])]
  unfold am
  rw [hg,←this]
def row (n:Nat) (f:Nat→Value):List Value:=(List.range n).map f
theorem sm {n:Nat} {f:Nat→Value} {k:Nat} (h:k<n):(row n f)[k]?=some (f k):=by simp [row,h]
theorem io {n:Nat} {f g:Nat→Value} (h:∀i,i<n→f i=g i):row n f=row n g:=by
 unfold row;apply List.map_congr_left;intro i hi;exact h i (by simpa using hi)
theorem dB {n:Nat} {f g:Nat→Value} (k:Nat) (v:Value) (hk:g k=v) (h:∀i,i<n→i≠k→g i=f i):(row n f).set k v=row n g:=by
 apply List.ext_getElem
 ·simp [row]
 ·intro i h1 h2
  have hi:i<n:=by simpa [row] using h2
  rw [List.getElem_set]
  split
  ·rename_i e;subst e;simp [row,hk]
  ·rename_i e;simp [row,h i hi (fun x=>e x.symm)]
theorem am.at {w:World} {g n E:Nat} {f:Nat→Value} (h:am w g (row n f) E) {k:Nat} (hk:k<n):w.cell? ⟨g,k,none⟩=some (f k):=by rw [h.cell,sm hk]
theorem B3 {w w':World} {base E n:Nat} {v:Value} {xs:List Value} (h:w.ownsRow base E 1 v n xs) (hb:Below w.heap.size w w'):w'.ownsRow base E 1 v n xs:=by
 obtain ⟨h1,h2⟩:=h
 refine ⟨h1,?_⟩
 rcases h2 with h2|⟨g,cap,cur,hv,hg,hh,r⟩
 ·exact Or.inl h2
 ·have hlt:g<w.heap.size:=am.lt (cs:=cur.toList) (E:=E) (by unfold am;simpa using hh)
  exact Or.inr ⟨g,cap,cur,hv,hg,by rw [hb.block g hlt];exact hh,r⟩
theorem cK {w:World} {p:Addr} {v:Value} (h:w.cell? p=some v):p.block<w.heap.size:=by
 by_cases hg:p.block<w.heap.size
 ·exact hg
 ·unfold World.cell? at h
  rw [Array.getElem?_eq_none (by omega)] at h;simp at h
theorem iP.below {w w':World} {a:Option Addr} {n cap:Nat} {l:List UInt8} (h:iP w a n cap l) (hb:Below w.heap.size w w'):iP w' a n cap l:=by
 refine ⟨h.hlen,h.hcap,h.hmax,fun i hi=> ?_,h.hnil⟩
 obtain ⟨b,o,ha,hc⟩:=h.get i hi
 exact ⟨b,o,ha,by rw [hb.cell (cK hc)];exact hc⟩
theorem iP.blk {w:World} {g E n cap:Nat} {l:List UInt8} (r:List Value) (h:am w g (l.map bV++r) E) (hn:l.length=n) (hc:n≤cap) (hm:cap≤maxLen):iP w (some ⟨g,0,none⟩) n cap l:=
 ⟨hn,hc,hm,fun i hi=>⟨g,0,rfl,by rw [Nat.zero_add,h.cell,List.getElem?_append_left (by simpa using hi)];simp [hi]⟩,fun h=>by cases h⟩
theorem iP.cases {w:World} {a:Option Addr} {n cap:Nat} {l:List UInt8} (h:iP w a n cap l):
  (n=0∧l= [])∨∃b o,0<n∧a=some ⟨b,o,none⟩∧∀i (hi:i<l.length),w.cell? ⟨b,o+i,none⟩=some (bV l[i]):=by
 by_cases h0:n=0
 ·exact .inl ⟨h0,List.eq_nil_of_length_eq_zero (by rw [h.hlen,h0])⟩
 ·obtain ⟨b,o,ha,_⟩:=h.get 0 (by have:=h.hlen;omega)
  refine .inr ⟨b,o,by omega,ha,fun i hi=> ?_⟩
  obtain ⟨b',o',ha',hc⟩:=h.get i hi
  rw [ha] at ha'
  simp at ha'
  obtain ⟨rfl,rfl⟩:=ha'
  exact hc
theorem Below.alloc' {a w:World} (h:Below a.heap.size a w) (o:Obj):Below a.heap.size a (w.alloc o):=h.alloc h.size o
theorem Below.call {a w w1:World} (h:Below a.heap.size a w) (hb:Below w.heap.size w w1):Below a.heap.size a w1:=h.trans (hb.mono h.size)
theorem zy {W w1:World} (hb:Below W.heap.size W w1):(∀b o,b<W.heap.size→w1.cell? ⟨b,o,none⟩=W.cell? ⟨b,o,none⟩)∧(∀b o,b<W.heap.size→w1.frozen? ⟨b,o,none⟩=W.frozen? ⟨b,o,none⟩):=
 ⟨fun b o h=>hb.cell (p:=⟨b,o,none⟩) h,fun b o h=>hb.frozen (p:=⟨b,o,none⟩) h⟩
theorem iH:∀(xs ys:List Int),xs.length=ys.length→((List.range xs.length).all fun i=>xs.getD i 0 ==ys.getD i 0)=(xs ==ys)
 | [],[],_=>rfl
 |x::xs,y::ys,h=>by
  have ih:=iH xs ys (by simpa using h)
  rw [List.length_cons,List.range_succ_eq_map,List.all_cons,List.all_map]
  simp only [List.getD_cons_zero,Function.comp_def,List.getD_cons_succ,ih]
  simp [List.cons_beq_cons]
 | [],_::_,h=>by simp at h
 |_::_,[],h=>by simp at h
theorem LY {P:Program} (w:World) (d:Nat) (t e:TypeId) (n:Nat) (k:IntKind) (ht:P.underlying t=some (.array n e)) (he:P.underlying e=some (.int k)) (hsz:∀w,(sizeOf e).run P w= .ok 1 w)
  (xs ys:List Int) (hx:xs.length=n) (hy:ys.length=n):
  (Op.equalIn (d+2) t (.agg (xs.map (Value.int k)).toArray) (.agg (ys.map (Value.int k)).toArray)).run P w= .ok (xs ==ys) w:=by
 rw [←iH xs ys (hx.trans hy.symm),hx,List.range_eq_range',Op.equalIn]
 simp only [Sem.run_bind,run_underlying ht,Result.andThen_ok,hsz,Std.Legacy.Range.forIn_eq_forIn_range',Std.Legacy.Range.size,Nat.sub_zero,Nat.add_sub_cancel,Nat.div_one]
 have hl:∀i∈List.range' 0 n 1,i<n:=fun i hi=>by simpa using (List.mem_range'_1.1 hi).2
 generalize List.range' 0 n 1=l at hl ⊢
 induction l with
 |nil=>simp
 |cons i l ih=>
  have hi:i<n:=hl i (by simp)
  have px:(part e (xs.map (Value.int k)).toArray (i*1)).run P w= .ok (Value.int k (xs.getD i 0)) w:=by
   simp [part,isAgg,run_underlying he,List.getD,List.getElem?_eq_getElem (show i<xs.length by omega)]
  have py:(part e (ys.map (Value.int k)).toArray (i*1)).run P w= .ok (Value.int k (ys.getD i 0)) w:=by
   simp [part,isAgg,run_underlying he,List.getD,List.getElem?_eq_getElem (show i<ys.length by omega)]
  have pe:(Op.equalIn (d+1) e (Value.int k (xs.getD i 0)) (Value.int k (ys.getD i 0))).run P w= .ok (xs.getD i 0 ==ys.getD i 0) w:=by
   rw [run_equalIn_int w d e k k _ _ he]
  simp only [List.forIn_cons,Sem.run_bind,px,py,pe,Result.andThen_ok,List.all_cons]
  cases hb:(xs.getD i 0 ==ys.getD i 0)
  ·simp
  ·simp only [Bool.not_true,Bool.false_eq_true,if_false,Sem.run_pure,Result.andThen_ok,Bool.true_and]
   exact ih fun j hj=>hl j (by simp [hj])
theorem dO {P:Program} {c:Code} {Q:Exit→Act→World→Prop} {a:Act} {w:World} (F:World→Prop) (hF:F w) (h:∀W,F W→Code.wp P c Q a W):Code.wp P c Q a w:=h w hF
end Go.Proofs.YtnlhpncaldcllaaGreat
namespace Go.Proofs.YtnlhpncaldcllaaGreat
open Go Go.RowKit
structure Rp (α:Type) where
 n:Nat
 rep:α→List Value→Prop
 pos:0<n
 len:∀(x:α) cs,rep x cs→cs.length=n
 one:∀(x:α) cs,rep x cs→∀v∈cs,v.oneCell'=true
variable {α:Type} {R:Rp α}
def aV {α:Type} (R:Rp α):List α→List Value→Prop
 | [],cs=>cs= []
 |x::xs,cs=>∃h r,R.rep x h∧cs=h++r∧aV R xs r
theorem aV.len:∀ {xs:List α} {cs:List Value},aV R xs cs→cs.length=R.n*xs.length
 | [],_,h=>by cases h;simp
 |x::xs,cs,h=>by
  obtain ⟨h,r,hx,rfl,hr⟩:=h
  have:=R.len _ _ hx
  have:=aV.len hr
  simp [List.length_append,Nat.mul_add];omega
theorem aV.one:∀ {xs:List α} {cs:List Value},aV R xs cs→∀v∈cs,v.oneCell'=true
 | [],_,h,v,hv=>by cases h;simp at hv
 |x::xs,cs,h,v,hv=>by
  obtain ⟨h,r,hx,rfl,hr⟩:=h
  rcases List.mem_append.1 hv with hv|hv
  ·exact R.one _ _ hx v hv
  ·exact aV.one hr v hv
theorem aV.drop:∀(k:Nat) {xs:List α} {cs:List Value},aV R xs cs→aV R (xs.drop k) (cs.drop (R.n*k))
 |0,_,_,h=>by simpa using h
 |k+1,[],_,h=>by cases h;simp [aV]
 |k+1,x::xs,cs,h=>by
  obtain ⟨h,r,hx,rfl,hr⟩:=h
  have e:=R.len _ _ hx
  have:=aV.drop k hr
  have e2:(h++r).drop (R.n*(k+1))=r.drop (R.n*k):=by
   rw [show R.n*(k+1)=h.length+R.n*k by rw [e,Nat.mul_add];omega,List.drop_append];simp
  rw [List.drop_succ_cons,e2]
  exact this
theorem aV.take:∀(k:Nat) {xs:List α} {cs:List Value},aV R xs cs→aV R (xs.take k) (cs.take (R.n*k))
 |0,_,_,h=>by simp [aV]
 |k+1,[],_,h=>by cases h;simp [aV]
 |k+1,x::xs,cs,h=>by
  obtain ⟨h,r,hx,rfl,hr⟩:=h
  have e:=R.len _ _ hx
  rw [List.take_succ_cons]
  refine ⟨h,r.take (R.n*k),hx,?_,aV.take k hr⟩
  rw [List.take_append,List.take_of_length_le (by rw [e,Nat.mul_add];omega),e,Nat.mul_add,Nat.mul_one,Nat.add_sub_cancel]
theorem aV.app:∀ {xs ys:List α} {cs ds:List Value},aV R xs cs→aV R ys ds→aV R (xs++ys) (cs++ds)
 | [],_,_,_,h,k=>by cases h;simpa using k
 |x::xs,ys,cs,ds,h,k=>by
  obtain ⟨h,r,hx,rfl,hr⟩:=h
  exact ⟨h,r++ds,hx,by simp,aV.app hr k⟩
theorem aV.single {x:α} {cs:List Value} (h:R.rep x cs):aV R [x] cs:=⟨cs,[],h,by simp,rfl⟩
theorem aV.of_single {x:α} {cs:List Value} (h:aV R [x] cs):R.rep x cs:=by
 obtain ⟨h,r,hx,rfl,hr⟩:=h
 obtain rfl:r= []:=hr
 simpa using hx
theorem dx (b:Nat):∀(vs:List Value) (o:Nat) (w:World) (k:Nat),k≠b→(w.setCells b o vs).heap[k]?=w.heap[k]?
 | [],_,_,_,_=>rfl
 |v::r,o,w,k,h=>by rw [World.setCells,dx b r _ _ k h,Below.heap_setCell _ _ _ _ h]
theorem dC (b:Nat):∀(vs:List Value) (o:Nat) (w:World),(w.setCells b o vs).heap.size=w.heap.size
 | [],_,_=>rfl
 |v::r,o,w=>by rw [World.setCells,dC b r];simp [World.setCell]
theorem aR {B b:Nat} {w0:World} (hb:B≤b):∀(vs:List Value) (o:Nat) (w:World),Below B w0 w→Below B w0 (w.setCells b o vs)
 | [],_,_,h=>h
 |v::r,o,w,h=>by rw [World.setCells];exact aR hb r _ _ (h.setCell hb v)
structure WP where
 P:Value→World→Prop
 st:∀v w w',P v w→Below w.heap.size w w'→P v w'
inductive Pf where
 |any
 /-- the numbers xs -/
 |val {α:Type} (R:Rp α) (xs:List α)
 /-- where something lies -/
 |ptr (g o:Nat)
 /-- a new variable of n cells -/
 |new (n:Nat)
 /-- a new variable that holds xs -/
 |box {α:Type} (R:Rp α) (xs:List α)
 /-- operation a's new variable holds xs -/
 |st (a:Nat) {α:Type} (R:Rp α) (xs:List α)
 /-- the old variable g holds xs -/
 |sto (g:Nat) {α:Type} (R:Rp α) (xs:List α)
 /-- one cell of the old block g is now v, the rest of it as it was -/
 |cst (g o:Nat) (v:Value)
 /-- a value that is known otherwise -/
 |oth (φ:Value→Prop)
 /-- a new slice of these cells, till operation v comes up -/
 |tmp (n:Nat) (cs:List Value) (v:Nat)
 /-- a new slice of these bytes -/
 |rd (l:List UInt8)
 /-- a new slice of these bytes, till operation v comes up -/
 |rdt (l:List UInt8) (v:Nat)
 /-- these bytes, alone in a new block, till operation v comes up -/
 |own (l:List UInt8) (v:Nat)
 /-- a value that is so, till operation v comes up -/
 |wld (φ:WP) (v:Option Nat)
end Go.Proofs.YtnlhpncaldcllaaGreat
namespace Go.Proofs.YtnlhpncaldcllaaGreat
def Ot (f:Nat→Nat):Nat→Nat
 |0=>0
 |n+1=>Ot f n+f n*65536^n
theorem pH {f g:Nat→Nat}:∀n,(∀i,i<n→f i=g i)→Ot f n=Ot g n
 |0,_=>rfl
 |n+1,h=>by simp only [Ot];rw [pH n (fun i hi=>h i (by omega)),h n (by omega)]
def Eh (n i:Nat):Nat:=n/65536^i%65536
theorem M9 (n i:Nat):Eh n i<65536:=Nat.mod_lt _ (by omega)
theorem qo (x:Nat):∀n,Ot (Eh x) n=x%65536^n
 |0=>by simp [Ot,Nat.mod_one]
 |n+1=>by
  rw [Ot,qo x n,Nat.pow_succ,Nat.mod_mul]
  unfold Eh
  rw [Nat.mul_comm (65536^n)]
def lw (n i:Nat):Nat:=n/2^(64*i)%18446744073709551616
theorem b8 (n i:Nat):lw n i<18446744073709551616:=by unfold lw;exact Nat.mod_lt _ (by omega)
def cy (a b i:Nat):Nat:=(a%2^(64*i)+b%2^(64*i))/2^(64*i)
def bw (a b i:Nat):Nat:=if a%2^(64*i)<b%2^(64*i) then 1 else 0
theorem dt (i:Nat):2^(64*(i+1))=2^(64*i)*18446744073709551616:=by
 rw [Nat.mul_add,Nat.pow_add]
theorem I5 (a b:Nat):cy a b 0=0:=by simp [cy,Nat.mod_one]
theorem IT (a b:Nat):bw a b 0=0:=by simp [bw,Nat.mod_one]
theorem P8 (a b i:Nat):cy a b i≤1:=by
 unfold cy
 have hp:0<2^(64*i):=Nat.two_pow_pos _
 have h1:=Nat.mod_lt a hp
 have h2:=Nat.mod_lt b hp
 have h3:(a%2^(64*i)+b%2^(64*i))/2^(64*i)<2:=Nat.div_lt_of_lt_mul (by omega)
 omega
theorem P6 (a b i:Nat):bw a b i≤1:=by unfold bw;split<;>omega
theorem dv (n P M:Nat):n%(P*M)=(n/P%M)*P+n%P:=by
 rw [Nat.mod_mul];rw [Nat.mul_comm P];omega
theorem sW (a b i:Nat):(lw a i+lw b i+cy a b i)%18446744073709551616=lw (a+b) i∧(lw a i+lw b i+cy a b i)/18446744073709551616=cy a b (i+1):=by
 have hp:0<2^(64*i):=Nat.two_pow_pos _
 unfold lw cy
 rw [dt]
 generalize 2^(64*i)=P at hp
 have ea:=Nat.div_add_mod a P
 have eb:=Nat.div_add_mod b P
 have e:(a+b)/P=a/P+b/P+(a%P+b%P)/P:=by
  have:a+b=(a%P+b%P)+P*(a/P+b/P):=by rw [Nat.mul_add];omega
  rw [this,Nat.add_mul_div_left _ _ hp]
  have h1:(a%P+b%P+P*(a/P+b/P))%P=(a%P+b%P)%P:=by rw [Nat.add_mul_mod_self_left]
  omega
 constructor
 ·rw [e];omega
 ·rw [dv a,dv b,←Nat.div_div_eq_div_mul]
  have:a/P%18446744073709551616*P+a%P+(b/P%18446744073709551616*P+b%P)=(a%P+b%P)+P*(a/P%18446744073709551616+b/P%18446744073709551616):=by
   rw [Nat.mul_add,Nat.mul_comm P,Nat.mul_comm P];omega
  rw [this,Nat.add_mul_div_left _ _ hp]
  congr 1;omega
theorem GU (a b i:Nat) (hi:i<4) (hb:b<2^256):
  (((lw a i:Int)-lw b i-bw a b i)%18446744073709551616=lw (a+2^256-b) i)∧((if (lw a i:Int)<lw b i+bw a b i then (1:Int) else 0)=bw a b (i+1)):=by
 have hp:0<2^(64*i):=Nat.two_pow_pos _
 obtain ⟨q,hq⟩:∃q,(2:Nat)^256=2^(64*i)*(18446744073709551616*q):=by
  refine ⟨2^(256-64*(i+1)),?_⟩
  rw [←Nat.mul_assoc,←dt,←Nat.pow_add]
  congr 1;omega
 unfold lw bw
 rw [dt,hq]
 rw [hq] at hb
 generalize 2^(64*i)=P at hp hb
 have ea:=Nat.div_add_mod a P
 have eb:=Nat.div_add_mod b P
 have ha1:=Nat.mod_lt a hp
 have hb1:=Nat.mod_lt b hp
 have hbq:b/P<18446744073709551616*q:=Nat.div_lt_of_lt_mul hb
 rw [dv a,dv b]
 constructor
 ·by_cases h:a%P<b%P
  ·rw [if_pos h]
   have e:a+P*(18446744073709551616*q)-b=(a%P+P-b%P)+P*(a/P+18446744073709551616*q-b/P-1):=by
    rw [Nat.mul_sub,Nat.mul_sub,Nat.mul_add,Nat.mul_one]
    have:P*(b/P)+P≤P*(18446744073709551616*q):=by
     rw [←Nat.mul_succ];exact Nat.mul_le_mul_left _ hbq
    omega
   have hs:a%P+P-b%P<P:=by omega
   rw [e,Nat.add_mul_div_left _ _ hp,Nat.div_eq_of_lt hs]
   clear e hs ea eb hb
   generalize a/P=x at*
   generalize b/P=y at*
   omega
  ·rw [if_neg h]
   have e:a+P*(18446744073709551616*q)-b=(a%P-b%P)+P*(a/P+18446744073709551616*q-b/P):=by
    rw [Nat.mul_sub,Nat.mul_add]
    have:P*(b/P)≤P*(18446744073709551616*q):=Nat.mul_le_mul_left _ (Nat.le_of_lt hbq)
    omega
   have hs:a%P-b%P<P:=by omega
   rw [e,Nat.add_mul_div_left _ _ hp,Nat.div_eq_of_lt hs]
   clear e hs ea eb hb
   generalize a/P=x at*
   generalize b/P=y at*
   omega
 ·have key:(a/P%18446744073709551616*P+a%P<b/P%18446744073709551616*P+b%P)↔(a/P%18446744073709551616<b/P%18446744073709551616+(if a%P<b%P then 1 else 0)):=by
   generalize a/P%18446744073709551616=x
   generalize b/P%18446744073709551616=y
   have hxy:x<y∨x=y∨y<x:=by omega
   rcases hxy with h|h|h
   ·have:x*P+P≤y*P:=by rw [←Nat.succ_mul];exact Nat.mul_le_mul_right _ h
    split<;>omega
   ·subst h;split<;>omega
   ·have:y*P+P≤x*P:=by rw [←Nat.succ_mul];exact Nat.mul_le_mul_right _ h
    split<;>omega
  by_cases h:a%P<b%P
  ·simp only [h,if_true] at key ⊢
   by_cases h2:a/P%18446744073709551616<b/P%18446744073709551616+1
   ·rw [if_pos (key.2 h2)]
    generalize a/P=x at*
    generalize b/P=y at*
    rw [if_pos (by omega)];rfl
   ·rw [if_neg (fun hh=>h2 (key.1 hh))]
    generalize a/P=x at*
    generalize b/P=y at*
    rw [if_neg (by omega)];rfl
  ·simp only [h,if_false] at key ⊢
   by_cases h2:a/P%18446744073709551616<b/P%18446744073709551616+0
   ·rw [if_pos (key.2 h2)]
    generalize a/P=x at*
    generalize b/P=y at*
    rw [if_pos (by omega)];rfl
   ·rw [if_neg (fun hh=>h2 (key.1 hh))]
    generalize a/P=x at*
    generalize b/P=y at*
    rw [if_neg (by omega)];rfl
theorem NR (n i:Nat) (hi:i<4):lw (n%2^256) i=lw n i:=by
 have h:i=0∨i=1∨i=2∨i=3:=by omega
 unfold lw
 rcases h with rfl|rfl|rfl|rfl<;>simp only [Nat.reduceMul,Nat.reducePow]<;>omega
def Lq:Nat:=7237005577332262213973186563042994240857116359379907606001950938285454250989
def once (a:Nat):Nat:=if a<Lq then a else a-Lq
theorem uB {a:Nat} (h:a<2*Lq):once a=a%Lq:=by
 unfold once;unfold Lq at *;split<;>omega
theorem yf (N j:Nat):lw N (j/64)/2^(j%64)%2=N/2^j%2:=by
 unfold lw
 have h1:j%64<64:=Nat.mod_lt _ (by omega)
 have h2:(18446744073709551616:Nat)=2^(j%64)*(2*2^(63-j%64)):=by
  rw [show (18446744073709551616:Nat)=2^64 from rfl,←Nat.pow_succ',←Nat.pow_add];congr 1;omega
 rw [h2,Nat.mod_mul_right_div_self,Nat.mod_mul_right_mod,Nat.div_div_eq_div_mul,←Nat.pow_add]
 congr 3;omega
theorem sh (N j:Nat):once (2*(N/2^(j+1)%Lq)+N/2^j%2)=N/2^j%Lq:=by
 have hL:0<Lq:=by unfold Lq;omega
 have h1:=Nat.mod_lt (N/2^(j+1)) hL
 rw [uB (by omega)]
 have e:N/2^j=2*(N/2^(j+1))+N/2^j%2:=by
  rw [Nat.pow_succ,←Nat.div_div_eq_div_mul];omega
 conv=>rhs;rw [e]
 rw [Nat.add_mod,Nat.mul_mod,Nat.mod_mod,←Nat.mul_mod,←Nat.add_mod]
theorem FJ (r b:Nat) (hb:b<2):lw (r+r+b) 0=lw (r+r) 0+b∧∀i,lw (r+r+b) (i+1)=lw (r+r) (i+1):=by
 constructor
 ·simp only [lw,Nat.mul_zero,Nat.pow_zero,Nat.div_one];omega
 ·intro i
  unfold lw
  congr 1
  rw [show 64*(i+1)=1+(64*i+63) from by omega,Nat.pow_add,←Nat.div_div_eq_div_mul,←Nat.div_div_eq_div_mul]
  congr 1;omega
theorem JS (r:Nat):lw (r+r) 0%2=0:=by simp only [lw,Nat.mul_zero,Nat.pow_zero,Nat.div_one];omega
def bo:List UInt8→Nat
 | []=>0
 |c::l=>c.toNat+256*bo l
theorem mZ (l m:List UInt8):bo (l++m)=bo l+256^l.length*bo m:=by
 induction l with
 |nil=>simp [bo]
 |cons c l ih=>simp only [List.cons_append,bo,ih,List.length_cons,Nat.pow_succ,Nat.mul_add];rw [Nat.mul_comm (256^l.length) 256,Nat.mul_assoc];omega
theorem FD (l:List UInt8):bo l<256^l.length:=by
 induction l with
 |nil=>simp [bo]
 |cons c l ih=>
  have:=c.toNat_lt
  simp only [bo,List.length_cons,Nat.pow_succ]
  omega
theorem jA (l:List UInt8) (k:Nat) (hk:k<l.length):bo (l.take (k+1))=bo (l.take k)+l[k].toNat*256^k:=by
 rw [List.take_succ_eq_append_getElem hk,mZ]
 simp [bo,List.length_take,Nat.min_eq_left (Nat.le_of_lt hk)]
 rw [Nat.mul_comm]
theorem BN (n:Nat):bo (List.replicate n 0)=0:=by
 induction n with
 |zero=>rfl
 |succ n ih=>simp [List.replicate_succ,bo,ih]
theorem dG (l:List UInt8) (k:Nat):bo (l.take k)<256^k:=
 Nat.lt_of_lt_of_le (FD _) (Nat.pow_le_pow_right (by omega) (by simp;omega))
theorem N7 (k:Nat):(256:Nat)^k=2^(8*k):=by rw [Nat.pow_mul]
theorem Kg (n k c:Nat) (hn:n<256^k) (hc:c<256):lw n (k/8)|||c*2^(8*(k%8))=lw (n+c*256^k) (k/8):=by
 rw [N7] at*
 have hk:8*k=64*(k/8)+8*(k%8):=by omega
 have hr:8*(k%8)≤56:=by omega
 unfold lw
 rw [hk,Nat.pow_add] at hn
 rw [hk,Nat.pow_add]
 clear hk
 generalize 64*(k/8)=Q at*
 generalize 8*(k%8)=R at*
 have hq:0<2^Q:=Nat.two_pow_pos _
 have h1:n/2^Q<2^R:=Nat.div_lt_of_lt_mul hn
 have h2:2^R≤2^56:=Nat.pow_le_pow_right (by omega) hr
 have h3:c*2^R≤255*2^R:=Nat.mul_le_mul_right _ (by omega)
 have e:n+c*(2^Q*2^R)=n+2^Q*(c*2^R):=by rw [←Nat.mul_assoc,Nat.mul_comm c,Nat.mul_assoc]
 rw [e,Nat.add_mul_div_left _ _ hq,Nat.mod_eq_of_lt (by omega),Nat.mod_eq_of_lt (by omega)]
 have h4:=Nat.shiftLeft_add_eq_or_of_lt h1 c
 rw [Nat.shiftLeft_eq] at h4
 rw [Nat.or_comm,←h4];omega
theorem uE (n k c j:Nat) (hn:n<256^k) (hc:c<256) (hj:j≠k/8):lw (n+c*256^k) j=lw n j:=by
 rw [N7] at*
 unfold lw
 by_cases h:j<k/8
 ·have e:n+c*2^(8*k)=n+2^(64*j)*(18446744073709551616*(c*2^(8*k-64*j-64))):=by
   rw [show 8*k=64*j+(64+(8*k-64*j-64)) from by omega,Nat.pow_add,Nat.pow_add,show (18446744073709551616:Nat)=2^64 from rfl]
   rw [show 64*j+(64+(8*k-64*j-64))-64*j-64=8*k-64*j-64 from by omega]
   generalize 2^(8*k-64*j-64)=y
   generalize 2^(64*j)=x
   rw [show c*(x*(2^64*y))=x*(2^64*(c*y)) from by grind]
  rw [e,Nat.add_mul_div_left _ _ (Nat.two_pow_pos _),Nat.add_mul_mod_self_left]
 ·have hb:n+c*2^(8*k)<2^(64*j):=by
   have h1:c*2^(8*k)≤255*2^(8*k):=Nat.mul_le_mul_right _ (by omega)
   have h2:2^(8*k+8)≤2^(64*j):=Nat.pow_le_pow_right (by omega) (by omega)
   rw [Nat.pow_add] at h2
   omega
  rw [Nat.div_eq_of_lt hb,Nat.div_eq_of_lt (Nat.lt_of_le_of_lt (Nat.le_add_right _ _) hb)]
def aX (k n:Nat):List UInt8:=(List.range k).map fun i=>UInt8.ofNat (n/2^(8*i))
theorem ao (k n:Nat):(aX k n).length=k:=by simp [aX]
theorem cC (k n i:Nat) (h:i<(aX k n).length):(aX k n)[i]=UInt8.ofNat (n/2^(8*i)):=by simp [aX]
theorem fO (j k n:Nat):aX (j+k) n=aX j n++aX k (n/2^(8*j)):=by
 apply List.ext_getElem
 ·simp [ao]
 ·intro i h1 h2
  rw [cC]
  by_cases h:i<j
  ·rw [List.getElem_append_left (by simpa [ao] using h),cC]
  ·rw [List.getElem_append_right (by simpa [ao] using h),cC,ao,Nat.div_div_eq_div_mul,←Nat.pow_add]
   simp [ao] at h1;congr 3;omega
theorem ib (n:Nat):UInt8.ofNat (n%256)=UInt8.ofNat n:=by
 apply UInt8.toNat_inj.1;simp
theorem JP (k n:Nat):aX k (n%2^(8*k))=aX k n:=by
 apply List.ext_getElem
 ·simp [ao]
 ·intro i h1 h2
  have hi:i<k:=by simpa [ao] using h1
  rw [cC,cC,←ib,←ib (n/_)]
  congr 1
  rw [show 8*k=8*i+(8+(8*k-8*i-8)) from by omega,Nat.pow_add,Nat.mod_mul_right_div_self,Nat.pow_add,show (2:Nat)^8=256 from rfl,Nat.mod_mul_right_mod]
theorem lq (k n:Nat):bo (aX k n)=n%2^(8*k):=by
 induction k generalizing n with
 |zero=>simp [aX,bo,Nat.mod_one]
 |succ k ih=>
  rw [show k+1=1+k from by omega,fO,show aX 1 n= [UInt8.ofNat n] from by simp [aX],List.singleton_append,bo,ih]
  rw [show 8*(1+k)=8*1+8*k from by omega,Nat.pow_add,Nat.mod_mul]
  simp
theorem Ak (l:List UInt8):aX l.length (bo l)=l:=by
 induction l with
 |nil=>rfl
 |cons c l ih=>
  rw [List.length_cons,show l.length+1=1+l.length from by omega,fO,show aX 1 (bo (c::l))= [UInt8.ofNat (bo (c::l))] from by simp [aX]]
  have h1:bo (c::l)/2^(8*1)=bo l:=by have:=c.toNat_lt;simp only [bo];omega
  have h2:UInt8.ofNat (bo (c::l))=c:=by
   apply UInt8.toNat_inj.1;have:=c.toNat_lt;simp [bo]
  rw [h1,ih,h2];rfl
theorem FK (A s Q z:Nat) (hQ:0<Q):
  (A+s+Q*z)/Q%18446744073709551616=(z+(A%Q+s)/Q+A/Q%18446744073709551616)%18446744073709551616∧
  (A%(Q*18446744073709551616)+s+Q*z)/(Q*18446744073709551616)=(z+(A%Q+s)/Q+A/Q%18446744073709551616)/18446744073709551616:=by
 constructor
 ·have e:A+s+Q*z=(A%Q+s)+Q*(A/Q+z):=by
   have:=Nat.div_add_mod A Q;rw [Nat.mul_add];omega
  rw [e,Nat.add_mul_div_left _ _ hQ];omega
 ·rw [←Nat.div_div_eq_div_mul,dv A]
  have e:A/Q%18446744073709551616*Q+A%Q+s+Q*z=(A%Q+s)+Q*(A/Q%18446744073709551616+z):=by
   rw [Nat.mul_add,Nat.mul_comm Q (_%_)];omega
  rw [e,Nat.add_mul_div_left _ _ hQ]
  congr 1;omega
def ij (a b i:Nat):Nat:=(a%2^(64*i))*b
def ot (a b i j:Nat):Nat:=lw a i*2^(64*i)*(b%2^(64*j))
def sS (a b i j:Nat):Nat:=(ij a b i%2^(64*(i+j))+ot a b i j)/2^(64*(i+j))
theorem nt (a b i j:Nat):ot a b i (j+1)=ot a b i j+2^(64*(i+j))*(lw a i*lw b j):=by
 unfold ot
 rw [show b%2^(64*(j+1))=lw b j*2^(64*j)+b%2^(64*j) from by rw [dt,dv];rfl]
 rw [show 64*(i+j)=64*i+64*j from by omega,Nat.pow_add]
 generalize 2^(64*i)=P
 generalize 2^(64*j)=R
 grind
theorem r9 (a b i j:Nat):lw (ij a b i+ot a b i (j+1)) (i+j)=(lw a i*lw b j+sS a b i j+lw (ij a b i) (i+j))%18446744073709551616∧
  sS a b i (j+1)=(lw a i*lw b j+sS a b i j+lw (ij a b i) (i+j))/18446744073709551616:=by
 have h:=FK (ij a b i) (ot a b i j) (2^(64*(i+j))) (lw a i*lw b j) (Nat.two_pow_pos _)
 rw [nt,←Nat.add_assoc]
 refine ⟨h.1,?_⟩
 refine Eq.trans ?_ h.2
 unfold sS
 rw [nt,show 64*(i+(j+1))=64*(i+j+1) from by omega,dt,Nat.add_assoc]
theorem Ob (a b i j q:Nat) (hq:q<i+j):lw (ij a b i+ot a b i (j+1)) q=lw (ij a b i+ot a b i j) q:=by
 rw [nt]
 generalize lw a i*lw b j=z
 unfold lw
 rw [show 64*(i+j)=64*q+(64+(64*(i+j)-64*q-64)) from by omega,Nat.pow_add,Nat.pow_add,show (2:Nat)^64=18446744073709551616 from rfl]
 generalize 2^(64*(i+j)-64*q-64)=y
 generalize hx:2^(64*q)=x
 have hp:0<x:=by rw [←hx];exact Nat.two_pow_pos _
 rw [show ij a b i+(ot a b i j+x*(18446744073709551616*y)*z)=(ij a b i+ot a b i j)+x*(18446744073709551616*(y*z)) from by grind,Nat.add_mul_div_left _ _ hp,Nat.add_mul_mod_self_left]
theorem r7 (a b i j:Nat):sS a b i j<18446744073709551616:=by
 cases j with
 |zero=>
  unfold sS ot
  rw [Nat.mul_zero,Nat.pow_zero,Nat.mod_one,Nat.mul_zero,Nat.add_zero,Nat.add_zero,Nat.div_eq_of_lt (Nat.mod_lt _ (Nat.two_pow_pos _))]
  omega
 |succ j=>
  rw [(r9 a b i j).2]
  have h1:=b8 a i;have h2:=b8 b j;have h3:=b8 (ij a b i) (i+j)
  have h4:=r7 a b i j
  have h5:lw a i*lw b j≤18446744073709551615*18446744073709551615:=Nat.mul_le_mul (by omega) (by omega)
  omega
theorem Gn (a b i:Nat):sS a b i 0=0:=by
 unfold sS ot
 rw [Nat.mul_zero,Nat.pow_zero,Nat.mod_one,Nat.mul_zero,Nat.add_zero,Nat.add_zero,Nat.div_eq_of_lt (Nat.mod_lt _ (Nat.two_pow_pos _))]
theorem uP (a b i:Nat) (hb:b<2^256):ij a b i+ot a b i 4=ij a b (i+1):=by
 unfold ij ot
 rw [Nat.mod_eq_of_lt (show b<2^(64*4) from hb),dt,dv,Nat.add_mul]
 unfold lw;omega
theorem yE (a b i:Nat) (hb:b<2^256):ij a b i<2^(64*(i+4)):=by
 unfold ij
 rw [show 64*(i+4)=64*i+256 from by omega,Nat.pow_add]
 have h1:a%2^(64*i)<2^(64*i):=Nat.mod_lt _ (Nat.two_pow_pos _)
 exact Nat.lt_of_le_of_lt (Nat.mul_le_mul_right _ (Nat.le_of_lt h1)) (Nat.mul_lt_mul_of_pos_left hb (Nat.two_pow_pos _))
theorem Oc (a b i:Nat) (hb:b<2^256):sS a b i 4=lw (ij a b (i+1)) (i+4):=by
 have h1:=r7 a b i 4
 unfold sS at*
 rw [Nat.mod_eq_of_lt (yE a b i hb),uP a b i hb] at*
 unfold lw
 rw [Nat.mod_eq_of_lt h1]
theorem ye {a b m n:Nat} (ha:a<2^m) (hb:b<2^n):a*b<2^(m+n):=by
 rw [Nat.pow_add];exact Nat.mul_lt_mul'' ha hb
theorem Ar {n i q:Nat} (h:n<2^(64*i)) (hq:i≤q):lw n q=0:=by
 unfold lw
 rw [Nat.div_eq_of_lt (Nat.lt_of_lt_of_le h (Nat.pow_le_pow_right (by omega) (by omega)))]
theorem fh (n k:Nat):aX (8*(k+1)) n=aX (8*k) n++aX 8 (lw n k):=by
 rw [Nat.mul_add,fO]
 congr 1
 rw [←JP 8 (n/_)]
 congr 1
 unfold lw
 rw [←Nat.mul_assoc]
end Go.Proofs.YtnlhpncaldcllaaGreat
namespace Go.Proofs.YtnlhpncaldcllaaGreat
open Go Go.RowKit
structure KX where
 T:Type
 rp:Rp T
 df:T
def QR:Rp Unit where
 n:=1
 rep:=fun _ cs=>∃v:Value,v.oneCell'=true∧cs= [v]
 pos:=by omega
 len:=by rintro _ _ ⟨_,_,rfl⟩;rfl
 one:=by rintro _ _ ⟨v,h,rfl⟩ x hx;simp at hx;rw [hx];exact h
def Of (n:Nat) (hn:0<n) (k:IntKind) {T:Type} (P:T→Prop) (f:T→Nat→Nat):Rp T where
 n:=n
 rep:=fun x cs=>P x∧cs=(List.range n).map fun i=> .int k ((f x i:Nat):Int)
 pos:=hn
 len:=by rintro _ _ ⟨_,rfl⟩;simp
 one:=by
  rintro _ _ ⟨_,rfl⟩ v hv
  rw [List.mem_map] at hv
  obtain ⟨i,_,rfl⟩:=hv
  rfl
def QP:Rp F where
 n:=5
 rep:=fun x cs=>∃f:Nat→Nat,oD f∧val f%Pq=x.val∧cs=(List.range 5).map fun i=> .int .u64 ((f i:Nat):Int)
 pos:=by omega
 len:=by rintro _ _ ⟨_,_,_,rfl⟩;simp
 one:=by
  rintro _ _ ⟨_,_,_,rfl⟩ v hv
  rw [List.mem_map] at hv
  obtain ⟨i,_,rfl⟩:=hv
  rfl
def XK:Nat→KX
 |1=>⟨F,Of 16 (by omega) .u64 (fun _=>True) fun x=>Eh x.val,0⟩
 |2=>⟨Nat,Of 4 (by omega) .u64 (fun x=>x<Lq) fun x=>lw x,0⟩
 |3=>⟨Nat,Of 32 (by omega) .u8 (fun x=>x<Lq) fun x i=>x/256^(31-i)%256,0⟩
 |4=>⟨F,QP,0⟩
 |_=>⟨Unit,QR,()⟩
section
variable {α:Type} {R:Rp α} {ops:Array Oper} {wt:Nat→Nat→Bool} {Q:Exit→Act→World→Prop} {fr:(Nat→Value)→Array Value} {df:List Deferred} {l:List Pf} {W0:World} {i:Nat} {o:Oper}
end
end Go.Proofs.YtnlhpncaldcllaaGreat
namespace Go.Proofs.YtnlhpncaldcllaaGreat
open Go.RowKit
theorem xU:(Tryz.prog.info? 5).map (fun i=>(i.zero,i.size,i.bytes))=some (some (.int .u8 0),1,1):=by kernel_rfl
def kY (x y c:Int):Int:=(x+y+c)%18446744073709551616
def nY (x y c:Int):Int:=(x+y+c)/18446744073709551616
def KM (x y c:Int):Int:=(x-y-c)%18446744073709551616
def KL (x y c:Int):Int:=if x<y+c then 1 else 0
structure Wd (x:Int):Prop where
 lo:0≤x
 hi:x<18446744073709551616
structure Cy (x:Int):Prop where
 lo:0≤x
 hi:x≤1
theorem Cy.zero:Cy 0:=⟨by omega,by omega⟩
theorem Ix (x y c:Int):Wd (kY x y c):=by unfold kY;exact ⟨by omega,by omega⟩
theorem Iu {x y c:Int} (hx:Wd x) (hy:Wd y) (hc:Cy c):Cy (nY x y c):=by
 have:=hx.lo;have:=hx.hi;have:=hy.lo;have:=hy.hi;have:=hc.lo;have:=hc.hi;unfold nY;exact ⟨by omega,by omega⟩
theorem sV {x y c:Int} (hx:Wd x) (hy:Wd y) (hc:Cy c) (w:World):(callFunc 199 #[.int .u64 x,.int .u64 y,.int .u64 c]).run Tryz.prog w= .ok (.value (.tuple #[.int .u64 (kY x y c),.int .u64 (nY x y c)])) w:=by
 rw [run_callFunc_extern Tryz.func199 (by kernel_rfl) (by kernel_rfl) (by kernel_rfl) (e:=add64Entry) (by kernel_rfl),run_add64 x y c hx.lo hy.lo hc.lo hc.hi];rfl
theorem QZ {x y c:Int} (hx:Wd x) (hy:Wd y) (hc:Cy c) (w:World):(callFunc 257 #[.int .u64 x,.int .u64 y,.int .u64 c]).run Tryz.prog w= .ok (.value (.tuple #[.int .u64 (KM x y c),.int .u64 (KL x y c)])) w:=by
 obtain ⟨x0,x1⟩:=hx;obtain ⟨y0,y1⟩:=hy;obtain ⟨c0,c1⟩:=hc
 obtain ⟨x,rfl⟩:=Int.eq_ofNat_of_zero_le x0;obtain ⟨y,rfl⟩:=Int.eq_ofNat_of_zero_le y0;obtain ⟨c,rfl⟩:=Int.eq_ofNat_of_zero_le c0
 have e1:(((x+18446744073709551616-y-c)%18446744073709551616:Nat):Int)=KM x y c:=by unfold KM;omega
 have e2:((if x<y+c then 1 else 0:Nat):Int)=KL x y c:=by unfold KL;split<;>split<;>omega
 rw [run_callFunc_extern Tryz.func257 (by kernel_rfl) (by kernel_rfl) (by kernel_rfl) (e:=sub64Entry) (by kernel_rfl),run_sub64 x y c (by omega),←e1,←e2];rfl
theorem c8 {x:Int}:IntKind.u64.wrap x=x%18446744073709551616:=IntKind.wrap_u64 x
theorem DZ {x:Int} (h:Wd x):bits BinOp.and IntKind.u64 x 4294967295=x%4294967296:=by
 obtain ⟨x,rfl⟩:=Int.eq_ofNat_of_zero_le h.lo
 have h1:=h.hi
 rw [show (4294967295:Int)=((4294967295:Nat):Int) from rfl,u64_and_nat x 4294967295 (by omega) (by omega)]
 have e:x&&&4294967295=x%4294967296:=Nat.and_two_pow_sub_one_eq_mod x 32
 rw [e];omega
theorem rD {a b m:Int} (ha:0≤a) (hb:0≤b) (ha':a≤m) (hb':b≤m):0≤a*b∧a*b≤m*m:=
 ⟨Int.mul_nonneg ha hb,Int.mul_le_mul ha' hb' hb (by omega)⟩
theorem BS {x y:Int} (hx:Wd x) (hy:Wd y):
  IntKind.u64.wrap (IntKind.u64.wrap (IntKind.u64.wrap (x/4294967296*(y/4294967296))+IntKind.u64.wrap (IntKind.u64.wrap (x/4294967296*bits BinOp.and IntKind.u64 y 4294967295)+IntKind.u64.wrap (bits BinOp.and IntKind.u64 x 4294967295*bits BinOp.and IntKind.u64 y 4294967295)/4294967296)/4294967296)+
   IntKind.u64.wrap (bits BinOp.and IntKind.u64 (IntKind.u64.wrap (IntKind.u64.wrap (x/4294967296*bits BinOp.and IntKind.u64 y 4294967295)+IntKind.u64.wrap (bits BinOp.and IntKind.u64 x 4294967295*bits BinOp.and IntKind.u64 y 4294967295)/4294967296)) 4294967295+IntKind.u64.wrap (bits BinOp.and IntKind.u64 x 4294967295*(y/4294967296)))/4294967296)
  =x*y/18446744073709551616:=by
 have e:=DZ (x:=IntKind.u64.wrap (IntKind.u64.wrap (x/4294967296*bits BinOp.and IntKind.u64 y 4294967295)+IntKind.u64.wrap (bits BinOp.and IntKind.u64 x 4294967295*bits BinOp.and IntKind.u64 y 4294967295)/4294967296)) (by rw [c8];exact ⟨by omega,by omega⟩)
 rw [e,DZ hx,DZ hy]
 simp only [c8]
 obtain ⟨hx0,hx1⟩:=hx;obtain ⟨hy0,hy1⟩:=hy
 have ex:x=x/4294967296*4294967296+x%4294967296:=by omega
 have ey:y=y/4294967296*4294967296+y%4294967296:=by omega
 have bx1:0≤x/4294967296∧x/4294967296≤4294967295:=by omega
 have bx0:0≤x%4294967296∧x%4294967296≤4294967295:=by omega
 have by1:0≤y/4294967296∧y/4294967296≤4294967295:=by omega
 have by0:0≤y%4294967296∧y%4294967296≤4294967295:=by omega
 generalize x/4294967296=x1 at*
 generalize x%4294967296=x0 at*
 generalize y/4294967296=y1 at*
 generalize y%4294967296=y0 at*
 have e2:x*y=18446744073709551616*(x1*y1)+4294967296*(x1*y0)+4294967296*(x0*y1)+x0*y0:=by rw [ex,ey];grind
 rw [e2]
 have b11:=rD bx1.1 by1.1 bx1.2 by1.2
 have b10:=rD bx1.1 by0.1 bx1.2 by0.2
 have b01:=rD bx0.1 by1.1 bx0.2 by1.2
 have b00:=rD bx0.1 by0.1 bx0.2 by0.2
 generalize x1*y1=p11 at*
 generalize x1*y0=p10 at*
 generalize x0*y1=p01 at*
 generalize x0*y0=p00 at*
 clear ex ey e e2
 omega
set_option maxHeartbeats 400000 in
theorem pi {x y:Int} (hx:Wd x) (hy:Wd y) (w:World):Calls Tryz.prog 198 #[.int .u64 x,.int .u64 y] w fun e w'=>e= .returned (.tuple #[.int .u64 (x*y/18446744073709551616),.int .u64 (x*y%18446744073709551616)])∧w=w':=by
 have H:=Lib.hid (BS hx hy)
 obtain ⟨hx0,hx1⟩:=hx;obtain ⟨hy0,hy1⟩:=hy
 go_enter Tryz.func198,Tryz.ntmps198
 go_wp2
 go_ret2
 refine ⟨?_,rfl⟩
 rw [H.out,c8];rfl
def NT (x y:Int):Int:=x*y/18446744073709551616
def FP (x y:Int):Int:=x*y%18446744073709551616
theorem Aw {x y:Int} (hx:Wd x) (hy:Wd y) (w:World):Calls Tryz.prog 198 #[.int .u64 x,.int .u64 y] w fun e w'=>e= .returned (.tuple #[.int .u64 (NT x y),.int .u64 (FP x y)])∧w=w':=pi hx hy w
theorem yh (x y:Int):Wd (FP x y):=by unfold FP;exact ⟨by omega,by omega⟩
theorem oG (w:World) {ops:Array Oper} {rest:List Oper} {o:Oper} {a:Act} {Q:Exit→Act→World→Prop} (hgd:o.guard=none) (s x:Operand)
  (ho:o.op= .call {callee:= .builtin .append,args:= #[s,x],argTypes:= #[26,26]}) (base:Nat) (v:Value) (n:Nat) (l:List UInt8) (hs:a.eval s=v) (hown:w.ownsRow base 5 1 v n (l.map bV))
  (sa:Option Addr) (m sc:Nat) (r:List UInt8) (hx:a.eval x= .slice sa m sc) (hr:iP w sa m sc r) (hlen:n+m≤70368744177664) (hbase:base≤w.heap.size) (w0:World) (hb0:Below base w0 w)
  (h:∀v' w',w'.ownsRow base 5 1 v' (n+m) ((l++r).map bV)→Below base w0 w'→wpList Tryz.prog ops Q rest (a.put o.dst v') w'):wpList Tryz.prog ops Q (o::rest) a w:=by
 obtain ⟨i0,hi,hz0,hz1,hz2⟩:=info_parts (show (Tryz.prog.info? 5).map (fun i=>(i.zero,i.size,i.bytes))=some (some (.int .u8 0),1,1) from by kernel_rfl)
 cases sa with
 |none=>
  obtain rfl:=hr.hnil rfl
  obtain rfl:m=0:=by have:=hr.hcap;omega
  obtain rfl:r= []:=List.eq_nil_of_length_eq_zero hr.hlen
  refine wpList_append_own_none hgd s x 26 ho base 5 i0 1 Tryz.underlying26 hi v n (l.map bV) hs hown hx ?_
  exact h v w (by simpa using hown) hb0
 |some ad=>
  refine wpList_append_own w hgd s x 26 ho base 5 i0 (.int .u8 0) 1 1 Tryz.underlying26 hi hz0 hz1 hz2 rfl (by decide) v n (l.map bV) hs hown ad m sc (r.map bV) hx (by simp [hr.hlen]) ?_ ?_ (by unfold maxLen;omega) (by omega) hbase ?_
  ·intro j u hu
   obtain ⟨hj,hv⟩:=List.getElem?_eq_some_iff.1 hu
   simp at hj
   obtain ⟨b,q,hab,hc⟩:=hr.get j hj
   simp at hab
   subst hab
   rw [show Addr.add ⟨b,q,none⟩ j=⟨b,q+j,none⟩ from by unfold Addr.add;split<;>simp_all,hc,←hv]
   simp
  ·intro u hu
   simp at hu
   obtain ⟨c,_,rfl⟩:=hu
   rfl
  ·intro v' w' hown' hgr _
   rw [←List.map_append] at hown'
   refine h v' w' hown' (hb0.grown hgr hbase fun q hq=> ?_)
   rcases hown.2 with ⟨h,_⟩|⟨g,cap,cur,hv,hg,_⟩
   ·rw [h] at hq;simp [Value.ownBlock] at hq
   ·rw [hv] at hq;simp [Value.ownBlock] at hq;omega
def first (l:List UInt8) (k:Nat):List UInt8:=l.take k++List.replicate (k-l.length) 0
theorem oZ (l:List UInt8) (k:Nat):(first l k).length=k:=by unfold first;simp;omega
theorem D2 (l:List UInt8):∀v∈l.map bV,v.oneCell'=true:=by intro v hv;simp at hv;obtain ⟨c,_,rfl⟩:=hv;rfl
def Mq (k:Nat):List Value:=(List.replicate k (0:UInt8)).map bV
def H7 (l:List UInt8) (n:Nat):List Value:=(l.take n).map bV
theorem Ly (k:Nat):(Mq k).length=k:=by simp [Mq]
theorem zN (l:List UInt8) (n:Nat):(H7 l n).length=min n l.length:=by simp [H7]
theorem I4 (l:List UInt8) (n:Nat):∀v∈H7 l n,v.oneCell'=true:=D2 _
theorem NS (k:Nat):(madeCells #[Value.int .u8 0] k).toList=Mq k:=by
 apply List.ext_getElem
 ·simp [size_madeCells,Mq]
 ·intro i h1 h2
  simp [madeCells,bV,Nat.mod_one,Mq]
theorem sD (l:List UInt8) (k n:Nat) (hn:l.length=n):splice (Mq k) 0 (H7 l (Nat.min n k))=(first l k).map bV:=by
 unfold splice first Mq H7
 subst hn
 rw [show (Nat.min l.length k)=min l.length k from rfl]
 simp only [List.take_zero,List.nil_append,Nat.zero_add,←List.map_drop,←List.map_append,List.length_map,List.length_take,List.drop_replicate]
 congr 2
 ·rw [Nat.min_comm,←List.take_take,List.take_length]
 ·congr 1;omega
theorem lP (b o j:Nat):Addr.add ⟨b,o,none⟩ j=⟨b,o+j,none⟩:=by
 unfold Addr.add;split
 ·rename_i h;subst h;rfl
 ·rfl
theorem iP.src {w:World} {a:Option Addr} {n cap:Nat} {l:List UInt8} (h:iP w a n cap l) (m:Nat) (hpos:0<(H7 l m).length):
  ∃ad,a=some ad∧∀j v,(H7 l m)[j]?=some v→w.cell? (ad.add j)=some v:=by
 rcases h.cases with ⟨h0,h0'⟩|⟨b,o,hn0,ha,hc⟩
 ·subst h0';simp [H7] at hpos
 ·refine ⟨⟨b,o,none⟩,ha,fun j v hv=> ?_⟩
  unfold H7 at hv
  obtain ⟨hj,hv⟩:=List.getElem?_eq_some_iff.1 hv
  simp at hj
  rw [lP,hc j (by omega),←hv]
  simp
theorem NK:(Tryz.prog.info? 5).map (·.size)=some 1:=by kernel_rfl
set_option maxHeartbeats 400000 in
theorem oY {a:Option Addr} {n cap:Nat} {l:List UInt8} (k:Nat) (hk:k≤1000) (w:World) (h:iP w a n cap l):
  Calls Tryz.prog 191 #[.slice a n cap,.int .i64 k] w fun e w'=>e= .returned (.slice (some ⟨w.heap.size,0,none⟩) k k)∧am w' w.heap.size ((first l k).map bV) 5∧Below w.heap.size w w':=by
 obtain ⟨i0,hi,hz0,hz1,hz2⟩:=info_parts xU
 have hkk:k≤maxLen:=by unfold maxLen;omega
 have hgl:=Lib.hid h.hlen
 go_enter Tryz.func191,Tryz.ntmps191
 go_wp2_with (at_make;refine wpList_make_full _ rfl _ _ 26 rfl w.heap.size 5 i0 (.int .u8 0) 1 Tryz.underlying26 hi hz0 hz1 .i64 .i64 _ _ k rfl rfl rfl rfl ?_ hkk (Nat.le_refl _) ?_)
 ·rw [hz2];omega
 ·intro w1 hown hgr
  have hB:=am.own hown
  have hb1:Below w.heap.size w w1:=(Below.refl _ _).grown hgr (Nat.le_refl _) (by simp)
  rw [NS k] at hB
  clear hown hgr hi hz0 hz1 hz2
  have h1:=h.below hb1
  go_wp2_with (refine wpList_copy_splice rfl (.tmp 8) (.tmp 9) 26 26 rfl 5 Tryz.underlying26 NK _ _ _ _ _ _ rfl rfl w.heap.size 0 (Mq k) 5 hB (H7 l (Nat.min n k)) ?_ ?_ ?_ (I4 _ _) w.heap.size w hb1 (Nat.le_refl _) ?_)
  ·rw [zN,hgl.out];show min (min n k) n=min n k;omega
  ·exact fun hpos=>h1.src _ hpos
  ·rw [Ly,zN];show 0+min (min n k) l.length≤k;omega
  ·intro w2 hB2 hb2
   have hB3:Hid (am w2 w.heap.size ((first l k).map bV) 5):=by
    rw [sD l k n hgl.out] at hB2;exact hB2
   clear hB2
   go_wp2
   go_ret
   exact ⟨rfl,hB3.out,hb2⟩
theorem QA (w:World):(Instr.makeSlice 26 (.int .i64 8) (.int .i64 8)).run Tryz.prog w= .ok (.slice (some ⟨w.heap.size,0,none⟩) 8 8) (w.alloc (.cells #[.int .u8 0,.int .u8 0,.int .u8 0,.int .u8 0,.int .u8 0,.int .u8 0,.int .u8 0,.int .u8 0] 5)):=by kernel_rfl
theorem yb (n:Nat) (hn:n<18446744073709551616):(aX 8 n).map bV= [.int .u8 ((n:Int)%256),.int .u8 ((n:Int)/256%256),.int .u8 ((n:Int)/65536%256),.int .u8 ((n:Int)/16777216%256),.int .u8 ((n:Int)/4294967296%256),
  .int .u8 ((n:Int)/1099511627776%256),.int .u8 ((n:Int)/281474976710656%256),.int .u8 ((n:Int)/72057594037927936)]:=by
 have h:n/72057594037927936%256=n/72057594037927936:=by omega
 simp [aX,bV,List.range,List.range.loop]
 omega
set_option maxHeartbeats 400000 in
theorem dk {n:Nat} (hn:n<18446744073709551616) (w:World):
  Calls Tryz.prog 200 #[.int .u64 n] w fun e w'=>e= .returned (.slice (some ⟨w.heap.size,0,none⟩) 8 8)∧am w' w.heap.size ((aX 8 n).map bV) 5∧Below w.heap.size w w':=by
 have hn0:(0:Int)≤(n:Int):=by omega
 have hn1:(n:Int)<18446744073709551616:=by omega
 have hmk:=QA
 go_enter Tryz.func200,Tryz.ntmps200
 go_wp2
 refine wp_loop_rounds 9 ?_
 iterate 9 (rw [rounds_succ];go_wp2)
 go_ret
 refine ⟨rfl,?_,(Below.refl _ _).alloc (Nat.le_refl _) _⟩
 rw [yb n hn]
 exact am.new w _ _
theorem Jo {l m:List UInt8} (k:Nat) (hl:k<l.length) (hm:k<m.length) (h:l.take k=m.take k) (e:l[k]=m[k]):l.take (k+1)=m.take (k+1):=by
 rw [List.take_succ_eq_append_getElem hl,List.take_succ_eq_append_getElem hm,h,e]
set_option maxHeartbeats 400000 in
theorem vm {a b:Option Addr} {n m cap cap':Nat} {l r:List UInt8} (w:World) (hl:iP w a n cap l) (hr:iP w b m cap' r):
  Calls Tryz.prog 127 #[.slice a n cap,.slice b m cap'] w fun e w'=>e= .returned (.bool (decide (l=r)))∧Below w.heap.size w w':=by
 by_cases hnm:n=m
 ·subst hnm
  have HL:=Lib.hid hl.hlen;have HR:=Lib.hid hr.hlen
  rcases hl.cases with ⟨h0,h1⟩|⟨ba,oa,hn0,rfl,hca⟩
  ·subst h0 h1
   obtain rfl:r= []:=List.eq_nil_of_length_eq_zero HR.out
   go_enter Tryz.func127,Tryz.ntmps127
   go_wp2
   refine wp_loop_rounds 1 ?_
   rw [rounds_succ]
   go_wp2
   go_ret
   exact ⟨rfl,Below.refl _ _⟩
  ·rcases hr.cases with ⟨h0,h1⟩|⟨bb,ob,_,rfl,hcb⟩
   ·omega
   ·have hm63:(n:Int)≤9223372036854775807:=by have:=hl.hcap;have:=hl.hmax;unfold maxLen at *;omega
    clear hl hr
    go_enter Tryz.func127,Tryz.ntmps127
    go_wp2
    go_loopw [13] (fun i wr=>∃k:Nat,k≤n∧i= .int .i64 k∧l.take k=r.take k∧Below w.heap.size w wr) (fun i _=>n-(intOf i).toNat)
    case atStart=>exact ⟨0,Nat.zero_le _,rfl,by simp,Below.refl _ _⟩
    case round=>
     obtain ⟨k,hk,rfl,htk,hbel⟩:=hrel
     by_cases hlt:k<n
     ·have hkl:k<l.length:=by rw [HL.out];exact hlt
      have hkr:k<r.length:=by rw [HR.out];exact hlt
      have c1:wr.cell? ⟨ba,oa+k,none⟩=some (.int .u8 (l[k].toNat:Int)):=by have:=hca k hkl;rw [hbel.cell (cK this)];exact this
      have c2:wr.cell? ⟨bb,ob+k,none⟩=some (.int .u8 (r[k].toNat:Int)):=by have:=hcb k hkr;rw [hbel.cell (cK this)];exact this
      have HT:=Lib.hid htk;clear htk
      clear hca hcb
      by_cases he:l[k]=r[k]
      ·have HE:=Lib.hid (Jo k hkl hkr HT.out he)
       have hz:((l[k].toNat:Int) != (r[k].toNat:Int))=false:=by rw [he];simp
       clear he
       generalize (l[k].toNat:Int)=x at*
       generalize (r[k].toNat:Int)=y at*
       go_wp2
       go_quiet (fail)
       go_wp2
       go_roundw
       case rel=>exact ⟨k+1,by omega,by go_num,HE.out,by repeat (first|exact hbel|apply Below.drew|apply below_drewN)⟩
       case measure=>simp [intOf];omega
      ·have HE:Hid (decide (l=r)=false):=Lib.hid (by simp;intro h;subst h;exact he rfl)
       have hz:((l[k].toNat:Int) != (r[k].toNat:Int))=true:=by
        simp;intro h;exact he (UInt8.toNat_inj.1 (by omega))
       clear he
       generalize (l[k].toNat:Int)=x at*
       generalize (r[k].toNat:Int)=y at*
       go_wp2
       go_quiet (fail)
       go_wp2
       go_ret
       exact ⟨by rw [HE.out];rfl,by repeat (first|exact hbel|apply Below.drew|apply below_drewN)⟩
     ·have hkn:k=n:=by omega
      have HE:Hid (decide (l=r)=true):=Lib.hid (by simp;rw [←List.take_of_length_le (show l.length≤k by rw [HL.out];omega),htk,List.take_of_length_le (by rw [HR.out];omega)])
      clear htk hkn hca hcb
      go_wp2
      go_ret
      exact ⟨by rw [HE.out];rfl,hbel⟩
 ·have HE:Hid (decide (l=r)=false):=Lib.hid (by simp;intro h;subst h;exact hnm (hl.hlen.symm.trans hr.hlen))
  have hz:((n:Int) != (m:Int))=true:=by simp;omega
  clear hl hr
  go_enter Tryz.func127,Tryz.ntmps127
  go_wp2
  go_ret
  exact ⟨by rw [HE.out];rfl,Below.refl _ _⟩
set_option maxHeartbeats 400000 in
theorem Bw {a b:Option Addr} {n m cap cap':Nat} {l r:List UInt8} (w:World) (hl:iP w a n cap l) (hr:iP w b m cap' r):
  Calls Tryz.prog 65 #[.slice a n cap,.slice b m cap'] w fun e w'=>e= .returned (.bool (decide (l=r)))∧Below w.heap.size w w':=by
 go_enter Tryz.func65,Tryz.ntmps65
 go_wp2_with (go_at_call 127;refine (vm _ hl hr).mono ?_;rintro e w' ⟨rfl,hb⟩)
 go_ret
 exact ⟨rfl,hb⟩
def wV (n i:Nat):Value:= .int .u64 (lw n i:Nat)
theorem Cq (f:Nat→Value):row 4 f= [f 0,f 1,f 2,f 3]:=rfl
theorem Rl (i:Nat):wV 0 i= .int .u64 0:=by unfold wV lw;rw [Nat.zero_div];rfl
theorem uD (x k c:Nat) (ci:Int) (hci:ci=(c:Int)) (hx:x<256^k) (hc:c<256):
  bits BinOp.or IntKind.u64 (lw x (k/8):Nat) (IntKind.u64.wrap (ci*2^(8*(k%8))))=(lw (x+c*256^k) (k/8):Nat):=by
 subst hci
 have h1:c*2^(8*(k%8))<18446744073709551616:=by
  have h2:2^(8*(k%8))≤2^56:=Nat.pow_le_pow_right (by omega) (by omega)
  have h3:c*2^(8*(k%8))≤255*2^56:=Nat.mul_le_mul (by omega) h2
  omega
 have e:(c:Int)*2^(8*(k%8))=((c*2^(8*(k%8)):Nat):Int):=by simp
 rw [e,c8,show ((c*2^(8*(k%8)):Nat):Int)%18446744073709551616=((c*2^(8*(k%8)):Nat):Int) from by omega,u64_or_nat _ _ (b8 _ _) h1,Kg x k c hx hc]
def bs (l:List UInt8):ByteArray:=⟨l.toArray⟩
theorem Ef {w:World} {a:Option Addr} {n cap:Nat} {l:List UInt8} (h:iP w a n cap l):(convert 26 9 (.slice a n cap)).run Tryz.prog w= .ok (.string (bs l)) w:=by
 have hl:=h.hlen
 rcases h.cases with ⟨rfl,rfl⟩|⟨b,o,hn,rfl,hc⟩
 ·cases a with
  |none=>rw [run_convert_bytes_string w 26 9 5 none 0 cap Tryz.underlying26 Tryz.underlying5 Tryz.underlying9];rfl
  |some ad=>exact run_convert_bytes_back w 26 9 5 ad cap [] Tryz.underlying26 Tryz.underlying5 Tryz.underlying9 (fun j hj=>by simp at hj)
 ·subst hl
  exact run_convert_bytes_back w 26 9 5 ⟨b,o,none⟩ cap l Tryz.underlying26 Tryz.underlying5 Tryz.underlying9 (fun j hj=>by rw [lP];exact hc j hj)
end Go.Proofs.YtnlhpncaldcllaaGreat
namespace Go.Proofs.YtnlhpncaldcllaaGreat
open Go Go.RowKit
section
variable {α:Type} {R:Rp α} {ops:Array Oper} {wt:Nat→Nat→Bool} {Q:Exit→Act→World→Prop} {fr:(Nat→Value)→Array Value} {df:List Deferred} {l:List Pf} {W0:World} {i:Nat} {o:Oper}
end
def vx (a b:UInt32):UInt32:=a^^^b
def va (a b:UInt32):UInt32:=a&&&b
def vo (a b:UInt32):UInt32:=a|||b
def vn (a:UInt32):UInt32:= ~~~a
def vp (a b:UInt32):UInt32:=a+b
def k_ (a:UInt32) (n:Nat):UInt32:=UInt32.ofNat (a.toNat/2^n)
def Lw (a:UInt32) (n:Nat):UInt32:=UInt32.ofNat (a.toNat*2^n)
def jc (a:UInt32) (n:Nat):UInt32:=vo (k_ a n) (Lw a (32-n))
def JH (x:UInt64):UInt32:=UInt32.ofNat (x.toNat/4294967296)
theorem OV (a b:UInt32):bits BinOp.or IntKind.u32 (a.toNat:Int) (b.toNat:Int)=((vo a b).toNat:Int):=by
 rw [u32_or_nat _ _ a.toNat_lt b.toNat_lt];simp [vo]
theorem Lv (a:UInt32) (n:Nat):(a.toNat:Int)/2^n=((k_ a n).toNat:Int):=by
 have h:a.toNat/2^n<4294967296:=Nat.lt_of_le_of_lt (Nat.div_le_self _ _) a.toNat_lt
 unfold k_
 rw [UInt32.toNat_ofNat',Nat.mod_eq_of_lt h]
 simp
theorem Lx (a:UInt32) (n:Nat):IntKind.u32.wrap ((a.toNat:Int)*2^n)=((Lw a n).toNat:Int):=by
 rw [IntKind.wrap_u32];unfold Lw
 rw [UInt32.toNat_ofNat']
 have:(a.toNat:Int)*2^n=((a.toNat*2^n:Nat):Int):=by simp
 rw [this];omega
def ux (a b:UInt64):UInt64:=a^^^b
def ua (a b:UInt64):UInt64:=a&&&b
def uo (a b:UInt64):UInt64:=a|||b
def un (a:UInt64):UInt64:= ~~~a
def up (a b:UInt64):UInt64:=a+b
def iF (a:UInt64) (n:Nat):UInt64:=UInt64.ofNat (a.toNat/2^n)
def jY (a:UInt64) (n:Nat):UInt64:=UInt64.ofNat (a.toNat*2^n)
def jb (a:UInt64) (n:Nat):UInt64:=uo (iF a n) (jY a (64-n))
theorem Oq (a b:UInt64):bits BinOp.or IntKind.u64 (a.toNat:Int) (b.toNat:Int)=((uo a b).toNat:Int):=by
 rw [u64_or_nat _ _ a.toNat_lt b.toNat_lt];simp [uo]
theorem KS (a:UInt64) (n:Nat):(a.toNat:Int)/2^n=((iF a n).toNat:Int):=by
 have h:a.toNat/2^n<18446744073709551616:=Nat.lt_of_le_of_lt (Nat.div_le_self _ _) a.toNat_lt
 unfold iF
 rw [UInt64.toNat_ofNat',Nat.mod_eq_of_lt h]
 simp
theorem KT (a:UInt64) (n:Nat):IntKind.u64.wrap ((a.toNat:Int)*2^n)=((jY a n).toNat:Int):=by
 rw [IntKind.wrap_u64];unfold jY
 rw [UInt64.toNat_ofNat']
 have:(a.toNat:Int)*2^n=((a.toNat*2^n:Nat):Int):=by simp
 rw [this];omega
section
variable {ev:Operand→Value} {o:Oper} {x y:Operand} {t:TypeId} {w:World} {a b:UInt64}
end
inductive Kd where
 |u8|u16|u32|u64|int|bool|str
 |x (i:Nat)
@[reducible] def Kd.T:Kd→Type
 | .u8=>UInt8| .u16=>UInt16| .u32=>UInt32| .u64=>UInt64| .int=>Int| .bool=>Bool| .str=>ByteArray
 | .x i=>(XK i).T
def Kd.df:(k:Kd)→k.T
 | .u8=>(0:UInt8)| .u16=>(0:UInt16)| .u32=>(0:UInt32)| .u64=>(0:UInt64)| .int=>(0:Int)| .bool=>false| .str=>ByteArray.empty
 | .x i=>(XK i).df
def Kd.n:Kd→Nat
 | .x i=>(XK i).rp.n
 |_=>1
def Kd.sc:Kd→Bool
 | .x _=>false
 |_=>true
def uY {α:Type} (f:α→Value) (hf:∀x,(f x).oneCell'=true):Rp α where
 n:=1
 rep:=fun x cs=>cs= [f x]
 pos:=by omega
 len:=by rintro _ _ rfl;rfl
 one:=by rintro x _ rfl v hv;simp at hv;rw [hv];exact hf x
def Kd.rp:(k:Kd)→Rp k.T
 | .u8=>uY (fun x:UInt8=> .int .u8 (x.toNat:Int)) fun _=>rfl
 | .u16=>uY (fun x:UInt16=> .int .u16 (x.toNat:Int)) fun _=>rfl
 | .u32=>uY (fun x:UInt32=> .int .u32 (x.toNat:Int)) fun _=>rfl
 | .u64=>uY (fun x:UInt64=> .int .u64 (x.toNat:Int)) fun _=>rfl
 | .int=>uY (fun x:Int=> .int .i64 x) fun _=>rfl
 | .bool=>uY (fun x:Bool=> .bool x) fun _=>rfl
 | .str=>uY (fun x:ByteArray=> .string x) fun _=>rfl
 | .x i=>(XK i).rp
theorem Kd.rp_n (k:Kd):k.rp.n=k.n:=by cases k<;>rfl
inductive FC where
 |p (b o:Nat)
 |ob (k:Kd) (x:k.T)
 |r (l:List UInt8)
inductive Cl where
 |any
 |un
 |cv (v:Value)
 |ob (k:Kd) (x:k.T)
 |vec (k:Kd) (n:Nat) (l:List k.T)
 |ptr (b o:Nat)
 |pix (b o i:Nat)
 |pro (k:Kd) (x:k.T)
 |sl (b o n c:Nat)
 |rw (b:Nat)
 |sub (b lo n:Nat)
 |ro (k:Kd) (l:List k.T)
 |bb (l:List (List UInt8))
 |pbb (l:List UInt8)
 |ln (v:Value) (n:Nat)
 |mp (v:Value) (f:Int→Int)
 |rv (v:Value) (l:List UInt8)
 |fv (f:Nat) (l m:List FC)
inductive AV where
 |one (x:Cl)
 |agg (l:List Cl)
def FC.av:FC→AV
 | .p b o=> .one (.ptr b o)
 | .ob k x=> .one (.ob k x)
 | .r l=> .one (.ro .u8 l)
inductive Ch where
 |blk (E:Nat) (l:List Cl)
 |row (E:Nat) (k:Kd) (l:List k.T)
inductive cz where
 |s (t:Nat)
 |h (b:Nat)
inductive R (α:Type) where
 |pure (a:α)
 |fail
 |slot (t:Nat) (k:List AV→R α)
 |hp (b:Nat) (k:Option Ch→R α)
 |dec (p:Bool) (k:Bool→R α)
inductive RR (α:Type) where
 |ok (a:α) (rd:List cz) (qs:List (Bool×Bool))
 |need (p:Bool)
 |fail
def RR.rd {α:Type} (l:cz):RR α→RR α
 | .ok a r s=> .ok a (l::r) s
 | .need p=> .need p
 | .fail=> .fail
def RR.asm {α:Type} (p v:Bool):RR α→RR α
 | .ok a r s=> .ok a r ((p,v)::s)
 | .need p=> .need p
 | .fail=> .fail
def R.run {α:Type} (sl:Nat→List AV) (hp:Nat→Option Ch):R α→List Bool→RR α
 | .pure a,_=> .ok a [] []
 | .fail,_=> .fail
 | .slot t k,d=>((k (sl t)).run sl hp d).rd (.s t)
 | .hp b k,d=>((k (hp b)).run sl hp d).rd (.h b)
 | .dec p k,d::ds=>((k d).run sl hp ds).asm p d
 | .dec p _,[]=> .need p
structure aH where
 out:List AV
 upd:List (Nat×Option Ch)
 pre:Option Prop
 fact:Option Prop
def aw (x:Cl):R aH:= .pure ⟨[.one x],[],none,none⟩
def bC (x:Cl) (p:Prop):R aH:= .pure ⟨[.one x],[],some p,none⟩
inductive TI where
 |k (k:Kd)
 |ptr|fn|oth
 |sl (e:Nat)
 |arr (n e:Nat)
 |st (fs:List (Nat×Nat))
structure TE where
 ti:TI
 size:Nat
 zero:List Cl
def TE.isAgg (e:TE):Bool:=match e.ti with | .arr _ _=>true| .st _=>true|_=>false
def Cl.n:Cl→Nat
 | .ob k _=>k.n
 | .vec k n _=>n*k.n
 |_=>1
def d7:List Cl→Nat→Option (List Cl)
 |l,0=>some l
 | [],_+1=>none
 |x::r,n+1=>match Nat.ble x.n (n+1) with
  |true=>d7 r (n+1-x.n)
  |false=>match x with
   | .vec k m l=>match Nat.beq k.n 1 with
    |true=>some (.vec k (m-(n+1)) (l.drop (n+1))::r)
    |false=>none
   |_=>none
def fG:List Cl→Nat→Option (List Cl)
 |_,0=>some []
 | [],_+1=>none
 |x::r,n+1=>match Nat.ble x.n (n+1) with
  |true=>match fG r (n+1-x.n) with
   |some l=>some (x::l)
   |none=>none
  |false=>match x with
   | .vec k _ l=>match Nat.beq k.n 1 with
    |true=>some [.vec k (n+1) (l.take (n+1))]
    |false=>none
   |_=>none
def qg:List Cl→Nat
 | []=>0
 |x::r=>x.n+qg r
def oL:List Cl→Nat→Nat→List Cl→Option (List Cl)
 |l,0,n,new=>match Nat.beq (qg new) n with
  |true=>match d7 l n with
   |some r=>some (new++r)
   |none=>none
  |false=>none
 | [],_+1,_,_=>none
 |x::r,o+1,n,new=>match Nat.ble x.n (o+1) with
  |true=>match oL r (o+1-x.n) n new with
   |some l=>some (x::l)
   |none=>none
  |false=>none
def wu:List Cl→Nat→Option Cl
 |x::_,0=>some x
 | [],_=>none
 |x::r,o+1=>match Nat.ble x.n (o+1) with
  |true=>wu r (o+1-x.n)
  |false=>none
def tx:List Cl→Nat→Cl→Option (List Cl)
 |_::r,0,y=>some (y::r)
 | [],_,_=>none
 |x::r,o+1,y=>match Nat.ble x.n (o+1) with
  |true=>match tx r (o+1-x.n) y with
   |some l=>some (x::l)
   |none=>none
  |false=>none
def zH:Cl→Option Cl
 | .ob (.x 1) z=>some (.ob .u64 (UInt64.ofNat (Eh (Fin.val (n:=Pq) z) 0)))
 |_=>none
def lZ:List Cl→Nat→Option Cl
 | [],_=>none
 |x::r,o=>match x with
  | .vec k n l=>match k.sc with
   |true=>match Nat.blt o n with
    |true=>some (.ob k (l.getD o k.df))
    |false=>lZ r (o-n)
   |false=>none
  |x=>match o with
   |0=>match Nat.beq x.n 1 with |true=>some x|false=>zH x
   |o+1=>match Nat.ble x.n (o+1) with
    |true=>lZ r (o+1-x.n)
    |false=>none
def di:List Cl→Nat→Cl→Option (List Cl)
 | [],_,_=>none
 |x::r,o,y=>match x,y with
  | .vec .u8 n l,.ob .u8 z=>match Nat.blt o n with
   |true=>some (.vec .u8 n (l.set o z)::r)
   |false=>match di r (o-n) y with |some l=>some (x::l)|none=>none
  | .vec .u16 n l,.ob .u16 z=>match Nat.blt o n with
   |true=>some (.vec .u16 n (l.set o z)::r)
   |false=>match di r (o-n) y with |some l=>some (x::l)|none=>none
  | .vec .u32 n l,.ob .u32 z=>match Nat.blt o n with
   |true=>some (.vec .u32 n (l.set o z)::r)
   |false=>match di r (o-n) y with |some l=>some (x::l)|none=>none
  | .vec .u64 n l,.ob .u64 z=>match Nat.blt o n with
   |true=>some (.vec .u64 n (l.set o z)::r)
   |false=>match di r (o-n) y with |some l=>some (x::l)|none=>none
  |x,y=>match o with
   |0=>match Nat.beq x.n 1 with |true=>some (y::r)|false=>none
   |o+1=>match Nat.ble x.n (o+1) with
    |true=>match di r (o+1-x.n) y with |some l=>some (x::l)|none=>none
    |false=>none
inductive Nm where
 |lit (z:Int)
 |int (z:Int)
 |u8 (x:UInt8)|u16 (x:UInt16)|u32 (x:UInt32)|u64 (x:UInt64)
def fP:AV→Option Nm
 | .one (.cv (.int .i64 z))=>some (.lit z)
 | .one (.ob .int z)=>some (.int z)
 | .one (.ob .u8 x)=>some (.u8 x)
 | .one (.ob .u16 x)=>some (.u16 x)
 | .one (.ob .u32 x)=>some (.u32 x)
 | .one (.ob .u64 x)=>some (.u64 x)
 |_=>none
def Nm.toInt:Nm→Int
 | .lit z=>z| .int z=>z
 | .u8 x=>(x.toNat:Int)| .u16 x=>(x.toNat:Int)| .u32 x=>(x.toNat:Int)| .u64 x=>(x.toNat:Int)
def tE (v:Value):Option Cl:=
 match v with
 | .int k z=>match k with
  | .i64=>some (.cv (.int .i64 z))
  | .u8=>match z with
   | .ofNat n=>match Nat.blt n 256 with |true=>some (.ob .u8 (UInt8.ofNat n))|false=>none
   | .negSucc _=>none
  | .u16=>match z with
   | .ofNat n=>match Nat.blt n 65536 with |true=>some (.ob .u16 (UInt16.ofNat n))|false=>none
   | .negSucc _=>none
  | .u32=>match z with
   | .ofNat n=>match Nat.blt n 4294967296 with |true=>some (.ob .u32 (UInt32.ofNat n))|false=>none
   | .negSucc _=>none
  | .u64=>match z with
   | .ofNat n=>match Nat.blt n 18446744073709551616 with |true=>some (.ob .u64 (UInt64.ofNat n))|false=>none
   | .negSucc _=>none
  |_=>none
 | .bool b=>some (.cv (.bool b))
 | .string s=>some (.ob .str s)
 | .pointer none=>some (.cv (.pointer none))
 | .slice none 0 0=>some (.cv (.slice none 0 0))
 | .map none=>some (.cv (.map none))
 | .nilFunc=>some (.cv .nilFunc)
 |_=>none
def mb:List Value→Option (List Cl)
 | []=>some []
 |v::r=>match tE v with
  |some x=>match mb r with
   |some l=>some (x::l)
   |none=>none
  |none=>none
def db {α:Type} (x:Operand) (k:AV→R α):R α:=
 match x with
 | .tmp t=> .slot t fun l=>match l with
  | [a]=>k a
  |_=> .fail
 | .const v=>match v with
  | .agg cs=>match mb cs.toList with
   |some l=>k (.agg l)
   |none=> .fail
  |v=>match tE v with
   |some a=>k (.one a)
   |none=> .fail
 | .func f=>k (.one (.fv f [] []))
 |_=> .fail
def Su {α:Type} (z:Int) (k:Int→α):α:=
 match z with
 | .ofNat n=>match n with
  |0=>k (.ofNat 0)
  |m+1=>k (.ofNat (m+1))
 | .negSucc n=>match n with
  |0=>k (.negSucc 0)
  |m+1=>k (.negSucc (m+1))
def St {α:Type} (b:Bool) (k:Bool→α):α:=match b with |true=>k true|false=>k false
def jm (z:Int):Prop:= -9223372036854775808≤z∧z<9223372036854775808
def JL (z:Int):Bool:=match z with | .ofNat n=>Nat.blt n 9223372036854775808| .negSucc n=>Nat.blt n 9223372036854775808
def ge (z:Int):R aH:=match JL z with |true=>Su z fun z=>aw (.cv (.int .i64 z))|false=> .fail
def litB (b:Bool):R aH:=St b fun b=>aw (.cv (.bool b))
def symB (b:Bool):R aH:=aw (.ob .bool b)
def symI (z:Int):R aH:=bC (.ob .int z) (jm z)
def gD (a b:Int):Bool:=match a-b with | .ofNat _=>false| .negSucc _=>true
def RE (a b:Int):Bool:=match a-b with | .ofNat n=>Nat.beq n 0| .negSucc _=>false
def s8 (x:UInt8) (n:Nat):UInt8:=UInt8.ofNat (x.toNat*2^n)
def KF (x:UInt16) (n:Nat):UInt16:=UInt16.ofNat (x.toNat*2^n)
def r8 (x:UInt8) (n:Nat):UInt8:=UInt8.ofNat (x.toNat/2^n)
def Oe (x:UInt16) (n:Nat):UInt16:=UInt16.ofNat (x.toNat/2^n)
def B1 (op:BinOp) (a b:Int):R aH:=
 match op with
 | .add=>ge (a+b)
 | .sub=>ge (a-b)
 | .mul=>ge (a*b)
 | .quo=>match gD a 0,gD 0 b with |false,true=>ge (a/b)|_,_=> .fail
 | .rem=>match gD a 0,gD 0 b with |false,true=>ge (a%b)|_,_=> .fail
 | .eql=>litB (RE a b)
 | .neq=>litB (!RE a b)
 | .lss=>litB (gD a b)
 | .gtr=>litB (gD b a)
 | .leq=>litB (!gD b a)
 | .geq=>litB (!gD a b)
 | .and=>match gD a 0,gD b 0,JL a,JL b with |false,false,true,true=>ge (Int.ofNat (a.toNat&&&b.toNat))|_,_,_,_=> .fail
 | .or=>match gD a 0,gD b 0,JL a,JL b with |false,false,true,true=>ge (Int.ofNat (a.toNat|||b.toNat))|_,_,_,_=> .fail
 | .shl=>match gD b 0,gD b 64 with |false,true=>ge (a*((2^b.toNat:Nat):Int))|_,_=> .fail
 | .shr=>match gD b 0,gD b 64 with |false,true=>ge (a/((2^b.toNat:Nat):Int))|_,_=> .fail
 |_=> .fail
def kt (op:BinOp) (a b:Int):R aH:=
 match op with
 | .add=>symI (a+b)
 | .sub=>symI (a-b)
 | .mul=>symI (a*b)
 | .quo=>bC (.ob .int (a/b)) (jm a∧0≤a∧0<b)
 | .rem=>bC (.ob .int (a%b)) (0≤a∧0<b)
 | .eql=>symB (decide (a=b))
 | .neq=>symB (decide (a≠b))
 | .lss=>symB (decide (a<b))
 | .gtr=>symB (decide (b<a))
 | .leq=>symB (decide (a≤b))
 | .geq=>symB (decide (b≤a))
 | .and=>bC (.ob .int ((a.toNat&&&b.toNat:Nat):Int)) ((jm a∧0≤a)∧jm b∧0≤b)
 | .or=>bC (.ob .int ((a.toNat|||b.toNat:Nat):Int)) ((jm a∧0≤a)∧jm b∧0≤b)
 | .shl=>bC (.ob .int (a*((2^b.toNat:Nat):Int))) (0≤b∧b<64∧jm (a*((2^b.toNat:Nat):Int)))
 | .shr=>bC (.ob .int (a/((2^b.toNat:Nat):Int))) (0≤b∧b<64)
 |_=> .fail
def Kf (op:BinOp) (a b:UInt8):R aH:=
 match op with
 | .add=>aw (.ob .u8 (a+b))| .sub=>aw (.ob .u8 (a-b))| .mul=>aw (.ob .u8 (a*b))
 | .and=>aw (.ob .u8 (a&&&b))| .or=>aw (.ob .u8 (a|||b))| .xor=>aw (.ob .u8 (a^^^b))| .andNot=>aw (.ob .u8 (a&&& ~~~b))
 | .quo=>bC (.ob .u8 (a/b)) (b≠0)| .rem=>bC (.ob .u8 (a%b)) (b≠0)
 | .eql=>symB (decide (a=b))| .neq=>symB (decide (a≠b))| .lss=>symB (decide (a<b))| .gtr=>symB (decide (b<a))| .leq=>symB (decide (a≤b))| .geq=>symB (decide (b≤a))
 |_=> .fail
def AI (op:BinOp) (a b:UInt16):R aH:=
 match op with
 | .add=>aw (.ob .u16 (a+b))| .sub=>aw (.ob .u16 (a-b))| .mul=>aw (.ob .u16 (a*b))
 | .and=>aw (.ob .u16 (a&&&b))| .or=>aw (.ob .u16 (a|||b))| .xor=>aw (.ob .u16 (a^^^b))| .andNot=>aw (.ob .u16 (a&&& ~~~b))
 | .quo=>bC (.ob .u16 (a/b)) (b≠0)| .rem=>bC (.ob .u16 (a%b)) (b≠0)
 | .eql=>symB (decide (a=b))| .neq=>symB (decide (a≠b))| .lss=>symB (decide (a<b))| .gtr=>symB (decide (b<a))| .leq=>symB (decide (a≤b))| .geq=>symB (decide (b≤a))
 |_=> .fail
def AJ (op:BinOp) (a b:UInt32):R aH:=
 match op with
 | .add=>aw (.ob .u32 (a+b))| .sub=>aw (.ob .u32 (a-b))| .mul=>aw (.ob .u32 (a*b))
 | .and=>aw (.ob .u32 (a&&&b))| .or=>aw (.ob .u32 (a|||b))| .xor=>aw (.ob .u32 (a^^^b))| .andNot=>aw (.ob .u32 (a&&& ~~~b))
 | .quo=>bC (.ob .u32 (a/b)) (b≠0)| .rem=>bC (.ob .u32 (a%b)) (b≠0)
 | .eql=>symB (decide (a=b))| .neq=>symB (decide (a≠b))| .lss=>symB (decide (a<b))| .gtr=>symB (decide (b<a))| .leq=>symB (decide (a≤b))| .geq=>symB (decide (b≤a))
 |_=> .fail
def AK (op:BinOp) (a b:UInt64):R aH:=
 match op with
 | .add=>aw (.ob .u64 (a+b))| .sub=>aw (.ob .u64 (a-b))| .mul=>aw (.ob .u64 (a*b))
 | .and=>aw (.ob .u64 (a&&&b))| .or=>aw (.ob .u64 (a|||b))| .xor=>aw (.ob .u64 (a^^^b))| .andNot=>aw (.ob .u64 (a&&& ~~~b))
 | .quo=>bC (.ob .u64 (a/b)) (b≠0)| .rem=>bC (.ob .u64 (a%b)) (b≠0)
 | .eql=>symB (decide (a=b))| .neq=>symB (decide (a≠b))| .lss=>symB (decide (a<b))| .gtr=>symB (decide (b<a))| .leq=>symB (decide (a≤b))| .geq=>symB (decide (b≤a))
 |_=> .fail
def ku (left:Bool) (x:Nm) (n:Nat):R aH:=
 match x with
 | .u8 a=>match left with |true=>aw (.ob .u8 (s8 a n))|false=>aw (.ob .u8 (r8 a n))
 | .u16 a=>match left with |true=>aw (.ob .u16 (KF a n))|false=>aw (.ob .u16 (Oe a n))
 | .u32 a=>match left with |true=>aw (.ob .u32 (Lw a n))|false=>aw (.ob .u32 (k_ a n))
 | .u64 a=>match left with |true=>aw (.ob .u64 (jY a n))|false=>aw (.ob .u64 (iF a n))
 |_=> .fail
def Gs (r:R aH) (p:Prop):R aH:=match r with
 | .pure a=>match a with
  |⟨o,u,none,f⟩=> .pure ⟨o,u,some p,f⟩
  |_=> .fail
 |_=> .fail
def Kb (op:BinOp) (x y:Nm):R aH:=
 match op with
 | .shl=>match x with
  | .lit a=>match y with
   | .lit b=>B1 .shl a b
   |y=>kt .shl a y.toInt
  | .int a=>kt .shl a y.toInt
  |x=>match y with
   | .lit b=>match gD b 0 with |false=>ku true x b.toNat|true=> .fail
   | .int b=>Gs (ku true x b.toNat) (0≤b)
   |y=>ku true x y.toInt.toNat
 | .shr=>match x with
  | .lit a=>match y with
   | .lit b=>B1 .shr a b
   |y=>kt .shr a y.toInt
  | .int a=>kt .shr a y.toInt
  |x=>match y with
   | .lit b=>match gD b 0 with |false=>ku false x b.toNat|true=> .fail
   | .int b=>Gs (ku false x b.toNat) (0≤b)
   |y=>ku false x y.toInt.toNat
 |op=>match x with
  | .lit a=>match y with
   | .lit b=>B1 op a b
   | .int b=>kt op a b
   |_=> .fail
  | .int a=>match y with
   | .lit b=>kt op a b
   | .int b=>kt op a b
   |_=> .fail
  | .u8 a=>match y with | .u8 b=>Kf op a b|_=> .fail
  | .u16 a=>match y with | .u16 b=>AI op a b|_=> .fail
  | .u32 a=>match y with | .u32 b=>AJ op a b|_=> .fail
  | .u64 a=>match y with | .u64 b=>AK op a b|_=> .fail
def Mb (ti:TI) (op:BinOp) (x y:AV):R aH:=
 match fP x with
 |some n=>match fP y with
  |some m=>Kb op n m
  |none=> .fail
 |none=>match x with
  | .one (.ob .bool a)=>match y,ti with
   | .one (.ob .bool b),.k .bool=>match op with
    | .eql=>symB (a ==b)
    | .neq=>symB (a != b)
    |_=> .fail
   | .one (.cv (.bool b)),.k .bool=>match op with
    | .eql=>symB (a ==b)
    | .neq=>symB (a != b)
    |_=> .fail
   |_,_=> .fail
  | .one (.ob .str a)=>match y with
   | .one (.ob .str b)=>match op with
    | .eql=>symB (a.toList ==b.toList)
    | .neq=>symB (!(a.toList ==b.toList))
    |_=> .fail
   |_=> .fail
  | .one (.ptr _ _)=>match y,ti with
   | .one (.cv (.pointer none)),.ptr=>match op with
    | .eql=>aw (.cv (.bool false))
    | .neq=>aw (.cv (.bool true))
    |_=> .fail
   |_,_=> .fail
  | .one (.cv (.pointer none))=>match y,ti with
   | .one (.cv (.pointer none)),.ptr=>match op with
    | .eql=>aw (.cv (.bool true))
    | .neq=>aw (.cv (.bool false))
    |_=> .fail
   |_,_=> .fail
  |_=> .fail
def N5 (op:UnOp) (x:AV):R aH:=
 match op with
 | .not=>match x with
  | .one (.cv (.bool b))=>litB (!b)
  | .one (.ob .bool b)=>symB (!b)
  |_=> .fail
 | .neg=>match fP x with
  |some (.lit a)=>ge (0-a)
  |some (.int a)=>symI (0-a)
  |some (.u64 a)=>aw (.ob .u64 (0-a))
  |some (.u32 a)=>aw (.ob .u32 (0-a))
  |_=> .fail
 | .xor=>match fP x with
  |some (.u8 a)=>aw (.ob .u8 (~~~a))
  |some (.u16 a)=>aw (.ob .u16 (~~~a))
  |some (.u32 a)=>aw (.ob .u32 (~~~a))
  |some (.u64 a)=>aw (.ob .u64 (~~~a))
  |_=> .fail
 |_=> .fail
def J9 (k:Kd) (x:Nm):R aH:=
 match k with
 | .u8=>match x with
  | .lit z=>bC (.ob .u8 (UInt8.ofNat z.toNat)) (0≤z)| .int z=>bC (.ob .u8 (UInt8.ofNat z.toNat)) (0≤z)
  | .u8 a=>aw (.ob .u8 a)| .u16 a=>aw (.ob .u8 a.toUInt8)| .u32 a=>aw (.ob .u8 a.toUInt8)| .u64 a=>aw (.ob .u8 a.toUInt8)
 | .u16=>match x with
  | .lit z=>bC (.ob .u16 (UInt16.ofNat z.toNat)) (0≤z)| .int z=>bC (.ob .u16 (UInt16.ofNat z.toNat)) (0≤z)
  | .u8 a=>aw (.ob .u16 a.toUInt16)| .u16 a=>aw (.ob .u16 a)| .u32 a=>aw (.ob .u16 a.toUInt16)| .u64 a=>aw (.ob .u16 a.toUInt16)
 | .u32=>match x with
  | .lit z=>bC (.ob .u32 (UInt32.ofNat z.toNat)) (0≤z)| .int z=>bC (.ob .u32 (UInt32.ofNat z.toNat)) (0≤z)
  | .u8 a=>aw (.ob .u32 a.toUInt32)| .u16 a=>aw (.ob .u32 a.toUInt32)| .u32 a=>aw (.ob .u32 a)| .u64 a=>aw (.ob .u32 a.toUInt32)
 | .u64=>match x with
  | .lit z=>bC (.ob .u64 (UInt64.ofNat z.toNat)) (0≤z)| .int z=>bC (.ob .u64 (UInt64.ofNat z.toNat)) (0≤z)
  | .u8 a=>aw (.ob .u64 a.toUInt64)| .u16 a=>aw (.ob .u64 a.toUInt64)| .u32 a=>aw (.ob .u64 a.toUInt64)| .u64 a=>aw (.ob .u64 a)
 | .int=>match x with
  | .lit z=>ge z| .int z=>symI z
  | .u8 a=>aw (.ob .int (a.toNat:Int))| .u16 a=>aw (.ob .int (a.toNat:Int))| .u32 a=>aw (.ob .int (a.toNat:Int))
  | .u64 a=>bC (.ob .int (a.toNat:Int)) (a.toNat<9223372036854775808)
 |_=> .fail
def kn {α:Type} (ty:Nat→TE) (t:Nat) (r:R α):R α:=match (ty t).ti with | .oth=> .fail|_=>r
def JK (x:AV) (lit:Nat→R aH) (sym:Int→R aH):R aH:=
 match fP x with
 |some (.lit z)=>match z with
  | .ofNat n=>lit n
  | .negSucc _=> .fail
 |some (.int z)=>sym z
 |some y=>sym y.toInt
 |none=> .fail
def gI (ty:Nat→TE) (t:Nat) (x i:AV):R aH:=
 match x with
 | .one (.ptr b o)=>match (ty t).ti with
  | .arr n e=>kn ty e (JK i (fun k=>match Nat.blt k n with |true=>aw (.ptr b (o+k*(ty e).size))|false=> .fail)
    (fun z=>match Nat.beq (ty e).size 1 with |true=>bC (.pix b o z.toNat) (0≤z∧z<n)|false=> .fail))
  |_=> .fail
 | .one (.sl b o n _)=>match (ty t).ti with
  | .sl e=>kn ty e (JK i (fun k=>match Nat.blt k n with |true=>aw (.ptr b (o+k*(ty e).size))|false=> .fail)
    (fun z=>match Nat.beq (ty e).size 1 with |true=>bC (.pix b o z.toNat) (0≤z∧z<n)|false=> .fail))
  |_=> .fail
 | .one (.rw b)=>match (ty t).ti with
  | .sl e=>kn ty e (match Nat.beq (ty e).size 1 with
   |true=> .hp b fun c=>match c with
    |some (.row _ _ l)=>JK i (fun k=>bC (.pix b 0 k) (k<l.length)) (fun z=>bC (.pix b 0 z.toNat) (0≤z∧z<l.length))
    |_=> .fail
   |false=> .fail)
  |_=> .fail
 | .one (.sub b lo n)=>match (ty t).ti with
  | .sl e=>kn ty e (match Nat.beq (ty e).size 1 with
   |true=>JK i (fun k=>bC (.pix b 0 (lo+k)) (k<n)) (fun z=>bC (.pix b 0 (lo+z.toNat)) (0≤z∧z<n))
   |false=> .fail)
  |_=> .fail
 | .one (.ro k l)=>match (ty t).ti with
  | .sl e=>kn ty e (match Nat.beq (ty e).size k.n with
   |true=>JK i (fun j=>bC (.pro k (l.getD j k.df)) (j<l.length)) (fun z=>bC (.pro k (l.getD z.toNat k.df)) (0≤z∧z<l.length))
   |false=> .fail)
  |_=> .fail
 | .one (.bb l)=>match (ty t).ti with
  | .sl e=>kn ty e (match Nat.beq (ty e).size 1 with
   |true=>JK i (fun j=>bC (.pbb (l.getD j [])) (j<l.length)) (fun z=>bC (.pbb (l.getD z.toNat [])) (0≤z∧z<l.length))
   |false=> .fail)
  |_=> .fail
 |_=> .fail
def k8:List Cl→Bool
 | []=>true
 |x::r=>match x with | .un=>false|_=>k8 r
def vG (agg:Bool) (l:List Cl):R aH:=
 match agg with
 |true=> .pure ⟨[.agg l],[],none,none⟩
 |false=>match l with
  | [x]=>match Nat.beq x.n 1 with |true=>aw x|false=> .fail
  |_=> .fail
def ni (ty:Nat→TE) (t:Nat) (a:AV):R aH:=kn ty t<|
 match a with
 | .one (.ptr b o)=> .hp b fun c=>match c with
  |some (.blk _ l)=>match (ty t).isAgg with
   |true=>match d7 l o with
    |some r=>match fG r (ty t).size with
     |some q=>vG true q
     |none=> .fail
    |none=> .fail
   |false=>match lZ l o with
    |some x=>aw x
    |none=> .fail
  |_=> .fail
 | .one (.pix b o i)=> .hp b fun c=>match c with
  |some (.blk _ l)=>match wu l o with
   |some (.vec k n l)=>match k.sc,(ty t).isAgg with |true,false=>bC (.ob k (l.getD i k.df)) (i<n)|_,_=> .fail
   |_=> .fail
  |some (.row _ k l)=>match k.sc,Nat.beq o 0,(ty t).isAgg with |true,true,false=>bC (.ob k (l.getD i k.df)) (i<l.length)|_,_,_=> .fail
  |none=> .fail
 | .one (.pro k x)=>match k.sc,(ty t).isAgg with |true,false=>aw (.ob k x)|_,_=> .fail
 | .one (.pbb l)=>match (ty t).isAgg with |false=>aw (.ro .u8 l)|true=> .fail
 |_=> .fail
def dU (v:AV):List Cl:=match v with | .one x=> [x]| .agg l=>l
def Gv (b:Nat) (c:Ch) (p:Option Prop):R aH:= .pure ⟨[],[(b,some c)],p,none⟩
def nH (k:Kd) (l:List k.T) (i:Nat) (x:Cl):Option (List k.T):=
 match k,l,x with
 | .u8,l,.ob .u8 z=>some (l.set i z)
 | .u16,l,.ob .u16 z=>some (l.set i z)
 | .u32,l,.ob .u32 z=>some (l.set i z)
 | .u64,l,.ob .u64 z=>some (l.set i z)
 | .int,l,.ob .int z=>some (l.set i z)
 | .int,l,.cv (.int .i64 z)=>some (l.set i z)
 | .bool,l,.ob .bool z=>some (l.set i z)
 | .bool,l,.cv (.bool z)=>some (l.set i z)
 |_,_,_=>none
def rQ (ty:Nat→TE) (t:Nat) (a v:AV):R aH:=kn ty t<|
 match a with
 | .one (.ptr b o)=> .hp b fun c=>match c with
  |some (.blk E l)=>match (ty t).isAgg with
   |true=>match v with
    | .agg q=>match oL l o (ty t).size q with
     |some l=>Gv b (.blk E l) none
     |none=> .fail
    |_=> .fail
   |false=>match v,Nat.beq (ty t).size 1 with
    | .one x,true=>match k8 [x] with
     |true=>match di l o x with
      |some l=>Gv b (.blk E l) none
      |none=> .fail
     |false=> .fail
    |_,_=> .fail
  |_=> .fail
 | .one (.pix b o i)=> .hp b fun c=>match c with
  |some (.blk E l)=>match wu l o,v with
   |some (.vec k n q),.one x=>match Nat.beq (ty t).size 1 with
    |true=>match nH k q i x with
     |some q=>match tx l o (.vec k n q) with
      |some l=>Gv b (.blk E l) (some (i<n))
      |none=> .fail
     |none=> .fail
    |false=> .fail
   |_,_=> .fail
  |some (.row E k l)=>match v with
   | .one x=>match Nat.beq (ty t).size 1,Nat.beq o 0 with
    |true,true=>match nH k l i x with
     |some q=>Gv b (.row E k q) (some (i<l.length))
     |none=> .fail
    |_,_=> .fail
   |_=> .fail
  |none=> .fail
 |_=> .fail
def sb (nb:Nat) (x:Cl) (c:Ch) (p:Option Prop):R aH:= .hp nb fun q=>match q with
 |none=> .pure ⟨[.one x],[(nb,some c)],p,none⟩
 |some _=> .fail
def iX (pl:Nat→Option (Nat×Nat)):List Cl→List (Nat×AV)→Option (List Cl)
 |l,[]=>some l
 |l,(i,v)::r=>match pl i with
  |some (off,sz)=>match k8 (dU v) with
   |true=>match oL l off sz (dU v) with
    |some l=>iX pl l r
    |none=>none
   |false=>none
  |none=>none
def D0:Nat→List Cl
 |0=> []
 |n+1=> .any::D0 n
def RI (ty:Nat→TE):List (Nat×Nat)→R aH→R aH
 | [],r=>r
 |(_,t)::l,r=>kn ty t (RI ty l r)
def Ok (ty:Nat→TE) (fs:List (Nat×Nat)) (i:Nat):Option (Nat×Nat):=match fs[i]? with |some (o,t)=>some (o,(ty t).size)|none=>none
def n8 (k:Kd):List Cl→Option (List k.T)
 | []=>some []
 |x::r=>match n8 k r with
  |none=>none
  |some l=>match k,l,x with
   | .u8,l,.ob .u8 z=>some (z::l)
   | .u16,l,.ob .u16 z=>some (z::l)
   | .u32,l,.ob .u32 z=>some (z::l)
   | .u64,l,.ob .u64 z=>some (z::l)
   | .int,l,.ob .int z=>some (z::l)
   | .int,l,.cv (.int .i64 z)=>some (z::l)
   | .bool,l,.ob .bool z=>some (z::l)
   | .bool,l,.cv (.bool z)=>some (z::l)
   | .str,l,.ob .str z=>some (z::l)
   |_,_,_=>none
def mV (e:TE):Option Kd:=match e.ti with | .k k=>some k|_=>none
def rM (ty:Nat→TE) (t:Nat) (ps:List (Nat×AV)):R aH:=kn ty t<|
 match (ty t).ti with
 | .st fs=>RI ty fs (match iX (Ok ty fs) (ty t).zero ps with
  |some l=>match k8 l with |true=> .pure ⟨[.agg l],[],none,none⟩|false=> .fail
  |none=> .fail)
 | .arr _ e=>kn ty e (match iX (fun i=>some (i*(ty e).size,(ty e).size)) (match ps with | []=>(ty t).zero|_=>D0 (qg (ty t).zero)) ps with
  |some l=>match k8 l with
   |true=>match mV (ty e) with
    |some k=>match n8 k l with
     |some m=> .pure ⟨[.agg [.vec k m.length m]],[],none,none⟩
     |none=> .pure ⟨[.agg l],[],none,none⟩
    |none=> .pure ⟨[.agg l],[],none,none⟩
   |false=> .fail
  |none=> .fail)
 |_=> .fail
def yx {α:Type}:List (Nat×Operand)→(List (Nat×AV)→R α)→R α
 | [],k=>k []
 |(i,x)::r,k=>db x fun a=>yx r fun l=>k ((i,a)::l)
def nl {α:Type}:List Operand→(List AV→R α)→R α
 | [],k=>k []
 |x::r,k=>db x fun a=>nl r fun l=>k (a::l)
def yw {α:Type} (x:Option Operand) (k:Option AV→R α):R α:=
 match x with
 |none=>k none
 |some x=>db x fun a=>k (some a)
def fQ (ty:Nat→TE) (nb t len:Nat) (ps:List (Nat×AV)):R aH:=
 match (ty t).ti with
 | .sl e=>kn ty e (match Nat.beq len 0 with
  |true=>match ps,mV (ty e) with
   | [],some k=>sb nb (.rw nb) (.row e k []) none
   |_,_=> .fail
  |false=>match iX (fun i=>some (i*(ty e).size,(ty e).size)) (D0 (len*(ty e).size)) ps,Nat.ble (len*(ty e).size) 65536,Nat.ble 1 (len*(ty e).size) with
  |some l,true,true=>match mV (ty e) with
   |some k=>match n8 k l with
    |some m=>sb nb (.rw nb) (.row e k m) none
    |none=> .fail
   |none=>match k8 l with |true=>sb nb (.sl nb 0 len len) (.blk e l) none|false=> .fail
  |_,_,_=> .fail)
 |_=> .fail
def gJ (ty:Nat→TE) (nb t:Nat) (n c:AV):R aH:=
 match (ty t).ti,fP n,fP c with
 | .sl e,some n,some c=>match mV (ty e) with
  |some k=>match Nat.beq k.n 1 with
   |true=>sb nb (.rw nb) (.row e k (List.replicate n.toInt.toNat k.df)) (some (0≤n.toInt∧n.toInt=c.toInt∧c.toInt≤16777216))
   |false=> .fail
  |none=> .fail
 |_,_,_=> .fail
def Kh (x:Option AV) (k:Option Nm→R aH):R aH:=
 match x with
 |none=>k none
 |some a=>match fP a with
  |some n=>k (some n)
  |none=> .fail
def jC:Option Nm→Nat|none=>0|some n=>n.toInt.toNat
def yc (x:Option Nm) (hi:Nat):Prop:=match x with |none=>True|some n=>0≤n.toInt∧n.toInt≤(hi:Int)
def rP (ty:Nat→TE) (t:Nat) (x:AV) (lo hi mx:Option AV):R aH:=
 Kh lo fun lo=>Kh hi fun hi=>
 match x with
 | .one (.ptr b o)=>match (ty t).ti with
  | .arr n e=>kn ty e (match lo,hi,mx with
   |none,none,none=>aw (.sl b o n n)
   |some (.lit (.ofNat l)),none,none=>match Nat.blt l n,Nat.beq (ty e).size 1 with
    |true,true=>aw (.sl b (o+l) (n-l) (n-l))
    |_,_=> .fail
   |_,_,_=> .fail)
  |_=> .fail
 | .one (.rw b)=>match (ty t).ti with
  | .sl e=>kn ty e (match Nat.beq (ty e).size 1 with
   |true=> .hp b fun c=>match c with
    |some (.row _ k l)=>match Nat.beq k.n 1 with
     |true=>match hi with
      |none=>match mx with
       |none=>bC (.sub b (jC lo) (l.length-jC lo)) (yc lo l.length)
       |some _=> .fail
      |some h=>match mx with
       |none=>bC (.sub b (jC lo) (h.toInt.toNat-jC lo)) (yc (some h) l.length∧yc lo h.toInt.toNat)
       |some _=> .fail
     |false=> .fail
    |_=> .fail
   |false=> .fail)
  |_=> .fail
 | .one (.sub b s n)=>match (ty t).ti with
  | .sl e=>kn ty e (match Nat.beq (ty e).size 1 with
   |true=>match hi with
    |none=>match mx with
     |none=>bC (.sub b (s+jC lo) (n-jC lo)) (yc lo n)
     |some _=> .fail
    |some h=>match mx with
     |none=>bC (.sub b (s+jC lo) (h.toInt.toNat-jC lo)) (yc (some h) n∧yc lo h.toInt.toNat)
     |some _=> .fail
   |false=> .fail)
  |_=> .fail
 | .one (.ro k l)=>match (ty t).ti with
  | .sl e=>kn ty e (match Nat.beq (ty e).size k.n with
   |true=>match hi with
    |none=>match mx with
     |none=>bC (.ro k (l.drop (jC lo))) (yc lo l.length)
     |some _=> .fail
    |some h=>match mx with
     |none=>bC (.ro k ((l.take h.toInt.toNat).drop (jC lo))) (yc (some h) l.length∧yc lo h.toInt.toNat)
     |some _=> .fail
   |false=> .fail)
  |_=> .fail
 |_=> .fail
def oC (a:AV) (k:AV→R aH):R aH:=
 match a with
 | .one (.cv (.slice none 0 0))=>k (.one (.ro .u8 []))
 | .one (.rv _ l)=>k (.one (.ro .u8 l))
 | .one (.rw b)=> .hp b fun c=>match c with
  |some (.row _ q l)=>k (.one (.ro q l))
  |_=> .fail
 | .one (.sub b lo n)=> .hp b fun c=>match c with
  |some (.row _ q l)=>match Nat.beq q.n 1 with
   |true=>k (.one (.ro q ((l.drop lo).take n)))
   |false=> .fail
  |_=> .fail
 | .one (.sl b o n cp)=> .hp b fun c=>match c with
  |some (.blk _ l)=>match wu l o with
   |some (.vec q m l)=>match Nat.beq n m,Nat.ble cp 16777216 with |true,true=>k (.one (.ro q l))|_,_=> .fail
   |_=>match l with
    | [.vec q m l]=>match Nat.beq q.n 1,Nat.ble (o+n) m,Nat.ble cp 16777216 with
     |true,true,true=>k (.one (.ro q ((l.drop o).take n)))
     |_,_,_=> .fail
    |_=> .fail
  |_=> .fail
 |a=>k a
def F7 (ty:Nat→TE) (t:Nat) (x:AV):R aH:=
 match (ty t).ti with
 | .sl _=>match x with
  | .one (.sl _ _ n _)=>aw (.cv (.int .i64 (.ofNat n)))
  | .one (.cv (.slice none 0 0))=>aw (.cv (.int .i64 (.ofNat 0)))
  | .one (.rw b)=> .hp b fun c=>match c with
   |some (.row _ _ l)=> .pure ⟨[.one (.ob .int (l.length:Int))],[],none,some (l.length≤maxLen)⟩
   |_=> .fail
  | .one (.sub _ _ n)=> .pure ⟨[.one (.ob .int (n:Int))],[],none,some (n≤maxLen)⟩
  | .one (.ro _ l)=> .pure ⟨[.one (.ob .int (l.length:Int))],[],none,some (l.length≤maxLen)⟩
  | .one (.bb l)=> .pure ⟨[.one (.ob .int (l.length:Int))],[],none,some (l.length≤maxLen)⟩
  | .one (.ln _ n)=> .pure ⟨[.one (.ob .int (n:Int))],[],none,some (n≤maxLen)⟩
  |_=> .fail
 | .k .str=>match x with
  | .one (.ob .str s)=>aw (.ob .int (s.size:Int))
  |_=> .fail
 | .arr n _=>aw (.cv (.int .i64 (.ofNat n)))
 |_=> .fail
def Iy (k q:Kd) (l:List k.T) (m:List q.T):Option (List k.T):=
 match k,q,l,m with
 | .u8,.u8,l,m=>some (l++m)
 | .u16,.u16,l,m=>some (l++m)
 | .u32,.u32,l,m=>some (l++m)
 | .u64,.u64,l,m=>some (l++m)
 | .int,.int,l,m=>some (l++m)
 | .bool,.bool,l,m=>some (l++m)
 |_,_,_,_=>none
def nh (ty:Nat→TE) (nb t:Nat) (s x:AV):R aH:=
 match (ty t).ti with
 | .sl e=>kn ty e (match Nat.beq (ty e).size 1 with
  |false=> .fail
  |true=>match mV (ty e) with
  |none=> .fail
  |some k=>oC x fun x=>match x with
   | .one (.ro q m)=>match s with
    | .one (.cv (.slice none 0 0))=>match Iy k q [] m with
     |some l=> .hp nb fun c=>match c with
      |none=> .pure ⟨[.one (.rw nb)],[(nb,some (.row e k l))],some (l.length≤16777216),none⟩
      |some _=> .fail
     |none=> .fail
    | .one (.rw b)=> .hp b fun c=>match c with
     |some (.row f p l)=>match Nat.beq e f,Iy p q l m with
      |true,some r=> .hp nb fun c=>match c with
       |none=> .pure ⟨[.one (.rw nb)],[(b,none),(nb,some (.row e p r))],some (r.length≤16777216),none⟩
       |some _=> .fail
      |_,_=> .fail
     |_=> .fail
    |_=> .fail
   |_=> .fail)
 |_=> .fail
def MO (nb e b n:Nat) (z:Option Int):R aH:= .hp b fun c=>match c with
 |some (.row f .u8 l)=>match Nat.beq e f with
  |true=> .hp nb fun c=>match c with
   |none=>match l++List.replicate n (0:UInt8) with
    |r=> .pure ⟨[.one (.rw nb)],[(b,none),(nb,some (.row e .u8 r))],(match z with |none=>some (r.length≤16777216)|some z=>some (0≤z∧r.length≤16777216)),none⟩
   |some _=> .fail
  |false=> .fail
 |_=> .fail
def yr (ty:Nat→TE) (nb t u:Nat) (s x:AV):R aH:=
 match (ty t).ti,(ty u).ti with
 | .sl e,.k .int=>kn ty e (match Nat.beq (ty e).size 1 with
  |false=> .fail
  |true=>match mV (ty e),x,s with
   |some .u8,.one (.cv (.int .i64 (.ofNat n))),.one (.rw b)=>MO nb e b n none
   |some .u8,.one (.ob .int z),.one (.rw b)=>MO nb e b z.toNat (some z)
   |_,_,_=> .fail)
 |_,_=> .fail
def tr (k q:Kd) (m:List q.T):Option (List k.T):=
 match k,q,m with
 | .u8,.u8,m=>some m
 | .u16,.u16,m=>some m
 | .u32,.u32,m=>some m
 | .u64,.u64,m=>some m
 | .int,.int,m=>some m
 | .bool,.bool,m=>some m
 |_,_,_=>none
def yv (ty:Nat→TE) (t:Nat) (d x:AV):R aH:=
 match (ty t).ti with
 | .sl e=>kn ty e (match Nat.beq (ty e).size 1 with
  |false=> .fail
  |true=>oC x fun x=>match x with
   | .one (.ro q m)=>match d with
    | .one (.rw b)=> .hp b fun c=>match c with
     |some (.row f p l)=>match tr p q m with
      |some m=> .pure ⟨[.one (.ob .int ((min l.length m.length:Nat):Int))],[(b,some (.row f p (m.take l.length++l.drop m.length)))],none,none⟩
      |none=> .fail
     |_=> .fail
    | .one (.sub b lo n)=> .hp b fun c=>match c with
     |some (.row f p l)=>match tr p q m with
      |some m=> .pure ⟨[.one (.ob .int ((min n m.length:Nat):Int))],[(b,some (.row f p (l.take lo++m.take n++l.drop (lo+min n m.length))))],none,none⟩
      |none=> .fail
     |_=> .fail
    | .one (.sl b lo n _)=> .hp b fun c=>match c with
     |some (.blk E l)=>match l with
      | [.vec p N l]=>match tr p q m,Nat.ble (lo+n) N with
       |some m,true=> .pure ⟨[.one (.ob .int ((min n m.length:Nat):Int))],[(b,some (.blk E [.vec p N (l.take lo++m.take n++l.drop (lo+min n m.length))]))],none,none⟩
       |_,_=> .fail
      |_=> .fail
     |_=> .fail
    |_=> .fail
   |_=> .fail)
 |_=> .fail
def kr (ty:Nat→TE) (nb:Nat) (b:Builtin) (ts:Array TypeId) (l:List AV):R aH:=
 match b,l with
 | .len,[x]=>match ts.toList with
  | [t]=>F7 ty t x
  |_=> .fail
 | .append,[s,x]=>match ts.toList with
  | [t,u]=>match Nat.beq t u with |true=>nh ty nb t s x|false=>yr ty nb t u s x
  |_=> .fail
 | .copy,[d,x]=>match ts.toList with
  | [t,u]=>match Nat.beq t u with |true=>yv ty t d x|false=> .fail
  |_=> .fail
 | .min,[x,y]=>match fP x,fP y with
  |some (.lit a),some (.lit b)=>ge (match gD b a with |true=>b|false=>a)
  |some (.int a),some b=>aw (.ob .int (min a b.toInt))
  |some (.lit a),some (.int b)=>aw (.ob .int (min a b))
  |_,_=> .fail
 | .max,[x,y]=>match fP x,fP y with
  |some (.lit a),some (.lit b)=>ge (match gD b a with |true=>a|false=>b)
  |some (.int a),some b=>aw (.ob .int (max a b.toInt))
  |some (.lit a),some (.int b)=>aw (.ob .int (max a b))
  |_,_=> .fail
 |_,_=> .fail
def rN (ty:Nat→TE) (t:Nat) (a i:AV):R aH:=
 match a with
 | .agg l=>match (ty t).ti with
  | .arr n e=>kn ty e (JK i (fun j=>match Nat.blt j n with
   |true=>match (ty e).isAgg with
    |true=>match d7 l (j*(ty e).size) with
     |some r=>match fG r (ty e).size with
      |some q=> .pure ⟨[.agg q],[],none,none⟩
      |none=> .fail
     |none=> .fail
    |false=>match lZ l (j*(ty e).size) with
     |some x=>aw x
     |none=> .fail
   |false=> .fail) (fun z=>match l with
    | [.vec k m q]=>match k.sc,(ty e).isAgg,Nat.beq (ty e).size 1,Nat.beq m n with
     |true,false,true,true=>bC (.ob k (q.getD z.toNat k.df)) (0≤z∧z<n)
     |_,_,_,_=> .fail
    |_=> .fail))
  |_=> .fail
 |_=> .fail
def SU (op:BinOp) (x y:F):R aH:=match op with
 | .eql=>symB (decide (x=y))
 | .neq=>symB (!decide (x=y))
 |_=> .fail
def yt (ti:TI) (t:Nat) (op:BinOp) (x y:AV):R aH:=match x with
 | .agg l=>match y with
  | .agg m=>match Nat.beq t 111,l,m with
   |true,[.ob (.x 1) x],[.ob (.x 1) y]=>SU op x y
   |_,_,_=> .fail
  |_=> .fail
 |x=>Mb ti op x y
def yu (ty:Nat→TE) (s d:Nat) (a:AV):R aH:=match (ty s).ti with
 | .k _=>match (ty d).ti with
  | .k k=>match fP a with
   |some n=>J9 k n
   |none=> .fail
  |_=> .fail
 | .sl _=>match Nat.beq s 26 with
  |true=>match Nat.beq d 9 with
   |true=>oC a fun x=>match x with
    | .one (.ro .u8 l)=>aw (.ob .str (bs l))
    |_=> .fail
   |false=>match Nat.beq d 26,a with
    |true,.one (.rw b)=> .hp b fun c=>match c with
     |some (.row _ .u8 (x::l))=> .pure ⟨[.one (.ro .u8 (x::l))],[(b,none)],none,none⟩
     |_=> .fail
    |_,_=> .fail
  |false=> .fail
 |_=> .fail
def F8 (_t:Nat) (_m _x:AV):R aH:= .fail
def Nl:AV→Option FC
 | .one (.ptr b o)=>some (.p b o)
 | .one (.ob k x)=>some (.ob k x)
 | .one (.cv (.int .i64 z))=>some (.ob .int z)
 | .one (.ro .u8 l)=>some (.r l)
 |_=>none
def tR {α:Type}:List AV→(List FC→R α)→R α
 | [],k=>k []
 |a::r,k=>match Nl a with
  |some x=>tR r fun l=>k (x::l)
  |none=> .fail
def oU:List FC→List AV→List AV
 | [],l=>l
 |x::r,l=>x.av::oU r l
def zx:List AV→List AV→List AV
 | [],l=>l
 |x::r,l=>x::zx r l
def F9 (f:Nat) (a b:List Operand):R aH:=nl a fun l=>nl b fun m=>tR l fun l=>tR m fun m=>aw (.fv f l m)
abbrev CF:Type:=Nat→List AV→R aH
def mh (ty:Nat→TE) (ct:Nat→Option CF) (nb:Nat) (op:Op):R aH:=
 match op with
 | .move x=>match x with
  | .tmp t=> .slot t fun l=>match l with
   | []=> .fail
   |a::r=> .pure ⟨a::r,[],none,none⟩
  |x=>db x fun a=> .pure ⟨[a],[],none,none⟩
 | .assign x=>db x fun a=> .pure ⟨[a],[],none,none⟩
 | .pick c a b=>db c fun c=>match c with
  | .one (.cv (.bool true))=>db a fun a=> .pure ⟨[a],[],none,none⟩
  | .one (.cv (.bool false))=>db b fun b=> .pure ⟨[b],[],none,none⟩
  |_=> .fail
 | .alloc e=>kn ty e (sb nb (.ptr nb 0) (.blk e (ty e).zero) none)
 | .box e v=>db v fun a=>match k8 (dU a) with |true=>sb nb (.ptr nb 0) (.blk e (dU a)) none|false=> .fail
 | .build t ps=>yx ps.toList fun l=>rM ty t l
 | .buildSlice t len ps=>yx ps.toList fun l=>fQ ty nb t len l
 | .load t a=>db a fun a=>ni ty t a
 | .store t a v=>db a fun a=>db v fun v=>rQ ty t a v
 | .nilCheck x=>db x fun a=>match a with
  | .one (.ptr b o)=>aw (.ptr b o)
  |_=> .fail
 | .binOp op t x y _=>db x fun a=>db y fun b=>yt (ty t).ti t op a b
 | .unOp op _ x=>db x fun a=>N5 op a
 | .convert s d x=>db x fun a=>yu ty s d a
 | .makeSlice t n c=>db n fun n=>db c fun c=>gJ ty nb t n c
 | .slice t x lo hi mx=>db x fun a=>yw lo fun lo=>yw hi fun hi=>yw mx fun mx=>rP ty t a lo hi mx
 | .fieldAddr t x f=>db x fun a=>match a,(ty t).ti with
  | .one (.ptr b o),.st fs=>kn ty t (match fs[f]? with
   |some (off,u)=>kn ty u (match Nat.blt 0 (ty u).size with |true=>aw (.ptr b (o+off))|false=> .fail)
   |none=> .fail)
  |_,_=> .fail
 | .field t x f=>db x fun a=>match a,(ty t).ti with
  | .agg l,.st fs=>match fs[f]? with
   |some (off,u)=>kn ty u (match d7 l off with
    |some r=>match fG r (ty u).size with
     |some q=>vG (ty u).isAgg q
     |none=> .fail
    |none=> .fail)
   |none=> .fail
  |_,_=> .fail
 | .lookup t m x c=>match c with
  |false=>db m fun m=>db x fun x=>F8 t m x
  |true=> .fail
 | .indexAddr t x i=>db x fun a=>db i fun i=>gI ty t a i
 | .index t x i=>db x fun a=>db i fun i=>rN ty t a i
 | .extract x i=>match x with
  | .tmp t=> .slot t fun l=>match l with
   |_::_::_=>(match l[i]? with
    |some a=> .pure ⟨[a],[],none,none⟩
    |none=> .fail)
   |_=> .fail
  |_=> .fail
 | .call c=>match c.callee with
  | .builtin b=>nl c.args.toList fun l=>kr ty nb b c.argTypes l
  | .value (.func f)=>match ct f with
   |some C=>nl c.args.toList fun l=>C nb l
   |none=> .fail
  | .value (.tmp t)=> .slot t fun v=>match v with
   | [.one (.fv f l m)]=>match ct f with
    |some C=>nl c.args.toList fun r=>C nb (oU l (zx r (oU m [])))
    |none=> .fail
   |_=> .fail
  |_=> .fail
 | .makeFunc fn a b=>match fn with
  | .func f=>F9 f a.toList b.toList
  |_=> .fail
 |_=> .fail
structure AS where
 sl:List (Nat×Nat×List AV)
 hp:List (Nat×Nat×Ch)
 nx:Nat
def bH:List (Nat×Nat×List AV)→Nat→List AV
 | [],_=> []
 |(t,_,a)::r,u=>match Nat.beq t u with |true=>a|false=>bH r u
def aI:List (Nat×Nat×Ch)→Nat→Option Ch
 | [],_=>none
 |(t,_,a)::r,u=>match Nat.beq t u with |true=>some a|false=>aI r u
def Cd {α:Type} (t v:Nat) (a:List AV):List (Nat×Nat×List AV)→(List (Nat×Nat×List AV)→α)→α
 | [],k=>k [(t,v,a)]
 |(u,w,b)::r,k=>match Nat.beq u t with
  |true=>k ((t,v,a)::r)
  |false=>Cd t v a r fun r=>k ((u,w,b)::r)
def tH {α:Type} (t:Nat):List (Nat×Nat×Ch)→(List (Nat×Nat×Ch)→α)→α
 | [],k=>k []
 |(u,w,b)::r,k=>match Nat.beq u t with
  |true=>tH t r k
  |false=>tH t r fun r=>k ((u,w,b)::r)
def uV {α:Type} (t v:Nat) (a:Ch):List (Nat×Nat×Ch)→(List (Nat×Nat×Ch)→α)→α
 | [],k=>k [(t,v,a)]
 |(u,w,b)::r,k=>match Nat.beq u t with
  |true=>k ((t,v,a)::r)
  |false=>uV t v a r fun r=>k ((u,w,b)::r)
def sM {α:Type} (v:Nat):List (Nat×Option Ch)→List (Nat×Nat×Ch)→(List (Nat×Nat×Ch)→α)→α
 | [],l,k=>k l
 |(b,c)::r,l,k=>match c with
  |some c=>uV b v c l fun l=>sM v r l k
  |none=>tH b l fun l=>sM v r l k
structure dQ where
 dst:Option Nat
 out:List AV
 upd:List (Nat×Option Ch)
 pre:Option Prop
 fact:Option Prop
 rd:List cz
 qs:List (Bool×Bool)
inductive Bb where
 |ok (rs:List dQ) (S:AS)
 |need (i:Nat) (p:Bool)
 |fail
def Bb.cons (r:dQ):Bb→Bb
 | .ok rs S=> .ok (r::rs) S
 | .need i p=> .need i p
 | .fail=> .fail
def fJ (i:Nat):List (Nat×Bool)→List Bool
 | []=> []
 |(j,b)::r=>match Nat.beq i j with |true=>b::fJ i r|false=>fJ i r
def rj (i:Nat) (ops:List Oper):Bool:=match ops with
 | []=>false
 |o::r=>match o.guard with
  |some (j,_)=>match Nat.beq i j with |true=>true|false=>rj i r
  |none=>rj i r
def gP (g:Bool) (r:R aH):R aH:=
 match g with
 |false=>r
 |true=>go r
where go:R aH→R aH
 | .pure a=>match a with
  |⟨[.one (.ob .bool p)],u,q,f⟩=> .dec p fun v=> .pure ⟨[.one (.cv (.bool v))],u,q,f⟩
  |a=> .pure a
 | .fail=> .fail
 | .slot t k=> .slot t fun l=>go (k l)
 | .hp b k=> .hp b fun c=>go (k c)
 | .dec p k=> .dec p fun v=>go (k v)
def Aa (all:List Oper) (g:Option (Nat×Bool)) (r:R aH):R aH:=
 match g with
 |none=>r
 |some (j,want)=>match all[j]? with
  |some o=>match o.dst with
   |some t=> .slot t fun l=>match l with
    | [.one (.cv (.bool b))]=>match b,want with
     |true,true=>r
     |false,false=>r
     |_,_=>aw .un
    | [.one .un]=>aw .un
    |_=> .fail
   |none=> .fail
  |none=> .fail
def fL {α:Type} (n:Nat) (k:Nat→α):α:=match n with |0=>k 0|m+1=>k (m+1)
def fX (ty:Nat→TE) (ct:Nat→Option CF) (all:List Oper) (i:Nat) (g:Option (Nat×Bool)) (op:Op) (nx:Nat):R aH:=Aa all g (gP (rj i all) (mh ty ct nx op))
def cL (ty:Nat→TE) (ct:Nat→Option CF) (all:List Oper) (ds:List (Nat×Bool)):Nat→List Oper→List (Nat×Nat×List AV)→List (Nat×Nat×Ch)→Nat→Bb
 |_,[],sl,hp,nx=> .ok [] ⟨sl,hp,nx⟩
 |i,o::r,sl,hp,nx=>match o with
  |⟨dst,op,_,_,_,g⟩=>
  match (fX ty ct all i g op nx).run (bH sl) (aI hp) (fJ i ds) with
  | .ok ⟨out,upd,pre,fact⟩ rd qs=>sM nx upd hp fun hp=>match dst with
   |some t=>Cd t nx out sl fun sl=>fL (nx+16) fun nx=>(cL ty ct all ds (i+1) r sl hp nx).cons ⟨dst,out,upd,pre,fact,rd,qs⟩
   |none=>fL (nx+16) fun nx=>(cL ty ct all ds (i+1) r sl hp nx).cons ⟨dst,out,upd,pre,fact,rd,qs⟩
  | .need p=> .need i p
  | .fail=> .fail
def IB:List (Bool×Bool)→Prop→Prop
 | [],k=>k
 |(p,v)::r,k=>p=v∧IB r k
def sZ:List dQ→Prop→Prop
 | [],k=>k
 |r::l,k=>IB r.qs (sZ l k)
def Cc:List dQ→Prop→Prop
 | [],k=>k
 |r::l,k=>match r.pre with
  |none=>Cc l k
  |some p=>p∧Cc l k
def oT:List dQ→Prop→Prop
 | [],k=>k
 |r::l,k=>match r.fact with
  |none=>oT l k
  |some p=>p→oT l k
def t7:cz→cz→Bool
 | .s a,.s b=>Nat.beq a b
 | .h a,.h b=>Nat.beq a b
 |_,_=>false
def FM (x:cz):List cz→Bool
 | []=>false
 |y::r=>match t7 x y with |true=>true|false=>FM x r
def m7:List cz→List cz→Bool
 | [],_=>false
 |x::r,l=>match FM x l with |true=>true|false=>m7 r l
def dQ.wr (r:dQ):List cz:=(match r.dst with |some t=> [.s t]|none=> [])++r.upd.map fun p=>cz.h p.1
def Bg (ops:List Oper):List Nat:=go ops []
where go:List Oper→List Nat→List Nat
 | [],acc=>acc
 |o::r,acc=>go r (acc++ [o.after.toList.foldl (fun s e=>match Region.binds .any e with |true=>s|||2^e.on|||acc.getD e.on 0|false=>s) 0])
def oM (a b:dQ):Bool:=match m7 a.wr (b.rd++b.wr) with
 |true=>true
 |false=>m7 a.rd b.wr
def iY (an:List Nat) (r:dQ) (i:Nat):Nat→List dQ→Bool
 |_,[]=>true
 |j,q::l=>match oM r q with
  |true=>match Nat.testBit (an.getD j 0) i with
   |true=>iY an r i (j+1) l
   |false=>false
  |false=>iY an r i (j+1) l
def gp (an:List Nat):Nat→List dQ→Bool
 |_,[]=>true
 |i,r::l=>match iY an r i (i+1) l with
  |true=>gp an (i+1) l
  |false=>false
def tU:Value→Option Nat
 | .pointer (some a)=>some a.block
 | .slice (some a) _ _=>some a.block
 |_=>none
abbrev a8:Type:=Nat→Option Value
def bg (η:a8) (b:Nat):Option Nat:=(η b).bind tU
def eS (A:Nat→Prop) (w:World) (k:Kd) (l:List k.T) (v:Value):Prop:=
 ∃a c,v= .slice a l.length c∧l.length≤c∧c≤maxLen∧(a=none→c=0)∧(0<l.length→∃g o cs,a=some ⟨g,o,none⟩∧A g∧aV k.rp l cs∧w.rangeAt g o cs)
def v8 (A:Nat→Prop) (w:World) (f:Int→Int) (v:Value):Prop:=
 ∃g m D,v= .map (some g)∧A g∧w.ownsMap (H:=Value) Tryz.prog 3 (plainElem Tryz.prog 3) g m D∧∀k,jm k→D.atKey (.int .i64 k) (.lit (.int .i64 0))= .lit (.int .i64 (f k))
def FC.H (η:a8) (A:Nat→Prop) (w:World):FC→Value→Prop
 | .p b q,v=>∃g,η b=some (.pointer (some ⟨g,0,none⟩))∧v= .pointer (some ⟨g,q,none⟩)
 | .ob k x,v=>k.rp.rep x [v]
 | .r l,v=>eS A w .u8 l v
def jl (η:a8) (A:Nat→Prop) (w:World):List FC→List Value→Prop
 | [],vs=>vs= []
 |x::r,vs=>∃v t,vs=v::t∧x.H η A w v∧jl η A w r t
def Cl.H (η:a8) (A:Nat→Prop) (w:World):Cl→List Value→Prop
 | .any,cs=>∃v,cs= [v]∧v.oneCell'=true
 | .un,cs=>cs= [undef]
 | .cv v,cs=>cs= [v]∧v.oneCell'=true
 | .ob k x,cs=>k.rp.rep x cs
 | .vec k n l,cs=>l.length=n∧aV k.rp l cs
 | .ptr b q,cs=>∃g,η b=some (.pointer (some ⟨g,0,none⟩))∧cs= [.pointer (some ⟨g,q,none⟩)]
 | .pix b q i,cs=>∃g,bg η b=some g∧cs= [.pointer (some ⟨g,q+i,none⟩)]
 | .pro k x,cs=>∃g o us,cs= [.pointer (some ⟨g,o,none⟩)]∧A g∧k.rp.rep x us∧w.rangeAt g o us
 | .sl b q n c,cs=>n≤c∧∃g,η b=some (.pointer (some ⟨g,0,none⟩))∧cs= [.slice (some ⟨g,q,none⟩) n c]
 | .rw b,cs=>∃v,η b=some v∧cs= [v]∧v.oneCell'=true
 | .sub b lo n,cs=>∃v a c,η b=some v∧cs= [.slice a n c]∧n≤c∧c≤maxLen∧(a=none→c=0)∧(0<n→∃g N C,v= .slice (some ⟨g,0,none⟩) N C∧a=some ⟨g,lo,none⟩∧lo+n≤N)
 | .ro k l,cs=>∃v,cs= [v]∧eS A w k l v
 | .bb l,cs=>∃a c,cs= [.slice a l.length c]∧l.length≤c∧c≤maxLen∧(a=none→c=0)∧(0<l.length→∃g o us,a=some ⟨g,o,none⟩∧A g∧w.rangeAt g o us∧us.length=l.length∧∀i (h:i<l.length) (h':i<us.length),eS A w .u8 l[i] us[i])
 | .pbb l,cs=>∃g o v,cs= [.pointer (some ⟨g,o,none⟩)]∧A g∧w.cell? ⟨g,o,none⟩=some v∧eS A w .u8 l v
 | .ln v n,cs=>cs= [v]∧(∃a c,v= .slice a n c)∧n≤maxLen
 | .mp v f,cs=>cs= [v]∧v8 A w f v
 | .rv v l,cs=>cs= [v]∧eS A w .u8 l v
 | .fv f l m,cs=>∃us vs:List Value,cs= [.func (.func f) us.toArray vs.toArray]∧jl η A w l us∧jl η A w m vs
def aO (η:a8) (A:Nat→Prop) (w:World):List Cl→List Value→Prop
 | [],cs=>cs= []
 |x::r,cs=>∃h t,cs=h++t∧x.H η A w h∧aO η A w r t
def AV.H (η:a8) (A:Nat→Prop) (w:World):AV→Value→Prop
 | .one x,v=>x.H η A w [v]
 | .agg l,v=>∃cs:List Value,v= .agg cs.toArray∧aO η A w l cs∧∀v∈cs,v.oneCell'=true
def bp (η:a8) (A:Nat→Prop) (w:World):List AV→List Value→Prop
 | [],vs=>vs= []
 |x::r,vs=>∃v t,vs=v::t∧x.H η A w v∧bp η A w r t
def bG (η:a8) (A:Nat→Prop) (w:World):List AV→Value→Prop
 | [],_=>True
 | [x],v=>x.H η A w v
 |l,v=>∃vs:List Value,v= .tuple vs.toArray∧bp η A w l vs
def Ch.H (η:a8) (A:Nat→Prop) (w:World) (b:Nat):Ch→Prop
 | .blk E l=>∃g cs,η b=some (.pointer (some ⟨g,0,none⟩))∧am w g cs E∧aO η A w l cs∧(∀v∈cs,v.oneCell'=true)
 | .row E k l=>∃v cs,η b=some v∧aV k.rp l cs∧w.ownsRow 0 E k.n v l.length cs
def ay (H:Nat→Option Ch) (η:a8) (g:Nat):Prop:=∀b,H b≠none→bg η b≠some g
structure Fw (H:Nat→Option Ch) (η:a8) (w:World) (H':Nat→Option Ch) (η':a8) (w':World):Prop where
 os:w'.os=w.os
 tape:w'.tape=w.tape
 output:w'.output=w.output
 size:w.heap.size≤w'.heap.size
 env:∀b v,η b=some v→η' b=some v
 anon:∀g,g<w.heap.size→ay H η g→w'.heap[g]?=w.heap[g]?∧ay H' η' g
theorem Fw.refl (H:Nat→Option Ch) (η:a8) (w:World):Fw H η w H η w:=⟨rfl,rfl,rfl,Nat.le_refl _,fun _ _ h=>h,fun _ _ h=>⟨rfl,h⟩⟩
theorem Fw.drew (H:Nat→Option Ch) (η:a8) (w:World):Fw H η w H η w.drew:=⟨rfl,rfl,rfl,Nat.le_refl _,fun _ _ h=>h,fun _ _ h=>⟨rfl,h⟩⟩
theorem Fw.trans {H1 H2 H3:Nat→Option Ch} {η1 η2 η3:a8} {w1 w2 w3:World} (h:Fw H1 η1 w1 H2 η2 w2) (k:Fw H2 η2 w2 H3 η3 w3):Fw H1 η1 w1 H3 η3 w3:=
 ⟨k.os.trans h.os,k.tape.trans h.tape,k.output.trans h.output,Nat.le_trans h.size k.size,fun b v e=>k.env b v (h.env b v e),fun g hg ha=>by
  obtain ⟨h1,h2⟩:=h.anon g hg ha
  obtain ⟨k1,k2⟩:=k.anon g (Nat.lt_of_lt_of_le hg h.size) h2
  exact ⟨k1.trans h1,k2⟩⟩
structure Lt (η:a8) (A:Nat→Prop) (w:World) (η':a8) (A':Nat→Prop) (w':World):Prop where
 env:∀b v,η b=some v→η' b=some v
 anon:∀g,g<w.heap.size→A g→w'.heap[g]?=w.heap[g]?∧A' g
theorem Fw.lt {H H':Nat→Option Ch} {η η':a8} {w w':World} (h:Fw H η w H' η' w'):Lt η (ay H η) w η' (ay H' η') w':=⟨h.env,h.anon⟩
theorem nB {w:World} {g o:Nat} {cs:List Value} (h:w.rangeAt g o cs) (hn:0<cs.length):g<w.heap.size:=by
 have:=h 0 cs[0] (List.getElem?_eq_getElem hn)
 exact cK this
theorem nA {w w':World} {g o:Nat} {cs:List Value} (h:w.rangeAt g o cs) (e:w'.heap[g]?=w.heap[g]?):w'.rangeAt g o cs:=fun j v hv=>by
 rw [World.cell?_of_block (w:=w) e];exact h j v hv
theorem Jv {η η':a8} (h:∀b v,η b=some v→η' b=some v) {b g:Nat} (hb:bg η b=some g):bg η' b=some g:=by
 unfold bg at*
 cases e:η b with
 |none=>rw [e] at hb;cases hb
 |some v=>rw [h b v e];rw [e] at hb;exact hb
theorem eS.later {η η':a8} {A A':Nat→Prop} {w w':World} (hl:Lt η A w η' A' w') {k:Kd} {l:List k.T} {v:Value} (h:eS A w k l v):eS A' w' k l v:=by
 obtain ⟨a,c,h1,h2,h3,h4,h5⟩:=h
 refine ⟨a,c,h1,h2,h3,h4,fun hn=> ?_⟩
 obtain ⟨g,o,cs,e,hA,hc,hr⟩:=h5 hn
 have hlen:0<cs.length:=by rw [hc.len];exact Nat.mul_pos k.rp.pos hn
 obtain ⟨e1,e2⟩:=hl.anon g (nB hr hlen) hA
 exact ⟨g,o,cs,e,e2,hc,nA hr e1⟩
theorem v8.later {A A':Nat→Prop} {w w':World} (hl:∀g,g<w.heap.size→A g→w'.heap[g]?=w.heap[g]?∧A' g) {f:Int→Int} {v:Value} (h:v8 A w f v):v8 A' w' f v:=by
 obtain ⟨g,m,D,h1,h2,ho,h4⟩:=h
 have hlt:=ho.lt
 obtain ⟨e1,e2⟩:=hl g hlt h2
 obtain ⟨es,clock,hb,F,hs,hD⟩:=ho
 exact ⟨g,m,D,h1,e2,⟨es,clock,e1.trans hb,F,hs,hD⟩,h4⟩
theorem v8.mono {A A':Nat→Prop} {w:World} (hA:∀g,A g→A' g) {f:Int→Int} {v:Value} (h:v8 A w f v):v8 A' w f v:=h.later fun g _ a=>⟨rfl,hA g a⟩
theorem FC.H.later {η η':a8} {A A':Nat→Prop} {w w':World} (hl:Lt η A w η' A' w'):∀ {x:FC} {v:Value},x.H η A w v→x.H η' A' w' v
 | .p _ _,_,⟨g,h1,h2⟩=>⟨g,hl.env _ _ h1,h2⟩
 | .ob _ _,_,h=>h
 | .r l,v,h=>eS.later (k:= .u8) (l:=l) (v:=v) hl h
theorem jl.later {η η':a8} {A A':Nat→Prop} {w w':World} (hl:Lt η A w η' A' w'):∀ {l:List FC} {vs:List Value},jl η A w l vs→jl η' A' w' l vs
 | [],_,h=>h
 |_::_,_,⟨v,t,e,hx,hr⟩=>⟨v,t,e,hx.later hl,hr.later hl⟩
theorem Cl.H.later {η η':a8} {A A':Nat→Prop} {w w':World} (hl:Lt η A w η' A' w'):∀ {x:Cl} {cs:List Value},x.H η A w cs→x.H η' A' w' cs
 | .any,_,h=>h
 | .un,_,h=>h
 | .cv _,_,h=>h
 | .ob _ _,_,h=>h
 | .vec _ _ _,_,h=>h
 | .ptr _ _,_,⟨g,h1,h2⟩=>⟨g,hl.env _ _ h1,h2⟩
 | .pix _ _ _,_,⟨g,h1,h2⟩=>⟨g,Jv hl.env h1,h2⟩
 | .pro k _,_,⟨g,q,us,h1,h2,h3,h4⟩=>by
  have hlen:0<us.length:=by rw [k.rp.len _ _ h3];exact k.rp.pos
  obtain ⟨e1,e2⟩:=hl.anon g (nB h4 hlen) h2
  exact ⟨g,q,us,h1,e2,h3,nA h4 e1⟩
 | .sl _ _ _ _,_,⟨hn,g,h1,h2⟩=>⟨hn,g,hl.env _ _ h1,h2⟩
 | .rw _,_,⟨v,h1,h2⟩=>⟨v,hl.env _ _ h1,h2⟩
 | .sub _ _ _,_,⟨v,a,c,h1,h2⟩=>⟨v,a,c,hl.env _ _ h1,h2⟩
 | .ro _ _,_,⟨v,h1,h2⟩=>⟨v,h1,h2.later hl⟩
 | .bb l,_,⟨a,c,h1,h2,h3,h4,h5⟩=>by
  refine ⟨a,c,h1,h2,h3,h4,fun hn=> ?_⟩
  obtain ⟨g,q,us,e,hA,hr,hlen,hall⟩:=h5 hn
  obtain ⟨e1,e2⟩:=hl.anon g (nB hr (by omega)) hA
  exact ⟨g,q,us,e,e2,nA hr e1,hlen,fun i hi hi'=>(hall i hi hi').later hl⟩
 | .pbb _,_,⟨g,q,v,h1,h2,h3,h4⟩=>by
  obtain ⟨e1,e2⟩:=hl.anon g (cK h3) h2
  exact ⟨g,q,v,h1,e2,by rw [World.cell?_of_block (w:=w) e1];exact h3,h4.later hl⟩
 | .ln _ _,_,h=>h
 | .mp _ _,_,⟨h1,h2⟩=>⟨h1,h2.later hl.anon⟩
 | .rv _ _,_,⟨h1,h2⟩=>⟨h1,h2.later hl⟩
 | .fv _ _ _,_,⟨us,vs,e,h1,h2⟩=>⟨us,vs,e,h1.later hl,h2.later hl⟩
theorem aO.later {η η':a8} {A A':Nat→Prop} {w w':World} (hl:Lt η A w η' A' w'):∀ {l:List Cl} {cs:List Value},aO η A w l cs→aO η' A' w' l cs
 | [],_,h=>h
 |_::_,_,⟨h,t,e,hx,hr⟩=>⟨h,t,e,hx.later hl,hr.later hl⟩
theorem AV.H.later {η η':a8} {A A':Nat→Prop} {w w':World} (hl:Lt η A w η' A' w'):∀ {x:AV} {v:Value},x.H η A w v→x.H η' A' w' v
 | .one _,_,h=>Cl.H.later hl h
 | .agg _,_,⟨cs,e,h,h1⟩=>⟨cs,e,h.later hl,h1⟩
theorem bp.later {η η':a8} {A A':Nat→Prop} {w w':World} (hl:Lt η A w η' A' w'):∀ {l:List AV} {vs:List Value},bp η A w l vs→bp η' A' w' l vs
 | [],_,h=>h
 |_::_,_,⟨v,t,e,hx,hr⟩=>⟨v,t,e,hx.later hl,hr.later hl⟩
theorem bG.later {η η':a8} {A A':Nat→Prop} {w w':World} (hl:Lt η A w η' A' w'):∀ {l:List AV} {v:Value},bG η A w l v→bG η' A' w' l v
 | [],_,_=>trivial
 | [_],_,h=>AV.H.later hl h
 |_::_::_,_,⟨vs,e,h⟩=>⟨vs,e,h.later hl⟩
theorem Ch.H.later {η η':a8} {A A':Nat→Prop} {w w':World} (hl:Lt η A w η' A' w') {b:Nat} {c:Ch} (h:c.H η A w b) (hb:∀g,bg η b=some g→w'.heap[g]?=w.heap[g]?):c.H η' A' w' b:=by
 cases c with
 |blk E l=>
  obtain ⟨g,cs,h1,h2,h3,h4⟩:=h
  exact ⟨g,cs,hl.env _ _ h1,by have:=hb g (by unfold bg;rw [h1];rfl);unfold am at *;rw [this];exact h2,h3.later hl,h4⟩
 |row E k l=>
  obtain ⟨v,cs,h1,h2,h3⟩:=h
  refine ⟨v,cs,hl.env _ _ h1,h2,h3.1,?_⟩
  rcases h3.2 with h4|⟨g,cap,cur,e,h4,h5,h6⟩
  ·exact .inl h4
  ·exact .inr ⟨g,cap,cur,e,h4,by rw [hb g (by unfold bg;rw [h1,e];rfl)];exact h5,h6⟩
structure eG (S:Nat→List AV) (H:Nat→Option Ch) (N:Nat) (η:a8) (a:Act) (w:World):Prop where
 df:a.defers= []
 sz:a.tmps.size=N
 slot:∀t,bG η (ay H η) w (S t) (a.tmps.getD t undef)
 chunk:∀b c,H b=some c→c.H η (ay H η) w b
 apart:∀b b' g,b≠b'→H b≠none→H b'≠none→bg η b=some g→bg η b'≠some g
theorem R.run_same {α:Type} {sl sl':Nat→List AV} {hp hp':Nat→Option Ch}:∀(m:R α) (ds:List Bool) {a:α} {rd:List cz} {qs:List (Bool×Bool)},
  m.run sl hp ds= .ok a rd qs→(∀t,.s t∈rd→sl' t=sl t)→(∀b,.h b∈rd→hp' b=hp b)→m.run sl' hp' ds= .ok a rd qs
 | .pure _,_,_,_,_,h,_,_=>h
 | .fail,_,_,_,_,h,_,_=>h
 | .slot t k,ds,a,rd,qs,h,hs,hh=>by
  unfold R.run at h ⊢
  cases e:(k (sl t)).run sl hp ds with
  |ok a' r' q'=>
   rw [e] at h
   simp only [RR.rd,RR.ok.injEq] at h
   obtain ⟨rfl,rfl,rfl⟩:=h
   have h1:=hs t (by simp)
   rw [h1,R.run_same (k (sl t)) ds e (fun t ht=>hs t (by simp [ht])) (fun b hb=>hh b (by simp [hb]))]
   rfl
  |need p=>rw [e] at h;cases h
  |fail=>rw [e] at h;cases h
 | .hp b k,ds,a,rd,qs,h,hs,hh=>by
  unfold R.run at h ⊢
  cases e:(k (hp b)).run sl hp ds with
  |ok a' r' q'=>
   rw [e] at h
   simp only [RR.rd,RR.ok.injEq] at h
   obtain ⟨rfl,rfl,rfl⟩:=h
   have h1:=hh b (by simp)
   rw [h1,R.run_same (k (hp b)) ds e (fun t ht=>hs t (by simp [ht])) (fun b hb=>hh b (by simp [hb]))]
   rfl
  |need p=>rw [e] at h;cases h
  |fail=>rw [e] at h;cases h
 | .dec p k,d::ds,a,rd,qs,h,hs,hh=>by
  unfold R.run at h ⊢
  cases e:(k d).run sl hp ds with
  |ok a' r' q'=>
   rw [e] at h
   simp only [RR.asm,RR.ok.injEq] at h
   obtain ⟨rfl,rfl,rfl⟩:=h
   rw [R.run_same (k d) ds e hs hh]
   rfl
  |need p=>rw [e] at h;cases h
  |fail=>rw [e] at h;cases h
 | .dec p k,[],_,_,_,h,_,_=>by unfold R.run at h;cases h
structure FS where
 s:Nat→List AV
 h:Nat→Option Ch
def bj:List (Nat×Option Ch)→(Nat→Option Ch)→Nat→Option Ch
 | [],h=>h
 |(b,c)::r,h=>bj r fun x=>if x=b then c else h x
def dQ.app (r:dQ) (F:FS):FS:=⟨fun t=>if r.dst=some t then r.out else F.s t,bj r.upd F.h⟩
def FS.At (F G:FS):cz→Prop
 | .s t=>F.s t=G.s t
 | .h b=>F.h b=G.h b
theorem vF:∀(u:List (Nat×Option Ch)) (h:Nat→Option Ch) (b:Nat),(∀p∈u,p.1≠b)→bj u h b=h b
 | [],_,_,_=>rfl
 |(c,v)::r,h,b,hn=>by
  have hc:b≠c:=fun e=>hn (c,v) (by simp) e.symm
  rw [bj,vF r _ b fun p hp=>hn p (by simp [hp]),if_neg hc]
theorem jh:∀(u:List (Nat×Option Ch)) (h h':Nat→Option Ch) (b:Nat),h b=h' b→bj u h b=bj u h' b
 | [],_,_,_,e=>e
 |(c,v)::r,h,h',b,e=>by
  rw [bj,bj]
  apply jh
  split<;>simp_all
theorem A5:∀(u:List (Nat×Option Ch)) (h h':Nat→Option Ch) (b:Nat),(∃p∈u,p.1=b)→bj u h b=bj u h' b
 | [],_,_,_,⟨_,h,_⟩=>by cases h
 |(c,v)::r,h,h',b,hp=>by
  rw [bj,bj]
  by_cases e:b=c
  ·apply jh;simp [e]
  ·refine A5 r _ _ b ?_
   obtain ⟨p,hp,rfl⟩:=hp
   rcases List.mem_cons.1 hp with rfl|hp
   ·exact absurd rfl e
   ·exact ⟨p,hp,rfl⟩
theorem ul {r:dQ} {t:Nat}: .s t∈r.wr↔r.dst=some t:=by
 unfold dQ.wr
 cases r.dst<;>simp [eq_comm]
theorem uk {r:dQ} {b:Nat}: .h b∈r.wr↔∃p∈r.upd,p.1=b:=by
 unfold dQ.wr
 cases r.dst<;>simp
theorem pY {r:dQ} {F:FS} {x:cz} (h:x ∉ r.wr):(r.app F).At F x:=by
 cases x with
 |s t=>rw [ul] at h;simp [FS.At,dQ.app,h]
 |h b=>rw [uk] at h;exact vF _ _ _ fun p hp e=>h ⟨p,hp,e⟩
theorem D1 {r:dQ} {F G:FS} {x:cz} (h:x∈r.wr):(r.app F).At (r.app G) x:=by
 cases x with
 |s t=>rw [ul] at h;simp [FS.At,dQ.app,h]
 |h b=>rw [uk] at h;exact A5 _ _ _ _ h
theorem Bh {r:dQ} {F G:FS} {x:cz} (h:F.At G x):(r.app F).At (r.app G) x:=by
 cases x with
 |s t=>simp only [FS.At,dQ.app] at *;split<;>simp_all
 |h b=>exact jh _ _ _ _ h
theorem FS.At.symm {F G:FS} {x:cz} (h:F.At G x):G.At F x:=by cases x<;>exact Eq.symm h
theorem FS.At.trans {F G K:FS} {x:cz} (h:F.At G x) (k:G.At K x):F.At K x:=by cases x<;>exact Eq.trans h k
theorem FS.At.refl (F:FS) (x:cz):F.At F x:=by cases x<;>rfl
theorem FS.ext_at {F G:FS} (h:∀x,F.At G x):F=G:=by
 cases F;cases G
 congr 1
 ·funext t;exact h (.s t)
 ·funext b;exact h (.h b)
def lQ:List dQ→Nat→(Nat→Bool)→FS→FS
 | [],_,_,F=>F
 |r::rs,i,L,F=>lQ rs (i+1) L (if L i=true then r.app F else F)
theorem pX (x:cz):∀(rs:List dQ) (i:Nat) (L L':Nat→Bool) (F G:FS),F.At G x→(∀k r,rs[k]?=some r→x∈r.wr→L (i+k)=L' (i+k))→(lQ rs i L F).At (lQ rs i L' G) x
 | [],_,_,_,_,_,h,_=>h
 |r::rs,i,L,L',F,G,h,hw=>by
  rw [lQ,lQ]
  refine pX x rs (i+1) L L' _ _ ?_ fun k r' hk hx=>by
   have:=hw (k+1) r' (by simpa using hk) hx
   rw [show i+(k+1)=i+1+k by omega] at this;exact this
  by_cases hx:x∈r.wr
  ·have:=hw 0 r (by simp) hx
   rw [Nat.add_zero] at this
   rw [this]
   split
   ·exact D1 hx
   ·exact h
  ·split<;>split
   ·exact Bh h
   ·exact (pY hx).trans h
   ·exact h.trans (pY hx).symm
   ·exact h
theorem zu:∀(rs:List dQ) (i:Nat) (L:Nat→Bool) (F:FS),(∀k,k<rs.length→L (i+k)=true)→lQ rs i L F=rs.foldl (fun F r=>r.app F) F
 | [],_,_,_,_=>rfl
 |r::rs,i,L,F,h=>by
  have h0:=h 0 (by simp)
  rw [Nat.add_zero] at h0
  rw [lQ,if_pos h0,List.foldl_cons]
  exact zu rs (i+1) L _ fun k hk=>by
   have:=h (k+1) (by simp;omega)
   rw [show i+(k+1)=i+1+k by omega] at this;exact this
theorem lR:∀(rs:List dQ) (i:Nat) (L:Nat→Bool) (F:FS),(∀k,k<rs.length→L (i+k)=false)→lQ rs i L F=F
 | [],_,_,_,_=>rfl
 |r::rs,i,L,F,h=>by
  have h0:=h 0 (by simp)
  rw [Nat.add_zero] at h0
  rw [lQ,if_neg (by rw [h0];simp)]
  exact lR rs (i+1) L _ fun k hk=>by
   have:=h (k+1) (by simp;omega)
   rw [show i+(k+1)=i+1+k by omega] at this;exact this
theorem wc:∀(rs:List dQ) (i j:Nat) (F:FS),lQ rs i (fun x=>decide (x<i+j)) F=(rs.take j).foldl (fun F r=>r.app F) F
 | [],_,j,_=>by simp [lQ]
 |r::rs,i,0,F=>by
  rw [List.take_zero,List.foldl_nil]
  exact lR _ _ _ _ fun k _=>by simp
 |r::rs,i,j+1,F=>by
  rw [lQ,if_pos (by simp),List.take_succ_cons,List.foldl_cons]
  have:=wc rs (i+1) j (r.app F)
  rw [show i+1+j=i+(j+1) by omega] at this
  exact this
theorem Fv {x y:cz} (h:t7 x y=true):x=y:=by
 cases x<;>cases y<;>simp_all [t7]
theorem xW (x:cz):t7 x x=true:=by cases x<;>simp [t7]
theorem m8 (x:cz):∀l:List cz,FM x l=true↔x∈l
 | []=>by simp [FM]
 |y::r=>by
  unfold FM
  split
  ·rename_i h;simp [Fv h]
  ·rename_i h
   rw [m8 x r,List.mem_cons]
   refine ⟨.inr,?_⟩
   rintro (rfl|h1)
   ·rw [xW] at h;cases h
   ·exact h1
theorem km:∀l m:List cz,m7 l m=true↔∃x∈l,x∈m
 | [],m=>by simp [m7]
 |x::r,m=>by
  unfold m7
  split
  ·rename_i h;rw [m8] at h;simp [h]
  ·rename_i h
   rw [km r m]
   have hx:x ∉ m:=by rw [←m8];simp [h]
   simp [hx]
theorem oN (a b:dQ):oM a b=true↔(∃x∈a.wr,x∈b.rd∨x∈b.wr)∨∃x∈a.rd,x∈b.wr:=by
 unfold oM
 split
 ·rename_i h;rw [km] at h;simpa using .inl (by simpa using h)
 ·rename_i h
  have h':¬m7 a.wr (b.rd++b.wr)=true:=by simp [h]
  rw [km] at h' ⊢
  constructor
  ·exact .inr
  ·rintro (⟨x,h1,h2⟩|h1)
   ·exact absurd ⟨x,h1,by simpa using h2⟩ h'
   ·exact h1
theorem kP {an:List Nat} {r:dQ} {i:Nat}:∀ {l:List dQ} {j:Nat},iY an r i j l=true→∀k q,l[k]?=some q→oM r q=true→Nat.testBit (an.getD (j+k) 0) i=true
 | [],_,_,k,q,hk,_=>by simp at hk
 |q0::l,j,h,k,q,hk,hc=>by
  unfold iY at h
  cases k with
  |zero=>
   simp at hk;subst hk
   rw [hc] at h
   simp only at h
   cases e:Nat.testBit (an.getD j 0) i with
   |true=>rfl
   |false=>rw [e] at h;cases h
  |succ k=>
   have h2:iY an r i (j+1) l=true:=by
    cases e:oM r q0 with
    |false=>rw [e] at h;exact h
    |true=>
     rw [e] at h
     simp only at h
     cases e2:Nat.testBit (an.getD j 0) i with
     |true=>rw [e2] at h;exact h
     |false=>rw [e2] at h;cases h
   have:=kP h2 k q (by simpa using hk) hc
   rw [show j+(k+1)=j+1+k by omega];exact this
theorem iI {an:List Nat}:∀ {l:List dQ} {i:Nat},gp an i l=true→∀k m r q,k<m→l[k]?=some r→l[m]?=some q→oM r q=true→Nat.testBit (an.getD (i+m) 0) (i+k)=true
 | [],_,_,k,m,r,q,_,hk,_,_=>by simp at hk
 |r0::l,i,h,k,m,r,q,hlt,hk,hm,hc=>by
  unfold gp at h
  cases e:iY an r0 i (i+1) l with
  |false=>rw [e] at h;cases h
  |true=>
   rw [e] at h
   obtain ⟨m,rfl⟩:∃m',m=m'+1:=⟨m-1,by omega⟩
   cases k with
   |zero=>
    simp at hk;subst hk
    have:=kP e m q (by simpa using hm) hc
    rw [show i+(m+1)=i+1+m by omega,Nat.add_zero];exact this
   |succ k=>
    have:=iI h k m r q (by omega) (by simpa using hk) (by simpa using hm) hc
    rw [show i+(m+1)=i+1+m by omega,show i+(k+1)=i+1+k by omega];exact this
theorem sX (acc:List Nat) (i:Nat):∀(l:List Edge) (s:Nat),Nat.testBit (l.foldl (fun s e=>match Region.binds .any e with |true=>s|||2^e.on|||acc.getD e.on 0|false=>s) s) i=true→
  Nat.testBit s i=true∨∃e∈l,Region.binds .any e=true∧(e.on=i∨Nat.testBit (acc.getD e.on 0) i=true)
 | [],_,h=> .inl h
 |e::l,s,h=>by
  rw [List.foldl_cons] at h
  rcases sX acc i l _ h with h1|⟨e',h1,h2⟩
  ·cases hb:Region.binds .any e with
   |false=>rw [hb] at h1;exact .inl h1
   |true=>
    rw [hb] at h1
    simp only [Nat.testBit_or,Bool.or_eq_true,Nat.testBit_two_pow,decide_eq_true_eq] at h1
    rcases h1 with (h1|h1)|h1
    ·exact .inl h1
    ·exact .inr ⟨e,by simp,hb,.inl h1⟩
    ·exact .inr ⟨e,by simp,hb,.inr h1⟩
  ·exact .inr ⟨e',by simp [h1],h2⟩
theorem zt {L:Nat→Bool}:∀(r:List Oper) (all:List Oper) (acc:List Nat),all.drop acc.length=r→acc.length≤all.length→
  (∀j i,j<acc.length→Nat.testBit (acc.getD j 0) i=true→∃o,all[j]?=some o∧((∀e∈o.after,Region.binds .any e=true→L e.on=true)→(∀k d o',L k=true→all[k]?=some o'→(∃e∈o'.after,Region.binds .any e=true∧e.on=d)→L d=true)→L i=true))→
  ∀j i,Nat.testBit ((Bg.go r acc).getD j 0) i=true→∃o,all[j]?=some o∧((∀e∈o.after,Region.binds .any e=true→L e.on=true)→(∀k d o',L k=true→all[k]?=some o'→(∃e∈o'.after,Region.binds .any e=true∧e.on=d)→L d=true)→L i=true)
 | [],all,acc,hr,hl,h,j,i,hb=>by
  rw [Bg.go] at hb
  by_cases hj:j<acc.length
  ·exact h j i hj hb
  ·rw [List.getD_eq_getElem?_getD,List.getElem?_eq_none (by omega)] at hb;simp at hb
 |o::r,all,acc,hr,hl,h,j,i,hb=>by
  rw [Bg.go] at hb
  have ho:all[acc.length]?=some o:=by
   have:(all.drop acc.length)[0]?=some o:=by rw [hr];rfl
   simpa using this
  have hlt:acc.length<all.length:=(List.getElem?_eq_some_iff.1 ho).1
  refine zt r all _ (by rw [List.length_append,List.length_singleton,←List.drop_drop,hr];rfl) (by simp;omega) ?_ j i hb
  intro j i hj hb
  by_cases hj2:j<acc.length
  ·rw [List.getD_eq_getElem?_getD,List.getElem?_append_left hj2,←List.getD_eq_getElem?_getD] at hb
   exact h j i hj2 hb
  ·obtain rfl:j=acc.length:=by simp at hj;omega
   rw [List.getD_eq_getElem?_getD,List.getElem?_append_right (Nat.le_refl _),Nat.sub_self] at hb
   refine ⟨o,ho,fun h1 h2=> ?_⟩
   rcases sX acc i _ _ hb with hb|⟨e,he,hbd,hb⟩
   ·simp at hb
   ·have he':e∈o.after:=by simpa using he
    have hL:=h1 e he' hbd
    rcases hb with rfl|hb
    ·exact hL
    ·have hlt2:e.on<acc.length:=by
      rcases Nat.lt_or_ge e.on acc.length with h3|h3
      ·exact h3
      ·rw [List.getD_eq_getElem?_getD,List.getElem?_eq_none h3] at hb;simp at hb
     obtain ⟨o',ho',h3⟩:=h e.on i hlt2 hb
     exact h3 (fun e' he' hb'=>h2 e.on e'.on o' hL ho' ⟨e',he',hb',rfl⟩) h2
theorem oE {L:Nat→Bool} {ops:List Oper} (hcl:∀k d o',L k=true→ops[k]?=some o'→(∃e∈o'.after,Region.binds .any e=true∧e.on=d)→L d=true) {j i:Nat} {o:Oper} (ho:ops[j]?=some o)
  (hd:∀e∈o.after,Region.binds .any e=true→L e.on=true) (hb:Nat.testBit ((Bg ops).getD j 0) i=true):L i=true:=by
 obtain ⟨o',ho',h⟩:=zt (L:=L) ops ops [] (by simp) (by simp) (fun j i hj=>by simp at hj) j i hb
 rw [ho] at ho'
 cases ho'
 exact h hd hcl
theorem bE {α:Type} (n:Nat) (k:Nat→α):fL n k=k n:=by cases n<;>rfl
theorem il (t v:Nat) (a:List AV):∀l:List (Nat×Nat×List AV),∃l',(∀ {α:Type} (k:List (Nat×Nat×List AV)→α),Cd t v a l k=k l')∧bH l'=fun u=>if some t=some u then a else bH l u
 | []=>⟨[(t,v,a)],fun _=>rfl,by
  funext u;simp only [bH]
  cases e:Nat.beq t u with
  |true=>have e:=Nat.eq_of_beq_eq_true e;first |(simp [e];done)|(simp;omega)
  |false=>have e:=Nat.ne_of_beq_eq_false e;first |(simp [e];done)|(simp;omega)⟩
 |(u,w,b)::r=>by
  obtain ⟨l',h1,h2⟩:=il t v a r
  cases e:Nat.beq u t with
  |true=>
   refine ⟨(t,v,a)::r,fun k=>by simp only [Cd,e],?_⟩
   have e:=Nat.eq_of_beq_eq_true e;subst e
   funext x;simp only [bH]
   cases e2:Nat.beq u x with
   |true=>have e2:=Nat.eq_of_beq_eq_true e2;first |(simp [e2];done)|(simp;omega)
   |false=>have e2:=Nat.ne_of_beq_eq_false e2;first |(simp [e2];done)|(simp;omega)
  |false=>
   refine ⟨(u,w,b)::l',fun k=>by simp only [Cd,e];exact h1 _,?_⟩
   have e:=Nat.ne_of_beq_eq_false e
   funext x;simp only [bH,h2]
   cases e2:Nat.beq u x with
   |true=>have e2:=Nat.eq_of_beq_eq_true e2;subst e2;first |(simp;done)|(simp;omega)|(simp;intro h;omega)
   |false=>simp
theorem fo (t v:Nat) (a:Ch):∀l:List (Nat×Nat×Ch),∃l',(∀ {α:Type} (k:List (Nat×Nat×Ch)→α),uV t v a l k=k l')∧aI l'=fun u=>if u=t then some a else aI l u
 | []=>⟨[(t,v,a)],fun _=>rfl,by
  funext u;simp only [aI]
  cases e:Nat.beq t u with
  |true=>have e:=Nat.eq_of_beq_eq_true e;first |(simp [e];done)|(simp;omega)
  |false=>have e:=Nat.ne_of_beq_eq_false e;first |(simp;done)|(simp;omega)|(simp;intro h;omega)⟩
 |(u,w,b)::r=>by
  obtain ⟨l',h1,h2⟩:=fo t v a r
  cases e:Nat.beq u t with
  |true=>
   refine ⟨(t,v,a)::r,fun k=>by simp only [uV,e],?_⟩
   have e:=Nat.eq_of_beq_eq_true e;subst e
   funext x;simp only [aI]
   cases e2:Nat.beq u x with
   |true=>have e2:=Nat.eq_of_beq_eq_true e2;first |(simp [e2];done)|(simp;omega)
   |false=>have e2:=Nat.ne_of_beq_eq_false e2;first |(simp;done)|(simp;omega)|(simp;intro h;omega)
  |false=>
   refine ⟨(u,w,b)::l',fun k=>by simp only [uV,e];exact h1 _,?_⟩
   have e:=Nat.ne_of_beq_eq_false e
   funext x;simp only [aI,h2]
   cases e2:Nat.beq u x with
   |true=>have e2:=Nat.eq_of_beq_eq_true e2;subst e2;first |(simp [e];done)|(simp;omega)
   |false=>simp
theorem gZ (t:Nat):∀l:List (Nat×Nat×Ch),∃l',(∀ {α:Type} (k:List (Nat×Nat×Ch)→α),tH t l k=k l')∧aI l'=fun u=>if u=t then none else aI l u
 | []=>⟨[],fun _=>rfl,by funext u;simp [aI]⟩
 |(u,w,b)::r=>by
  obtain ⟨l',h1,h2⟩:=gZ t r
  cases e:Nat.beq u t with
  |true=>
   refine ⟨l',fun k=>by simp only [tH,e];exact h1 _,?_⟩
   have e:=Nat.eq_of_beq_eq_true e;subst e
   funext x;simp only [aI,h2]
   cases e2:Nat.beq u x with
   |true=>have e2:=Nat.eq_of_beq_eq_true e2;first |(simp [e2];done)|(simp;omega)
   |false=>simp
  |false=>
   refine ⟨(u,w,b)::l',fun k=>by simp only [tH,e];exact h1 _,?_⟩
   have e:=Nat.ne_of_beq_eq_false e
   funext x;simp only [aI,h2]
   cases e2:Nat.beq u x with
   |true=>have e2:=Nat.eq_of_beq_eq_true e2;subst e2;first |(simp [e];done)|(simp;omega)
   |false=>simp
theorem dZ (v:Nat):∀(u:List (Nat×Option Ch)) (l:List (Nat×Nat×Ch)),∃l',(∀ {α:Type} (k:List (Nat×Nat×Ch)→α),sM v u l k=k l')∧aI l'=bj u (aI l)
 | [],l=>⟨l,fun _=>rfl,rfl⟩
 |(b,c)::r,l=>by
  cases c with
  |some c=>
   obtain ⟨l1,h1,e1⟩:=fo b v c l
   obtain ⟨l2,h2,e2⟩:=dZ v r l1
   exact ⟨l2,fun k=>by simp only [sM,h1,h2],by rw [e2,e1,bj]⟩
  |none=>
   obtain ⟨l1,h1,e1⟩:=gZ b l
   obtain ⟨l2,h2,e2⟩:=dZ v r l1
   exact ⟨l2,fun k=>by simp only [sM,h1,h2],by rw [e2,e1,bj]⟩
theorem Bb.cons_ok {r:dQ} {e:Bb} {rs:List dQ} {S:AS} (h:e.cons r= .ok rs S):∃l,rs=r::l∧e= .ok l S:=by
 cases e with
 |ok l S'=>simp only [Bb.cons,Bb.ok.injEq] at h;exact ⟨l,h.1.symm,by rw [h.2]⟩
 |need i p=>cases h
 |fail=>cases h
def gq (rs:List dQ) (F:FS):FS:=rs.foldl (fun F r=>r.app F) F
theorem jr {ty:Nat→TE} {ct:Nat→Option CF} {all:List Oper} {ds:List (Nat×Bool)}:∀(ops:List Oper) (i:Nat) (sl:List (Nat×Nat×List AV)) (hp:List (Nat×Nat×Ch)) (nx:Nat) (rs:List dQ) (S:AS),
  cL ty ct all ds i ops sl hp nx= .ok rs S→
  rs.length=ops.length∧(∀k o r,ops[k]?=some o→rs[k]?=some r→r.dst=o.dst∧
   (fX ty ct all (i+k) o.guard o.op (nx+16*k)).run (gq (rs.take k) ⟨bH sl,aI hp⟩).s (gq (rs.take k) ⟨bH sl,aI hp⟩).h (fJ (i+k) ds)= .ok ⟨r.out,r.upd,r.pre,r.fact⟩ r.rd r.qs)∧
  gq rs ⟨bH sl,aI hp⟩=⟨bH S.sl,aI S.hp⟩∧S.nx=nx+16*ops.length
 | [],i,sl,hp,nx,rs,S,h=>by
  simp only [cL,Bb.ok.injEq] at h
  obtain ⟨rfl,rfl⟩:=h
  exact ⟨rfl,fun k o r hk=>by simp at hk,rfl,by simp⟩
 |⟨dst,op,tp,pos,aft,g⟩::ops,i,sl,hp,nx,rs,S,h=>by
  unfold cL at h
  simp only at h
  cases e:(fX ty ct all i g op nx).run (bH sl) (aI hp) (fJ i ds) with
  |need p=>rw [e] at h;cases h
  |fail=>rw [e] at h;cases h
  |ok res rd qs=>
   obtain ⟨out,upd,pre,fact⟩:=res
   rw [e] at h
   simp only at h
   obtain ⟨hp',h1,e1⟩:=dZ nx upd hp
   rw [h1] at h
   have key:∀sl',bH sl'=(fun u=>if dst=some u then out else bH sl u)→(cL ty ct all ds (i+1) ops sl' hp' (nx+16)).cons ⟨dst,out,upd,pre,fact,rd,qs⟩= .ok rs S→
     rs.length=(⟨dst,op,tp,pos,aft,g⟩::ops:List Oper).length∧(∀k o r,(⟨dst,op,tp,pos,aft,g⟩::ops:List Oper)[k]?=some o→rs[k]?=some r→r.dst=o.dst∧
      (fX ty ct all (i+k) o.guard o.op (nx+16*k)).run (gq (rs.take k) ⟨bH sl,aI hp⟩).s (gq (rs.take k) ⟨bH sl,aI hp⟩).h (fJ (i+k) ds)= .ok ⟨r.out,r.upd,r.pre,r.fact⟩ r.rd r.qs)∧
     gq rs ⟨bH sl,aI hp⟩=⟨bH S.sl,aI S.hp⟩∧S.nx=nx+16*(⟨dst,op,tp,pos,aft,g⟩::ops:List Oper).length:=by
    intro sl' hs h0
    obtain ⟨l,rfl,h9⟩:=Bb.cons_ok h0
    obtain ⟨a1,a2,a3,a4⟩:=jr ops _ _ _ _ _ _ h9
    have hF:(dQ.app ⟨dst,out,upd,pre,fact,rd,qs⟩ ⟨bH sl,aI hp⟩)=⟨bH sl',aI hp'⟩:=by
     unfold dQ.app;rw [hs,e1]
    refine ⟨by simp [a1],fun k o r hk hr=> ?_,?_,by rw [a4,List.length_cons];omega⟩
    ·cases k with
     |zero=>
      simp at hk hr
      subst hk hr
      exact ⟨rfl,e⟩
     |succ k=>
      have:=a2 k o r (by simpa using hk) (by simpa using hr)
      rw [List.take_succ_cons]
      unfold gq at this ⊢
      rw [List.foldl_cons,hF,show i+(k+1)=i+1+k by omega,show nx+16*(k+1)=nx+16+16*k by omega]
      exact this
    ·unfold gq at a3 ⊢
     rw [List.foldl_cons,hF];exact a3
   cases dst with
   |some t=>
    simp only at h
    obtain ⟨sl',h2,e2⟩:=il t nx out sl
    rw [h2,bE] at h
    exact key sl' e2 h
   |none=>
    simp only [bE] at h
    exact key sl (by funext u;simp) h
def aY:Option Prop→Prop
 |none=>True
 |some p=>p
theorem kA:∀ {rs:List dQ} {k:Prop},Cc rs k→(∀r∈rs,aY r.pre)∧k
 | [],k,h=>⟨fun _ h=>(by cases h),h⟩
 |r::l,k,h=>by
  unfold Cc at h
  cases e:r.pre with
  |none=>
   rw [e] at h
   obtain ⟨h1,h2⟩:=kA h
   refine ⟨fun x hx=> ?_,h2⟩
   rcases List.mem_cons.1 hx with rfl|hx
   ·rw [e];trivial
   ·exact h1 x hx
  |some p=>
   rw [e] at h
   obtain ⟨h0,h⟩:=h
   obtain ⟨h1,h2⟩:=kA h
   refine ⟨fun x hx=> ?_,h2⟩
   rcases List.mem_cons.1 hx with rfl|hx
   ·rw [e];exact h0
   ·exact h1 x hx
theorem iW:∀ {rs:List dQ} {k:Prop},oT rs k→(∀r∈rs,aY r.fact)→k
 | [],_,h,_=>h
 |r::l,k,h,hf=>by
  unfold oT at h
  have h0:=hf r (by simp)
  cases e:r.fact with
  |none=>rw [e] at h;exact iW h fun x hx=>hf x (by simp [hx])
  |some p=>rw [e] at h h0;exact iW (h h0) fun x hx=>hf x (by simp [hx])
def SP (P:Program) (ty:Nat→TE) (ct:Nat→Option CF) (all:List Oper) (N:Nat) (Q:Exit→Act→World→Prop) (i:Nat) (o:Oper):Prop:=
 ∀(nx:Nat) (F:FS) (ds:List Bool) (res:aH) (rd:List cz) (qs:List (Bool×Bool)),(fX ty ct all i o.guard o.op nx).run F.s F.h ds= .ok res rd qs→(∀q∈qs,q.1=q.2)→aY res.pre→
  ∀η a w,eG F.s F.h N η a w→(∀b,nx≤b→b<nx+16→η b=none)→(∀t,o.dst=some t→t<N)→
  ∀K:Act→World→Prop,(∀a' w' η',eG (fun t=>if o.dst=some t then res.out else F.s t) (bj res.upd F.h) N η' a' w'→Fw F.h η w (bj res.upd F.h) η' w'→(∀b,b<nx∨nx+16≤b→η' b=η b)→aY res.fact→K a' w')→
   if Region.wanted o (yielded all.toArray a.tmps)=true then Oper.wp P o a w K Q else K (a.put o.dst undef) w
section region
variable {P:Program} {ty:Nat→TE} {ct:Nat→Option CF} {N:Nat} {Q:Exit→Act→World→Prop} {a0:Act} {w0:World} {η0:a8}
def pN (ops:List Oper) (rs:List dQ) (F0:FS) (N nx:Nat) (η0:a8) (w0:World) (L:Nat→Bool) (a:Act) (w:World):Prop:=
 (∀k d o',L k=true→ops[k]?=some o'→(∃e∈o'.after,Region.binds .any e=true∧e.on=d)→L d=true)∧
 ∃η,eG (lQ rs 0 L F0).s (lQ rs 0 L F0).h N η a w∧Fw F0.h η0 w0 (lQ rs 0 L F0).h η w∧
  (∀k b,L k=false→nx+16*k≤b→b<nx+16*k+16→η b=none)∧(∀b,nx+16*ops.length≤b→η b=none)∧(∀b,b<nx→η b=η0 b)∧∀k r,L k=true→rs[k]?=some r→aY r.fact
theorem pN.step {all:List Oper} {rs:List dQ} {F0:FS} {nx:Nat} {ds:List (Nat×Bool)}
  (hlen:rs.length=all.length)
  (hrun:∀k o r,all[k]?=some o→rs[k]?=some r→r.dst=o.dst∧(fX ty ct all k o.guard o.op (nx+16*k)).run (gq (rs.take k) F0).s (gq (rs.take k) F0).h (fJ k ds)= .ok ⟨r.out,r.upd,r.pre,r.fact⟩ r.rd r.qs)
  (hq:∀r∈rs,∀q∈r.qs,q.1=q.2) (hpre:∀r∈rs,aY r.pre) (hdst:∀o∈all,∀t,o.dst=some t→t<N)
  {j:Nat} {o:Oper} (ho:all[j]?=some o) (hop:SP P ty ct all N Q j o) {L:Nat→Bool} {a:Act} {w:World} (h:pN all rs F0 N nx η0 w0 L a w) (hL:L j=false)
  (hdep:∀e∈o.after,Region.binds .any e=true→L e.on=true)
  (hx:(∀k d o',L k=true→all[k]?=some o'→(∃e∈o'.after,Region.binds .any e=true∧e.on=d)→L d=true)→∀r,rs[j]?=some r→∀x,x∈r.rd∨x∈r.wr→∀k q,rs[k]?=some q→x∈q.wr→L k=decide (k<j))
  (K:Act→World→Prop) (hK:∀a w,pN all rs F0 N nx η0 w0 (jJ L j) a w→K a w):
  if Region.wanted o (yielded all.toArray a.tmps)=true then Oper.wp P o a w K Q else K (a.put o.dst undef) w:=by
 obtain ⟨hcl,η,hS,hF,hfree,hend,hold,hfact⟩:=h
 have hj:j<all.length:=(List.getElem?_eq_some_iff.1 ho).1
 have hr:rs[j]?=some rs[j]:=List.getElem?_eq_getElem (by omega)
 have hmem:rs[j]∈rs:=List.getElem_mem _
 obtain ⟨hd,hrun⟩:=hrun j o _ ho hr
 have hx:=hx hcl _ hr
 have hAt:∀x,x∈rs[j].rd∨x∈rs[j].wr→(lQ rs 0 L F0).At (gq (rs.take j) F0) x:=fun x hx'=>by
  have e:=wc rs 0 j F0
  unfold gq
  rw [←e]
  refine pX x rs 0 L _ F0 F0 (FS.At.refl _ _) fun k q hk hw=> ?_
  rw [Nat.zero_add]
  have:=hx x hx' k q hk hw
  rw [this,Nat.zero_add]
 have hrun':=R.run_same _ _ hrun (sl':=(lQ rs 0 L F0).s) (hp':=(lQ rs 0 L F0).h) (fun t ht=>hAt (.s t) (.inl ht)) (fun b hb=>hAt (.h b) (.inl hb))
 refine hop (nx+16*j) _ _ _ _ _ hrun' (hq _ hmem) (hpre _ hmem) η a w hS (fun b h1 h2=>hfree j b hL h1 h2) (hdst o (List.mem_of_getElem? ho)) K ?_
 intro a' w' η' hS' hF' hout hfa
 have eF:lQ rs 0 (jJ L j) F0=dQ.app rs[j] (lQ rs 0 L F0):=by
  refine FS.ext_at fun x=> ?_
  by_cases hxw:x∈rs[j].wr
  ·have e:=wc rs 0 (j+1) F0
   rw [List.take_succ_eq_append_getElem (show j<rs.length by omega),List.foldl_append,List.foldl_cons,List.foldl_nil] at e
   have h1:(lQ rs 0 (jJ L j) F0).At (lQ rs 0 (fun x=>decide (x<0+(j+1))) F0) x:=by
    refine pX x rs 0 _ _ F0 F0 (FS.At.refl _ _) fun k q hk hw=> ?_
    have:=hx x (.inr hxw) k q hk hw
    rw [Nat.zero_add]
    by_cases hkj:k=j
    ·subst hkj;simp [pt]
    ·rw [jK hkj,this];simp;omega
   rw [e] at h1
   exact h1.trans (D1 hxw)
  ·refine (pX x rs 0 _ L F0 F0 (FS.At.refl _ _) fun k q hk hw=> ?_).trans (pY hxw).symm
   rw [Nat.zero_add]
   by_cases hkj:k=j
   ·subst hkj;rw [hr] at hk;cases hk;exact absurd hw hxw
   ·exact jK hkj
 refine hK a' w' ⟨fun k d o' hk ho' he=> ?_,η',?_,?_,fun k b hk h1 h2=> ?_,fun b hb=> ?_,fun b hb=> ?_,fun k r hk hr'=> ?_⟩
 ·by_cases hkj:k=j
  ·subst hkj
   rw [ho] at ho';cases ho'
   obtain ⟨e,he,hb,rfl⟩:=he
   exact uW (hdep e he hb)
  ·rw [jK hkj] at hk
   exact uW (hcl k d o' hk ho' he)
 ·rw [eF];unfold dQ.app;rw [hd];exact hS'
 ·rw [eF];unfold dQ.app;exact hF.trans hF'
 ·have hkj:k≠j:=by rintro rfl;rw [pt] at hk;cases hk
  rw [jK hkj] at hk
  rw [hout b (by omega)]
  exact hfree k b hk h1 h2
 ·rw [hout b (by omega)];exact hend b hb
 ·rw [hout b (by omega)];exact hold b hb
 ·by_cases hkj:k=j
  ·subst hkj;rw [hr] at hr';cases hr';exact hfa
  ·rw [jK hkj] at hk;exact hfact k r hk hr'
end region
inductive Ex where
 |normal
 |exit (id:Nat)
 |ret
abbrev KK:=Ex→AS→Prop
structure Inv where
 sl:List (Nat×AV)
 hp:List (Nat×Ch)
structure cT where
 m:List (Nat×Option Nat)
 u:List Nat
def bh (x:Nat):List Nat→Bool
 | []=>false
 |y::r=>match Nat.beq x y with |true=>true|false=>bh x r
def bm:List (Nat×Option Nat)→Nat→Option (Option Nat)
 | [],_=>none
 |(b,a)::r,x=>match Nat.beq b x with |true=>some a|false=>bm r x
def cS:List (Nat×Option Nat)→Nat→Bool
 | [],_=>false
 |(_,a)::r,x=>match a with
  |some a=>match Nat.beq a x with |true=>true|false=>cS r x
  |none=>cS r x
def cB (b:Nat):Bool:=Nat.blt b 1000
def fN (k q:Kd) (l:List k.T) (m:List q.T):Prop:=
 match k,q,l,m with
 | .u8,.u8,l,m=>m=l| .u16,.u16,l,m=>m=l| .u32,.u32,l,m=>m=l| .u64,.u64,l,m=>m=l
 | .int,.int,l,m=>m=l| .bool,.bool,l,m=>m=l| .str,.str,l,m=>m=l
 | .x i,.x j,l,m=>∃h:j=i,h▸m=l
 |_,_,_,_=>False
def LU (kp:Nat→Bool) (σ:cT) (a b:Nat) (k:cT→Prop):Prop:=
 match kp a with
 |true=>False
 |false=>match cS σ.m a with
  |true=>False
  |false=>match bh a σ.u with
   |true=>False
   |false=>k ⟨(b,some a)::σ.m,σ.u⟩
def Ce (kp:Nat→Bool) (σ:cT) (a b:Nat) (k:cT→Prop):Prop:=
 match cB b with
 |true=>match bm σ.m b with
  |none=>LU kp σ a b k
  |some (some c)=>match Nat.beq a c with |true=>k σ|false=>False
  |some none=>False
 |false=>match Nat.beq a b with |true=>k σ|false=>False
def sv (kp:Nat→Bool) (σ:cT) (a:Nat) (k:cT→Prop):Prop:=
 match kp a with
 |true=>False
 |false=>match cS σ.m a with
  |true=>False
  |false=>k ⟨σ.m,a::σ.u⟩
def nV (H:Nat→Option Ch) (kp:Nat→Bool) (x y:Cl) (σ:cT) (k:cT→Prop):Prop:=
 match y with
 | .any=>match x with
  | .vec _ _ _=>False
  | .ob q _=>match Nat.beq q.n 1 with |true=>k σ|false=>False
  | .un=>False
  |_=>k σ
 | .un=>match x with | .un=>k σ|_=>False
 | .cv v=>match x with | .cv w=>v=w∧k σ|_=>False
 | .ob q y=>match x with
  | .ob p x=>fN p q [x] [y]∧k σ
  | .cv (.int .i64 z)=>fN .int q [z] [y]∧k σ
  | .cv (.bool z)=>fN .bool q [z] [y]∧k σ
  |_=>False
 | .vec q m l=>match x with
  | .vec p n i=>m=n∧fN p q i l∧k σ
  |_=>False
 | .ptr b j=>match x with
  | .ptr a i=>match Nat.beq i j with |true=>Ce kp σ a b k|false=>False
  |_=>False
 | .rw b=>match x with
  | .rw a=>Ce kp σ a b k
  | .cv (.slice none 0 0)=>match cB b with
   |true=>match bm σ.m b with
    |none=>k ⟨(b,none)::σ.m,σ.u⟩
    |some none=>k σ
    |_=>False
   |false=>False
  |_=>False
 | .sl b j n c=>match x with
  | .sl a i n' c'=>Ce kp σ a b fun σ=>j=i∧n=n'∧c=c'∧k σ
  |_=>False
 | .sub b j n=>match x with
  | .sub a i n'=>Ce kp σ a b fun σ=>j=i∧n=n'∧k σ
  |_=>False
 | .ro q l=>match x with
  | .ro p i=>fN p q i l∧k σ
  | .cv (.slice none 0 0)=>l= []∧k σ
  | .rw a=>match H a with
   |some (.row _ p i)=>fN p q i l∧sv kp σ a k
   |_=>False
  | .sub a lo n=>match H a with
   |some (.row _ p i)=>match Nat.beq p.n 1 with |true=>fN p q ((i.drop lo).take n) l∧sv kp σ a k|false=>False
   |_=>False
  |_=>False
 | .bb l=>match x with
  | .bb i=>l=i∧k σ
  |_=>False
 | .ln v n=>match x with
  | .ln u i=>(v=u∧n=i)∧k σ
  |_=>False
 | .mp v f=>match x with
  | .mp u i=>(v=u∧f=i)∧k σ
  |_=>False
 | .rv v l=>match x with
  | .rv u i=>(v=u∧l=i)∧k σ
  |_=>False
 |_=>False
def JX (H:Nat→Option Ch) (kp:Nat→Bool):List Cl→List Cl→cT→(cT→Prop)→Prop
 | [],[],σ,k=>k σ
 |x::r,y::q,σ,k=>nV H kp x y σ fun σ=>JX H kp r q σ k
 |_,_,_,_=>False
def SB (H:Nat→Option Ch) (kp:Nat→Bool) (x:List AV) (y:AV) (σ:cT) (k:cT→Prop):Prop:=
 match x with
 | [.one x]=>match y with
  | .one y=>nV H kp x y σ k
  |_=>False
 | [.agg x]=>match y with
  | .agg y=>JX H kp x y σ k
  |_=>False
 |_=>False
def NX (H:Nat→Option Ch) (kp:Nat→Bool) (sl:Nat→List AV):List (Nat×AV)→cT→(cT→Prop)→Prop
 | [],σ,k=>k σ
 |(t,y)::r,σ,k=>SB H kp (sl t) y σ fun σ=>NX H kp sl r σ k
def QD (H:Nat→Option Ch) (kp:Nat→Bool) (x:Option Ch) (y:Ch) (σ:cT) (k:cT→Prop):Prop:=
 match y with
 | .blk E l=>match x with
  |some (.blk F i)=>match Nat.beq E F with |true=>JX H kp i l σ k|false=>False
  |_=>False
 | .row E q l=>match x with
  |some (.row F p i)=>match Nat.beq E F with |true=>fN p q i l∧k σ|false=>False
  |_=>False
def BR (H:Nat→Option Ch) (kp:Nat→Bool):List (Nat×Ch)→cT→(cT→Prop)→Prop
 | [],σ,k=>k σ
 |(b,y)::r,σ,k=>match cB b with
  |true=>match bm σ.m b with
   |some (some a)=>QD H kp (H a) y σ fun σ=>BR H kp r σ k
   |some none=>match y with
    | .row _ _ l=>l= []∧BR H kp r σ k
    |_=>False
   |none=>False
  |false=>QD H kp (H b) y σ fun σ=>BR H kp r σ k
def bx:List (Nat×Nat×Ch)→Nat→Nat
 | [],_=>0
 |(t,v,_)::r,u=>match Nat.beq t u with |true=>v|false=>bx r u
def cH {α:Type} (b:Nat):List (Nat×α)→Bool
 | []=>false
 |(c,_)::r=>match Nat.beq c b with |true=>true|false=>cH b r
def gG (I:List (Nat×Ch)) (hp:List (Nat×Nat×Ch)):List (Nat×Nat×Ch)→Prop→Prop
 | [],k=>k
 |(b,v,_)::r,k=>match cH b I with
  |true=>gG I hp r k
  |false=>match Nat.beq (bx hp b) v with
   |true=>gG I hp r k
   |false=>False
def qC (n:Nat):List FC→Bool
 | []=>true
 | .p b _::r=>match Nat.blt b n with |true=>qC n r|false=>false
 |_::r=>qC n r
def Cl.lt (n:Nat):Cl→Bool
 | .ptr b _=>Nat.blt b n| .pix b _ _=>Nat.blt b n| .sl b _ _ _=>Nat.blt b n| .rw b=>Nat.blt b n| .sub b _ _=>Nat.blt b n
 | .fv _ l m=>match qC n l with |true=>qC n m|false=>false
 |_=>true
def cd (n:Nat):List Cl→Bool
 | []=>true
 |x::r=>match x.lt n with |true=>cd n r|false=>false
def fa (n:Nat):List AV→Bool
 | []=>true
 | .one x::r=>match x.lt n with |true=>fa n r|false=>false
 | .agg l::r=>match cd n l with |true=>fa n r|false=>false
def vr (n:Nat):List (Nat×Nat×List AV)→Bool
 | []=>true
 |(_,_,a)::r=>match fa n a with |true=>vr n r|false=>false
def mO (n:Nat):List (Nat×Nat×Ch)→Bool
 | []=>true
 |(b,v,c)::r=>match Nat.blt b n,Nat.blt v n,Nat.blt 0 v,cB b with
  |true,true,true,false=>match c with
   | .blk _ l=>match cd n l with |true=>mO n r|false=>false
   | .row _ _ _=>mO n r
  |_,_,_,_=>false
def AV.lt (n:Nat):AV→Bool
 | .one x=>x.lt n
 | .agg l=>cd n l
def vq (n:Nat):List (Nat×AV)→Bool
 | []=>true
 |(_,y)::r=>match y.lt n with |true=>vq n r|false=>false
def BE (n:Nat):List (Nat×Ch)→Bool
 | []=>true
 |(b,c)::r=>match Nat.blt b n with
  |true=>match c with
   | .blk _ l=>match cd n l with |true=>BE n r|false=>false
   | .row _ _ _=>BE n r
  |false=>false
def cJ:Code→List Nat
 | .region _ ops _=>ops.toList.filterMap (·.dst)
 | .seq a b=>cJ a++cJ b
 | .cond _ a b=>cJ a++cJ b
 | .block _ a=>cJ a
 | .loop a=>cJ a
 |_=> []
def oR {α:Type} (w:List Nat):List (Nat×Nat×List AV)→(List (Nat×Nat×List AV)→α)→α
 | [],k=>k []
 |(t,v,a)::r,k=>match bh t w with
  |true=>oR w r k
  |false=>oR w r fun r=>k ((t,v,a)::r)
def kM {α:Type} (σ:cT):List (Nat×Nat×Ch)→(List (Nat×Nat×Ch)→α)→α
 | [],k=>k []
 |(t,v,a)::r,k=>match cS σ.m t with
  |true=>kM σ r k
  |false=>match bh t σ.u with
   |true=>kM σ r k
   |false=>kM σ r fun r=>k ((t,v,a)::r)
def dA (n b:Nat):Nat:=match cB b with |true=>n+b|false=>b
def Cl.rn (n:Nat):Cl→Cl
 | .ptr b j=> .ptr (dA n b) j
 | .rw b=> .rw (dA n b)
 | .sl b j m c=> .sl (dA n b) j m c
 | .sub b j m=> .sub (dA n b) j m
 |x=>x
def AV.rn (n:Nat):AV→AV
 | .one x=> .one (x.rn n)
 | .agg l=> .agg (l.map (Cl.rn n))
def Ch.rn (n:Nat):Ch→Ch
 | .blk E l=> .blk E (l.map (Cl.rn n))
 | .row E k l=> .row E k l
def Jx {α:Type} (x:Cl) (k:Cl→α):α:=match x with
 | .any=>k .any| .un=>k .un| .cv v=>k (.cv v)| .ob q x=>k (.ob q x)| .vec q n l=>k (.vec q n l)
 | .ptr b j=>fL b fun b=>k (.ptr b j)| .pix b j i=>k (.pix b j i)| .pro q x=>k (.pro q x)
 | .sl b j n c=>fL b fun b=>k (.sl b j n c)| .rw b=>fL b fun b=>k (.rw b)| .sub b j n=>fL b fun b=>k (.sub b j n)
 | .ro q l=>k (.ro q l)| .bb l=>k (.bb l)| .pbb l=>k (.pbb l)| .ln v n=>k (.ln v n)| .mp v f=>k (.mp v f)| .rv v l=>k (.rv v l)| .fv f l m=>k (.fv f l m)
def tW {α:Type} (l:List Cl) (k:List Cl→α):α:=match l with
 | []=>k []
 |x::r=>Jx x fun x=>tW r fun r=>k (x::r)
def Nr {α:Type} (x:AV) (k:AV→α):α:=match x with
 | .one x=>Jx x fun x=>k (.one x)
 | .agg l=>tW l fun l=>k (.agg l)
def Np {α:Type} (x:Ch) (k:Ch→α):α:=match x with
 | .blk E l=>tW l fun l=>k (.blk E l)
 | .row E q l=>k (.row E q l)
theorem z7 {α:Type} (x:Cl) (k:Cl→α):Jx x k=k x:=by cases x<;>simp only [Jx,bE]
theorem mr {α:Type}:∀(l:List Cl) (k:List Cl→α),tW l k=k l
 | [],k=>rfl
 |x::r,k=>by simp only [tW,z7];exact mr r _
theorem JA {α:Type} (x:AV) (k:AV→α):Nr x k=k x:=by cases x<;>simp only [Nr,z7,mr]
theorem Jy {α:Type} (x:Ch) (k:Ch→α):Np x k=k x:=by cases x<;>simp only [Np,mr]
def kE {α:Type} (n:Nat):List (Nat×AV)→List (Nat×Nat×List AV)→(List (Nat×Nat×List AV)→α)→α
 | [],l,k=>k l
 |(t,a)::r,l,k=>Nr (a.rn n) fun a=>Cd t n [a] l fun l=>kE n r l k
def pr {α:Type} (n:Nat):List (Nat×Ch)→List (Nat×Nat×Ch)→(List (Nat×Nat×Ch)→α)→α
 | [],l,k=>k l
 |(b,c)::r,l,k=>Np (c.rn n) fun c=>fL (dA n b) fun b=>uV b n c l fun l=>pr n r l k
def over (sl:List (Nat×Nat×List AV)) (hp:List (Nat×Nat×Ch)) (nx:Nat) (I:Inv) (k:AS→Prop):Prop:=
 fL nx fun nx=>kE nx I.sl sl fun sl=>pr nx I.hp hp fun hp=>fL (nx+1000) fun nx=>k ⟨sl,hp,nx⟩
def iB (I:List (Nat×Ch)) (hp:List (Nat×Nat×Ch)) (b:Nat):Bool:=match cH b I with |true=>true|false=>cH b hp
def i6 (w:List Nat):List (Nat×AV)→Bool
 | []=>true
 |(t,_)::r=>match bh t w with |true=>i6 w r|false=>false
def gF (S:AS) (nx:Nat) (w:List Nat) (I:Inv) (hp0:List (Nat×Nat×Ch)) (k:cT→Prop):Prop:=
 match vq nx I.sl,BE nx I.hp,i6 w I.sl with
 |true,true,true=>NX (aI S.hp) (iB I.hp hp0) (bH S.sl) I.sl ⟨[],[]⟩ fun σ=>BR (aI S.hp) (iB I.hp hp0) I.hp σ k
 |_,_,_=>False
def Hi (w:List Nat) (S:AS) (body:AS→KK→Prop) (K:KK):Prop:=
 ∃(ι:Type) (I:ι→Inv) (μ:ι→Nat) (i:ι),gF S S.nx w (I i) [] fun σ=>oR w S.sl fun sl=>kM σ S.hp fun hp=>match vr S.nx sl,mO S.nx hp,Nat.ble 1000 S.nx with
  |true,true,true=>∀i,over sl hp S.nx (I i) fun T=>body T fun e S'=>match e with
   | .normal=>∃j,μ j<μ i∧gF S' S.nx w (I j) hp fun _=>gG (I j).hp S'.hp hp True
   |e=>K e S'
  |_,_,_=>False
def zi (body:AS→KK→Prop) (K:KK):Nat→AS→Prop
 |0,_=>False
 |m+1,S=>body S fun e S'=>match e with
  | .normal=>zi body K m S'
  |e=>K e S'
def pQ (N:Nat) (S:AS) (η:a8) (a:Act) (w:World):Prop:=eG (bH S.sl) (aI S.hp) N η a w∧∀b,S.nx≤b→η b=none
def sU (S S':AS):Prop:=S.nx≤S'.nx∧∀b,(bx S'.hp b=bx S.hp b∧aI S'.hp b=aI S.hp b)∨S.nx≤bx S'.hp b∨bx S'.hp b=0
theorem sU.refl (S:AS):sU S S:=⟨Nat.le_refl _,fun _=> .inl ⟨rfl,rfl⟩⟩
theorem sU.trans {S1 S2 S3:AS} (h:sU S1 S2) (k:sU S2 S3):sU S1 S3:=⟨Nat.le_trans h.1 k.1,fun b=>by
 rcases k.2 b with ⟨k1,k2⟩|k1|k1
 ·rcases h.2 b with ⟨h1,h2⟩|h1|h1
  ·exact .inl ⟨k1.trans h1,k2.trans h2⟩
  ·exact .inr (.inl (by rw [k1];exact h1))
  ·exact .inr (.inr (by rw [k1];exact h1))
 ·exact .inr (.inl (Nat.le_trans h.1 k1))
 ·exact .inr (.inr k1)⟩
def ka:Exit→Option Ex
 | .normal=>some .normal
 | .exit id=>some (.exit id)
 | .ret=>some .ret
 |_=>none
def gm (N:Nat) (W:List Nat) (S:AS) (η:a8) (w:World) (K:KK):Exit→Act→World→Prop:=fun e a' w'=>
 ∃e' S' η',ka e=some e'∧K e' S'∧pQ N S' η' a' w'∧Fw (aI S.hp) η w (aI S'.hp) η' w'∧sU S S'∧(∀b,b<S.nx→η' b=η b)∧∀t,bh t W=false→bH S'.sl t=bH S.sl t
def DX (N:Nat) (c:Code) (S:AS) (K:KK):Prop:=∀η a w,pQ N S η a w→c.wp Tryz.prog (gm N (cJ c) S η w K) a w
def tK:Nat→List Oper→Bool
 |_,[]=>true
 |i,o::r=>match o.after.toList.all fun e=> !Region.binds .any e||Nat.blt e.on i with
  |true=>tK (i+1) r
  |false=>false
def j_ (N:Nat):List Oper→Bool
 | []=>true
 |o::r=>match o.dst with
  |some t=>match Nat.blt t N with |true=>j_ N r|false=>false
  |none=>j_ N r
def Nq {α β:Type} (l:List α) (k:List α→β):β:=match l with | []=>k []|x::r=>k (x::r)
theorem Jz {α β:Type} (l:List α) (k:List α→β):Nq l k=k l:=by cases l<;>rfl
def No {α:Type} (S:AS) (k:List (Nat×Nat×List AV)→List (Nat×Nat×Ch)→Nat→α):α:=match S with
 |⟨sl,hp,nx⟩=>fL nx fun nx=>Nq hp fun hp=>Nq sl fun sl=>k sl hp nx
theorem Jw {α:Type} (S:AS) (k:List (Nat×Nat×List AV)→List (Nat×Nat×Ch)→Nat→α):No S k=k S.sl S.hp S.nx:=by
 obtain ⟨sl,hp,nx⟩:=S
 simp only [No,bE,Jz]
def vH (ty:Nat→TE) (ct:Nat→Option CF) (N:Nat) (c:Code) (ops:List Oper) (dr:Bool) (S:AS) (K:KK):Nat→List (Nat×Bool)→Prop
 |0,_=>DX N c S K
 |m+1,ds=>match No S (cL ty ct ops ds 0 ops) with
  | .ok rs S'=>match (match dr with |true=>gp (Bg ops) 0 rs|false=>true),tK 0 ops,j_ N ops with
   |true,true,true=>sZ rs (Cc rs (oT rs (K .normal S')))
   |_,_,_=>DX N c S K
  | .need i p=>(p=true→vH ty ct N c ops dr S K m (ds++ [(i,true)]))∧(p=false→vH ty ct N c ops dr S K m (ds++ [(i,false)]))
  | .fail=>DX N c S K
def Ee (c:Operand):R (Option Bool×Bool):=db c fun x=>match x with
 | .one (.cv (.bool v))=> .pure (some v,true)
 | .one (.ob .bool p)=> .pure (none,p)
 |_=> .fail
def vc (ty:Nat→TE) (ct:Nat→Option CF) (N:Nat):Code→AS→KK→Prop
 | .skip,S,K=>K .normal S
 | .region id ops dr,S,K=>vH ty ct N (.region id ops dr) ops.toList dr S K 12 []
 | .seq a b,S,K=>vc ty ct N a S fun e S'=>match e with
  | .normal=>vc ty ct N b S' K
  |e=>K e S'
 | .cond c a b,S,K=>match (Ee c).run (bH S.sl) (aI S.hp) [] with
  | .ok (some true,_) _ _=>vc ty ct N a S K
  | .ok (some false,_) _ _=>vc ty ct N b S K
  | .ok (none,p) _ _=>(p=true→vc ty ct N a S K)∧(p=false→vc ty ct N b S K)
  |_=>DX N (.cond c a b) S K
 | .block id c,S,K=>vc ty ct N c S fun e S'=>match e with
  | .exit j=>match Nat.beq j id with
   |true=>K .normal S'
   |false=>K e S'
  |e=>K e S'
 | .loop c,S,K=>(∃m,zi (vc ty ct N c) K m S)∨Hi (cJ c) S (vc ty ct N c) K
 | .exit id,S,K=>K (.exit id) S
 | .label _,S,K=>K .normal S
 | .ret,S,K=>K .ret S
 |c,S,K=>DX N c S K
theorem cj (x:Nat):∀l:List Nat,bh x l=true↔x∈l
 | []=>by simp [bh]
 |y::r=>by
  unfold bh
  split
  ·rename_i h;simp [Nat.eq_of_beq_eq_true h]
  ·rename_i h
   have h2:=Nat.ne_of_beq_eq_false h
   rw [cj x r,List.mem_cons]
   simp [h2]
theorem uj {x:Nat} {a b:List Nat} (h:bh x (a++b)=false):bh x a=false∧bh x b=false:=by
 have h1:x ∉ a++b:=by rw [←cj];simp [h]
 simp only [List.mem_append,not_or] at h1
 constructor
 ·cases e:bh x a with
  |true=>rw [cj] at e;exact absurd e h1.1
  |false=>rfl
 ·cases e:bh x b with
  |true=>rw [cj] at e;exact absurd e h1.2
  |false=>rfl
theorem gm.mono {N:Nat} {W W':List Nat} {S S0:AS} {η η0:a8} {w w0:World} {K K':KK} (hF:Fw (aI S0.hp) η0 w0 (aI S.hp) η w) (hH:sU S0 S) (hE:∀b,b<S0.nx→η b=η0 b) (hT:∀t,bh t W'=false→bH S.sl t=bH S0.sl t) (hW:∀t,bh t W'=false→bh t W=false)
  (hK:∀e S,K e S→K' e S) {e:Exit} {a':Act} {w':World} (h:gm N W S η w K e a' w'):gm N W' S0 η0 w0 K' e a' w':=by
 obtain ⟨e',S',η',h1,h2,h3,h4,h5,h6,h7⟩:=h
 exact ⟨e',S',η',h1,hK _ _ h2,h3,hF.trans h4,hH.trans h5,fun b hb=>(h6 b (Nat.lt_of_lt_of_le hb hH.1)).trans (hE b hb),fun t ht=>(h7 t (hW t ht)).trans (hT t ht)⟩
def aq (ty:Nat→TE) (ct:Nat→Option CF):Prop:=∀(all:List Oper) (N:Nat) (Q:Exit→Act→World→Prop) (i:Nat) (o:Oper),all[i]?=some o→SP Tryz.prog ty ct all N Q i o
theorem mf:∀ {l:List Oper} {i:Nat},tK i l=true→∀k o,l[k]?=some o→∀e∈o.after,Region.binds .any e=true→e.on<i+k
 | [],_,_,k,o,hk=>by simp at hk
 |x::r,i,h,k,o,hk=>by
  unfold tK at h
  cases e:(x.after.toList.all fun e=> !Region.binds .any e||Nat.blt e.on i) with
  |false=>rw [e] at h;cases h
  |true=>
   rw [e] at h
   cases k with
   |zero=>
    simp at hk;subst hk
    intro ed he hb
    rw [List.all_eq_true] at e
    have:=e ed (by simpa using he)
    simp only [hb,Bool.not_true,Bool.false_or,Nat.blt_eq] at this
    exact this
   |succ k=>
    intro ed he hb
    have:=mf h k o (by simpa using hk) ed he hb
    omega
theorem gv {N:Nat}:∀ {l:List Oper},j_ N l=true→∀o∈l,∀t,o.dst=some t→t<N
 | [],_,o,ho=>by cases ho
 |x::r,h,o,ho=>by
  intro t ht
  unfold j_ at h
  cases e:x.dst with
  |none=>
   rw [e] at h
   rcases List.mem_cons.1 ho with rfl|ho
   ·rw [e] at ht;cases ht
   ·exact gv h o ho t ht
  |some u=>
   rw [e] at h
   simp only at h
   cases e2:Nat.blt u N with
   |false=>rw [e2] at h;cases h
   |true=>
    rw [e2] at h
    rcases List.mem_cons.1 ho with rfl|ho
    ·rw [e] at ht;cases ht;simpa using e2
    ·exact gv h o ho t ht
theorem oH:∀ {l:List (Bool×Bool)} {k:Prop},IB l k→(∀q∈l,q.1=q.2)∧k
 | [],k,h=>⟨fun _ h=>(by cases h),h⟩
 |(p,v)::r,k,⟨h0,h⟩=>by
  obtain ⟨h1,h2⟩:=oH h
  refine ⟨fun q hq=> ?_,h2⟩
  rcases List.mem_cons.1 hq with rfl|hq
  ·exact h0
  ·exact h1 q hq
theorem lS:∀ {l:List dQ} {k:Prop},sZ l k→(∀r∈l,∀q∈r.qs,q.1=q.2)∧k
 | [],k,h=>⟨fun _ h=>(by cases h),h⟩
 |r::l,k,h=>by
  obtain ⟨h0,h⟩:=oH (show IB r.qs (sZ l k) from h)
  obtain ⟨h1,h2⟩:=lS h
  refine ⟨fun x hx=> ?_,h2⟩
  rcases List.mem_cons.1 hx with rfl|hx
  ·exact h0
  ·exact h1 x hx
theorem sY:∀(rs:List dQ) (F:FS) (t:Nat),(∀r∈rs,r.dst≠some t)→(gq rs F).s t=F.s t
 | [],_,_,_=>rfl
 |r::rs,F,t,h=>by
  unfold gq
  rw [List.foldl_cons]
  have:=sY rs (r.app F) t fun x hx=>h x (by simp [hx])
  unfold gq at this
  rw [this]
  unfold dQ.app
  simp [h r (by simp)]
def iy (n:Nat) (hp hp':List (Nat×Nat×Ch)):Prop:=∀b,(bx hp' b=bx hp b∧aI hp' b=aI hp b)∨n≤bx hp' b∨bx hp' b=0
theorem iy.trans {n m:Nat} (hnm:n≤m) {h1 h2 h3:List (Nat×Nat×Ch)} (h:iy n h1 h2) (k:iy m h2 h3):iy n h1 h3:=fun b=>by
 rcases k b with ⟨k1,k2⟩|k1|k1
 ·rcases h b with ⟨h1,h2⟩|h1|h1
  ·exact .inl ⟨k1.trans h1,k2.trans h2⟩
  ·exact .inr (.inl (by rw [k1];exact h1))
  ·exact .inr (.inr (by rw [k1];exact h1))
 ·exact .inr (.inl (Nat.le_trans hnm k1))
 ·exact .inr (.inr k1)
theorem iy.refl (n:Nat) (h:List (Nat×Nat×Ch)):iy n h h:=fun _=> .inl ⟨rfl,rfl⟩
theorem ny (t v:Nat) (a:Ch):∀l l':List (Nat×Nat×Ch),(∀ {α:Type} (k:List (Nat×Nat×Ch)→α),uV t v a l k=k l')→iy v l l'
 | [],l',h=>by
  have e: [(t,v,a)]=l':=h id
  subst e
  intro b
  simp only [bx,aI]
  cases e:Nat.beq t b with
  |true=>exact .inr (.inl (Nat.le_refl _))
  |false=>exact .inl ⟨rfl,rfl⟩
 |(u,w,c)::r,l',h=>by
  have e:=h id
  unfold uV at e
  cases e1:Nat.beq u t with
  |true=>
   rw [e1] at e
   simp only [id] at e
   subst e
   have:=Nat.eq_of_beq_eq_true e1
   subst this
   intro b
   simp only [bx,aI]
   cases e2:Nat.beq u b with
   |true=>exact .inr (.inl (Nat.le_refl _))
   |false=>exact .inl ⟨rfl,rfl⟩
  |false=>
   rw [e1] at e
   simp only at e
   obtain ⟨l2,h2,_⟩:=fo t v a r
   rw [h2] at e
   simp only [id] at e
   subst e
   have ih:=ny t v a r l2 h2
   intro b
   simp only [bx,aI]
   cases e2:Nat.beq u b with
   |true=>exact .inl ⟨rfl,rfl⟩
   |false=>exact ih b
theorem tI (t v:Nat):∀l l':List (Nat×Nat×Ch),(∀ {α:Type} (k:List (Nat×Nat×Ch)→α),tH t l k=k l')→iy v l l'∧bx l' t=0
 | [],l',h=>by
  have e: []=l':=h id
  subst e
  exact ⟨iy.refl _ _,rfl⟩
 |(u,w,c)::r,l',h=>by
  have e:=h id
  unfold tH at e
  obtain ⟨l2,h2,h3⟩:=gZ t r
  obtain ⟨ih,ih0⟩:=tI t v r l2 h2
  cases e1:Nat.beq u t with
  |true=>
   rw [e1] at e
   simp only at e
   rw [h2] at e
   simp only [id] at e
   subst e
   have:=Nat.eq_of_beq_eq_true e1
   subst this
   refine ⟨fun b=> ?_,ih0⟩
   simp only [bx,aI]
   cases e2:Nat.beq u b with
   |true=>have:=Nat.eq_of_beq_eq_true e2;subst this;exact .inr (.inr ih0)
   |false=>exact ih b
  |false=>
   rw [e1] at e
   simp only at e
   rw [h2] at e
   simp only [id] at e
   subst e
   refine ⟨fun b=> ?_,?_⟩
   ·simp only [bx,aI]
    cases e2:Nat.beq u b with
    |true=>exact .inl ⟨rfl,rfl⟩
    |false=>exact ih b
   ·simp only [bx,e1];exact ih0
theorem nN (v:Nat):∀(u:List (Nat×Option Ch)) (l l':List (Nat×Nat×Ch)),(∀ {α:Type} (k:List (Nat×Nat×Ch)→α),sM v u l k=k l')→iy v l l'
 | [],l,l',h=>by
  have e:l=l':=h id
  subst e;exact iy.refl _ _
 |(b,c)::r,l,l',h=>by
  have e:=h id
  cases c with
  |some c=>
   obtain ⟨l1,h1,_⟩:=fo b v c l
   obtain ⟨l2,h2,_⟩:=dZ v r l1
   simp only [sM,h1,h2,id] at e
   subst e
   exact (ny b v c l l1 h1).trans (Nat.le_refl _) (nN v r l1 l2 h2)
  |none=>
   obtain ⟨l1,h1,_⟩:=gZ b l
   obtain ⟨l2,h2,_⟩:=dZ v r l1
   simp only [sM,h1,h2,id] at e
   subst e
   exact (tI b v l l1 h1).1.trans (Nat.le_refl _) (nN v r l1 l2 h2)
theorem gw {ty:Nat→TE} {ct:Nat→Option CF} {all:List Oper} {ds:List (Nat×Bool)}:∀(ops:List Oper) (i:Nat) (sl:List (Nat×Nat×List AV)) (hp:List (Nat×Nat×Ch)) (nx:Nat) (rs:List dQ) (S:AS),
  cL ty ct all ds i ops sl hp nx= .ok rs S→iy nx hp S.hp
 | [],i,sl,hp,nx,rs,S,h=>by
  simp only [cL,Bb.ok.injEq] at h
  obtain ⟨rfl,rfl⟩:=h
  exact iy.refl _ _
 |⟨dst,op,tp,pos,aft,g⟩::ops,i,sl,hp,nx,rs,S,h=>by
  unfold cL at h
  simp only at h
  cases e:(fX ty ct all i g op nx).run (bH sl) (aI hp) (fJ i ds) with
  |need p=>rw [e] at h;cases h
  |fail=>rw [e] at h;cases h
  |ok res rd qs=>
   obtain ⟨out,upd,pre,fact⟩:=res
   rw [e] at h
   simp only at h
   obtain ⟨hp',h1,e1⟩:=dZ nx upd hp
   rw [h1] at h
   have hv:=nN nx upd hp hp' h1
   cases dst with
   |some t=>
    simp only at h
    obtain ⟨sl',h2,e2⟩:=il t nx out sl
    rw [h2,bE] at h
    obtain ⟨l,rfl,h9⟩:=Bb.cons_ok h
    exact hv.trans (by omega) (gw ops _ _ _ _ _ _ h9)
   |none=>
    simp only [bE] at h
    obtain ⟨l,rfl,h9⟩:=Bb.cons_ok h
    exact hv.trans (by omega) (gw ops _ _ _ _ _ _ h9)
section
variable {ty:Nat→TE} {ct:Nat→Option CF} {N:Nat}
theorem Cf (hm:Tryz.prog.follows .mixedOrders=true) (hO:aq ty ct) {id:Nat} {ops:Array Oper} {dr:Bool} {S S':AS} {K:KK} {ds:List (Nat×Bool)} {rs:List dQ}
  (he:cL ty ct ops.toList ds 0 ops.toList S.sl S.hp S.nx= .ok rs S') (hord:dr=true→gp (Bg ops.toList) 0 rs=true) (hea:tK 0 ops.toList=true) (hd:j_ N ops.toList=true)
  (hv:sZ rs (Cc rs (oT rs (K .normal S')))):DX N (.region id ops dr) S K:=by
 intro η a w ⟨hS,hfree⟩
 obtain ⟨hlen,hrun,hfin,hnx⟩:=jr _ _ _ _ _ _ _ he
 have hver:=gw _ _ _ _ _ _ _ he
 obtain ⟨hq,hv⟩:=lS hv
 obtain ⟨hpre,hv⟩:=kA hv
 have hearl:=mf hea
 have hdst:=gv hd
 have hsz:ops.toList.length=ops.size:=by simp
 have hop:∀ {j:Nat} {o:Oper},ops[j]?=some o→ops.toList[j]?=some o:=fun h=>by simpa using h
 have hend:∀(a':Act) (w':World) (L:Nat→Bool),(∀i,i<ops.size→L i=true)→pN ops.toList rs ⟨bH S.sl,aI S.hp⟩ N S.nx η w L a' w'→gm N (cJ (.region id ops dr)) S η w K .normal a' w':=by
  rintro a' w' L hall ⟨_,η',h1,h2,h3,h4,h5,h6⟩
  have e:=zu rs 0 L ⟨bH S.sl,aI S.hp⟩ fun k hk=>by rw [Nat.zero_add];exact hall k (by omega)
  have hfin':rs.foldl (fun F r=>r.app F) ⟨bH S.sl,aI S.hp⟩=⟨bH S'.sl,aI S'.hp⟩:=hfin
  rw [e,hfin'] at h1 h2
  refine ⟨.normal,S',η',rfl,iW hv fun r hr=> ?_,⟨h1,fun b hb=>h4 b (by omega)⟩,h2,⟨by omega,fun b=>hver b⟩,h5,fun t ht=> ?_⟩
  ·obtain ⟨k,hk,rfl⟩:=List.mem_iff_getElem.1 hr
   exact h6 k _ (hall k (by omega)) (List.getElem?_eq_getElem hk)
  ·have hs:=sY rs ⟨bH S.sl,aI S.hp⟩ t fun r hr=>by
    obtain ⟨k,hk,rfl⟩:=List.mem_iff_getElem.1 hr
    have ho:ops.toList[k]?=some (ops.toList[k]'(by omega)):=List.getElem?_eq_getElem (by omega)
    have:=(hrun k _ _ ho (List.getElem?_eq_getElem hk)).1
    rw [this]
    intro e2
    have hmem:t∈cJ (.region id ops dr):=by
     unfold cJ
     rw [List.mem_filterMap]
     exact ⟨_,List.getElem_mem (by omega),e2⟩
    rw [←cj,ht] at hmem
    cases hmem
   rw [hfin] at hs
   exact hs
 have hrun':∀k o r,ops.toList[k]?=some o→rs[k]?=some r→r.dst=o.dst∧(fX ty ct ops.toList k o.guard o.op (S.nx+16*k)).run (gq (rs.take k) ⟨bH S.sl,aI S.hp⟩).s (gq (rs.take k) ⟨bH S.sl,aI S.hp⟩).h (fJ k ds)= .ok ⟨r.out,r.upd,r.pre,r.fact⟩ r.rd r.qs:=fun k o r h1 h2=>by
  have:=hrun k o r h1 h2
  rw [Nat.zero_add] at this;exact this
 have h0:∀w1:World,Fw (aI S.hp) η w (aI S.hp) η w1→eG (bH S.sl) (aI S.hp) N η a w1→pN ops.toList rs ⟨bH S.sl,aI S.hp⟩ N S.nx η w (fun _=>false) a w1:=fun w1 hF hS1=>by
  have e:lQ rs 0 (fun _=>false) ⟨bH S.sl,aI S.hp⟩=⟨bH S.sl,aI S.hp⟩:=lR _ _ _ _ fun _ _=>rfl
  refine ⟨fun k d o' hk=>(by cases hk),η,?_,?_,fun k b _ h1 _=>hfree b (by omega),fun b hb=>hfree b (by omega),fun _ _=>rfl,fun k r hk=>(by cases hk)⟩
  ·rw [e];exact hS1
  ·rw [e];exact hF
 cases dr with
 |true=>
  have hanc:=iI (hord rfl)
  refine wp_region_any hm (C_ ?_ (pN ops.toList rs ⟨bH S.sl,aI S.hp⟩ N S.nx η w) ?_ (fun L a' w' hall h=>hend a' w' L hall h) _ _ _ _ (by simp) (by simp) ?_)
  ·unfold jq
   rw [List.all_eq_true]
   intro i hi
   simp only [List.mem_range] at hi
   have ho:ops[i]?=some ops[i]:=by simp [hi]
   simp only [ho,Option.map_some,Option.getD_some,Array.all_eq_true_iff_forall_mem,Bool.or_eq_true,Bool.not_eq_true',decide_eq_true_eq]
   intro e he'
   cases hb:Region.binds .any e with
   |false=>exact .inl rfl
   |true=>have:=hearl i _ (hop ho) e he' hb;exact .inr (by omega)
  ·intro i o ho L a' w' hM hL hdep
   refine wpOp_step ho (fun K' hK'=> ?_)
   have:=pN.step (P:=Tryz.prog) (ty:=ty) (ct:=ct) (Q:=gm N (cJ (.region id ops true)) S η w K) hlen hrun' hq hpre hdst (hop ho) (hO _ _ _ _ _ (hop ho)) hM hL hdep ?_ K' (fun a2 w2 h2=>hK' _ _ h2)
   ·simpa using this
   ·intro hcl r hr x hx k q hk hxq
    have hoj:=hop ho
    have hLj:=hL
    have hdj:=hdep
    have hkl:k<rs.length:=(List.getElem?_eq_some_iff.1 hk).1
    rcases Nat.lt_trichotomy k i with hkj|hkj|hkj
    ·have hb:=hanc k i q r hkj hk hr (by rw [oN];exact .inl ⟨x,hxq,hx⟩)
     rw [Nat.zero_add,Nat.zero_add] at hb
     rw [oE hcl hoj hdj hb];simp [hkj]
    ·subst hkj;rw [hLj];simp
    ·have hb:=hanc i k r q hkj hr hk (by
      rw [oN]
      rcases hx with hx|hx
      ·exact .inr ⟨x,hx,hxq⟩
      ·exact .inl ⟨x,hx,.inr hxq⟩)
     rw [Nat.zero_add,Nat.zero_add] at hb
     have hok:ops.toList[k]?=some (ops.toList[k]'(by omega)):=List.getElem?_eq_getElem (by omega)
     cases hLk:L k with
     |false=>simp;omega
     |true=>
      have:=oE hcl hok (fun e he' hb'=>hcl k e.on _ hLk hok ⟨e,he',hb',rfl⟩) hb
      rw [this] at hLj;cases hLj
  ·rw [FI]
   exact h0 w.drew (Fw.drew _ _ _) ⟨hS.df,hS.sz,fun t=>(hS.slot t).later (Fw.drew (aI S.hp) η w).lt,fun b c hb=>(hS.chunk b c hb).later (Fw.drew (aI S.hp) η w).lt fun _ _=>rfl,hS.apart⟩
 |false=>
  have key:∀(m i:Nat) (a':Act) (w':World),i+m=ops.size→pN ops.toList rs ⟨bH S.sl,aI S.hp⟩ N S.nx η w (fun j=>decide (j<i)) a' w'→wpOps Tryz.prog ops (gm N (cJ (.region id ops false)) S η w K) (List.range' i m) a' w':=by
   intro m
   induction m with
   |zero=>
    intro i a' w' hi hM
    exact hend a' w' _ (fun j hj=>by simp;omega) hM
   |succ m ih=>
    intro i a' w' hi hM
    have hlt:i<ops.size:=by omega
    have ho:ops[i]?=some ops[i]:=by simp [hlt]
    rw [List.range'_succ,wpOps_cons]
    refine wpOp_step ho (fun K' hK'=> ?_)
    have hdep:∀e∈(ops[i]).after,Region.binds .any e=true→decide (e.on<i)=true:=fun e he' hb=>by
     have:=hearl i _ (hop ho) e he' hb
     rw [Nat.zero_add] at this
     simpa using this
    have e:jJ (fun j=>decide (j<i)) i=fun j=>decide (j<i+1):=by
     funext j;unfold jJ;split
     ·subst_vars;simp
     ·rw [decide_eq_decide];omega
    have:=pN.step (P:=Tryz.prog) (ty:=ty) (ct:=ct) (Q:=gm N (cJ (.region id ops false)) S η w K) hlen hrun' hq hpre hdst (hop ho) (hO _ _ _ _ _ (hop ho)) hM (by simp) hdep (fun _ _ _ _ _ _ _ _ _=>rfl) K' (fun a2 w2 h2=>hK' _ _ (ih (i+1) a2 w2 (by omega) (by rw [←e];exact h2)))
    simpa using this
  refine wp_region ?_
  rw [List.range_eq_range']
  refine key _ 0 a w (by simp) ?_
  have e:(fun j:Nat=>decide (j<0))=fun _=>false:=by funext j;simp
  rw [e]
  exact h0 w (Fw.refl _ _ _) hS
end
section loops
variable {P:Program} {Q:Exit→Act→World→Prop}
def wa (P:Program) (c:Code) (Q:Exit→Act→World→Prop):Nat→Act→World→Prop
 |0,_,_=>False
 |m+1,a,w=>c.wp P (Exit.then (wa P c Q m) Q) a w
theorem A_ {c:Code} {a:Act} {w:World} (m:Nat) (h:wa P c Q m a w):(Code.loop c).wp P Q a w:=by
 intro b k cs
 have key:∀m a w,wa P c Q m a w→∃e a' w',Q e a' w'∧Arrives P (lone (b.at a (.code c:: .inLoop c::k)) cs w) b k cs e a' w':=by
  intro m
  induction m with
  |zero=>intro a w h;exact h.elim
  |succ m ih=>
   intro a w h
   obtain ⟨e,a₁,w₁,hq,harr⟩:=h b (.inLoop c::k) cs
   cases e with
   |normal=>
    obtain ⟨e₂,a₂,w₂,hq₂,harr₂⟩:=ih a₁ w₁ hq
    exact ⟨e₂,a₂,w₂,hq₂,.of_steps (Steps.trans harr (.one step_inLoop)) harr₂⟩
   |exit id=>exact ⟨_,a₁,w₁,hq,.pass (x:= .inLoop c) rfl (fun _ _=> .inl (by simp)) harr⟩
   |goto l=>exact ⟨_,a₁,w₁,hq,.pass (x:= .inLoop c) rfl (fun _ _=> .inl (by simp)) harr⟩
   |ret=>exact ⟨_,a₁,w₁,hq,.pass (x:= .inLoop c) rfl (fun _ _=> .inl (by simp)) harr⟩
   |panic ch=>exact ⟨_,a₁,w₁,hq,.pass (x:= .inLoop c) rfl (fun _ _=> .inl (by simp)) harr⟩
   |outgrown=>exact ⟨_,a₁,w₁,hq,.pass (x:= .inLoop c) rfl (fun _ _=> .inl (by simp)) harr⟩
 obtain ⟨e,a',w',hq,harr⟩:=key m a w h
 exact ⟨e,a',w',hq,.of_steps (.one step_loop) harr⟩
theorem Da {ι:Type} {c:Code} {a:Act} {w:World} (I:ι→Act→World→Prop) (μ:ι→Nat) (i:ι) (h₀:I i a w)
  (round:∀i a w,I i a w→c.wp P (Exit.then (fun a' w'=>∃j,μ j<μ i∧I j a' w') Q) a w):(Code.loop c).wp P Q a w:=by
 have key:∀n i a w,μ i=n→I i a w→wa P c Q (n+1) a w:=by
  intro n
  induction n using Nat.strongRecOn with
  |_ n ih=>
   intro i a w hn hI
   have mono:∀m m' a w,m≤m'→wa P c Q m a w→wa P c Q m' a w:=by
    intro m
    induction m with
    |zero=>intro m' a w _ h;exact h.elim
    |succ m ihm=>
     intro m' a w hle h
     obtain ⟨m',rfl⟩:∃k,m'=k+1:=⟨m'-1,by omega⟩
     exact wp_mono h fun e a w hq=>by
      cases e with
      |normal=>exact ihm m' a w (by omega) hq
      |_=>exact hq
   exact wp_mono (round i a w hI) fun e a w hq=>by
    cases e with
    |normal=>
     obtain ⟨j,hlt,hj⟩:=hq
     exact mono (μ j+1) n a w (by omega) (ih (μ j) (by omega) j a w rfl hj)
    |_=>exact hq
 exact A_ _ (key _ i a w rfl h₀)
end loops
theorem aL {a b:Nat} (h:Nat.beq a b=true):a=b:=Nat.eq_of_beq_eq_true h
def dR (σ τ:cT):Prop:=(∀b a,bm σ.m b=some a→bm τ.m b=some a)∧∀a,bh a σ.u=true→bh a τ.u=true
theorem dR.refl (σ:cT):dR σ σ:=⟨fun _ _ h=>h,fun _ h=>h⟩
theorem dR.trans {a b c:cT} (h:dR a b) (k:dR b c):dR a c:=⟨fun x y e=>k.1 x y (h.1 x y e),fun x e=>k.2 x (h.2 x e)⟩
theorem fy (a:Nat):∀m:List (Nat×Option Nat),cS m a=true↔∃p∈m,p.2=some a
 | []=>by simp [cS]
 |(b,none)::r=>by
  have e:cS ((b,none)::r) a=cS r a:=rfl
  rw [e,fy a r]
  constructor
  ·rintro ⟨p,h1,h2⟩;exact ⟨p,.tail _ h1,h2⟩
  ·rintro ⟨p,h1,h2⟩
   rcases List.mem_cons.1 h1 with h1|h1
   ·subst h1;cases h2
   ·exact ⟨p,h1,h2⟩
 |(b,some c)::r=>by
  cases e:Nat.beq c a with
  |true=>
   have e1:cS ((b,some c)::r) a=true:=by simp only [cS,e]
   rw [e1]
   exact ⟨fun _=>⟨(b,some c),.head _,by rw [aL e]⟩,fun _=>rfl⟩
  |false=>
   have e1:cS ((b,some c)::r) a=cS r a:=by simp only [cS,e]
   have hne:=Nat.ne_of_beq_eq_false e
   rw [e1,fy a r]
   constructor
   ·rintro ⟨p,h1,h2⟩;exact ⟨p,.tail _ h1,h2⟩
   ·rintro ⟨p,h1,h2⟩
    rcases List.mem_cons.1 h1 with h1|h1
    ·subst h1;simp at h2;exact absurd h2 hne
    ·exact ⟨p,h1,h2⟩
structure dD (H:Nat→Option Ch) (kp:Nat→Bool) (σ:cT):Prop where
 inj:∀b b' a,bm σ.m b=some (some a)→bm σ.m b'=some (some a)→b=b'
 used:∀b a,bm σ.m b=some (some a)→cS σ.m a=true
 kept:∀b a,bm σ.m b=some (some a)→kp a=false
 ukept:∀a,bh a σ.u=true→kp a=false
 shut:∀b a,bm σ.m b=some (some a)→bh a σ.u=false
 live:∀a,bh a σ.u=true→H a≠none
theorem dD.nil (H:Nat→Option Ch) (kp:Nat→Bool):dD H kp ⟨[],[]⟩:=⟨fun _ _ _ h=>(by cases h),fun _ _ h=>(by cases h),fun _ _ h=>(by cases h),fun _ h=>(by cases h),fun _ _ h=>(by cases h),fun _ h=>(by cases h)⟩
section mt
variable {H:Nat→Option Ch} {kp:Nat→Bool} {η:a8} {A:Nat→Prop} {w:World}
structure iG (nx:Nat) (kp:Nat→Bool) (η:a8) (A:Nat→Prop) (σ:cT) (η':a8) (A':Nat→Prop):Prop where
 old:∀b,cB b=false→b<nx→∀v,η b=some v→η' b=some v
 new:∀b a,cB b=true→bm σ.m b=some (some a)→η' (nx+b)=η a
 nil:∀b,cB b=true→bm σ.m b=some none→η' (nx+b)=some (.slice none 0 0)
 anon:∀g,A g→A' g
 shared:∀a g,bh a σ.u=true→bg η a=some g→A' g
def f9 (H:Nat→Option Ch) (nx:Nat) (kp:Nat→Bool) (η:a8) (A:Nat→Prop) (σ:cT) (k:cT→Prop) (X:a8→(Nat→Prop)→Prop):Prop:=
 ∃τ,dR σ τ∧dD H kp τ∧k τ∧∀υ,dR τ υ→∀η' A',iG nx kp η A υ η' A'→X η' A'
theorem jz {k q:Kd} {l:List k.T} {m:List q.T} (h:fN k q l m) {cs:List Value} (hl:aV k.rp l cs):aV q.rp m cs∧k.n=q.n∧l.length=m.length:=by
 cases k<;>cases q<;>simp only [fN] at h
 all_goals first |(subst h;exact ⟨hl,rfl,rfl⟩)|skip
 obtain ⟨h1,h2⟩:=h
 subst h1
 subst h2
 exact ⟨hl,rfl,rfl⟩
theorem lD {nx:Nat} {σ:cT} (hσ:dD H kp σ) {a b:Nat} (hlt:Nat.blt b nx=true) {k:cT→Prop} (h:Ce kp σ a b k):f9 H nx kp η A σ k fun η' _=>∀v,η a=some v→η' (dA nx b)=some v:=by
 unfold Ce at h
 cases hb:cB b with
 |false=>
  rw [hb] at h
  simp only at h
  cases e:Nat.beq a b with
  |false=>rw [e] at h;exact h.elim
  |true=>
   rw [e] at h
   have:=aL e
   subst this
   refine ⟨σ,dR.refl _,hσ,h,fun υ _ η' A' hM v hv=> ?_⟩
   unfold dA;rw [hb];exact hM.old _ hb (by simpa using hlt) v hv
 |true=>
  rw [hb] at h
  simp only at h
  cases e:bm σ.m b with
  |some c=>
   rw [e] at h
   cases c with
   |none=>exact h.elim
   |some c=>
    simp only at h
    cases e2:Nat.beq a c with
    |false=>rw [e2] at h;exact h.elim
    |true=>
     rw [e2] at h
     have:=aL e2
     subst this
     refine ⟨σ,dR.refl _,hσ,h,fun υ hle η' A' hM v hv=> ?_⟩
     unfold dA;rw [hb]
     simp only
     rw [hM.new b a hb (hle.1 _ _ e)];exact hv
  |none=>
   rw [e] at h
   simp only [LU] at h
   cases e1:kp a with
   |true=>rw [e1] at h;exact h.elim
   |false=>
    rw [e1] at h
    cases e2:cS σ.m a with
    |true=>rw [e2] at h;exact h.elim
    |false=>
     rw [e2] at h
     cases e3:bh a σ.u with
     |true=>rw [e3] at h;exact h.elim
     |false=>
      rw [e3] at h
      simp only at h
      have hnew:∀x y,bm ((b,some a)::σ.m) x=some y→(x=b∧y=some a)∨(x≠b∧bm σ.m x=some y):=fun x y hx=>by
       unfold bm at hx
       cases e4:Nat.beq b x with
       |true=>rw [e4] at hx;simp at hx;exact .inl ⟨(aL e4).symm,hx.symm⟩
       |false=>rw [e4] at hx;exact .inr ⟨fun e=>Nat.ne_of_beq_eq_false e4 e.symm,hx⟩
      have hne:∀x,bm σ.m x≠some (some a):=fun x hx=>by rw [hσ.used x a hx] at e2;cases e2
      refine ⟨⟨(b,some a)::σ.m,σ.u⟩,⟨fun x y hx=> ?_,fun _ h=>h⟩,⟨fun x x' y hx hx'=> ?_,fun x y hx=> ?_,fun x y hx=> ?_,hσ.ukept,fun x y hx=> ?_,hσ.live⟩,h,fun υ hle η' A' hM v hv=> ?_⟩
      ·unfold bm
       cases e4:Nat.beq b x with
       |true=>have:=aL e4;subst this;rw [e] at hx;cases hx
       |false=>exact hx
      ·rcases hnew x _ hx with ⟨h1,h2⟩|⟨h1,h2⟩
       ·simp at h2;subst h2
        rcases hnew x' _ hx' with ⟨h3,h4⟩|⟨h3,h4⟩
        ·rw [h1,h3]
        ·exact absurd h4 (hne _)
       ·rcases hnew x' _ hx' with ⟨h3,h4⟩|⟨h3,h4⟩
        ·simp at h4;subst h4;exact absurd h2 (hne _)
        ·exact hσ.inj _ _ _ h2 h4
      ·rw [fy]
       rcases hnew x _ hx with ⟨h1,h2⟩|⟨h1,h2⟩
       ·exact ⟨(b,some a),by simp,h2.symm⟩
       ·have:=hσ.used x y h2
        rw [fy] at this
        obtain ⟨p,h3,h4⟩:=this
        exact ⟨p,by simp [h3],h4⟩
      ·rcases hnew x _ hx with ⟨h1,h2⟩|⟨h1,h2⟩
       ·simp at h2;subst h2;exact e1
       ·exact hσ.kept x y h2
      ·rcases hnew x _ hx with ⟨h1,h2⟩|⟨h1,h2⟩
       ·simp at h2;subst h2;exact e3
       ·exact hσ.shut x y h2
      ·unfold dA;rw [hb]
       simp only
       rw [hM.new b a hb (hle.1 b (some a) (by unfold bm;simp))];exact hv
theorem pB {nx:Nat} {σ:cT} (hσ:dD H kp σ) {a:Nat} (hne:H a≠none) {k:cT→Prop} (h:sv kp σ a k):f9 H nx kp η A σ k fun _ A'=>∀g,bg η a=some g→A' g:=by
 unfold sv at h
 cases e1:kp a with
 |true=>rw [e1] at h;exact h.elim
 |false=>
  rw [e1] at h
  cases e2:cS σ.m a with
  |true=>rw [e2] at h;exact h.elim
  |false=>
   rw [e2] at h
   have hme:∀x,bh x (a::σ.u)=true→x=a∨bh x σ.u=true:=fun x hx=>by
    rw [cj] at hx ⊢
    rcases List.mem_cons.1 hx with h|h
    ·exact .inl h
    ·exact .inr h
   refine ⟨⟨σ.m,a::σ.u⟩,⟨fun _ _ h=>h,fun x hx=>by rw [cj] at hx ⊢;simp [hx]⟩,⟨hσ.inj,hσ.used,hσ.kept,fun x hx=> ?_,fun x y hx=> ?_,fun x hx=> ?_⟩,h,fun υ hle η' A' hM g hg=>hM.shared a g (hle.2 a (by rw [cj];simp)) hg⟩
   ·rcases hme x hx with rfl|hx
    ·exact e1
    ·exact hσ.ukept x hx
   ·cases e3:bh y (a::σ.u) with
    |false=>rfl
    |true=>
     rcases hme y e3 with rfl|h3
     ·rw [hσ.used x y hx] at e2;cases e2
     ·rw [hσ.shut x y hx] at h3;cases h3
   ·rcases hme x hx with rfl|hx
    ·exact hne
    ·exact hσ.live x hx
theorem f9.pure {nx:Nat} {σ:cT} (hσ:dD H kp σ) {k:cT→Prop} (h:k σ) {X:a8→(Nat→Prop)→Prop} (hX:∀υ η' A',dR σ υ→iG nx kp η A υ η' A'→X η' A'):f9 H nx kp η A σ k X:=
 ⟨σ,dR.refl _,hσ,h,fun υ hle η' A' hM=>hX υ η' A' hle hM⟩
theorem f9.imp {nx:Nat} {σ:cT} {k:cT→Prop} {X Y:a8→(Nat→Prop)→Prop} (h:f9 H nx kp η A σ k X) (hXY:∀υ η' A',iG nx kp η A υ η' A'→X η' A'→Y η' A'):f9 H nx kp η A σ k Y:=by
 obtain ⟨τ,h1,h2,h3,h4⟩:=h
 exact ⟨τ,h1,h2,h3,fun υ hle η' A' hM=>hXY υ η' A' hM (h4 υ hle η' A' hM)⟩
end mt
section mt
variable {H:Nat→Option Ch} {kp:Nat→Bool} {η:a8} {A:Nat→Prop} {w:World} {nx:Nat}
theorem f9.bind {σ:cT} {k:cT→Prop} {f:cT→Prop} {X Y:a8→(Nat→Prop)→Prop} (h:f9 H nx kp η A σ f X) (hf:∀τ,dD H kp τ→f τ→f9 H nx kp η A τ k Y):f9 H nx kp η A σ k fun η' A'=>X η' A'∧Y η' A':=by
 obtain ⟨τ,h1,h2,h3,h4⟩:=h
 obtain ⟨υ,g1,g2,g3,g4⟩:=hf τ h2 h3
 exact ⟨υ,h1.trans g1,g2,g3,fun ρ hle η' A' hM=>⟨h4 ρ (g1.trans hle) η' A' hM,g4 ρ hle η' A' hM⟩⟩
theorem gO {E:Nat} {k:Kd} {l:List k.T} {v:Value} {cs:List Value} (hl:aV k.rp l cs) (ho:w.ownsRow 0 E k.n v l.length cs):
  (v= .slice none 0 0∧l= [])∨∃g c,v= .slice (some ⟨g,0,none⟩) l.length c∧l.length≤c∧c≤maxLen∧w.rangeAt g 0 cs:=by
 rcases ho.2 with ⟨h1,h2⟩|⟨g,cap,cur,h1,_,h2,h3,h4,h5,h6⟩
 ·exact .inl ⟨h1,List.eq_nil_of_length_eq_zero h2⟩
 ·refine .inr ⟨g,cap,h1,h3,h4,fun j u hu=> ?_⟩
  rw [Nat.zero_add,←h6,List.getElem?_take] at*
  split at hu
  ·simp only [World.cell?,h2,Option.isSome_none,Bool.false_eq_true,if_false]
   simpa using hu
  ·cases hu
theorem sp {E:Nat} {k:Kd} {l:List k.T} {b:Nat} (h:(Ch.row E k l).H η A w b) {A':Nat→Prop} (hA:∀g,bg η b=some g→A' g):∃v,η b=some v∧eS A' w k l v:=by
 obtain ⟨v,cs,h1,h2,h3⟩:=h
 refine ⟨v,h1,?_⟩
 rcases gO h2 h3 with ⟨e,rfl⟩|⟨g,c,e,h4,h5,h6⟩
 ·exact ⟨none,0,e,Nat.le_refl _,by simp,fun _=>rfl,fun h=>by simp at h⟩
 ·exact ⟨_,c,e,h4,h5,fun h=>(by cases h),fun _=>⟨g,0,cs,rfl,hA g (by unfold bg;rw [h1,e];rfl),h2,h6⟩⟩
theorem eS.cast {A':Nat→Prop} {k q:Kd} {l:List k.T} {m:List q.T} {v:Value} (he:fN k q l m) (hA:∀g,A g→A' g) (h:eS A w k l v):eS A' w q m v:=by
 obtain ⟨a,c,h1,h2,h3,h4,h5⟩:=h
 have hlen:l.length=m.length:=by
  cases k<;>cases q<;>simp only [fN] at he
  all_goals first |(subst he;rfl)|skip
  obtain ⟨e1,e2⟩:=he
  subst e1;subst e2;rfl
 refine ⟨a,c,by rw [←hlen];exact h1,by omega,h3,h4,fun hn=> ?_⟩
 obtain ⟨g,o,cs,e,hg,hc,hr⟩:=h5 (by omega)
 exact ⟨g,o,cs,e,hA g hg,(jz he hc).1,hr⟩
theorem sH {E:Nat} {k:Kd} {l:List k.T} {b lo n:Nat} (hk:k.n=1) (h:(Ch.row E k l).H η A w b) {cs:List Value} (hs:(Cl.sub b lo n).H η A w cs) {A':Nat→Prop} (hA:∀g,bg η b=some g→A' g):
  ∃v,cs= [v]∧eS A' w k ((l.drop lo).take n) v:=by
 obtain ⟨v,cs',h1,h2,h3⟩:=h
 obtain ⟨v',a,c,g1,g2,g3,g4,g5,g6⟩:=hs
 rw [h1] at g1;cases g1
 have hlen:((l.drop lo).take n).length=n:=by
  rcases Nat.eq_zero_or_pos n with h0|h0
  ·subst h0;simp
  ·obtain ⟨g,N,C,e1,_,e3⟩:=g6 h0
   rcases gO h2 h3 with ⟨e,rfl⟩|⟨g',c',e,h4,h5,h6⟩
   ·rw [e] at e1;cases e1
   ·rw [e] at e1;cases e1
    rw [List.length_take,List.length_drop];omega
 refine ⟨_,g2,a,c,by rw [hlen],by omega,g4,g5,fun hn0=> ?_⟩
 obtain ⟨g,N,C,e1,e2,_⟩:=g6 (by omega)
 rcases gO h2 h3 with ⟨e,rfl⟩|⟨g',c',e,h4,h5,h6⟩
 ·rw [e] at e1;cases e1
 ·rw [e] at e1;cases e1
  have hd:=(h2.drop lo).take n
  rw [k.rp_n,hk,Nat.one_mul,Nat.one_mul] at hd
  refine ⟨g,lo,_,e2,hA g (by unfold bg;rw [h1,e];rfl),hd,fun j u hu=> ?_⟩
  have hu2:cs'[lo+j]?=some u:=by
   rw [List.getElem?_take] at hu
   split at hu
   ·rw [List.getElem?_drop] at hu;exact hu
   ·cases hu
  have:=h6 (lo+j) u hu2
  rw [Nat.zero_add] at this;exact this
theorem Kd.one_rep {k:Kd} (hk:k.n=1) {x:k.T} {cs:List Value} (h:k.rp.rep x cs):∃v,cs= [v]∧v.oneCell'=true:=by
 have h1:=k.rp.len _ _ h
 rw [k.rp_n,hk] at h1
 obtain ⟨v,rfl⟩:=List.length_eq_one_iff.1 h1
 exact ⟨v,rfl,k.rp.one _ _ h v (by simp)⟩
theorem yp (k:Kd):eS A w k [] (.slice none 0 0):=⟨none,0,rfl,Nat.le_refl _,by simp,fun _=>rfl,fun h=>by simp at h⟩
theorem FR (hH:∀b c,H b=some c→c.H η A w b) {x y:Cl} (hy:y.lt nx=true) {cs:List Value} (hx:x.H η A w cs) {σ:cT} (hσ:dD H kp σ) {k:cT→Prop} (h:nV H kp x y σ k):f9 H nx kp η A σ k fun η' A'=>(y.rn nx).H η' A' w cs:=by
 cases y with
 |any=>
  have key:(∃v,cs= [v]∧v.oneCell'=true)→k σ→f9 H nx kp η A σ k fun η' A'=>(Cl.any.rn nx).H η' A' w cs:=fun h1 h2=> .pure hσ h2 fun _ _ _ _ _=>h1
  cases x<;>simp only [nV] at h
  ·exact key hx h
  ·exact key ⟨_,hx⟩ h
  ·rename_i q z
   cases e:Nat.beq q.n 1 with
   |false=>rw [e] at h;exact h.elim
   |true=>rw [e] at h;exact key (Kd.one_rep (aL e) hx) h
  ·obtain ⟨g,_,e⟩:=hx;exact key ⟨_,e,rfl⟩ h
  ·obtain ⟨g,_,e⟩:=hx;exact key ⟨_,e,rfl⟩ h
  ·obtain ⟨g,o,us,e,_⟩:=hx;exact key ⟨_,e,rfl⟩ h
  ·obtain ⟨_,g,_,e⟩:=hx;exact key ⟨_,e,rfl⟩ h
  ·obtain ⟨v,_,e⟩:=hx;exact key ⟨_,e⟩ h
  ·obtain ⟨v,a,c,_,e,_⟩:=hx;exact key ⟨_,e,rfl⟩ h
  ·obtain ⟨v,e,a,c,e2,_⟩:=hx;exact key ⟨_,e,by rw [e2];rfl⟩ h
  ·obtain ⟨a,c,e,_⟩:=hx;exact key ⟨_,e,rfl⟩ h
  ·obtain ⟨g,o,v,e,_⟩:=hx;exact key ⟨_,e,rfl⟩ h
  ·obtain ⟨e,⟨a,c,e2⟩,_⟩:=hx;exact key ⟨_,e,by rw [e2];rfl⟩ h
  ·obtain ⟨e,g,m,D,e2,_⟩:=hx;exact key ⟨_,e,by rw [e2];rfl⟩ h
  ·obtain ⟨e,a,c,e2,_⟩:=hx;exact key ⟨_,e,by rw [e2];rfl⟩ h
  ·obtain ⟨us,vs,e,_⟩:=hx;exact key ⟨_,e,rfl⟩ h
 |un=>
  cases x<;>simp only [nV] at h
  exact .pure hσ h fun _ _ _ _ _=>hx
 |cv v=>
  cases x<;>simp only [nV] at h
  obtain ⟨rfl,h⟩:=h
  exact .pure hσ h fun _ _ _ _ _=>hx
 |ob q y=>
  have key:∀ {p:Kd} {x:p.T},p.rp.rep x cs→fN p q [x] [y]→k σ→f9 H nx kp η A σ k fun η' A'=>((Cl.ob q y).rn nx).H η' A' w cs:=fun h1 h2 h3=>
   .pure hσ h3 fun _ _ _ _ _=>((jz h2 (aV.single h1)).1).of_single
  unfold nV at h
  cases x
  case ob p x=>exact key hx h.1 h.2
  case cv v=>
   simp only at h
   split at h
   ·rename_i z he;cases he
   ·rename_i z he;cases he;exact key (p:= .int) (x:=z) hx.1 h.1 h.2
   ·rename_i z he;cases he;exact key (p:= .bool) (x:=z) hx.1 h.1 h.2
   ·exact h.elim
  all_goals exact h.elim
 |vec q m l=>
  cases x<;>simp only [nV] at h
  obtain ⟨rfl,h1,h2⟩:=h
  exact .pure hσ h2 fun _ _ _ _ _=>by
   obtain ⟨e1,e2⟩:=hx
   obtain ⟨g1,g2,g3⟩:=jz h1 e2
   exact ⟨by omega,g1⟩
 |ptr b j=>
  cases x<;>simp only [nV] at h
  rename_i a i
  cases e:Nat.beq i j with
  |false=>rw [e] at h;exact h.elim
  |true=>
   rw [e] at h
   have:=aL e
   subst this
   obtain ⟨g,e1,e2⟩:=hx
   exact (lD hσ hy h).imp fun _ _ _ _ hM=>⟨g,hM _ e1,e2⟩
 |pix b j i=>cases x<;>simp only [nV] at h
 |pro q z=>cases x<;>simp only [nV] at h
 |pbb l=>cases x<;>simp only [nV] at h
 |fv f l m=>cases x<;>simp only [nV] at h
 |ln v n=>
  cases x<;>simp only [nV] at h
  obtain ⟨⟨rfl,rfl⟩,h⟩:=h
  exact .pure hσ h fun _ _ _ _ _=>hx
 |mp v f=>
  cases x<;>simp only [nV] at h
  obtain ⟨⟨rfl,rfl⟩,h⟩:=h
  obtain ⟨e,hm⟩:=hx
  exact .pure hσ h fun υ η' A' hle hM=>⟨e,hm.mono hM.anon⟩
 |rv v l=>
  cases x<;>simp only [nV] at h
  obtain ⟨⟨rfl,rfl⟩,h⟩:=h
  obtain ⟨e,hr⟩:=hx
  exact .pure hσ h fun υ η' A' hle hM=>⟨e,hr.cast (k:= .u8) (q:= .u8) (show fN .u8 .u8 _ _ from rfl) hM.anon⟩
 |sl b j n c=>
  cases x<;>simp only [nV] at h
  rename_i a i n' c'
  obtain ⟨hn,g,e1,e2⟩:=hx
  obtain ⟨τ,h1,h2,⟨rfl,rfl,rfl,h3⟩,h4⟩:=lD (A:=A) (η:=η) hσ hy h
  exact ⟨τ,h1,h2,h3,fun υ hle η' A' hM=>⟨hn,g,h4 υ hle η' A' hM _ e1,e2⟩⟩
 |sub b j n=>
  cases x<;>simp only [nV] at h
  rename_i a i n'
  obtain ⟨v,ad,c,e1,e2⟩:=hx
  obtain ⟨τ,h1,h2,⟨rfl,rfl,h3⟩,h4⟩:=lD (A:=A) (η:=η) hσ hy h
  exact ⟨τ,h1,h2,h3,fun υ hle η' A' hM=>⟨v,ad,c,h4 υ hle η' A' hM _ e1,e2⟩⟩
 |rw b=>
  unfold nV at h
  cases x
  case rw a=>
   obtain ⟨v,e1,e2⟩:=hx
   exact (lD hσ hy h).imp fun _ _ _ _ hM=>⟨v,hM _ e1,e2⟩
  case cv v=>
   simp only at h
   split at h
   ·rename_i he;cases he
   ·rename_i he;cases he
    cases hb:cB b with
    |false=>rw [hb] at h;exact h.elim
    |true=>
     rw [hb] at h
     simp only at h
     have hfin:∀υ,bm υ.m b=some none→∀η' A',iG nx kp η A υ η' A'→((Cl.rw b).rn nx).H η' A' w cs:=fun υ hs η' A' hM=>by
      obtain ⟨e1,e2⟩:=hx
      show (Cl.rw (dA nx b)).H η' A' w cs
      unfold dA;rw [hb]
      exact ⟨_,hM.nil b hb hs,e1,e2⟩
     cases e:bm σ.m b with
     |some c=>
      rw [e] at h
      cases c with
      |none=>exact .pure hσ h fun υ η' A' hle hM=>hfin υ (hle.1 _ _ e) η' A' hM
      |some c=>exact h.elim
     |none=>
      rw [e] at h
      simp only at h
      have hnew:∀x y,bm ((b,none)::σ.m) x=some (some y)→bm σ.m x=some (some y):=fun x y hx=>by
       unfold bm at hx
       cases e4:Nat.beq b x with
       |true=>rw [e4] at hx;simp at hx
       |false=>rw [e4] at hx;exact hx
      refine ⟨⟨(b,none)::σ.m,σ.u⟩,⟨fun x y hx=> ?_,fun _ h=>h⟩,⟨fun x x' y hx hx'=>hσ.inj _ _ _ (hnew _ _ hx) (hnew _ _ hx'),fun x y hx=> ?_,fun x y hx=>hσ.kept _ _ (hnew _ _ hx),hσ.ukept,fun x y hx=>hσ.shut _ _ (hnew _ _ hx),hσ.live⟩,h,fun υ hle η' A' hM=>hfin υ (hle.1 b none (by unfold bm;simp)) η' A' hM⟩
      ·unfold bm
       cases e4:Nat.beq b x with
       |true=>have:=aL e4;subst this;rw [e] at hx;cases hx
       |false=>exact hx
      ·have:=hσ.used x y (hnew _ _ hx)
       rw [fy] at this ⊢
       obtain ⟨p,h3,h4⟩:=this
       exact ⟨p,by simp [h3],h4⟩
   ·exact h.elim
  all_goals exact h.elim
 |ro q l=>
  unfold nV at h
  cases x
  case ro p i=>
   obtain ⟨v,e,hr⟩:=hx
   exact .pure hσ h.2 fun υ η' A' hle hM=>⟨v,e,hr.cast h.1 hM.anon⟩
  case cv v=>
   simp only at h
   split at h
   ·rename_i he;cases he
   ·rename_i he;cases he
    obtain ⟨rfl,h⟩:=h
    obtain ⟨e1,e2⟩:=hx
    exact .pure hσ h fun υ η' A' hle hM=>⟨_,e1,yp q⟩
   all_goals first |exact h.elim|(rename_i he;cases he)
  case rw a=>
   simp only at h
   cases e:H a with
   |none=>rw [e] at h;exact h.elim
   |some c=>
    rw [e] at h
    cases c with
    |blk E i=>exact h.elim
    |row E p i=>
     simp only at h
     obtain ⟨v,e1,e2,_⟩:=hx
     refine (pB hσ (by rw [e];simp) h.2).imp fun υ η' A' hM hA=> ?_
     obtain ⟨v',e3,hr⟩:=sp (hH _ _ e) hA
     rw [e1] at e3;cases e3
     exact ⟨v,e2,hr.cast h.1 fun _ h=>h⟩
  case sub a lo n=>
   simp only at h
   cases e:H a with
   |none=>rw [e] at h;exact h.elim
   |some c=>
    rw [e] at h
    cases c with
    |blk E i=>exact h.elim
    |row E p i=>
     simp only at h
     cases e2:Nat.beq p.n 1 with
     |false=>rw [e2] at h;exact h.elim
     |true=>
      rw [e2] at h
      refine (pB hσ (by rw [e];simp) h.2).imp fun υ η' A' hM hA=> ?_
      obtain ⟨v,e3,hr⟩:=sH (aL e2) (hH _ _ e) hx hA
      exact ⟨v,e3,hr.cast h.1 fun _ h=>h⟩
  all_goals exact h.elim
 |bb l=>
  cases x<;>simp only [nV] at h
  obtain ⟨rfl,h⟩:=h
  refine .pure hσ h fun υ η' A' hle hM=> ?_
  obtain ⟨a,c,h1,h2,h3,h4,h5⟩:=hx
  refine ⟨a,c,h1,h2,h3,h4,fun hn=> ?_⟩
  obtain ⟨g,q,us,e,hA,hr,hlen,hall⟩:=h5 hn
  exact ⟨g,q,us,e,hM.anon g hA,hr,hlen,fun i hi hi'=>eS.cast (k:= .u8) (q:= .u8) (show fN .u8 .u8 l[i] l[i] from rfl) hM.anon (hall i hi hi')⟩
theorem iU {n:Nat} {x:Cl} {l:List Cl} (h:cd n (x::l)=true):x.lt n=true∧cd n l=true:=by
 unfold cd at h
 cases e:x.lt n with
 |false=>rw [e] at h;cases h
 |true=>rw [e] at h;exact ⟨rfl,h⟩
theorem rC (hH:∀b c,H b=some c→c.H η A w b):∀ {l m:List Cl},cd nx m=true→∀ {cs:List Value},aO η A w l cs→∀ {σ:cT},dD H kp σ→∀ {k:cT→Prop},JX H kp l m σ k→f9 H nx kp η A σ k fun η' A'=>aO η' A' w (m.map (Cl.rn nx)) cs
 | [],[],_,_,hc,_,hσ,_,h=> .pure hσ h fun _ _ _ _ _=>hc
 | [],_::_,_,_,_,_,_,_,h=>h.elim
 |_::_,[],_,_,_,_,_,_,h=>h.elim
 |x::r,y::q,hy,_,⟨h1,t,e,hx,hr⟩,_,hσ,_,h=>by
  obtain ⟨hy1,hy2⟩:=iU hy
  refine ((FR hH hy1 hx hσ (show nV H kp x y _ _ from h)).bind fun τ hτ hf=>rC hH hy2 hr hτ hf).imp fun υ η' A' hM hXY=> ?_
  exact ⟨h1,t,e,hXY.1,hXY.2⟩
theorem NW (hH:∀b c,H b=some c→c.H η A w b) {l:List AV} {y:AV} (hy:y.lt nx=true) {v:Value} (hl:bG η A w l v) {σ:cT} (hσ:dD H kp σ) {k:cT→Prop} (h:SB H kp l y σ k):f9 H nx kp η A σ k fun η' A'=>bG η' A' w [y.rn nx] v:=by
 match l,h with
 | [.one x],h=>
  cases y with
  |one y=>exact FR hH hy hl hσ h
  |agg y=>exact h.elim
 | [.agg x],h=>
  cases y with
  |one y=>exact h.elim
  |agg y=>
   obtain ⟨cs,e,hc,h1⟩:=hl
   exact (rC hH hy hc hσ h).imp fun _ _ _ _ hX=>⟨cs,e,hX,h1⟩
 | [],h=>exact h.elim
 | .one _::_::_,h=>exact h.elim
 | .agg _::_::_,h=>exact h.elim
theorem Au (hH:∀b c,H b=some c→c.H η A w b) {sl:Nat→List AV} {val:Nat→Value} (hs:∀t,bG η A w (sl t) (val t)):∀ {I:List (Nat×AV)},vq nx I=true→∀ {σ:cT},dD H kp σ→∀ {k:cT→Prop},NX H kp sl I σ k→
  f9 H nx kp η A σ k fun η' A'=>∀p∈I,bG η' A' w [p.2.rn nx] (val p.1)
 | [],_,_,hσ,_,h=> .pure hσ h fun _ _ _ _ _ _ hp=>(by cases hp)
 |(t,y)::r,hl,_,hσ,_,h=>by
  unfold vq at hl
  cases e:y.lt nx with
  |false=>rw [e] at hl;cases hl
  |true=>
   rw [e] at hl
   refine ((NW hH e (hs t) hσ (show SB H kp (sl t) y _ _ from h)).bind fun τ hτ hf=>Au hH hs hl hτ hf).imp fun υ η' A' hM hXY=> ?_
   intro p hp
   rcases List.mem_cons.1 hp with rfl|hp
   ·exact hXY.1
   ·exact hXY.2 p hp
theorem FT (hH:∀b c,H b=some c→c.H η A w b) {a b:Nat} {y:Ch} (hl:∀E l,y= .blk E l→cd nx l=true) {σ:cT} (hσ:dD H kp σ) {k:cT→Prop} (h:QD H kp (H a) y σ k):
  H a≠none∧f9 H nx kp η A σ k fun η' A'=>(∀v,η a=some v→η' b=some v)→(y.rn nx).H η' A' w b:=by
 cases e:H a with
 |none=>rw [e] at h;cases y<;>exact h.elim
 |some c=>
  refine ⟨by simp,?_⟩
  have hc:=hH a c e
  rw [e] at h
  cases y with
  |blk E l=>
   cases c with
   |row F p i=>exact h.elim
   |blk F i=>
    unfold QD at h
    simp only at h
    cases e2:Nat.beq E F with
    |false=>rw [e2] at h;exact h.elim
    |true=>
     rw [e2] at h
     have:=aL e2
     subst this
     obtain ⟨g,cs,h1,h2,h3,h4⟩:=hc
     exact (rC hH (hl _ _ rfl) h3 hσ h).imp fun υ η' A' hM hX hv=>⟨g,cs,hv _ h1,h2,hX,h4⟩
  |row E q l=>
   cases c with
   |blk F i=>exact h.elim
   |row F p i=>
    unfold QD at h
    simp only at h
    cases e2:Nat.beq E F with
    |false=>rw [e2] at h;exact h.elim
    |true=>
     rw [e2] at h
     have:=aL e2
     subst this
     obtain ⟨v,cs,h1,h2,h3⟩:=hc
     refine .pure hσ h.2 fun υ η' A' hle hM hv=> ?_
     obtain ⟨g1,g2,g3⟩:=jz h.1 h2
     exact ⟨v,cs,hv _ h1,g1,by rw [←g2,←g3];exact h3⟩
def vX (nx:Nat) (H:Nat→Option Ch) (w:World) (υ:cT) (p:Nat×Ch) (η':a8) (A':Nat→Prop):Prop:=
 (p.2.rn nx).H η' A' w (dA nx p.1)∧(cB p.1=false→H p.1≠none)∧(cB p.1=true→∃d,bm υ.m p.1=some d∧∀a,d=some a→H a≠none)
theorem ly (hH:∀b c,H b=some c→c.H η A w b):∀ {I:List (Nat×Ch)},BE nx I=true→∀ {σ:cT},dD H kp σ→∀ {k:cT→Prop},BR H kp I σ k→
  ∃τ,dR σ τ∧dD H kp τ∧k τ∧∀υ,dR τ υ→∀η' A',iG nx kp η A υ η' A'→∀p∈I,vX nx H w υ p η' A'
 | [],_,σ,hσ,_,h=>⟨σ,dR.refl _,hσ,h,fun _ _ _ _ _ _ hp=>(by cases hp)⟩
 |(b,y)::r,hl,σ,hσ,k,h=>by
  have hl2:Nat.blt b nx=true∧(∀E l,y= .blk E l→cd nx l=true)∧BE nx r=true:=by
   unfold BE at hl
   cases e:Nat.blt b nx with
   |false=>rw [e] at hl;cases hl
   |true=>
    rw [e] at hl
    refine ⟨rfl,?_⟩
    cases y with
    |row E q l=>exact ⟨fun _ _ h=>(by cases h),hl⟩
    |blk E l=>
     simp only at hl
     cases e2:cd nx l with
     |false=>rw [e2] at hl;cases hl
     |true=>rw [e2] at hl;exact ⟨fun _ _ h=>(by cases h;exact e2),hl⟩
  obtain ⟨hb1,hb2,hb3⟩:=hl2
  unfold BR at h
  cases hb:cB b with
  |false=>
   rw [hb] at h
   obtain ⟨hne,hok⟩:=FT (nx:=nx) (b:=b) hH hb2 hσ h
   obtain ⟨τ,h1,h2,h3,h4⟩:=hok
   obtain ⟨ρ,g1,g2,g3,g4⟩:=ly hH hb3 h2 h3
   refine ⟨ρ,h1.trans g1,g2,g3,fun υ hle η' A' hM p hp=> ?_⟩
   rcases List.mem_cons.1 hp with rfl|hp
   ·refine ⟨?_,fun _=>hne,fun h=>by simp [hb] at h⟩
    unfold dA;simp only [hb]
    exact h4 υ (g1.trans hle) η' A' hM fun v hv=>hM.old b hb (by simpa using hb1) v hv
   ·exact g4 υ hle η' A' hM p hp
  |true=>
   rw [hb] at h
   simp only at h
   cases e:bm σ.m b with
   |none=>rw [e] at h;exact h.elim
   |some d=>
    rw [e] at h
    cases d with
    |some a=>
     simp only at h
     obtain ⟨hne,hok⟩:=FT (nx:=nx) (b:=nx+b) hH hb2 hσ h
     obtain ⟨τ,h1,h2,h3,h4⟩:=hok
     obtain ⟨ρ,g1,g2,g3,g4⟩:=ly hH hb3 h2 h3
     refine ⟨ρ,h1.trans g1,g2,g3,fun υ hle η' A' hM p hp=> ?_⟩
     rcases List.mem_cons.1 hp with rfl|hp
     ·have hsub:=hle.1 _ _ (g1.1 _ _ (h1.1 _ _ e))
      refine ⟨?_,fun h=>by simp [hb] at h,fun _=>⟨some a,hsub,fun a' ha=>by cases ha;exact hne⟩⟩
      unfold dA;simp only [hb]
      exact h4 υ (g1.trans hle) η' A' hM fun v hv=>by rw [hM.new b a hb hsub];exact hv
     ·exact g4 υ hle η' A' hM p hp
    |none=>
     cases y with
     |blk E l=>exact h.elim
     |row E q l=>
      simp only at h
      obtain ⟨rfl,h⟩:=h
      obtain ⟨ρ,g1,g2,g3,g4⟩:=ly hH hb3 hσ h
      refine ⟨ρ,g1,g2,g3,fun υ hle η' A' hM p hp=> ?_⟩
      rcases List.mem_cons.1 hp with rfl|hp
      ·have hsub:=hle.1 _ _ (g1.1 _ _ e)
       refine ⟨?_,fun h=>by simp [hb] at h,fun _=>⟨none,hsub,fun a' ha=>by cases ha⟩⟩
       unfold dA;simp only [hb]
       exact ⟨_,[],hM.nil b hb hsub,rfl,World.ownsRow_nil w 0 E q.n⟩
      ·exact g4 υ hle η' A' hM p hp
end mt
theorem kT (n:Nat):∀(I:List (Nat×AV)) (l:List (Nat×Nat×List AV)),∃l',(∀ {α:Type} (k:List (Nat×Nat×List AV)→α),kE n I l k=k l')∧∀t,(∃y,(t,y)∈I∧bH l' t= [y.rn n])∨bH l' t=bH l t
 | [],l=>⟨l,fun _=>rfl,fun _=> .inr rfl⟩
 |(u,a)::r,l=>by
  obtain ⟨l1,h1,e1⟩:=il u n [a.rn n] l
  obtain ⟨l2,h2,e2⟩:=kT n r l1
  refine ⟨l2,fun k=>by simp only [kE,JA,h1,h2],fun t=> ?_⟩
  rcases e2 t with ⟨y,h3,h4⟩|h3
  ·exact .inl ⟨y,by simp [h3],h4⟩
  ·rw [h3,e1]
   by_cases h:u=t
   ·subst h;exact .inl ⟨a,by simp,by simp⟩
   ·exact .inr (by simp [h])
theorem nz (n:Nat):∀(I:List (Nat×Ch)) (l:List (Nat×Nat×Ch)),∃l',(∀ {α:Type} (k:List (Nat×Nat×Ch)→α),pr n I l k=k l')∧
  (∀b c,aI l' b=some c→(∃p∈I,b=dA n p.1∧c=p.2.rn n)∨(aI l b=some c∧∀p∈I,dA n p.1≠b))∧(∀b,aI l b≠none→aI l' b≠none)∧iy n l l'
 | [],l=>⟨l,fun _=>rfl,fun b c h=> .inr ⟨h,fun _ h=>(by cases h)⟩,fun _ h=>h,iy.refl _ _⟩
 |(u,a)::r,l=>by
  obtain ⟨l1,h1,e1⟩:=fo (dA n u) n (a.rn n) l
  obtain ⟨l2,h2,e2,e3,e4⟩:=nz n r l1
  refine ⟨l2,fun k=>by simp only [pr,Jy,bE,h1,h2],fun b c h=> ?_,fun b hb=>e3 b ?_,(ny _ _ _ _ _ h1).trans (Nat.le_refl _) e4⟩
  ·rcases e2 b c h with ⟨p,h3,h4⟩|⟨h3,h4⟩
   ·exact .inl ⟨p,by simp [h3],h4⟩
   ·rw [e1] at h3
    simp only at h3
    by_cases hb:b=dA n u
    ·rw [if_pos hb] at h3
     exact .inl ⟨(u,a),by simp,hb,by cases h3;rfl⟩
    ·rw [if_neg hb] at h3
     refine .inr ⟨h3,fun p hp=> ?_⟩
     rcases List.mem_cons.1 hp with rfl|hp
     ·exact fun e=>hb e.symm
     ·exact h4 p hp
  ·rw [e1];simp only;split
   ·simp
   ·exact hb
theorem fi {α:Type} (b:Nat):∀l:List (Nat×α),cH b l=true↔∃p∈l,p.1=b
 | []=>by simp [cH]
 |(c,x)::r=>by
  cases e:Nat.beq c b with
  |true=>
   have e1:cH b ((c,x)::r)=true:=by simp only [cH,e]
   rw [e1];exact ⟨fun _=>⟨(c,x),.head _,aL e⟩,fun _=>rfl⟩
  |false=>
   have e1:cH b ((c,x)::r)=cH b r:=by simp only [cH,e]
   have hne:=Nat.ne_of_beq_eq_false e
   rw [e1,fi b r]
   constructor
   ·rintro ⟨p,h1,h2⟩;exact ⟨p,.tail _ h1,h2⟩
   ·rintro ⟨p,h1,h2⟩
    rcases List.mem_cons.1 h1 with h1|h1
    ·subst h1;exact absurd h2 hne
    ·exact ⟨p,h1,h2⟩
theorem jB {b:Nat}:∀ {l:List (Nat×Nat×Ch)} {c:Ch},aI l b=some c→cH b l=true
 | [],_,h=>by cases h
 |(u,v,x)::r,c,h=>by
  unfold aI at h
  unfold cH
  cases e:Nat.beq u b with
  |true=>rfl
  |false=>rw [e] at h;exact jB h
section
variable {n:Nat} {η η':a8} {A A':Nat→Prop} {w:World}
theorem jl.names (he:∀b,b<n→η' b=η b) (hA:∀g,A g→A' g):∀ {l:List FC} {vs:List Value},qC n l=true→jl η A w l vs→jl η' A' w l vs
 | [],_,_,h=>h
 |x::r,vs,hx,⟨v,t,e,h1,h2⟩=>by
  cases x with
  |p b q=>
   unfold qC at hx
   split at hx
   ·rename_i hb
    obtain ⟨g,g1,g2⟩:=h1
    exact ⟨v,t,e,⟨g,by rw [he b (by simpa using hb)];exact g1,g2⟩,jl.names he hA hx h2⟩
   ·cases hx
  |ob k z=>exact ⟨v,t,e,h1,jl.names he hA hx h2⟩
  |r l=>exact ⟨v,t,e,eS.cast (k:= .u8) (q:= .u8) (show fN .u8 .u8 _ _ from rfl) hA h1,jl.names he hA hx h2⟩
theorem Cl.H.names (he:∀b,b<n→η' b=η b) (hA:∀g,A g→A' g) {x:Cl} (hx:x.lt n=true) {cs:List Value} (h:x.H η A w cs):x.H η' A' w cs:=by
 cases x
 case any=>exact h
 case un=>exact h
 case cv=>exact h
 case ob=>exact h
 case vec=>exact h
 case ptr b j=>
  obtain ⟨g,h1,h2⟩:=h
  exact ⟨g,by rw [he b (by simpa [Cl.lt] using hx)];exact h1,h2⟩
 case pix b j i=>
  obtain ⟨g,h1,h2⟩:=h
  exact ⟨g,by unfold bg at *;rw [he b (by simpa [Cl.lt] using hx)];exact h1,h2⟩
 case pro k x=>
  obtain ⟨g,q,us,h1,h2,h3⟩:=h
  exact ⟨g,q,us,h1,hA g h2,h3⟩
 case sl b j m c=>
  obtain ⟨hn,g,h1,h2⟩:=h
  exact ⟨hn,g,by rw [he b (by simpa [Cl.lt] using hx)];exact h1,h2⟩
 case rw b=>
  obtain ⟨v,h1,h2⟩:=h
  exact ⟨v,by rw [he b (by simpa [Cl.lt] using hx)];exact h1,h2⟩
 case sub b j m=>
  obtain ⟨v,a,c,h1,h2⟩:=h
  exact ⟨v,a,c,by rw [he b (by simpa [Cl.lt] using hx)];exact h1,h2⟩
 case ro k l=>
  obtain ⟨v,h1,a,c,g1,g2,g3,g4,g5⟩:=h
  exact ⟨v,h1,a,c,g1,g2,g3,g4,fun hn=>by obtain ⟨g,q,cs,e1,e2,e3⟩:=g5 hn;exact ⟨g,q,cs,e1,hA g e2,e3⟩⟩
 case fv f l m=>
  obtain ⟨us,vs,e,h1,h2⟩:=h
  simp only [Cl.lt] at hx
  split at hx
  ·rename_i hl
   exact ⟨us,vs,e,h1.names he hA hl,h2.names he hA hx⟩
  ·cases hx
 case bb l=>
  obtain ⟨a,c,h1,h2,h3,h4,h5⟩:=h
  refine ⟨a,c,h1,h2,h3,h4,fun hn=> ?_⟩
  obtain ⟨g,q,us,e,e2,hr,hlen,hall⟩:=h5 hn
  exact ⟨g,q,us,e,hA g e2,hr,hlen,fun i hi hi'=>eS.cast (k:= .u8) (q:= .u8) (show fN .u8 .u8 l[i] l[i] from rfl) hA (hall i hi hi')⟩
 case pbb l=>
  obtain ⟨g,q,v,h1,h2,h3,h4⟩:=h
  exact ⟨g,q,v,h1,hA g h2,h3,eS.cast (k:= .u8) (q:= .u8) (show fN .u8 .u8 l l from rfl) hA h4⟩
 case ln=>exact h
 case mp v f=>exact ⟨h.1,h.2.mono hA⟩
 case rv v l=>exact ⟨h.1,eS.cast (k:= .u8) (q:= .u8) (show fN .u8 .u8 l l from rfl) hA h.2⟩
theorem aO.names (he:∀b,b<n→η' b=η b) (hA:∀g,A g→A' g):∀ {l:List Cl},cd n l=true→∀ {cs:List Value},aO η A w l cs→aO η' A' w l cs
 | [],_,_,h=>h
 |_::_,hl,_,⟨h,t,e,hx,hr⟩=>by
  obtain ⟨h1,h2⟩:=iU hl
  exact ⟨h,t,e,hx.names he hA h1,hr.names he hA h2⟩
theorem lT {x:AV} {l:List AV} (h:fa n (x::l)=true):x.lt n=true∧fa n l=true:=by
 cases x with
 |one x=>
  unfold fa at h
  cases e:x.lt n with
  |false=>rw [e] at h;cases h
  |true=>rw [e] at h;exact ⟨e,h⟩
 |agg q=>
  unfold fa at h
  cases e:cd n q with
  |false=>rw [e] at h;cases h
  |true=>rw [e] at h;exact ⟨e,h⟩
theorem AV.H.names (he:∀b,b<n→η' b=η b) (hA:∀g,A g→A' g) {x:AV} (hx:x.lt n=true) {v:Value} (h:x.H η A w v):x.H η' A' w v:=by
 cases x with
 |one x=>exact Cl.H.names he hA hx h
 |agg l=>obtain ⟨cs,e,h,h1⟩:=h;exact ⟨cs,e,h.names he hA hx,h1⟩
theorem bp.names (he:∀b,b<n→η' b=η b) (hA:∀g,A g→A' g):∀ {l:List AV},fa n l=true→∀ {vs:List Value},bp η A w l vs→bp η' A' w l vs
 | [],_,_,h=>h
 |_::_,hl,_,⟨v,t,e,hx,hr⟩=>by
  obtain ⟨h1,h2⟩:=lT hl
  exact ⟨v,t,e,hx.names he hA h1,hr.names he hA h2⟩
theorem bG.names (he:∀b,b<n→η' b=η b) (hA:∀g,A g→A' g):∀ {l:List AV},fa n l=true→∀ {v:Value},bG η A w l v→bG η' A' w l v
 | [],_,_,_=>trivial
 | [_],hl,_,h=>AV.H.names he hA (lT hl).1 h
 |_::_::_,hl,_,⟨vs,e,h⟩=>⟨vs,e,h.names he hA hl⟩
theorem vt:∀ {l:List (Nat×Nat×List AV)},vr n l=true→∀t,fa n (bH l t)=true
 | [],_,_=>rfl
 |(u,v,a)::r,h,t=>by
  unfold vr at h
  cases e:fa n a with
  |false=>rw [e] at h;cases h
  |true=>
   rw [e] at h
   unfold bH
   cases e2:Nat.beq u t with
   |true=>exact e
   |false=>exact vt h t
theorem gx:∀ {l:List (Nat×Nat×Ch)},mO n l=true→∀ {b:Nat} {c:Ch},aI l b=some c→b<n∧(∀E q,c= .blk E q→cd n q=true)∧0<bx l b∧bx l b<n∧cB b=false
 | [],_,_,_,h=>by cases h
 |(u,v,a)::r,h,b,c,hb=>by
  unfold mO at h
  cases e1:Nat.blt u n<;>cases e2:Nat.blt v n<;>cases e3:Nat.blt 0 v<;>cases e6:cB u<;>rw [e1,e2,e3,e6] at h<;>first |(cases h;done)|skip
  simp only at h
  have hr:mO n r=true∧∀E q,a= .blk E q→cd n q=true:=by
   cases a with
   |row E k l=>exact ⟨h,fun _ _ h=>(by cases h)⟩
   |blk E l=>
    simp only at h
    cases e4:cd n l with
    |false=>rw [e4] at h;cases h
    |true=>rw [e4] at h;exact ⟨h,fun _ _ h=>(by cases h;exact e4)⟩
  unfold aI at hb
  unfold bx
  cases e5:Nat.beq u b with
  |true=>
   rw [e5] at hb
   simp only [Option.some.injEq] at hb
   subst hb
   have:=aL e5
   subst this
   exact ⟨by simpa using e1,hr.2,by simpa using e3,by simpa using e2,e6⟩
  |false=>rw [e5] at hb;exact gx hr.1 hb
theorem Ch.H.names (he:∀b,b<n→η' b=η b) (hA:∀g,A g→A' g) {b:Nat} (hb:b<n) {c:Ch} (hc:∀E q,c= .blk E q→cd n q=true) (h:c.H η A w b):c.H η' A' w b:=by
 cases c with
 |blk E l=>obtain ⟨g,cs,h1,h2,h3,h4⟩:=h;exact ⟨g,cs,by rw [he b hb];exact h1,h2,h3.names he hA (hc _ _ rfl),h4⟩
 |row E k l=>obtain ⟨v,cs,h1,h2⟩:=h;exact ⟨v,cs,by rw [he b hb];exact h1,h2⟩
end
theorem eL {b:Nat} (h:cB b=true):b<1000:=by simpa [cB] using h
def b6 (nx:Nat) (τ:cT) (η:a8):a8:=fun b=>if b<nx then η b else if b<nx+1000 then (match bm τ.m (b-nx) with |some (some a)=>η a|some none=>some (.slice none 0 0)|none=>none) else none
theorem cW {nx:Nat} {τ:cT} {η:a8} {b:Nat} (h:b<nx):b6 nx τ η b=η b:=by simp [b6,h]
theorem cA {nx:Nat} {τ:cT} {η:a8} {b:Nat} (h:b<1000):b6 nx τ η (nx+b)=(match bm τ.m b with |some (some a)=>η a|some none=>some (.slice none 0 0)|none=>none):=by
 unfold b6
 rw [if_neg (by omega),if_pos (by omega),show nx+b-nx=b by omega]
theorem SV {S':AS} {N nx:Nat} {η:a8} {a:Act} {w:World} (hS:eG (bH S'.sl) (aI S'.hp) N η a w) {sl0:List (Nat×Nat×List AV)} {hp0:List (Nat×Nat×Ch)} {I:Inv} {kp:Nat→Bool} {τ:cT} (hnx:1000≤nx)
  (hI:∀η' A',iG nx kp η (ay (aI S'.hp) η) τ η' A'→(∀p∈I.sl,bG η' A' w [p.2.rn nx] (a.tmps.getD p.1 undef))∧∀p∈I.hp,vX nx (aI S'.hp) w τ p η' A') (hτ:dD (aI S'.hp) kp τ) (hIl:∀p∈I.hp,p.1<nx)
  (hd:∀b c,bm τ.m b=some (some c)→cH c hp0=false∧cH c I.hp=false) (hu:∀c,bh c τ.u=true→cH c hp0=false∧cH c I.hp=false)
  (h1:∀t,bH sl0 t= []∨bH S'.sl t=bH sl0 t) (h2:vr nx sl0=true) (h3:mO nx hp0=true) (h4:∀b c,aI hp0 b=some c→cH b I.hp=true∨aI S'.hp b=some c)
  {sl1:List (Nat×Nat×List AV)} {hp1:List (Nat×Nat×Ch)} (e1:∀t,(∃y,(t,y)∈I.sl∧bH sl1 t= [y.rn nx])∨bH sl1 t=bH sl0 t)
  (e2:∀b c,aI hp1 b=some c→(∃p∈I.hp,b=dA nx p.1∧c=p.2.rn nx)∨(aI hp0 b=some c∧∀p∈I.hp,dA nx p.1≠b)):
  eG (bH sl1) (aI hp1) N (b6 nx τ η) a w∧∀g,ay (aI S'.hp) η g→ay (aI hp1) (b6 nx τ η) g:=by
 have hold:∀b,b<nx→b6 nx τ η b=η b:=fun b hb=>cW hb
 have hM0:∀A':Nat→Prop,(∀g,ay (aI S'.hp) η g→A' g)→(∀a g,bh a τ.u=true→bg η a=some g→A' g)→iG nx kp η (ay (aI S'.hp) η) τ (b6 nx τ η) A':=fun A' hA hsh=>
  ⟨fun b _ hlt v hv=>by rw [hold b hlt];exact hv,fun b c hb hs=>by rw [cA (eL hb),hs],fun b hb hs=>by rw [cA (eL hb),hs],hA,hsh⟩
 have hX:=hI _ _ (hM0 (fun _=>True) (fun _ _=>trivial) (fun _ _ _ _=>trivial))
 have h5:∀b c,aI hp0 b=some c→aI S'.hp b≠none:=fun b c hb=>by
  rcases h4 b c hb with h6|h6
  ·rw [fi] at h6
   obtain ⟨p,hp,rfl⟩:=h6
   exact (hX.2 p hp).2.1 (gx h3 hb).2.2.2.2
  ·rw [h6];simp
 have href:∀b c,aI hp1 b=some c→bg (b6 nx τ η) b=none∨∃r,aI S'.hp r≠none∧bg (b6 nx τ η) b=bg η r∧((∃q,cB q=true∧b=nx+q∧bm τ.m q=some (some r))∨(r=b∧(cH b hp0=true∨cH b I.hp=true))):=fun b c hb=>by
  rcases e2 b c hb with ⟨p,hp,rfl,rfl⟩|⟨hb,_⟩
  ·obtain ⟨_,g1,g2⟩:=hX.2 p hp
   cases hbn:cB p.1 with
   |true=>
    obtain ⟨d,hd1,hd2⟩:=g2 hbn
    have er:dA nx p.1=nx+p.1:=by unfold dA;rw [hbn]
    rw [er]
    have eh:=cA (nx:=nx) (τ:=τ) (η:=η) (eL hbn)
    rw [hd1] at eh
    cases d with
    |none=>left;unfold bg;rw [eh];rfl
    |some r=>right;exact ⟨r,hd2 r rfl,by unfold bg;rw [eh],.inl ⟨p.1,hbn,rfl,hd1⟩⟩
   |false=>
    have er:dA nx p.1=p.1:=by unfold dA;rw [hbn]
    rw [er]
    exact .inr ⟨p.1,g1 hbn,by unfold bg;rw [hold _ (hIl p hp)],.inr ⟨rfl,.inr (by rw [fi];exact ⟨p,hp,rfl⟩)⟩⟩
  ·exact .inr ⟨b,h5 b c hb,by unfold bg;rw [hold b (gx h3 hb).1],.inr ⟨rfl,.inl (jB hb)⟩⟩
 have hanon:∀g,ay (aI S'.hp) η g→ay (aI hp1) (b6 nx τ η) g:=fun g hg b hb=>by
  cases e:aI hp1 b with
  |none=>exact absurd e hb
  |some c=>
   rcases href b c e with h|⟨r,hr,e3,_⟩
   ·rw [h];simp
   ·rw [e3];exact hg r hr
 have hshare:∀a g,bh a τ.u=true→bg η a=some g→ay (aI hp1) (b6 nx τ η) g:=fun x g hx hg b hb=>by
  cases e:aI hp1 b with
  |none=>exact absurd e hb
  |some c=>
   rcases href b c e with h|⟨r,hr,e3,h⟩
   ·rw [h];simp
   ·rw [e3]
    have hne:x≠r:=by
     rintro rfl
     rcases h with ⟨q,_,_,hq⟩|⟨rfl,hk|hk⟩
     ·rw [hτ.shut q x hq] at hx;cases hx
     ·rw [(hu x hx).1] at hk;cases hk
     ·rw [(hu x hx).2] at hk;cases hk
    exact hS.apart x r g hne (hτ.live x hx) hr hg
 have hY:=hI _ _ (hM0 _ hanon hshare)
 refine ⟨⟨hS.df,hS.sz,fun t=> ?_,fun b c hb=> ?_,fun b b' g hne hb hb' hg=> ?_⟩,hanon⟩
 ·rcases e1 t with ⟨y,h6,h7⟩|h6
  ·rw [h7];exact hY.1 (t,y) h6
  ·rw [h6]
   rcases h1 t with h7|h7
   ·rw [h7];trivial
   ·have:=hS.slot t
    rw [h7] at this
    exact this.names hold hanon (vt h2 t)
 ·rcases e2 b c hb with ⟨p,hp,rfl,rfl⟩|⟨hb,hn⟩
  ·exact (hY.2 p hp).1
  ·obtain ⟨g1,g2,_,_,g5⟩:=gx h3 hb
   rcases h4 b c hb with h6|h6
   ·rw [fi] at h6
    obtain ⟨p,hp,rfl⟩:=h6
    exact absurd (by unfold dA;rw [g5]) (hn p hp)
   ·exact (hS.chunk b c h6).names hold hanon g1 g2
 ·cases e:aI hp1 b with
  |none=>exact absurd e hb
  |some c=>
   cases e':aI hp1 b' with
   |none=>exact absurd e' hb'
   |some c'=>
    rcases href b c e with h|⟨r,hr,e3,h⟩
    ·rw [h] at hg;cases hg
    ·rcases href b' c' e' with h'|⟨r',hr',e3',h'⟩
     ·rw [h'];simp
     ·rw [e3']
      rw [e3] at hg
      refine hS.apart r r' g ?_ hr hr' hg
      rintro rfl
      rcases h with ⟨q,hq,rfl,hs⟩|⟨rfl,hk⟩
      ·rcases h' with ⟨q',hq',rfl,hs'⟩|⟨rfl,hk'⟩
       ·exact hne (by rw [hτ.inj q q' r hs hs'])
       ·obtain ⟨d1,d2⟩:=hd q r hs
        rcases hk' with hk'|hk'
        ·rw [d1] at hk';cases hk'
        ·rw [d2] at hk';cases hk'
      ·rcases h' with ⟨q',hq',rfl,hs'⟩|⟨h9,hk'⟩
       ·obtain ⟨d1,d2⟩:=hd q' r hs'
        rcases hk with hk|hk
        ·rw [d1] at hk;cases hk
        ·rw [d2] at hk;cases hk
       ·exact hne h9
section
variable {sl:Nat→List AV} {hp:Nat→Option Ch}
theorem fx {α:Type} {t:Nat} {k:List AV→R α} {ds:List Bool} {a:α} {rd:List cz} {qs:List (Bool×Bool)} (h:(R.slot t k).run sl hp ds= .ok a rd qs):∃rd',(k (sl t)).run sl hp ds= .ok a rd' qs:=by
 unfold R.run at h
 cases e:(k (sl t)).run sl hp ds with
 |ok a' r' q'=>rw [e] at h;simp only [RR.rd,RR.ok.injEq] at h;obtain ⟨rfl,_,rfl⟩:=h;exact ⟨r',rfl⟩
 |need p=>rw [e] at h;cases h
 |fail=>rw [e] at h;cases h
theorem bl {α:Type} {b:Nat} {k:Option Ch→R α} {ds:List Bool} {a:α} {rd:List cz} {qs:List (Bool×Bool)} (h:(R.hp b k).run sl hp ds= .ok a rd qs):∃rd',(k (hp b)).run sl hp ds= .ok a rd' qs:=by
 unfold R.run at h
 cases e:(k (hp b)).run sl hp ds with
 |ok a' r' q'=>rw [e] at h;simp only [RR.rd,RR.ok.injEq] at h;obtain ⟨rfl,_,rfl⟩:=h;exact ⟨r',rfl⟩
 |need p=>rw [e] at h;cases h
 |fail=>rw [e] at h;cases h
theorem AU {α:Type} {p:Bool} {k:Bool→R α} {ds:List Bool} {a:α} {rd:List cz} {qs:List (Bool×Bool)} (h:(R.dec p k).run sl hp ds= .ok a rd qs):∃d ds' qs',qs=(p,d)::qs'∧(k d).run sl hp ds'= .ok a rd qs':=by
 cases ds with
 |nil=>cases h
 |cons d ds=>
  unfold R.run at h
  cases e:(k d).run sl hp ds with
  |ok a' r' q'=>rw [e] at h;simp only [RR.asm,RR.ok.injEq] at h;obtain ⟨rfl,rfl,rfl⟩:=h;exact ⟨d,ds,q',rfl,e⟩
  |need p=>rw [e] at h;cases h
  |fail=>rw [e] at h;cases h
theorem wA {v:Value} {x:Cl} (h:tE v=some x) {η:a8} {A:Nat→Prop} {w:World}:x.H η A w [v]∧v.oneCell'=true:=by
 unfold tE at h
 cases v
 case int k z=>
  cases k<;>simp only at h<;>first |(cases h;done)|skip
  ·cases h;exact ⟨⟨rfl,rfl⟩,rfl⟩
  all_goals
   cases z with
   |negSucc _=>cases h
   |ofNat n=>
    simp only at h
    split at h
    ·rename_i hn
     simp only [Nat.blt_eq] at hn
     cases h
     refine ⟨?_,rfl⟩
     simp only [Cl.H,Kd.rp,uY,UInt8.toNat_ofNat',UInt16.toNat_ofNat',UInt32.toNat_ofNat',UInt64.toNat_ofNat']
     rw [Nat.mod_eq_of_lt hn];rfl
    ·cases h
 case bool b=>cases h;exact ⟨⟨rfl,rfl⟩,rfl⟩
 case string s=>cases h;exact ⟨rfl,rfl⟩
 case pointer a=>cases a<;>simp only at h<;>cases h;exact ⟨⟨rfl,rfl⟩,rfl⟩
 case slice a n c=>
  split at h<;>first |(cases h;done)|skip
  all_goals first |(cases h;exact ⟨⟨rfl,rfl⟩,rfl⟩)|(rename_i he;cases he;done)|(rename_i he;cases he;cases h;exact ⟨⟨rfl,rfl⟩,rfl⟩)
 case map r=>cases r<;>simp only at h<;>cases h;exact ⟨⟨rfl,rfl⟩,rfl⟩
 case nilFunc=>cases h;exact ⟨⟨rfl,rfl⟩,rfl⟩
 all_goals cases h
theorem qn {η:a8} {A:Nat→Prop} {w:World}:∀ {vs:List Value} {l:List Cl},mb vs=some l→aO η A w l vs∧∀v∈vs,v.oneCell'=true
 | [],l,h=>by cases h;exact ⟨rfl,fun _ h=>(by cases h)⟩
 |v::r,l,h=>by
  unfold mb at h
  cases e:tE v with
  |none=>rw [e] at h;cases h
  |some x=>
   rw [e] at h
   simp only at h
   cases e2:mb r with
   |none=>rw [e2] at h;cases h
   |some l'=>
    rw [e2] at h;cases h
    obtain ⟨g1,g2⟩:=qn (η:=η) (A:=A) (w:=w) e2
    refine ⟨⟨[v],r,rfl,(wA e).1,g1⟩,fun u hu=> ?_⟩
    rcases List.mem_cons.1 hu with rfl|hu
    ·exact (wA (η:=η) (A:=A) (w:=w) e).2
    ·exact g2 u hu
theorem bf {α:Type} {x:Operand} {k:AV→R α} {ds:List Bool} {r:α} {rd:List cz} {qs:List (Bool×Bool)} (h:(db x k).run sl hp ds= .ok r rd qs) {η:a8} {A:Nat→Prop} {w:World} {a:Act} (hs:∀t,bG η A w (sl t) (a.tmps.getD t undef)):
  ∃av rd',(k av).run sl hp ds= .ok r rd' qs∧av.H η A w (a.eval x):=by
 cases x with
 |tmp t=>
  obtain ⟨rd',h⟩:=fx (show (R.slot t _).run sl hp ds=_ from h)
  have h1:=hs t
  split at h
  ·rename_i av e
   rw [e] at h1
   exact ⟨av,rd',h,h1⟩
  ·cases h
 |const v=>
  unfold db at h
  simp only at h
  split at h
  ·rename_i cs
   split at h
   ·rename_i l e
    exact ⟨_,rd,h,cs.toList,by simp [Act.eval],(qn e).1,(qn (η:=η) (A:=A) (w:=w) e).2⟩
   ·cases h
  ·split at h
   ·rename_i a e
    exact ⟨_,rd,h,(wA e).1⟩
   ·cases h
 |global g=>cases h
 |func f=>exact ⟨_,rd,h,[],[],rfl,rfl,rfl⟩
end
section
variable {ty:Nat→TE} {ct:Nat→Option CF} {N:Nat}
theorem gT (hm:Tryz.prog.follows .mixedOrders=true) (hO:aq ty ct) {id:Nat} {ops:Array Oper} {dr:Bool} {S:AS} {K:KK}:∀(m:Nat) (ds:List (Nat×Bool)),
  vH ty ct N (.region id ops dr) ops.toList dr S K m ds→DX N (.region id ops dr) S K
 |0,_,h=>h
 |m+1,ds,h=>by
  unfold vH at h
  rw [Jw] at h
  cases e:cL ty ct ops.toList ds 0 ops.toList S.sl S.hp S.nx with
  |fail=>rw [e] at h;exact h
  |need i p=>
   rw [e] at h
   cases p with
   |true=>exact gT hm hO m _ (h.1 rfl)
   |false=>exact gT hm hO m _ (h.2 rfl)
  |ok rs S'=>
   rw [e] at h
   simp only at h
   split at h
   ·rename_i h1 h2 h3
    exact Cf hm hO e (fun hd=>by subst hd;exact h1) h2 h3 h
   ·exact h
theorem me (w:List Nat):∀l:List (Nat×Nat×List AV),∃l',(∀ {α:Type} (k:List (Nat×Nat×List AV)→α),oR w l k=k l')∧∀t,bH l' t=if bh t w=true then [] else bH l t
 | []=>⟨[],fun _=>rfl,fun t=>by simp [bH]⟩
 |(u,v,a)::r=>by
  obtain ⟨l',h1,h2⟩:=me w r
  cases e:bh u w with
  |true=>
   refine ⟨l',fun k=>by simp only [oR,e];exact h1 k,fun t=> ?_⟩
   rw [h2 t];simp only [bH]
   cases e2:Nat.beq u t with
   |true=>have:=aL e2;subst this;simp [e]
   |false=>rfl
  |false=>
   refine ⟨(u,v,a)::l',fun k=>by simp only [oR,e];exact h1 _,fun t=> ?_⟩
   simp only [bH]
   cases e2:Nat.beq u t with
   |true=>have:=aL e2;subst this;simp [e]
   |false=>exact h2 t
theorem mc (σ:cT):∀l:List (Nat×Nat×Ch),∃l',(∀ {α:Type} (k:List (Nat×Nat×Ch)→α),kM σ l k=k l')∧(∀b c,aI l' b=some c→aI l b=some c∧bx l' b=bx l b)∧∀b,cH b l'=true→cS σ.m b=false∧bh b σ.u=false
 | []=>⟨[],fun _=>rfl,fun _ _ h=>(by cases h),fun _ h=>(by cases h)⟩
 |(u,v,a)::r=>by
  obtain ⟨l',h1,h2,h3⟩:=mc σ r
  have hskip:cS σ.m u=true∨bh u σ.u=true→(∀b c,aI l' b=some c→aI ((u,v,a)::r) b=some c∧bx l' b=bx ((u,v,a)::r) b):=fun hu b c hb=>by
   have hk:=h3 b (jB hb)
   have hne:Nat.beq u b=false:=by
    cases e:Nat.beq u b with
    |false=>rfl
    |true=>
     have:=aL e;subst this
     rcases hu with hu|hu
     ·rw [hk.1] at hu;cases hu
     ·rw [hk.2] at hu;cases hu
   simp only [aI,bx,hne]
   exact h2 b c hb
  cases e:cS σ.m u with
  |true=>exact ⟨l',fun k=>by simp only [kM,e];exact h1 k,hskip (.inl e),h3⟩
  |false=>
   cases e2:bh u σ.u with
   |true=>exact ⟨l',fun k=>by simp only [kM,e,e2];exact h1 k,hskip (.inr e2),h3⟩
   |false=>
    refine ⟨(u,v,a)::l',fun k=>by simp only [kM,e,e2];exact h1 _,fun b c hb=> ?_,fun b hb=> ?_⟩
    ·simp only [aI,bx] at hb ⊢
     cases e3:Nat.beq u b with
     |true=>rw [e3] at hb;exact ⟨hb,rfl⟩
     |false=>rw [e3] at hb;exact h2 b c hb
    ·simp only [cH] at hb
     cases e3:Nat.beq u b with
     |true=>have:=aL e3;subst this;exact ⟨e,e2⟩
     |false=>rw [e3] at hb;exact h3 b hb
theorem gH {I:List (Nat×Ch)} {hp:List (Nat×Nat×Ch)}:∀ {l:List (Nat×Nat×Ch)} {k:Prop},gG I hp l k→(∀b c,aI l b=some c→cH b I=true∨bx hp b=bx l b)∧k
 | [],k,h=>⟨fun _ _ h=>(by cases h),h⟩
 |(u,v,a)::r,k,h=>by
  unfold gG at h
  have hh:(cH u I=true∨bx hp u=v)∧gG I hp r k:=by
   cases e:cH u I with
   |true=>rw [e] at h;exact ⟨.inl rfl,h⟩
   |false=>
    rw [e] at h
    simp only at h
    cases e2:Nat.beq (bx hp u) v with
    |true=>rw [e2] at h;exact ⟨.inr (aL e2),h⟩
    |false=>rw [e2] at h;exact h.elim
  obtain ⟨h1,h2⟩:=gH hh.2
  refine ⟨fun b c hb=> ?_,h2⟩
  simp only [aI,bx] at hb ⊢
  cases e3:Nat.beq u b with
  |true=>have:=aL e3;subst this;exact hh.1
  |false=>rw [e3] at hb;exact h1 b c hb
theorem Ab {n:Nat}:∀ {I:List (Nat×Ch)},BE n I=true→∀p∈I,p.1<n
 | [],_,_,hp=>by cases hp
 |(b,c)::r,h,p,hp=>by
  unfold BE at h
  cases e:Nat.blt b n with
  |false=>rw [e] at h;cases h
  |true=>
   rw [e] at h
   have hr:BE n r=true:=by
    cases c with
    |row E k l=>exact h
    |blk E l=>
     simp only at h
     cases e2:cd n l with
     |false=>rw [e2] at h;cases h
     |true=>rw [e2] at h;exact h
   rcases List.mem_cons.1 hp with rfl|hp
   ·simpa using e
   ·exact Ab hr p hp
theorem jD {S:AS} {nx:Nat} {η:a8} {a:Act} {w:World} (hS:eG (bH S.sl) (aI S.hp) N η a w) {I:Inv} {hp0:List (Nat×Nat×Ch)} {W:List Nat} {k:cT→Prop} (h:gF S nx W I hp0 k):
  ∃τ,dD (aI S.hp) (iB I.hp hp0) τ∧k τ∧(∀p∈I.hp,p.1<nx)∧i6 W I.sl=true∧∀η' A',iG nx (iB I.hp hp0) η (ay (aI S.hp) η) τ η' A'→(∀p∈I.sl,bG η' A' w [p.2.rn nx] (a.tmps.getD p.1 undef))∧∀p∈I.hp,vX nx (aI S.hp) w τ p η' A':=by
 unfold gF at h
 cases e1:vq nx I.sl with
 |false=>rw [e1] at h;exact h.elim
 |true=>
  cases e2:BE nx I.hp with
  |false=>rw [e1,e2] at h;exact h.elim
  |true=>
   cases e3:i6 W I.sl with
   |false=>rw [e1,e2,e3] at h;exact h.elim
   |true=>
   rw [e1,e2,e3] at h
   obtain ⟨τ1,g1,g2,g3,g4⟩:=Au (nx:=nx) hS.chunk hS.slot e1 (dD.nil _ _) h
   obtain ⟨τ,h1,h2,h3,h4⟩:=ly hS.chunk e2 g2 g3
   exact ⟨τ,h2,h3,Ab e2,rfl,fun η' A' hM=>⟨g4 τ h1 η' A' hM,h4 τ (dR.refl _) η' A' hM⟩⟩
end
section
variable {ty:Nat→TE} {ct:Nat→Option CF} {N:Nat}
theorem mW {w:List Nat}:∀ {I:List (Nat×AV)},i6 w I=true→∀ {t:Nat} {y:AV},(t,y)∈I→bh t w=true
 | [],_,_,_,h=>by cases h
 |(u,a)::r,h,t,y,hm=>by
  unfold i6 at h
  cases e:bh u w with
  |false=>rw [e] at h;cases h
  |true=>
   rw [e] at h
   rcases List.mem_cons.1 hm with h1|h1
   ·cases h1;exact e
   ·exact mW h h1
theorem pJ {b:Nat}:∀ {l:List (Nat×Nat×Ch)},aI l b=none→bx l b=0
 | [],_=>rfl
 |(u,v,a)::r,h=>by
  unfold aI at h
  unfold bx
  cases e:Nat.beq u b with
  |true=>rw [e] at h;cases h
  |false=>rw [e] at h;exact pJ h
theorem dj {I:List (Nat×Ch)} {hp:List (Nat×Nat×Ch)} {b:Nat} (h:iB I hp b=false):cH b I=false∧cH b hp=false:=by
 unfold iB at h
 cases e:cH b I with
 |true=>rw [e] at h;cases h
 |false=>rw [e] at h;exact ⟨rfl,h⟩
theorem yd {c:Code} (ih:∀S K,vc ty ct N c S K→DX N c S K) {S:AS} {K:KK} (h:Hi (cJ c) S (vc ty ct N c) K):DX N (.loop c) S K:=by
 intro η a w ⟨hS,hfree⟩
 obtain ⟨ι,I,μ,i0,h⟩:=h
 obtain ⟨τ0,hτ0,h,hIl0,hk0,hX0⟩:=jD hS h
 obtain ⟨sl0,d1,d2⟩:=me (cJ c) S.sl
 obtain ⟨hp0,d3,d4,d5⟩:=mc τ0 S.hp
 rw [d1,d3] at h
 split at h
 rotate_left
 ·exact h.elim
 rename_i g1 g2 g3
 have hnx:1000≤S.nx:=by simpa using g3
 let slT:ι→List (Nat×Nat×List AV):=fun i=>kE S.nx (I i).sl sl0 id
 let hpT:ι→List (Nat×Nat×Ch):=fun i=>pr S.nx (I i).hp hp0 id
 have hsl:∀i,(∀ {α:Type} (k:List (Nat×Nat×List AV)→α),kE S.nx (I i).sl sl0 k=k (slT i))∧∀t,(∃y,(t,y)∈(I i).sl∧bH (slT i) t= [y.rn S.nx])∨bH (slT i) t=bH sl0 t:=fun i=>by
  obtain ⟨l,h1,h2⟩:=kT S.nx (I i).sl sl0
  have e:slT i=l:=h1 id
  rw [e];exact ⟨h1,h2⟩
 have hhp:∀i,(∀ {α:Type} (k:List (Nat×Nat×Ch)→α),pr S.nx (I i).hp hp0 k=k (hpT i))∧(∀b c,aI (hpT i) b=some c→(∃p∈(I i).hp,b=dA S.nx p.1∧c=p.2.rn S.nx)∨(aI hp0 b=some c∧∀p∈(I i).hp,dA S.nx p.1≠b))∧iy S.nx hp0 (hpT i):=fun i=>by
  obtain ⟨l,h1,h2,_,h4⟩:=nz S.nx (I i).hp hp0
  have e:hpT i=l:=h1 id
  rw [e];exact ⟨h1,h2,h4⟩
 have hT:∀i,sU S ⟨slT i,hpT i,S.nx+1000⟩:=fun i=>⟨Nat.le_add_right _ _,fun b=>by
  have hb:=(hhp i).2.2 b
  cases e:aI hp0 b with
  |none=>
   rcases hb with ⟨h1,h2⟩|hb|hb
   ·exact .inr (.inr (by show bx (hpT i) b=0;rw [h1];exact pJ e))
   ·exact .inr (.inl hb)
   ·exact .inr (.inr hb)
  |some c=>
   obtain ⟨e1,e2⟩:=d4 b c e
   rcases hb with ⟨h1,h2⟩|hb|hb
   ·exact .inl ⟨by show bx (hpT i) b=_;rw [h1,e2],by show aI (hpT i) b=_;rw [h2,e,e1]⟩
   ·exact .inr (.inl hb)
   ·exact .inr (.inr hb)⟩
 let J:ι→Act→World→Prop:=fun i a' w'=>i6 (cJ c) (I i).sl=true∧∃η',eG (bH (slT i)) (aI (hpT i)) N η' a' w'∧(∀b,S.nx+1000≤b→η' b=none)∧Fw (aI S.hp) η w (aI (hpT i)) η' w'∧∀b,b<S.nx→η' b=η b
 have hlt:∀b v,η b=some v→b<S.nx:=fun b v hv=>by
  rcases Nat.lt_or_ge b S.nx with h1|h1
  ·exact h1
  ·rw [hfree b h1] at hv;cases hv
 have hhead:∀(τ:cT) (η':a8) (b:Nat),S.nx+1000≤b→b6 S.nx τ η' b=none:=fun τ η' b hb=>by
  unfold b6;rw [if_neg (by omega),if_neg (by omega)]
 refine Da J μ i0 ⟨hk0,b6 S.nx τ0 η,?_⟩ ?_
 ·obtain ⟨q1,q2⟩:=SV (kp:=iB (I i0).hp []) (τ:=τ0) (sl1:=slT i0) (hp1:=hpT i0) hS hnx hX0 hτ0 hIl0
   (fun b c hb=>by
    refine ⟨?_,(dj (hτ0.kept b c hb)).1⟩
    cases e:cH c hp0 with
    |false=>rfl
    |true=>have:=(d5 c e).1;rw [hτ0.used b c hb] at this;cases this)
   (fun c hc=>by
    refine ⟨?_,(dj (hτ0.ukept c hc)).1⟩
    cases e:cH c hp0 with
    |false=>rfl
    |true=>have:=(d5 c e).2;rw [hc] at this;cases this)
   (fun t=>by
    rw [d2 t];split
    ·exact .inl rfl
    ·exact .inr rfl) g1 g2 (fun b c hb=> .inr (d4 b c hb).1) (hsl i0).2 (hhp i0).2.1
  exact ⟨q1,hhead _ _,⟨rfl,rfl,rfl,Nat.le_refl _,fun b v hv=>by rw [cW (hlt b v hv)];exact hv,fun g _ hg=>⟨rfl,q2 g hg⟩⟩,fun b hb=>cW hb⟩
 ·rintro i a1 w1 ⟨hki,η1,hS1,hf1,hF1,hE1⟩
  have hv:=h i
  unfold over at hv
  rw [bE] at hv
  rw [(hsl i).1,(hhp i).1,bE] at hv
  have hw:=ih _ _ hv η1 a1 w1 ⟨hS1,hf1⟩
  have hslK:∀t,bh t (cJ c)=false→bH (slT i) t=bH S.sl t:=fun t ht=>by
   rcases (hsl i).2 t with ⟨y,h1,_⟩|h1
   ·rw [mW hki h1] at ht;cases ht
   ·rw [h1,d2 t,if_neg (by rw [ht];simp)]
  refine wp_mono hw fun e a2 w2 hP=> ?_
  obtain ⟨e',S',η2,x1,x2,⟨hS2,hf2⟩,hF2,hH2,hE2,hT2⟩:=hP
  have hother:e'≠ .normal→K e' S'→gm N (cJ (.loop c)) S η w K e a2 w2:=fun _ hK=>
   ⟨e',S',η2,x1,hK,⟨hS2,hf2⟩,hF1.trans hF2,(hT i).trans hH2,fun b hb=>(hE2 b (by show b<S.nx+1000;omega)).trans (hE1 b hb),fun t ht=>(hT2 t ht).trans (hslK t ht)⟩
  cases e with
  |normal=>
   simp only [ka,Option.some.injEq] at x1
   subst x1
   obtain ⟨j,hj,x2⟩:=x2
   obtain ⟨τ,hτ,x2,hIl,hkj,hX⟩:=jD hS2 x2
   obtain ⟨hr,_⟩:=gH x2
   obtain ⟨q1,q2⟩:=SV (kp:=iB (I j).hp hp0) (τ:=τ) (sl1:=slT j) (hp1:=hpT j) hS2 hnx hX hτ hIl
    (fun b c hb=>⟨(dj (hτ.kept b c hb)).2,(dj (hτ.kept b c hb)).1⟩)
    (fun c hc=>⟨(dj (hτ.ukept c hc)).2,(dj (hτ.ukept c hc)).1⟩)
    (fun t=>by
     rw [d2 t]
     cases ht:bh t (cJ c) with
     |true=>left;simp
     |false=>right;rw [hT2 t ht];simp only [Bool.false_eq_true,if_false];exact hslK t ht) g1 g2
    (fun b c hb=>by
     rcases hr b c hb with h1|h1
     ·exact .inl h1
     ·obtain ⟨_,_,h3,h4,_⟩:=gx g2 hb
      right
      rcases hH2.2 b with ⟨h5,h6⟩|h5|h5
      ·rw [h6]
       have h5':bx (hpT i) b=bx hp0 b:=h5.symm.trans h1
       rcases (hhp i).2.2 b with ⟨_,h7⟩|h7|h7
       ·exact h7.trans hb
       ·omega
       ·omega
      ·have:S.nx+1000≤bx S'.hp b:=h5
       omega
      ·omega) (hsl j).2 (hhp j).2.1
   have hF:=hF1.trans hF2
   refine ⟨j,hj,hkj,b6 S.nx τ η2,q1,hhead _ _,⟨hF.os,hF.tape,hF.output,hF.size,fun b v hv=> ?_,fun g hg hA=> ?_⟩,fun b hb=> ?_⟩
   ·rw [cW (hlt b v hv)];exact hF.env b v hv
   ·obtain ⟨z1,z2⟩:=hF.anon g hg hA
    exact ⟨z1,q2 g z2⟩
   ·rw [cW hb];exact (hE2 b (by show b<S.nx+1000;omega)).trans (hE1 b hb)
  |exit id=>
   simp only [ka,Option.some.injEq] at x1
   subst x1
   exact hother (by simp) x2
  |ret=>
   simp only [ka,Option.some.injEq] at x1
   subst x1
   exact hother (by simp) x2
  |goto l=>cases x1
  |panic ch=>cases x1
  |outgrown=>cases x1
theorem nF {c:Code} (ih:∀S K,vc ty ct N c S K→DX N c S K) {K:KK} {S0:AS} {η0:a8} {w0:World}:∀(m:Nat) (S:AS),zi (vc ty ct N c) K m S→∀η a w,pQ N S η a w→Fw (aI S0.hp) η0 w0 (aI S.hp) η w→sU S0 S→(∀b,b<S0.nx→η b=η0 b)→(∀t,bh t (cJ c)=false→bH S.sl t=bH S0.sl t)→
  wa Tryz.prog c (gm N (cJ (.loop c)) S0 η0 w0 K) m a w
 |0,_,h,_,_,_,_,_,_,_,_=>h
 |m+1,S,h,η,a,w,hS,hF,hH,hE,hT=>by
  refine wp_mono (ih _ _ h η a w hS) fun e a' w' hP=> ?_
  obtain ⟨e',S',η',x1,x2,hS',hF',hH',hE',hT'⟩:=hP
  have hother:K e' S'→gm N (cJ (.loop c)) S0 η0 w0 K e a' w':=fun hK=>
   ⟨e',S',η',x1,hK,hS',hF.trans hF',hH.trans hH',fun b hb=>(hE' b (Nat.lt_of_lt_of_le hb hH.1)).trans (hE b hb),fun t ht=>(hT' t ht).trans (hT t ht)⟩
  cases e with
  |normal=>
   simp only [ka,Option.some.injEq] at x1
   subst x1
   exact nF ih m S' x2 η' a' w' hS' (hF.trans hF') (hH.trans hH') (fun b hb=>(hE' b (Nat.lt_of_lt_of_le hb hH.1)).trans (hE b hb)) (fun t ht=>(hT' t ht).trans (hT t ht))
  |exit id=>
   simp only [ka,Option.some.injEq] at x1
   subst x1
   exact hother x2
  |ret=>
   simp only [ka,Option.some.injEq] at x1
   subst x1
   exact hother x2
  |goto l=>cases x1
  |panic ch=>cases x1
  |outgrown=>cases x1
theorem ql {c:Operand} {S:AS} {r:Option Bool×Bool} {rd:List cz} {qs:List (Bool×Bool)} (h:(Ee c).run (bH S.sl) (aI S.hp) []= .ok r rd qs) {η:a8} {a:Act} {w:World} (hS:pQ N S η a w):
  a.eval c= .bool (r.1.getD r.2):=by
 obtain ⟨av,rd',h,hv⟩:=bf h hS.1.slot
 split at h
 ·rename_i v
  simp only [R.run,RR.ok.injEq] at h
  obtain ⟨rfl,_⟩:=h
  have:=hv.1
  simpa using this
 ·rename_i p
  simp only [R.run,RR.ok.injEq] at h
  obtain ⟨rfl,_⟩:=h
  have: [a.eval c]= [Value.bool p]:=hv
  simpa using this
 ·cases h
theorem nO (hm:Tryz.prog.follows .mixedOrders=true) (hO:aq ty ct):∀(c:Code) (S:AS) (K:KK),vc ty ct N c S K→DX N c S K:=by
 intro c
 induction c with
 |skip=>exact fun S K h η a w hS=>wp_skip ⟨.normal,S,η,rfl,h,hS,Fw.refl _ _ _,sU.refl _,fun _ _=>rfl,fun _ _=>rfl⟩
 |label l=>exact fun S K h η a w hS=>wp_label ⟨.normal,S,η,rfl,h,hS,Fw.refl _ _ _,sU.refl _,fun _ _=>rfl,fun _ _=>rfl⟩
 |exit id=>exact fun S K h η a w hS=>wp_exit ⟨.exit id,S,η,rfl,h,hS,Fw.refl _ _ _,sU.refl _,fun _ _=>rfl,fun _ _=>rfl⟩
 |ret=>exact fun S K h η a w hS=>wp_ret ⟨.ret,S,η,rfl,h,hS,Fw.refl _ _ _,sU.refl _,fun _ _=>rfl,fun _ _=>rfl⟩
 |region id ops dr=>exact fun S K h=>gT hm hO 12 [] h
 |seq a b iha ihb=>
  intro S K h η ac w hS
  refine wp_seq (wp_mono (iha S _ h η ac w hS) fun e a' w' hP=> ?_)
  obtain ⟨e',S',η',x1,x2,hS',hF',hH',hE',hT'⟩:=hP
  have hsub:∀t,bh t (cJ (.seq a b))=false→bh t (cJ a)=false∧bh t (cJ b)=false:=fun t ht=>uj ht
  have hother:K e' S'→gm N (cJ (.seq a b)) S η w K e a' w':=fun hK=>⟨e',S',η',x1,hK,hS',hF',hH',hE',fun t ht=>hT' t (hsub t ht).1⟩
  cases e with
  |normal=>
   simp only [ka,Option.some.injEq] at x1
   subst x1
   exact wp_mono (ihb S' K x2 η' a' w' hS') fun e a w hP=>gm.mono hF' hH' hE' (fun t ht=>hT' t (hsub t ht).1) (fun t ht=>(hsub t ht).2) (fun _ _ h=>h) hP
  |exit id=>
   simp only [ka,Option.some.injEq] at x1
   subst x1
   exact hother x2
  |ret=>
   simp only [ka,Option.some.injEq] at x1
   subst x1
   exact hother x2
  |goto l=>cases x1
  |panic ch=>cases x1
  |outgrown=>cases x1
 |cond cn a b iha ihb=>
  intro S K h
  have hsub:∀t,bh t (cJ (.cond cn a b))=false→bh t (cJ a)=false∧bh t (cJ b)=false:=fun t ht=>uj ht
  have ha:vc ty ct N a S K→∀η ac w,pQ N S η ac w→ac.eval cn= .bool true→(Code.cond cn a b).wp Tryz.prog (gm N (cJ (.cond cn a b)) S η w K) ac w:=fun h η ac w hS he=>
   wp_cond_true he (wp_mono (iha S K h η ac w hS) fun e a w hP=>gm.mono (Fw.refl _ _ _) (sU.refl _) (fun _ _=>rfl) (fun _ _=>rfl) (fun t ht=>(hsub t ht).1) (fun _ _ h=>h) hP)
  have hb:vc ty ct N b S K→∀η ac w,pQ N S η ac w→ac.eval cn= .bool false→(Code.cond cn a b).wp Tryz.prog (gm N (cJ (.cond cn a b)) S η w K) ac w:=fun h η ac w hS he=>
   wp_cond_false he (wp_mono (ihb S K h η ac w hS) fun e a w hP=>gm.mono (Fw.refl _ _ _) (sU.refl _) (fun _ _=>rfl) (fun _ _=>rfl) (fun t ht=>(hsub t ht).2) (fun _ _ h=>h) hP)
  unfold vc at h
  split at h
  ·rename_i e
   exact fun η ac w hS=>ha h η ac w hS (ql e hS)
  ·rename_i e
   exact fun η ac w hS=>hb h η ac w hS (ql e hS)
  ·rename_i p _ _ e
   intro η ac w hS
   have he:=ql e hS
   cases p with
   |true=>exact ha (h.1 rfl) η ac w hS he
   |false=>exact hb (h.2 rfl) η ac w hS he
  ·exact h
 |block id c ih=>
  intro S K h η a w hS
  refine wp_block (wp_mono (ih S _ h η a w hS) fun e a' w' hP=> ?_)
  obtain ⟨e',S',η',x1,x2,hR⟩:=hP
  cases e with
  |normal=>
   simp only [ka,Option.some.injEq] at x1
   subst x1
   exact ⟨.normal,S',η',rfl,x2,hR⟩
  |exit j=>
   simp only [ka,Option.some.injEq] at x1
   subst x1
   simp only [Exit.inBlock]
   simp only at x2
   split at x2
   ·rename_i hj
    rw [if_pos (aL hj)]
    exact ⟨.normal,S',η',rfl,x2,hR⟩
   ·rename_i hj
    rw [if_neg (Nat.ne_of_beq_eq_false hj)]
    exact ⟨.exit j,S',η',rfl,x2,hR⟩
  |ret=>
   simp only [ka,Option.some.injEq] at x1
   subst x1
   exact ⟨.ret,S',η',rfl,x2,hR⟩
  |goto l=>cases x1
  |panic ch=>cases x1
  |outgrown=>cases x1
 |loop c ih=>
  intro S K h
  rcases h with ⟨m,h⟩|h
  ·intro η a w hS
   exact A_ m (nF ih m S h η a w hS (Fw.refl _ _ _) (sU.refl _) (fun _ _=>rfl) (fun _ _=>rfl))
  ·exact yd ih h
 |_=>exact fun S K h=>h
end
def SN:Nm→Value→Prop
 | .lit z,v=>v= .int .i64 z
 | .int z,v=>v= .int .i64 z
 | .u8 x,v=>v= .int .u8 (x.toNat:Int)
 | .u16 x,v=>v= .int .u16 (x.toNat:Int)
 | .u32 x,v=>v= .int .u32 (x.toNat:Int)
 | .u64 x,v=>v= .int .u64 (x.toNat:Int)
section
variable {η:a8} {A:Nat→Prop} {w:World}
theorem ah {u v:Value} (h: [u]= [v]):u=v:=by simpa using h
theorem bc {a:AV} {n:Nm} (h:fP a=some n) {v:Value} (ha:a.H η A w v):SN n v:=by
 unfold fP at h
 split at h<;>first |(cases h;done)|(cases h;first |exact ah ha|exact ah ha.1)
end
def aF (r:R aH) (ev:World→Result Value):Prop:=∀sl hp ds res rd qs,r.run sl hp ds= .ok res rd qs→aY res.pre→
 res.upd= []∧res.fact=none∧qs= []∧∀w,∃v,ev w= .ok v w∧∀η A,bG η A w res.out v
theorem aF.fail {ev:World→Result Value}:aF .fail ev:=fun _ _ _ _ _ _ h=>by cases h
theorem aF.one {x:Cl} {ev:World→Result Value} (v:Value) (h:∀w,ev w= .ok v w) (hx:∀w η A,x.H η A w [v]):aF (aw x) ev:=fun _ _ _ _ _ _ hr _=>by
 simp only [aw,R.run,RR.ok.injEq] at hr
 obtain ⟨rfl,rfl,rfl⟩:=hr
 exact ⟨rfl,rfl,rfl,fun w=>⟨v,h w,fun η A=>hx w η A⟩⟩
theorem aF.pre {x:Cl} {p:Prop} {ev:World→Result Value} (v:Value) (h:p→∀w,ev w= .ok v w) (hx:∀w η A,x.H η A w [v]):aF (bC x p) ev:=fun _ _ _ _ _ _ hr hp=>by
 simp only [bC,R.run,RR.ok.injEq] at hr
 obtain ⟨rfl,rfl,rfl⟩:=hr
 exact ⟨rfl,rfl,rfl,fun w=>⟨v,h hp w,fun η A=>hx w η A⟩⟩
theorem JR (z:Int) (h:JL z=true):ge z=aw (.cv (.int .i64 z)):=by
 unfold ge;rw [h]
 cases z with
 |ofNat n=>cases n<;>rfl
 |negSucc n=>cases n<;>rfl
theorem An (b:Bool):litB b=aw (.cv (.bool b)):=by cases b<;>rfl
theorem gz {z:Int} (h:JL z=true):jm z:=by
 unfold JL at h
 unfold jm
 cases z with
 |ofNat n=>simp only [Nat.blt_eq] at h;constructor<;>simp<;>omega
 |negSucc n=>simp only [Nat.blt_eq] at h;constructor<;>omega
theorem aF.lit {z:Int} {ev:World→Result Value} (h:jm z→∀w,ev w= .ok (.int .i64 z) w):aF (ge z) ev:=by
 cases e:JL z with
 |false=>unfold ge;rw [e];exact .fail
 |true=>rw [JR z e];exact .one _ (h (gz e)) fun _ _ _=>⟨rfl,rfl⟩
theorem aF.litB {b:Bool} {ev:World→Result Value} (h:∀w,ev w= .ok (.bool b) w):aF (Go.Proofs.YtnlhpncaldcllaaGreat.litB b) ev:=by
 rw [An];exact .one _ h fun _ _ _=>⟨rfl,rfl⟩
theorem aF.symB {b:Bool} {ev:World→Result Value} (h:∀w,ev w= .ok (.bool b) w):aF (Go.Proofs.YtnlhpncaldcllaaGreat.symB b) ev:= .one _ h fun _ _ _=>rfl
theorem aF.symI {z:Int} {ev:World→Result Value} (h:jm z→∀w,ev w= .ok (.int .i64 z) w):aF (Go.Proofs.YtnlhpncaldcllaaGreat.symI z) ev:= .pre _ h fun _ _ _=>rfl
theorem eA {z:Int} (h:jm z):IntKind.i64.wrap z=z:=by
 unfold jm at h
 rw [IntKind.wrap_i64];omega
theorem eM {a b:Int}:gD a b=true↔a<b:=by
 unfold gD
 cases e:a-b with
 |ofNat n=>simp;have:a-b=(n:Int):=e;omega
 | negSucc n => simp; have : a - b = -(n : Int) - 1 := by rw [e]; omega
                omega
theorem dy {a b:Int}:gD a b=false↔b≤a:=by
 have:= @eM a b
 cases e:gD a b with
 |true=>rw [e] at this;simp at this ⊢;omega
 |false=>rw [e] at this;simp at this ⊢;omega
theorem lu (a b:Int):gD a b=decide (a<b):=by
 cases e:gD a b with
 |true=>rw [eM] at e;simp [e]
 |false=>rw [dy] at e;simp;omega
theorem zY (a b:Int):RE a b=(a ==b):=by
 unfold RE
 rw [Bool.eq_iff_iff,beq_iff_eq]
 cases e:a-b with
 |ofNat n=>
  have h:a-b=(n:Int):=e
  simp only [Nat.beq_eq];omega
 |negSucc n=>
  have h:a-b= -(n:Int)-1:=by rw [e];omega
  simp;omega
theorem tf {a b:Int} (ha:jm a) (h0:0≤a) (hb:jm b) (h1:0≤b):IntKind.i64.wrap ((BitVec.ofInt 64 a&&&BitVec.ofInt 64 b).toNat:Int)=((a.toNat&&&b.toNat:Nat):Int):=by
 obtain ⟨n,rfl⟩:=Int.eq_ofNat_of_zero_le h0
 obtain ⟨m,rfl⟩:=Int.eq_ofNat_of_zero_le h1
 unfold jm at ha hb
 have hn:n<2^64:=by omega
 have hm:m<2^64:=by omega
 have e:(BitVec.ofInt 64 (n:Int)&&&BitVec.ofInt 64 (m:Int)).toNat=n&&&m:=by
  rw [BitVec.ofInt_natCast,BitVec.ofInt_natCast,BitVec.toNat_and,BitVec.toNat_ofNat,BitVec.toNat_ofNat,Nat.mod_eq_of_lt hn,Nat.mod_eq_of_lt hm]
 have hle:n&&&m≤n:=Nat.and_le_left
 rw [e,Int.toNat_natCast,Int.toNat_natCast]
 exact eA ⟨by omega,by omega⟩
theorem zC {a b:Int} (ha:jm a) (h0:0≤a) (hb:jm b) (h1:0≤b):IntKind.i64.wrap ((BitVec.ofInt 64 a|||BitVec.ofInt 64 b).toNat:Int)=((a.toNat|||b.toNat:Nat):Int):=by
 obtain ⟨n,rfl⟩:=Int.eq_ofNat_of_zero_le h0
 obtain ⟨m,rfl⟩:=Int.eq_ofNat_of_zero_le h1
 unfold jm at ha hb
 have hn:n<2^63:=by omega
 have hm:m<2^63:=by omega
 have e:(BitVec.ofInt 64 (n:Int)|||BitVec.ofInt 64 (m:Int)).toNat=n|||m:=by
  rw [BitVec.ofInt_natCast,BitVec.ofInt_natCast,BitVec.toNat_or,BitVec.toNat_ofNat,BitVec.toNat_ofNat,Nat.mod_eq_of_lt (by omega),Nat.mod_eq_of_lt (by omega)]
 have hle:n|||m<2^63:=Nat.or_lt_two_pow hn hm
 rw [e,Int.toNat_natCast,Int.toNat_natCast]
 exact eA ⟨by omega,by omega⟩
theorem ml (a:Int) (n:Nat):a.fdiv (2^n)=a/((2^n:Nat):Int):=by
 rw [Int.fdiv_eq_ediv_of_nonneg _ (by exact Int.le_of_lt (Int.pow_pos (by decide)))]
 simp
section
variable {t:TypeId}
theorem xV {op:BinOp} {a b:Int} (h:op= .quo∨op= .rem) (w:World) (ha:0≤a) (hi:jm a) (hb:0<b):(Op.intDiv op .i64 a b).run Tryz.prog w= .ok (.int .i64 (match op with | .quo=>a/b|_=>a%b)) w:=by
 unfold Op.intDiv
 rw [if_neg (by omega)]
 rcases h with rfl|rfl
 ·have h1:a/b≤a:=Int.ediv_le_self _ ha
  have h2:0≤a/b:=Int.ediv_nonneg ha (by omega)
  simp only [Int.tdiv_eq_ediv_of_nonneg ha]
  unfold jm at hi
  rw [eA ⟨by omega,by omega⟩];rfl
 ·simp only [Int.tmod_eq_emod_of_nonneg ha];rfl
theorem rO (op:BinOp) (a b:Int):aF (B1 op a b) fun w=>(binOp op t (.int .i64 a) (.int .i64 b)).run Tryz.prog w:=by
 have hs:∀(n:Int),0≤n→n<64→min n.toNat 64=n.toNat:=fun n h0 h1=>Nat.min_eq_left (by omega)
 unfold B1
 cases op<;>simp only
 case add=>exact .lit fun h w=>by show Result.ok _ _=_;rw [eA h]
 case sub=>exact .lit fun h w=>by show Result.ok _ _=_;rw [eA h]
 case mul=>exact .lit fun h w=>by show Result.ok _ _=_;rw [eA h]
 case eql=>exact .litB fun w=>by rw [zY];rfl
 case neq=>exact .litB fun w=>by rw [zY];rfl
 case lss=>exact .litB fun w=>by rw [lu];rfl
 case gtr=>exact .litB fun w=>by rw [lu];rfl
 case leq=>exact .litB fun w=>by rw [lu,←decide_not];show Result.ok _ _=_;congr 2;exact decide_eq_decide.2 (by omega)
 case geq=>exact .litB fun w=>by rw [lu,←decide_not];show Result.ok _ _=_;congr 2;exact decide_eq_decide.2 (by omega)
 case quo=>
  split
  ·rename_i h1 h2
   rw [dy] at h1;rw [eM] at h2
   refine .lit fun h w=> ?_
   show (Op.intDiv .quo .i64 a b).run Tryz.prog w=_
   unfold Op.intDiv
   rw [if_neg (by omega)]
   simp only [Int.tdiv_eq_ediv_of_nonneg h1]
   rw [eA h];rfl
  ·exact .fail
 case rem=>
  split
  ·rename_i h1 h2
   rw [dy] at h1;rw [eM] at h2
   refine .lit fun h w=> ?_
   show (Op.intDiv .rem .i64 a b).run Tryz.prog w=_
   unfold Op.intDiv
   rw [if_neg (by omega)]
   simp only [Int.tmod_eq_emod_of_nonneg h1];rfl
  ·exact .fail
 case and=>
  split
  ·rename_i h1 h2 h3 h4
   rw [dy] at h1 h2
   exact .lit fun h w=>by rw [show (Int.ofNat _:Int)=_ from (tf (gz h3) h1 (gz h4) h2).symm];rfl
  ·exact .fail
 case or=>
  split
  ·rename_i h1 h2 h3 h4
   rw [dy] at h1 h2
   exact .lit fun h w=>by rw [show (Int.ofNat _:Int)=_ from (zC (gz h3) h1 (gz h4) h2).symm];rfl
  ·exact .fail
 case shl=>
  split
  ·rename_i h1 h2
   rw [dy] at h1;rw [eM] at h2
   refine .lit fun h w=> ?_
   show (Op.shift .shl .i64 a .i64 b).run Tryz.prog w=_
   unfold Op.shift
   rw [if_neg (by omega)]
   have e:min b.toNat IntKind.i64.bits=b.toNat:=hs b h1 h2
   simp only [e]
   have e2:a*2^b.toNat=a*((2^b.toNat:Nat):Int):=by simp
   rw [e2,eA h];rfl
  ·exact .fail
 case shr=>
  split
  ·rename_i h1 h2
   rw [dy] at h1;rw [eM] at h2
   refine .lit fun h w=> ?_
   show (Op.shift .shr .i64 a .i64 b).run Tryz.prog w=_
   unfold Op.shift
   rw [if_neg (by omega)]
   have e:min b.toNat IntKind.i64.bits=b.toNat:=hs b h1 h2
   simp only [e,ml];rfl
  ·exact .fail
 all_goals exact .fail
theorem O2 (n:Nat):IntKind.u8.wrap (n:Int)=((UInt8.ofNat n).toNat:Int):=by
 rw [show IntKind.u8.wrap (n:Int)=(n:Int)%256 by simp [IntKind.wrap,IntKind.bits,IntKind.signed],UInt8.toNat_ofNat'];omega
theorem LW (x:UInt8):BitVec.ofInt IntKind.u8.bits (x.toNat:Int)=x.toBitVec:=by
 show BitVec.ofInt 8 (x.toNat:Int)=_
 rw [BitVec.ofInt_natCast];apply BitVec.eq_of_toNat_eq;rw [BitVec.toNat_ofNat];exact Nat.mod_eq_of_lt x.toNat_lt
theorem RD (x:UInt8):IntKind.u8.wrap (x.toBitVec.toNat:Int)=(x.toNat:Int):=by
 have:=O2 x.toNat
 rw [show UInt8.ofNat x.toNat=x from UInt8.ofNat_toNat] at this;exact this
theorem AL (op:BinOp) (h1:op≠ .shl) (h2:op≠ .shr) (a b:UInt8):aF (Kf op a b) fun w=>(binOp op t (.int .u8 (a.toNat:Int)) (.int .u8 (b.toNat:Int))).run Tryz.prog w:=by
 have ha:=a.toNat_lt
 have hb:=b.toNat_lt
 have hw:∀z:Int,IntKind.u8.wrap z=z%256:=fun z=>by simp [IntKind.wrap,IntKind.bits,IntKind.signed]
 have hd:∀(p q:Prop) [Decidable p] [Decidable q] (w:World),(p↔q)→(Result.ok (Value.bool (decide p)) w)= .ok (.bool (decide q)) w:=fun p q _ _ w h=>by rw [decide_eq_decide.2 h]
 unfold Kf
 cases op<;>simp only
 case add=>exact .one (.int .u8 ((a+b).toNat:Int)) (fun w=>by show Result.ok _ _=_;rw [hw,UInt8.toNat_add];(congr 2)<;>omega) fun _ _ _=>rfl
 case sub=>exact .one (.int .u8 ((a-b).toNat:Int)) (fun w=>by show Result.ok _ _=_;rw [hw,UInt8.toNat_sub];(congr 2)<;>omega) fun _ _ _=>rfl
 case mul=>exact .one (.int .u8 ((a*b).toNat:Int)) (fun w=>by show Result.ok _ _=_;rw [hw,UInt8.toNat_mul];(congr 2)<;>simp) fun _ _ _=>rfl
 case and=>exact .one (.int .u8 ((a&&&b).toNat:Int)) (fun w=>by show Result.ok (Value.int _ (IntKind.wrap _ ((BitVec.ofInt _ _&&&BitVec.ofInt _ _).toNat:Int))) _=_;rw [LW,LW];exact congrArg (fun z=>Result.ok (Value.int .u8 z) w) (RD (a&&&b))) fun _ _ _=>rfl
 case or=>exact .one (.int .u8 ((a|||b).toNat:Int)) (fun w=>by show Result.ok (Value.int _ (IntKind.wrap _ ((BitVec.ofInt _ _|||BitVec.ofInt _ _).toNat:Int))) _=_;rw [LW,LW];exact congrArg (fun z=>Result.ok (Value.int .u8 z) w) (RD (a|||b))) fun _ _ _=>rfl
 case xor=>exact .one (.int .u8 ((a^^^b).toNat:Int)) (fun w=>by show Result.ok (Value.int _ (IntKind.wrap _ ((BitVec.ofInt _ _^^^BitVec.ofInt _ _).toNat:Int))) _=_;rw [LW,LW];exact congrArg (fun z=>Result.ok (Value.int .u8 z) w) (RD (a^^^b))) fun _ _ _=>rfl
 case andNot=>exact .one (.int .u8 ((a&&& ~~~b).toNat:Int)) (fun w=>by show Result.ok (Value.int _ (IntKind.wrap _ ((BitVec.ofInt _ _&&& ~~~BitVec.ofInt _ _).toNat:Int))) _=_;rw [LW,LW];exact congrArg (fun z=>Result.ok (Value.int .u8 z) w) (RD (a&&& ~~~b))) fun _ _ _=>rfl
 case quo=>exact .pre (.int .u8 ((a/b).toNat:Int)) (fun hne w=>by
  have h0:b.toNat≠0:=fun e=>hne (UInt8.toNat_inj.1 e)
  show (Op.intDiv .quo _ _ _).run Tryz.prog w=_
  unfold Op.intDiv
  rw [if_neg (by omega)]
  show Result.ok _ _=_
  have h3:a.toNat/b.toNat≤a.toNat:=Nat.div_le_self _ _
  have h4:((a.toNat/b.toNat:Nat):Int)%256=((a.toNat/b.toNat:Nat):Int):=by generalize a.toNat/b.toNat=q at h3 ⊢;omega
  rw [Int.tdiv_eq_ediv_of_nonneg (by omega),←Int.natCast_ediv,hw,UInt8.toNat_div,h4]) fun _ _ _=>rfl
 case rem=>exact .pre (.int .u8 ((a%b).toNat:Int)) (fun hne w=>by
  have h0:b.toNat≠0:=fun e=>hne (UInt8.toNat_inj.1 e)
  show (Op.intDiv .rem _ _ _).run Tryz.prog w=_
  unfold Op.intDiv
  rw [if_neg (by omega)]
  show Result.ok _ _=_
  rw [Int.tmod_eq_emod_of_nonneg (by omega),←Int.natCast_emod,UInt8.toNat_mod]) fun _ _ _=>rfl
 case eql=>exact .symB fun w=>by show Result.ok (Value.bool ((a.toNat:Int) ==(b.toNat:Int))) w=_;rw [show ((a.toNat:Int) ==(b.toNat:Int))=decide ((a.toNat:Int)=(b.toNat:Int)) from rfl];exact hd _ _ w (by rw [←UInt8.toNat_inj];omega)
 case neq=>exact .symB fun w=>by show Result.ok (Value.bool ((a.toNat:Int) != (b.toNat:Int))) w=_;rw [show ((a.toNat:Int) != (b.toNat:Int))= !decide ((a.toNat:Int)=(b.toNat:Int)) from rfl,←decide_not];exact hd _ _ w (by rw [ne_eq,←UInt8.toNat_inj];omega)
 case lss=>exact .symB fun w=>hd _ _ w (by rw [UInt8.lt_iff_toNat_lt];omega)
 case gtr=>exact .symB fun w=>hd _ _ w (by rw [UInt8.lt_iff_toNat_lt];omega)
 case leq=>exact .symB fun w=>hd _ _ w (by rw [UInt8.le_iff_toNat_le];omega)
 case geq=>exact .symB fun w=>hd _ _ w (by rw [UInt8.le_iff_toNat_le];omega)
 all_goals exact .fail
theorem zk (n:Nat):IntKind.u16.wrap (n:Int)=((UInt16.ofNat n).toNat:Int):=by
 rw [show IntKind.u16.wrap (n:Int)=(n:Int)%65536 by simp [IntKind.wrap,IntKind.bits,IntKind.signed],UInt16.toNat_ofNat'];omega
theorem tk (x:UInt16):BitVec.ofInt IntKind.u16.bits (x.toNat:Int)=x.toBitVec:=by
 show BitVec.ofInt 16 (x.toNat:Int)=_
 rw [BitVec.ofInt_natCast];apply BitVec.eq_of_toNat_eq;rw [BitVec.toNat_ofNat];exact Nat.mod_eq_of_lt x.toNat_lt
theorem IQ (x:UInt16):IntKind.u16.wrap (x.toBitVec.toNat:Int)=(x.toNat:Int):=by
 have:=zk x.toNat
 rw [show UInt16.ofNat x.toNat=x from UInt16.ofNat_toNat] at this;exact this
theorem uC (op:BinOp) (h1:op≠ .shl) (h2:op≠ .shr) (a b:UInt16):aF (AI op a b) fun w=>(binOp op t (.int .u16 (a.toNat:Int)) (.int .u16 (b.toNat:Int))).run Tryz.prog w:=by
 have ha:=a.toNat_lt
 have hb:=b.toNat_lt
 have hw:∀z:Int,IntKind.u16.wrap z=z%65536:=fun z=>by simp [IntKind.wrap,IntKind.bits,IntKind.signed]
 have hd:∀(p q:Prop) [Decidable p] [Decidable q] (w:World),(p↔q)→(Result.ok (Value.bool (decide p)) w)= .ok (.bool (decide q)) w:=fun p q _ _ w h=>by rw [decide_eq_decide.2 h]
 unfold AI
 cases op<;>simp only
 case add=>exact .one (.int .u16 ((a+b).toNat:Int)) (fun w=>by show Result.ok _ _=_;rw [hw,UInt16.toNat_add];(congr 2)<;>omega) fun _ _ _=>rfl
 case sub=>exact .one (.int .u16 ((a-b).toNat:Int)) (fun w=>by show Result.ok _ _=_;rw [hw,UInt16.toNat_sub];(congr 2)<;>omega) fun _ _ _=>rfl
 case mul=>exact .one (.int .u16 ((a*b).toNat:Int)) (fun w=>by show Result.ok _ _=_;rw [hw,UInt16.toNat_mul];(congr 2)<;>simp) fun _ _ _=>rfl
 case and=>exact .one (.int .u16 ((a&&&b).toNat:Int)) (fun w=>by show Result.ok (Value.int _ (IntKind.wrap _ ((BitVec.ofInt _ _&&&BitVec.ofInt _ _).toNat:Int))) _=_;rw [tk,tk];exact congrArg (fun z=>Result.ok (Value.int .u16 z) w) (IQ (a&&&b))) fun _ _ _=>rfl
 case or=>exact .one (.int .u16 ((a|||b).toNat:Int)) (fun w=>by show Result.ok (Value.int _ (IntKind.wrap _ ((BitVec.ofInt _ _|||BitVec.ofInt _ _).toNat:Int))) _=_;rw [tk,tk];exact congrArg (fun z=>Result.ok (Value.int .u16 z) w) (IQ (a|||b))) fun _ _ _=>rfl
 case xor=>exact .one (.int .u16 ((a^^^b).toNat:Int)) (fun w=>by show Result.ok (Value.int _ (IntKind.wrap _ ((BitVec.ofInt _ _^^^BitVec.ofInt _ _).toNat:Int))) _=_;rw [tk,tk];exact congrArg (fun z=>Result.ok (Value.int .u16 z) w) (IQ (a^^^b))) fun _ _ _=>rfl
 case andNot=>exact .one (.int .u16 ((a&&& ~~~b).toNat:Int)) (fun w=>by show Result.ok (Value.int _ (IntKind.wrap _ ((BitVec.ofInt _ _&&& ~~~BitVec.ofInt _ _).toNat:Int))) _=_;rw [tk,tk];exact congrArg (fun z=>Result.ok (Value.int .u16 z) w) (IQ (a&&& ~~~b))) fun _ _ _=>rfl
 case quo=>exact .pre (.int .u16 ((a/b).toNat:Int)) (fun hne w=>by
  have h0:b.toNat≠0:=fun e=>hne (UInt16.toNat_inj.1 e)
  show (Op.intDiv .quo _ _ _).run Tryz.prog w=_
  unfold Op.intDiv
  rw [if_neg (by omega)]
  show Result.ok _ _=_
  have h3:a.toNat/b.toNat≤a.toNat:=Nat.div_le_self _ _
  have h4:((a.toNat/b.toNat:Nat):Int)%65536=((a.toNat/b.toNat:Nat):Int):=by generalize a.toNat/b.toNat=q at h3 ⊢;omega
  rw [Int.tdiv_eq_ediv_of_nonneg (by omega),←Int.natCast_ediv,hw,UInt16.toNat_div,h4]) fun _ _ _=>rfl
 case rem=>exact .pre (.int .u16 ((a%b).toNat:Int)) (fun hne w=>by
  have h0:b.toNat≠0:=fun e=>hne (UInt16.toNat_inj.1 e)
  show (Op.intDiv .rem _ _ _).run Tryz.prog w=_
  unfold Op.intDiv
  rw [if_neg (by omega)]
  show Result.ok _ _=_
  rw [Int.tmod_eq_emod_of_nonneg (by omega),←Int.natCast_emod,UInt16.toNat_mod]) fun _ _ _=>rfl
 case eql=>exact .symB fun w=>by show Result.ok (Value.bool ((a.toNat:Int) ==(b.toNat:Int))) w=_;rw [show ((a.toNat:Int) ==(b.toNat:Int))=decide ((a.toNat:Int)=(b.toNat:Int)) from rfl];exact hd _ _ w (by rw [←UInt16.toNat_inj];omega)
 case neq=>exact .symB fun w=>by show Result.ok (Value.bool ((a.toNat:Int) != (b.toNat:Int))) w=_;rw [show ((a.toNat:Int) != (b.toNat:Int))= !decide ((a.toNat:Int)=(b.toNat:Int)) from rfl,←decide_not];exact hd _ _ w (by rw [ne_eq,←UInt16.toNat_inj];omega)
 case lss=>exact .symB fun w=>hd _ _ w (by rw [UInt16.lt_iff_toNat_lt];omega)
 case gtr=>exact .symB fun w=>hd _ _ w (by rw [UInt16.lt_iff_toNat_lt];omega)
 case leq=>exact .symB fun w=>hd _ _ w (by rw [UInt16.le_iff_toNat_le];omega)
 case geq=>exact .symB fun w=>hd _ _ w (by rw [UInt16.le_iff_toNat_le];omega)
 all_goals exact .fail
theorem zl (n:Nat):IntKind.u32.wrap (n:Int)=((UInt32.ofNat n).toNat:Int):=by
 rw [show IntKind.u32.wrap (n:Int)=(n:Int)%4294967296 by simp [IntKind.wrap,IntKind.bits,IntKind.signed],UInt32.toNat_ofNat'];omega
theorem tm (x:UInt32):BitVec.ofInt IntKind.u32.bits (x.toNat:Int)=x.toBitVec:=by
 show BitVec.ofInt 32 (x.toNat:Int)=_
 rw [BitVec.ofInt_natCast];apply BitVec.eq_of_toNat_eq;rw [BitVec.toNat_ofNat];exact Nat.mod_eq_of_lt x.toNat_lt
theorem IR (x:UInt32):IntKind.u32.wrap (x.toBitVec.toNat:Int)=(x.toNat:Int):=by
 have:=zl x.toNat
 rw [show UInt32.ofNat x.toNat=x from UInt32.ofNat_toNat] at this;exact this
theorem nj (op:BinOp) (h1:op≠ .shl) (h2:op≠ .shr) (a b:UInt32):aF (AJ op a b) fun w=>(binOp op t (.int .u32 (a.toNat:Int)) (.int .u32 (b.toNat:Int))).run Tryz.prog w:=by
 have ha:=a.toNat_lt
 have hb:=b.toNat_lt
 have hw:∀z:Int,IntKind.u32.wrap z=z%4294967296:=fun z=>by simp [IntKind.wrap,IntKind.bits,IntKind.signed]
 have hd:∀(p q:Prop) [Decidable p] [Decidable q] (w:World),(p↔q)→(Result.ok (Value.bool (decide p)) w)= .ok (.bool (decide q)) w:=fun p q _ _ w h=>by rw [decide_eq_decide.2 h]
 unfold AJ
 cases op<;>simp only
 case add=>exact .one (.int .u32 ((a+b).toNat:Int)) (fun w=>by show Result.ok _ _=_;rw [hw,UInt32.toNat_add];(congr 2)<;>omega) fun _ _ _=>rfl
 case sub=>exact .one (.int .u32 ((a-b).toNat:Int)) (fun w=>by show Result.ok _ _=_;rw [hw,UInt32.toNat_sub];(congr 2)<;>omega) fun _ _ _=>rfl
 case mul=>exact .one (.int .u32 ((a*b).toNat:Int)) (fun w=>by show Result.ok _ _=_;rw [hw,UInt32.toNat_mul];(congr 2)<;>simp) fun _ _ _=>rfl
 case and=>exact .one (.int .u32 ((a&&&b).toNat:Int)) (fun w=>by show Result.ok (Value.int _ (IntKind.wrap _ ((BitVec.ofInt _ _&&&BitVec.ofInt _ _).toNat:Int))) _=_;rw [tm,tm];exact congrArg (fun z=>Result.ok (Value.int .u32 z) w) (IR (a&&&b))) fun _ _ _=>rfl
 case or=>exact .one (.int .u32 ((a|||b).toNat:Int)) (fun w=>by show Result.ok (Value.int _ (IntKind.wrap _ ((BitVec.ofInt _ _|||BitVec.ofInt _ _).toNat:Int))) _=_;rw [tm,tm];exact congrArg (fun z=>Result.ok (Value.int .u32 z) w) (IR (a|||b))) fun _ _ _=>rfl
 case xor=>exact .one (.int .u32 ((a^^^b).toNat:Int)) (fun w=>by show Result.ok (Value.int _ (IntKind.wrap _ ((BitVec.ofInt _ _^^^BitVec.ofInt _ _).toNat:Int))) _=_;rw [tm,tm];exact congrArg (fun z=>Result.ok (Value.int .u32 z) w) (IR (a^^^b))) fun _ _ _=>rfl
 case andNot=>exact .one (.int .u32 ((a&&& ~~~b).toNat:Int)) (fun w=>by show Result.ok (Value.int _ (IntKind.wrap _ ((BitVec.ofInt _ _&&& ~~~BitVec.ofInt _ _).toNat:Int))) _=_;rw [tm,tm];exact congrArg (fun z=>Result.ok (Value.int .u32 z) w) (IR (a&&& ~~~b))) fun _ _ _=>rfl
 case quo=>exact .pre (.int .u32 ((a/b).toNat:Int)) (fun hne w=>by
  have h0:b.toNat≠0:=fun e=>hne (UInt32.toNat_inj.1 e)
  show (Op.intDiv .quo _ _ _).run Tryz.prog w=_
  unfold Op.intDiv
  rw [if_neg (by omega)]
  show Result.ok _ _=_
  have h3:a.toNat/b.toNat≤a.toNat:=Nat.div_le_self _ _
  have h4:((a.toNat/b.toNat:Nat):Int)%4294967296=((a.toNat/b.toNat:Nat):Int):=by generalize a.toNat/b.toNat=q at h3 ⊢;omega
  rw [Int.tdiv_eq_ediv_of_nonneg (by omega),←Int.natCast_ediv,hw,UInt32.toNat_div,h4]) fun _ _ _=>rfl
 case rem=>exact .pre (.int .u32 ((a%b).toNat:Int)) (fun hne w=>by
  have h0:b.toNat≠0:=fun e=>hne (UInt32.toNat_inj.1 e)
  show (Op.intDiv .rem _ _ _).run Tryz.prog w=_
  unfold Op.intDiv
  rw [if_neg (by omega)]
  show Result.ok _ _=_
  rw [Int.tmod_eq_emod_of_nonneg (by omega),←Int.natCast_emod,UInt32.toNat_mod]) fun _ _ _=>rfl
 case eql=>exact .symB fun w=>by show Result.ok (Value.bool ((a.toNat:Int) ==(b.toNat:Int))) w=_;rw [show ((a.toNat:Int) ==(b.toNat:Int))=decide ((a.toNat:Int)=(b.toNat:Int)) from rfl];exact hd _ _ w (by rw [←UInt32.toNat_inj];omega)
 case neq=>exact .symB fun w=>by show Result.ok (Value.bool ((a.toNat:Int) != (b.toNat:Int))) w=_;rw [show ((a.toNat:Int) != (b.toNat:Int))= !decide ((a.toNat:Int)=(b.toNat:Int)) from rfl,←decide_not];exact hd _ _ w (by rw [ne_eq,←UInt32.toNat_inj];omega)
 case lss=>exact .symB fun w=>hd _ _ w (by rw [UInt32.lt_iff_toNat_lt];omega)
 case gtr=>exact .symB fun w=>hd _ _ w (by rw [UInt32.lt_iff_toNat_lt];omega)
 case leq=>exact .symB fun w=>hd _ _ w (by rw [UInt32.le_iff_toNat_le];omega)
 case geq=>exact .symB fun w=>hd _ _ w (by rw [UInt32.le_iff_toNat_le];omega)
 all_goals exact .fail
theorem zm (n:Nat):IntKind.u64.wrap (n:Int)=((UInt64.ofNat n).toNat:Int):=by
 rw [show IntKind.u64.wrap (n:Int)=(n:Int)%18446744073709551616 by simp [IntKind.wrap,IntKind.bits,IntKind.signed],UInt64.toNat_ofNat'];omega
theorem tq (x:UInt64):BitVec.ofInt IntKind.u64.bits (x.toNat:Int)=x.toBitVec:=by
 show BitVec.ofInt 64 (x.toNat:Int)=_
 rw [BitVec.ofInt_natCast];apply BitVec.eq_of_toNat_eq;rw [BitVec.toNat_ofNat];exact Nat.mod_eq_of_lt x.toNat_lt
theorem IS (x:UInt64):IntKind.u64.wrap (x.toBitVec.toNat:Int)=(x.toNat:Int):=by
 have:=zm x.toNat
 rw [show UInt64.ofNat x.toNat=x from UInt64.ofNat_toNat] at this;exact this
theorem nk (op:BinOp) (h1:op≠ .shl) (h2:op≠ .shr) (a b:UInt64):aF (AK op a b) fun w=>(binOp op t (.int .u64 (a.toNat:Int)) (.int .u64 (b.toNat:Int))).run Tryz.prog w:=by
 have ha:=a.toNat_lt
 have hb:=b.toNat_lt
 have hw:∀z:Int,IntKind.u64.wrap z=z%18446744073709551616:=fun z=>by simp [IntKind.wrap,IntKind.bits,IntKind.signed]
 have hd:∀(p q:Prop) [Decidable p] [Decidable q] (w:World),(p↔q)→(Result.ok (Value.bool (decide p)) w)= .ok (.bool (decide q)) w:=fun p q _ _ w h=>by rw [decide_eq_decide.2 h]
 unfold AK
 cases op<;>simp only
 case add=>exact .one (.int .u64 ((a+b).toNat:Int)) (fun w=>by show Result.ok _ _=_;rw [hw,UInt64.toNat_add];(congr 2)<;>omega) fun _ _ _=>rfl
 case sub=>exact .one (.int .u64 ((a-b).toNat:Int)) (fun w=>by show Result.ok _ _=_;rw [hw,UInt64.toNat_sub];(congr 2)<;>omega) fun _ _ _=>rfl
 case mul=>exact .one (.int .u64 ((a*b).toNat:Int)) (fun w=>by show Result.ok _ _=_;rw [hw,UInt64.toNat_mul];(congr 2)<;>simp) fun _ _ _=>rfl
 case and=>exact .one (.int .u64 ((a&&&b).toNat:Int)) (fun w=>by show Result.ok (Value.int _ (IntKind.wrap _ ((BitVec.ofInt _ _&&&BitVec.ofInt _ _).toNat:Int))) _=_;rw [tq,tq];exact congrArg (fun z=>Result.ok (Value.int .u64 z) w) (IS (a&&&b))) fun _ _ _=>rfl
 case or=>exact .one (.int .u64 ((a|||b).toNat:Int)) (fun w=>by show Result.ok (Value.int _ (IntKind.wrap _ ((BitVec.ofInt _ _|||BitVec.ofInt _ _).toNat:Int))) _=_;rw [tq,tq];exact congrArg (fun z=>Result.ok (Value.int .u64 z) w) (IS (a|||b))) fun _ _ _=>rfl
 case xor=>exact .one (.int .u64 ((a^^^b).toNat:Int)) (fun w=>by show Result.ok (Value.int _ (IntKind.wrap _ ((BitVec.ofInt _ _^^^BitVec.ofInt _ _).toNat:Int))) _=_;rw [tq,tq];exact congrArg (fun z=>Result.ok (Value.int .u64 z) w) (IS (a^^^b))) fun _ _ _=>rfl
 case andNot=>exact .one (.int .u64 ((a&&& ~~~b).toNat:Int)) (fun w=>by show Result.ok (Value.int _ (IntKind.wrap _ ((BitVec.ofInt _ _&&& ~~~BitVec.ofInt _ _).toNat:Int))) _=_;rw [tq,tq];exact congrArg (fun z=>Result.ok (Value.int .u64 z) w) (IS (a&&& ~~~b))) fun _ _ _=>rfl
 case quo=>exact .pre (.int .u64 ((a/b).toNat:Int)) (fun hne w=>by
  have h0:b.toNat≠0:=fun e=>hne (UInt64.toNat_inj.1 e)
  show (Op.intDiv .quo _ _ _).run Tryz.prog w=_
  unfold Op.intDiv
  rw [if_neg (by omega)]
  show Result.ok _ _=_
  have h3:a.toNat/b.toNat≤a.toNat:=Nat.div_le_self _ _
  have h4:((a.toNat/b.toNat:Nat):Int)%18446744073709551616=((a.toNat/b.toNat:Nat):Int):=by generalize a.toNat/b.toNat=q at h3 ⊢;omega
  rw [Int.tdiv_eq_ediv_of_nonneg (by omega),←Int.natCast_ediv,hw,UInt64.toNat_div,h4]) fun _ _ _=>rfl
 case rem=>exact .pre (.int .u64 ((a%b).toNat:Int)) (fun hne w=>by
  have h0:b.toNat≠0:=fun e=>hne (UInt64.toNat_inj.1 e)
  show (Op.intDiv .rem _ _ _).run Tryz.prog w=_
  unfold Op.intDiv
  rw [if_neg (by omega)]
  show Result.ok _ _=_
  rw [Int.tmod_eq_emod_of_nonneg (by omega),←Int.natCast_emod,UInt64.toNat_mod]) fun _ _ _=>rfl
 case eql=>exact .symB fun w=>by show Result.ok (Value.bool ((a.toNat:Int) ==(b.toNat:Int))) w=_;rw [show ((a.toNat:Int) ==(b.toNat:Int))=decide ((a.toNat:Int)=(b.toNat:Int)) from rfl];exact hd _ _ w (by rw [←UInt64.toNat_inj];omega)
 case neq=>exact .symB fun w=>by show Result.ok (Value.bool ((a.toNat:Int) != (b.toNat:Int))) w=_;rw [show ((a.toNat:Int) != (b.toNat:Int))= !decide ((a.toNat:Int)=(b.toNat:Int)) from rfl,←decide_not];exact hd _ _ w (by rw [ne_eq,←UInt64.toNat_inj];omega)
 case lss=>exact .symB fun w=>hd _ _ w (by rw [UInt64.lt_iff_toNat_lt];omega)
 case gtr=>exact .symB fun w=>hd _ _ w (by rw [UInt64.lt_iff_toNat_lt];omega)
 case leq=>exact .symB fun w=>hd _ _ w (by rw [UInt64.le_iff_toNat_le];omega)
 case geq=>exact .symB fun w=>hd _ _ w (by rw [UInt64.le_iff_toNat_le];omega)
 all_goals exact .fail
end
section
variable {t:TypeId}
theorem Ka (op:BinOp) (h1:op≠ .shl) (h2:op≠ .shr) (a b:Int):aF (kt op a b) fun w=>(binOp op t (.int .i64 a) (.int .i64 b)).run Tryz.prog w:=by
 have hd:∀(p q:Prop) [Decidable p] [Decidable q] (w:World),(p↔q)→(Result.ok (Value.bool (decide p)) w)= .ok (.bool (decide q)) w:=fun p q _ _ w h=>by rw [decide_eq_decide.2 h]
 unfold kt
 cases op<;>simp only
 case add=>exact .symI fun h w=>by show Result.ok _ _=_;rw [eA h]
 case sub=>exact .symI fun h w=>by show Result.ok _ _=_;rw [eA h]
 case mul=>exact .symI fun h w=>by show Result.ok _ _=_;rw [eA h]
 case quo=>exact .pre _ (fun h w=>xV (op:= .quo) (.inl rfl) w h.2.1 h.1 h.2.2) fun _ _ _=>rfl
 case rem=>
  refine .pre (.int .i64 (a%b)) (fun h w=> ?_) fun _ _ _=>rfl
  show (Op.intDiv .rem .i64 a b).run Tryz.prog w=_
  unfold Op.intDiv
  rw [if_neg (by omega)]
  simp only [Int.tmod_eq_emod_of_nonneg h.1];rfl
 case eql=>exact .symB fun w=>rfl
 case neq=>exact .symB fun w=>by show Result.ok (Value.bool (a != b)) w=_;rw [show (a != b)= !decide (a=b) from rfl,←decide_not]
 case lss=>exact .symB fun w=>rfl
 case gtr=>exact .symB fun w=>rfl
 case leq=>exact .symB fun w=>rfl
 case geq=>exact .symB fun w=>rfl
 case and=>exact .pre _ (fun h w=>by rw [←tf h.1.1 h.1.2 h.2.1 h.2.2];rfl) fun _ _ _=>rfl
 case or=>exact .pre _ (fun h w=>by rw [←zC h.1.1 h.1.2 h.2.1 h.2.2];rfl) fun _ _ _=>rfl
 case shl=>exact absurd rfl h1
 case shr=>exact absurd rfl h2
 all_goals exact .fail
theorem lA (op:BinOp) (h:op= .shl∨op= .shr) (k:IntKind) (a b:Int):aF (kt op a b) fun w=>(binOp op t (.int .i64 a) (.int k b)).run Tryz.prog w:=by
 have hs:∀(n:Int),0≤n→n<64→min n.toNat 64=n.toNat:=fun n h0 h1=>Nat.min_eq_left (by omega)
 rcases h with rfl|rfl
 ·refine .pre _ (fun h w=> ?_) fun _ _ _=>rfl
  show (Op.shift .shl .i64 a k b).run Tryz.prog w=_
  unfold Op.shift
  rw [if_neg (by omega)]
  have e:min b.toNat IntKind.i64.bits=b.toNat:=hs b h.1 h.2.1
  simp only [e]
  have e2:a*2^b.toNat=a*((2^b.toNat:Nat):Int):=by simp
  rw [e2,eA h.2.2];rfl
 ·refine .pre _ (fun h w=> ?_) fun _ _ _=>rfl
  show (Op.shift .shr .i64 a k b).run Tryz.prog w=_
  unfold Op.shift
  rw [if_neg (by omega)]
  have e:min b.toNat IntKind.i64.bits=b.toNat:=hs b h.1 h.2
  simp only [e,ml];rfl
theorem KG {B n:Nat} (x:Nat):((x*2^min n B:Nat))%2^B=(x*2^n)%2^B:=by
 rcases Nat.le_total n B with h|h
 ·rw [Nat.min_eq_left h]
 ·rw [Nat.min_eq_right h]
  obtain ⟨d,rfl⟩:∃d,n=B+d:=⟨n-B,by omega⟩
  rw [Nat.pow_add,←Nat.mul_assoc,Nat.mul_right_comm,Nat.mul_mod_left,Nat.mul_mod_left]
theorem GM {B n x:Nat} (hx:x<2^B):x/2^min n B=x/2^n:=by
 rcases Nat.le_total n B with h|h
 ·rw [Nat.min_eq_left h]
 ·rw [Nat.min_eq_right h,Nat.div_eq_of_lt hx,Nat.div_eq_of_lt (Nat.lt_of_lt_of_le hx (Nat.pow_le_pow_right (by decide) h))]
theorem lG {k k':IntKind} {B:Nat} (hB:k.bits=B) (hw:∀z:Int,k.wrap z=z%((2^B:Nat):Int)) {x n:Nat} (w:World):(binOp .shl t (.int k (x:Int)) (.int k' (n:Int))).run Tryz.prog w= .ok (.int k ((x*2^n%2^B:Nat):Int)) w:=by
 show (Op.shift .shl k _ k' _).run Tryz.prog w=_
 unfold Op.shift
 rw [if_neg (by omega)]
 simp only [Int.toNat_natCast,hB,hw]
 rw [←KG]
 show Result.ok _ _=_
 (congr 2)<;>simp
theorem lH {k k':IntKind} {B:Nat} (hB:k.bits=B) {x n:Nat} (hx:x<2^B) (w:World):(binOp .shr t (.int k (x:Int)) (.int k' (n:Int))).run Tryz.prog w= .ok (.int k ((x/2^n:Nat):Int)) w:=by
 show (Op.shift .shr k _ k' _).run Tryz.prog w=_
 unfold Op.shift
 rw [if_neg (by omega)]
 simp only [Int.toNat_natCast,hB,ml]
 rw [←GM (n:=n) hx]
 show Result.ok _ _=_
 congr 2
def jG:Nm→Value
 | .lit z=> .int .i64 z| .int z=> .int .i64 z
 | .u8 x=> .int .u8 (x.toNat:Int)| .u16 x=> .int .u16 (x.toNat:Int)| .u32 x=> .int .u32 (x.toNat:Int)| .u64 x=> .int .u64 (x.toNat:Int)
theorem cI {n:Nm} {v:Value} (h:SN n v):v=jG n:=by cases n<;>exact h
theorem Ke (left:Bool) (x:Nm) (n:Nat) (k':IntKind):aF (ku left x n) fun w=>(binOp (if left=true then .shl else .shr) t (jG x) (.int k' (n:Int))).run Tryz.prog w:=by
 unfold ku
 cases x
 case lit=>exact .fail
 case int=>exact .fail
 case u8 a=>
  cases left with
  |true=>
   refine .one (.int .u8 ((s8 a n).toNat:Int)) (fun w=> ?_) fun _ _ _=>rfl
   have:=lG (t:=t) (k:= .u8) (k':=k') (B:=8) rfl (fun z=>by simp [IntKind.wrap,IntKind.bits,IntKind.signed]) (x:=a.toNat) (n:=n) w
   rw [show (s8 a n).toNat=a.toNat*2^n%2^8 from by unfold s8;rw [UInt8.toNat_ofNat']];exact this
  |false=>
   refine .one (.int .u8 ((r8 a n).toNat:Int)) (fun w=> ?_) fun _ _ _=>rfl
   have:=lH (t:=t) (k:= .u8) (k':=k') (B:=8) rfl (x:=a.toNat) (n:=n) a.toNat_lt w
   rw [show (r8 a n).toNat=a.toNat/2^n from by unfold r8;rw [UInt8.toNat_ofNat',Nat.mod_eq_of_lt (Nat.lt_of_le_of_lt (Nat.div_le_self _ _) a.toNat_lt)]];exact this
 case u16 a=>
  cases left with
  |true=>
   refine .one (.int .u16 ((KF a n).toNat:Int)) (fun w=> ?_) fun _ _ _=>rfl
   have:=lG (t:=t) (k:= .u16) (k':=k') (B:=16) rfl (fun z=>by simp [IntKind.wrap,IntKind.bits,IntKind.signed]) (x:=a.toNat) (n:=n) w
   rw [show (KF a n).toNat=a.toNat*2^n%2^16 from by unfold KF;rw [UInt16.toNat_ofNat']];exact this
  |false=>
   refine .one (.int .u16 ((Oe a n).toNat:Int)) (fun w=> ?_) fun _ _ _=>rfl
   have:=lH (t:=t) (k:= .u16) (k':=k') (B:=16) rfl (x:=a.toNat) (n:=n) a.toNat_lt w
   rw [show (Oe a n).toNat=a.toNat/2^n from by unfold Oe;rw [UInt16.toNat_ofNat',Nat.mod_eq_of_lt (Nat.lt_of_le_of_lt (Nat.div_le_self _ _) a.toNat_lt)]];exact this
 case u32 a=>
  cases left with
  |true=>
   refine .one (.int .u32 ((Lw a n).toNat:Int)) (fun w=> ?_) fun _ _ _=>rfl
   have:=lG (t:=t) (k:= .u32) (k':=k') (B:=32) rfl (fun z=>by simp [IntKind.wrap,IntKind.bits,IntKind.signed]) (x:=a.toNat) (n:=n) w
   rw [show (Lw a n).toNat=a.toNat*2^n%2^32 from by unfold Lw;rw [UInt32.toNat_ofNat']];exact this
  |false=>
   refine .one (.int .u32 ((k_ a n).toNat:Int)) (fun w=> ?_) fun _ _ _=>rfl
   have:=lH (t:=t) (k:= .u32) (k':=k') (B:=32) rfl (x:=a.toNat) (n:=n) a.toNat_lt w
   rw [show (k_ a n).toNat=a.toNat/2^n from by unfold k_;rw [UInt32.toNat_ofNat',Nat.mod_eq_of_lt (Nat.lt_of_le_of_lt (Nat.div_le_self _ _) a.toNat_lt)]];exact this
 case u64 a=>
  cases left with
  |true=>
   refine .one (.int .u64 ((jY a n).toNat:Int)) (fun w=> ?_) fun _ _ _=>rfl
   have:=lG (t:=t) (k:= .u64) (k':=k') (B:=64) rfl (fun z=>by simp [IntKind.wrap,IntKind.bits,IntKind.signed]) (x:=a.toNat) (n:=n) w
   rw [show (jY a n).toNat=a.toNat*2^n%2^64 from by unfold jY;rw [UInt64.toNat_ofNat']];exact this
  |false=>
   refine .one (.int .u64 ((iF a n).toNat:Int)) (fun w=> ?_) fun _ _ _=>rfl
   have:=lH (t:=t) (k:= .u64) (k':=k') (B:=64) rfl (x:=a.toNat) (n:=n) a.toNat_lt w
   rw [show (iF a n).toNat=a.toNat/2^n from by unfold iF;rw [UInt64.toNat_ofNat',Nat.mod_eq_of_lt (Nat.lt_of_le_of_lt (Nat.div_le_self _ _) a.toNat_lt)]];exact this
theorem aF.and {r:R aH} {p:Prop} {ev:World→Result Value} (h:p→aF r ev):aF (Gs r p) ev:=fun sl hp ds res rd qs hr hp'=>by
 unfold Gs at hr
 cases r<;>simp only at hr<;>first |(cases hr;done)|skip
 rename_i a
 obtain ⟨o,u,q,f⟩:=a
 cases q with
 |some q=>cases hr
 |none=>
  simp only [R.run,RR.ok.injEq] at hr
  obtain ⟨rfl,rfl,rfl⟩:=hr
  exact h hp' sl hp [] ⟨o,u,none,f⟩ [] [] rfl trivial
theorem dm (n:Nm):∃k,jG n= .int k n.toInt:=by cases n<;>exact ⟨_,rfl⟩
theorem GL {op : BinOp} {left : Bool} (hop : op = if left = true then .shl else .shr) (x y : Nm) (hx : (∀ z, x ≠ .lit z) ∧ ∀ z, x ≠ .int z) : aF (match y with
      | .lit b => match gD b 0 with | false => ku left x b.toNat | true => .fail
      | .int b => Gs (ku left x b.toNat) (0 ≤ b)
      | y => ku left x y.toInt.toNat) fun w => (binOp op t (jG x) (jG y)).run Tryz.prog w := by
 subst hop
 have key:∀(k:IntKind) (b:Int),0≤b→aF (ku left x b.toNat) fun w=>(binOp (if left=true then .shl else .shr) t (jG x) (.int k b)).run Tryz.prog w:=fun k b hb=>by
  have:=Ke (t:=t) left x b.toNat k
  rw [Int.toNat_of_nonneg hb] at this;exact this
 cases y
 case lit b=>
  show aF (match gD b 0 with |false=>ku left x b.toNat|true=> .fail) _
  cases e:gD b 0 with
  |true=>exact .fail
  |false=>rw [dy] at e;exact key _ b e
 case int b=>exact .and fun hb=>key _ b hb
 all_goals exact key _ _ (by simp [Nm.toInt])
theorem Kc (op:BinOp) (x y:Nm):aF (Kb op x y) fun w=>(binOp op t (jG x) (jG y)).run Tryz.prog w:=by
 by_cases hl:op= .shl
 ·subst hl
  cases x
  case lit a=>
   cases y
   case lit b=>exact rO .shl a b
   all_goals exact lA .shl (.inl rfl) _ a _
  case int a=>obtain ⟨k,e⟩:=dm y;rw [e];exact lA .shl (.inl rfl) k a _
  all_goals exact GL (left:=true) rfl _ y ⟨fun _ h=>(by cases h),fun _ h=>(by cases h)⟩
 ·by_cases hr:op= .shr
  ·subst hr
   cases x
   case lit a=>
    cases y
    case lit b=>exact rO .shr a b
    all_goals exact lA .shr (.inr rfl) _ a _
   case int a=>obtain ⟨k,e⟩:=dm y;rw [e];exact lA .shr (.inr rfl) k a _
   all_goals exact GL (left:=false) rfl _ y ⟨fun _ h=>(by cases h),fun _ h=>(by cases h)⟩
  ·have e : Kb op x y = (match x with
       | .lit a => match y with
         | .lit b => B1 op a b
         | .int b => kt op a b
         | _ => .fail
       | .int a => match y with
         | .lit b => kt op a b
         | .int b => kt op a b
         | _ => .fail
       | .u8 a => match y with | .u8 b => Kf op a b | _ => .fail
       | .u16 a => match y with | .u16 b => AI op a b | _ => .fail
       | .u32 a => match y with | .u32 b => AJ op a b | _ => .fail
       | .u64 a => match y with | .u64 b => AK op a b | _ => .fail) := by
    unfold Kb
    cases op<;>first |rfl|exact absurd rfl hl|exact absurd rfl hr
   rw [e]
   cases x<;>cases y<;>first |exact .fail|exact rO op _ _|exact Ka op hl hr _ _|exact AL op hl hr _ _|exact uC op hl hr _ _|exact nj op hl hr _ _|exact nk op hl hr _ _
end
end Go.Proofs.YtnlhpncaldcllaaGreat
