/- What BB rests on, part 1 of 5: my own texts, put together (merge.py). -/
import Derived.Deep.RegionHeld3
import Derived.WalkKit
import Derived.ProofKit
import Derived.Lib.Hide
import Derived.OpenShut
import Derived.Deep.MidRow
import Derived.Test.YtnlhpncaldcllaaGreatRows
import Derived.WalkSpells
import Derived.StillTactics
import Derived.Laws.Pointers
import Derived.Laws.CopyOwn
import Derived.Laws.AppendOwnNone
import Derived.RowKit3
import Derived.BigQuiet
import Derived.Deep.QuietTactic
import Derived.Deep.LoopGhost
import Derived.Deep.DeepFit
import Derived.WalkLawsBesides
import Derived.Shelf.Spec.BitsCarry
import Derived.Laws.IdiomStrings
import Derived.Maps.RangeWalk
import Derived.Great.BuildSlice
import Derived.Lib.AppendZerosOnto
import Derived.Deep.DeepCutAuto
import Derived.Lib.SliceRun
import Derived.ShutString
import Derived.ChangeOld
set_option maxRecDepth 100000
namespace Go.Proofs.YtnlhpncaldcllaaGreat
open Go Go.RowKit
section
variable {P:Program} {ops:Array Oper} {Q:Exit→Act→World→Prop} {md:Region.Mode}
def ju (md:Region.Mode) (ops:Array Oper):Bool:=
 (List.range ops.size).all fun i=>((ops[i]?).map fun o=>o.after.all fun e=> !Region.binds md e||decide (e.on<i)).getD true
theorem qy (h:ju md ops=true) {i:Nat} {o:Oper} (ho:ops[i]?=some o) {e:Edge} (he:e∈o.after) (hb:Region.binds md e=true):e.on<i:=by
 have hlt:i<ops.size:=(Array.getElem?_eq_some_iff.1 ho).1
 unfold ju at h
 rw [List.all_eq_true] at h
 have h1:=h i (by simpa using hlt)
 simp only [ho,Option.map_some,Option.getD_some,Array.all_eq_true_iff_forall_mem,Bool.or_eq_true,Bool.not_eq_true',decide_eq_true_eq] at h1
 rcases h1 e he with h2|h2
 ·rw [h2] at hb;cases hb
 ·exact h2
def jN (L:Nat→Bool) (i:Nat):Nat→Bool:=fun j=>if j=i then true else L j
theorem pA (L:Nat→Bool) (i:Nat):jN L i i=true:=by simp [jN]
theorem jO {L:Nat→Bool} {i j:Nat} (h:j≠i):jN L i j=L j:=by simp [jN,h]
theorem vz {L:Nat→Bool} {i j:Nat} (h:L j=true):jN L i j=true:=by unfold jN;split<;>simp [h]
def AQ (listed:Array Bool):Nat→Bool:=fun j=>listed.getD j false
theorem Ge (n:Nat):AQ (Array.replicate n false)=fun _=>false:=by
 funext j
 unfold AQ
 rw [Array.getD_eq_getD_getElem?]
 by_cases h:j<n
 ·simp [h]
 ·rw [Array.getElem?_eq_none (by simpa using h)];rfl
theorem Ou {listed:Array Bool} {i:Nat} (hi:i<listed.size):AQ (listed.setIfInBounds i true)=jN (AQ listed) i:=by
 funext j
 unfold AQ jN
 by_cases h:j=i
 ·subst h;simp [hi]
 ·rw [if_neg h];exact getD_set_ne false (Ne.symm h)
theorem vE (he:ju md ops=true) {listed:Array Bool} (hs:listed.size=ops.size) (hr:Region.ready md ops listed= []):
  ∀i,i<ops.size→AQ listed i=true:=by
 intro i
 induction i using Nat.strongRecOn with
 |_ i ih=>
  intro hi
  cases h:AQ listed i with
  |true=>rfl
  |false=>
   have:i∈Region.ready md ops listed:=by
    rw [mem_ready]
    refine ⟨?_,ops[i],by simp [hi],fun e he' hb=> ?_⟩
    ·unfold AQ at h;simpa [show i<listed.size by omega] using h
    ·have:=qy he (i:=i) (o:=ops[i]) (by simp [hi]) he' hb
     exact ih _ this (by omega)
   rw [hr] at this;cases this
theorem DE (he:ju md ops=true) (I:(Nat→Bool)→Act→World→Prop)
  (hstep:∀i o,ops[i]?=some o→∀L a w,I L a w→L i=false→(∀e∈o.after,Region.binds md e=true→L e.on=true)→wpOp P ops Q i (fun a' w'=>I (jN L i) a' w') a w)
  (hdone:∀L a w,(∀i,i<ops.size→L i=true)→I L a w→Q .normal a w):
  ∀fuel (listed:Array Bool) a w,listed.size=ops.size→listed.count false≤fuel→I (AQ listed) a w→wpAny P md ops Q fuel listed a w:=by
 intro fuel
 induction fuel with
 |zero=>
  intro listed a w hs hc hI
  have hall:∀i,i<ops.size→AQ listed i=true:=fun i hi=>by
   have h0:listed.count false=0:=by omega
   have hn:false ∉ listed:=Array.count_eq_zero.1 h0
   have hlt:i<listed.size:=by omega
   unfold AQ
   cases hb:listed.getD i false with
   |true=>rfl
   |false=>
    exfalso;apply hn
    simp [hlt] at hb
    exact hb▸Array.getElem_mem hlt
  refine ⟨?_,hdone _ _ _ hall hI⟩
  apply List.eq_nil_iff_forall_not_mem.2
  intro i hi
  obtain ⟨h0,o,ho,_⟩:=mem_ready.1 hi
  have hlt:i<ops.size:=(Array.getElem?_eq_some_iff.1 ho).1
  have h1:=hall i hlt
  unfold AQ at h1
  simp [show i<listed.size by omega] at h0 h1
  rw [h0] at h1;cases h1
 |succ fuel ih=>
  intro listed a w hs hc hI
  refine ⟨fun hr=>hdone _ _ _ (vE he hs hr) hI,fun i hi=> ?_⟩
  obtain ⟨h0,o,ho,hdep⟩:=mem_ready.1 hi
  have hlt:i<ops.size:=(Array.getElem?_eq_some_iff.1 ho).1
  have hltL:i<listed.size:=by omega
  have hb:listed[i]=false:=by simpa [hltL] using h0
  refine wpOp_mono (fun a' w' h=>ih _ a' w' (by simpa using hs) ?_ (by rw [Ou hltL];exact h)) (hstep i o ho (AQ listed) a w hI (by unfold AQ;simpa [hltL] using hb) hdep)
  have e:(listed.setIfInBounds i true).count false+1=listed.count false:=by
   have hset:listed.setIfInBounds i true=listed.set i true hltL:=by simp [Array.setIfInBounds,hltL]
   rw [hset,Array.count_set]
   have hpos:0<listed.count false:=Array.count_pos_iff.2 (hb▸Array.getElem_mem hltL)
   simp [hb];omega
  omega
section steps
variable {wt:Nat→Nat→Bool} {fr:(Nat→Value)→Array Value} {df:List Deferred} {G:Nat→(Nat→Bool)→(Nat→Value)→World→Prop} {J:(Nat→Bool)→(Nat→Value)→World→Prop} {i:Nat} {o:Oper}
end steps
section regions
variable {id:Nat} {a:Act} {w:World} (fr:(Nat→Value)→Array Value) (G:Nat→(Nat→Bool)→(Nat→Value)→World→Prop) (J:(Nat→Bool)→(Nat→Value)→World→Prop) (u0:Nat→Value)
end regions
end
end Go.Proofs.YtnlhpncaldcllaaGreat
namespace Go.Proofs.YtnlhpncaldcllaaGreat
structure Pr (p:Nat):Prop where
 two:2≤p
 div:∀m,m∣p→m=1∨m=p
theorem Pr.cop {p a:Nat} (h:Pr p) (ha:¬p∣a):Nat.Coprime p a:=by
 rcases h.div (Nat.gcd p a) (Nat.gcd_dvd_left p a) with h1|h1
 ·exact h1
 ·exact absurd (h1▸Nat.gcd_dvd_right p a) ha
theorem Pr.mul {p a b:Nat} (h:Pr p) (hd:p∣a*b):p∣a∨p∣b:=by
 by_cases ha:p∣a
 ·exact .inl ha
 ·exact .inr ((h.cop ha).dvd_of_dvd_mul_left hd)
theorem ph:∀n,2≤n→∃p,Pr p∧p∣n:=by
 intro n
 induction n using Nat.strongRecOn with
 |_ n ih=>
  intro hn
  by_cases h:∃m,m∣n∧m≠1∧m≠n
  ·obtain ⟨m,hd,h1,h2⟩:=h
   have hle:=Nat.le_of_dvd (by omega) hd
   have h0:m≠0:=by rintro rfl;have:=Nat.eq_zero_of_zero_dvd hd;omega
   obtain ⟨p,hp,hpm⟩:=ih m (by omega) (by omega)
   exact ⟨p,hp,Nat.dvd_trans hpm hd⟩
  ·refine ⟨n,⟨hn,fun m hm=> ?_⟩,Nat.dvd_refl n⟩
   by_cases h1:m=1
   ·exact .inl h1
   ·by_cases h2:m=n
    ·exact .inr h2
    ·exact absurd ⟨m,hm,h1,h2⟩ h
def choose:Nat→Nat→Nat
 |_,0=>1
 |0,_+1=>0
 |n+1,k+1=>choose n k+choose n (k+1)
theorem eI:∀n k,n<k→choose n k=0
 |0,k+1,_=>rfl
 |n+1,k+1,h=>by rw [choose,eI n k (by omega),eI n (k+1) (by omega)]
theorem kS:∀n,choose n n=1
 |0=>rfl
 |n+1=>by rw [choose,kS n,eI n (n+1) (by omega)]
theorem eJ (n:Nat):choose n 0=1:=by cases n<;>rfl
theorem fG:∀n k,(k+1)*choose (n+1) (k+1)=(n+1)*choose n k
 |0,0=>rfl
 |0,k+1=>by simp [choose]
 |n+1,0=>by
  have h:=fG n 0
  rw [eJ] at h
  have e:choose (n+1+1) (0+1)=choose (n+1) 0+choose (n+1) (0+1):=rfl
  rw [e,eJ]
  omega
 |n+1,k+1=>by
  have h1:=fG n k
  have h2:=fG n (k+1)
  have e1:choose (n+1+1) (k+1+1)=choose (n+1) (k+1)+choose (n+1) (k+1+1):=rfl
  have e2:choose (n+1) (k+1)=choose n k+choose n (k+1):=rfl
  generalize hA:choose (n+1) (k+1)=A at*
  generalize choose (n+1) (k+1+1)=B at*
  generalize choose (n+1+1) (k+1+1)=C at*
  generalize choose n k=a at*
  generalize choose n (k+1)=b at*
  subst e1 e2
  grind
def cH (n x:Nat):Nat→Nat
 |0=>0
 |k+1=>cH n x k+choose n k*x^k
theorem kQ (n x:Nat):∀k,cH (n+1) x (k+1)=cH n x (k+1)+x*cH n x k
 |0=>by simp [cH,eJ]
 |k+1=>by
  have h:=kQ n x k
  rw [cH,h]
  simp only [cH,choose,Nat.pow_succ]
  grind
theorem QF (n x:Nat):(x+1)^n=cH n x (n+1):=by
 induction n with
 |zero=>simp [cH,choose]
 |succ n ih=>
  have e:cH n x (n+1+1)=cH n x (n+1):=by
   show cH n x (n+1)+choose n (n+1)*x^(n+1)=_
   rw [eI n (n+1) (by omega)];omega
  rw [kQ,Nat.pow_succ,ih,e,Nat.mul_add,Nat.mul_one,Nat.mul_comm x];omega
theorem Pr.choose {p:Nat} (hp:Pr p) (k:Nat) (h0:0<k) (h1:k<p):p∣choose p k:=by
 obtain ⟨n,rfl⟩:∃n,p=n+1:=⟨p-1,by have:=hp.two;omega⟩
 obtain ⟨j,rfl⟩:∃j,k=j+1:=⟨k-1,by omega⟩
 have h:=fG n j
 have hd:n+1∣(j+1)*Go.Proofs.YtnlhpncaldcllaaGreat.choose (n+1) (j+1):=⟨_,h⟩
 rcases hp.mul hd with h2|h2
 ·exact absurd (Nat.le_of_dvd (by omega) h2) (by omega)
 ·exact h2
theorem wQ {p x:Nat} (hp:Pr p):∀k,1≤k→k≤p→cH p x k%p=1%p:=by
 intro k
 induction k with
 |zero=>omega
 |succ k ih=>
  intro _ h2
  by_cases hk:k=0
  ·subst hk;simp [cH,eJ]
  ·rw [cH,Nat.add_mod,ih (by omega) (by omega),Nat.mul_mod,Nat.mod_eq_zero_of_dvd (hp.choose k (by omega) (by omega)),Nat.zero_mul,Nat.zero_mod,Nat.add_zero,Nat.mod_mod]
theorem J0 {p:Nat} (hp:Pr p) (x:Nat):x^p%p=x%p:=by
 induction x with
 |zero=>rw [Nat.zero_pow (by have:=hp.two;omega)]
 |succ x ih=>
  rw [QF,cH,kS,Nat.one_mul,Nat.add_mod,wQ hp p (by have:=hp.two;omega) (Nat.le_refl _),ih,←Nat.add_mod,Nat.add_comm]
theorem xu {p:Nat} (hp:Pr p) (x:Nat) (hx:¬p∣x):x^(p-1)%p=1:=by
 have h:=J0 hp x
 have h2:=hp.two
 have hd:p∣x*(x^(p-1)-1):=by
  rw [Nat.mul_sub,Nat.mul_one,show x*x^(p-1)=x^p from by rw [Nat.mul_comm,←Nat.pow_succ];congr 1;omega]
  exact Nat.dvd_of_mod_eq_zero (Nat.sub_mod_eq_zero_of_mod_eq h)
 have hx0:0<x:=Nat.pos_of_ne_zero (by rintro rfl;exact hx (Nat.dvd_zero p))
 have hp1:0<x^(p-1):=Nat.pow_pos hx0
 rcases hp.mul hd with h3|h3
 ·exact absurd h3 hx
 ·have h4:=Nat.mod_eq_zero_of_dvd h3
  have h5:x^(p-1)=(x^(p-1)-1)+1:=by omega
  rw [h5,Nat.add_mod,h4,Nat.zero_add,Nat.mod_mod,Nat.mod_eq_of_lt (by omega)]
def gS (n:Nat):Nat→Nat→Nat→Nat
 |0,_,_=>1%n
 |f+1,a,e=>if e=0 then 1%n else let r:=gS n f (a*a%n) (e/2);if e%2=1 then r*a%n else r
theorem en (a n e:Nat):(a%n)^e%n=a^e%n:=by
 induction e with
 |zero=>rfl
 |succ e ih=>rw [Nat.pow_succ,Nat.pow_succ,Nat.mul_mod,ih,Nat.mod_mod,←Nat.mul_mod]
theorem cS (n:Nat):∀f a e,e<2^f→gS n f a e=a^e%n
 |0,a,e,h=>by
  obtain rfl:e=0:=by simp at h;exact h
  rfl
 |f+1,a,e,h=>by
  unfold gS
  by_cases h0:e=0
  ·subst h0;simp
  ·rw [if_neg h0]
   have hf:e/2<2^f:=by rw [Nat.pow_succ] at h;omega
   have hr:=cS n f (a*a%n) (e/2) hf
   have h2:(a*a%n)^(e/2)%n=a^(2*(e/2))%n:=by
    rw [en,←Nat.pow_two,←Nat.pow_mul]
   simp only [hr,h2]
   by_cases h1:e%2=1
   ·rw [if_pos h1,Nat.mul_mod,Nat.mod_mod,←Nat.mul_mod,←Nat.pow_succ]
    congr 2;omega
   ·rw [if_neg h1]
    congr 2;omega
theorem KR (a r:Nat):∀m n,a^m%r=1%r→a^n%r=1%r→a^(Nat.gcd m n)%r=1%r:=by
 intro m n
 induction m,n using Nat.gcd.induction with
 |H0 n=>intro _ h;rw [Nat.gcd_zero_left];exact h
 |H1 m n hm ih=>
  intro h1 h2
  rw [Nat.gcd_rec]
  refine ih ?_ h1
  have e:a^n=(a^m)^(n/m)*a^(n%m):=by rw [←Nat.pow_mul,←Nat.pow_add,Nat.div_add_mod]
  rw [e,Nat.mul_mod,←en,h1,en,Nat.one_pow,←Nat.mul_mod,Nat.one_mul] at h2
  exact h2
theorem nw {N a q r:Nat} (hN:2≤N) (hq:Pr q) (hqN:q∣N-1) (h1:a^(N-1)%N=1) (h2:Nat.gcd (a^((N-1)/q)%N+(N-1)) N=1) (hr:Pr r) (hrN:r∣N):q∣r-1:=by
 have ha:¬r∣a:=by
  intro hd
  have h3:r∣a^(N-1):=Nat.dvd_trans hd ⟨a^(N-1-1),by rw [←Nat.pow_succ'];congr 1;omega⟩
  have h4:=Nat.div_add_mod (a^(N-1)) N
  rw [h1] at h4
  have h5:r∣N*(a^(N-1)/N):=Nat.dvd_trans hrN (Nat.dvd_mul_right _ _)
  have h6:r∣1:=(Nat.dvd_add_right h5).1 (by rw [h4];exact h3)
  have:=Nat.le_of_dvd (by omega) h6
  have:=hr.two;omega
 have hF:=xu hr a ha
 have hr1:1%r=1:=Nat.mod_eq_of_lt (by have:=hr.two;omega)
 have hM:a^(N-1)%r=1%r:=by
  rw [←Nat.mod_mod_of_dvd (a^(N-1)) hrN,h1]
 by_cases hd:q∣r-1
 ·exact hd
 ·exfalso
  have hg:Nat.gcd (N-1) (r-1)∣(N-1)/q:=by
   obtain ⟨c,hc⟩:=hqN
   rw [hc,Nat.mul_div_cancel_left _ (by have:=hq.two;omega)]
   have hcop:Nat.Coprime (Nat.gcd (q*c) (r-1)) q:=by
    refine Nat.Coprime.symm (hq.cop fun hx=>hd (Nat.dvd_trans hx (Nat.gcd_dvd_right _ _)))
   exact hcop.dvd_of_dvd_mul_left (Nat.gcd_dvd_left _ _)
  have h3:=KR a r (N-1) (r-1) hM (by rw [hr1];exact hF)
  obtain ⟨k,hk⟩:=hg
  have h4:a^((N-1)/q)%r=1%r:=by
   rw [hk,Nat.pow_mul,←en,h3,en,Nat.one_pow]
  have h5:r∣a^((N-1)/q)%N+(N-1):=by
   apply Nat.dvd_of_mod_eq_zero
   rw [Nat.add_mod,Nat.mod_mod_of_dvd _ hrN,h4,hr1]
   obtain ⟨c,hc⟩:=hrN
   have hc0:0<c:=Nat.pos_of_ne_zero (by rintro rfl;omega)
   have:N-1=(r-1)+r*(c-1):=by rw [Nat.mul_sub,←hc];have:=Nat.le_of_dvd (by omega) (show r∣N from ⟨c,hc⟩);have:=hr.two;omega
   rw [this,Nat.add_mul_mod_self_left,Nat.mod_eq_of_lt (show r-1<r by have:=hr.two;omega),show 1+(r-1)=r by have:=hr.two;omega,Nat.mod_self]
  have h6:r∣1:=h2▸Nat.dvd_gcd h5 hrN
  have:=Nat.le_of_dvd (by omega) h6
  have:=hr.two;omega
theorem nA {N:Nat} (hN:2≤N) (h:∀r,Pr r→r∣N→N<r*r):Pr N:=by
 refine ⟨hN,fun m hm=> ?_⟩
 obtain ⟨c,hc⟩:=hm
 by_cases hm1:m=1
 ·exact .inl hm1
 ·by_cases hc1:c=1
  ·subst hc1;exact .inr (by omega)
  ·exfalso
   have hm0:2≤m:=by
    rcases Nat.lt_or_ge m 2 with h|h
    ·have:m=0:=by omega
     subst this;omega
    ·exact h
   have hc0:2≤c:=by
    rcases Nat.lt_or_ge c 2 with h|h
    ·have:c=0:=by omega
     subst this;omega
    ·exact h
   obtain ⟨r,hr,hrm⟩:=ph m hm0
   obtain ⟨s,hs,hsc⟩:=ph c hc0
   have h1:=h r hr (hc▸Nat.dvd_trans hrm (Nat.dvd_mul_right _ _))
   have h2:=h s hs (hc▸Nat.dvd_trans hsc (Nat.dvd_mul_left _ _))
   have h3:=Nat.le_of_dvd (by omega) hrm
   have h4:=Nat.le_of_dvd (by omega) hsc
   rw [hc] at h1 h2
   have h5:m*c<m*m:=Nat.lt_of_lt_of_le h1 (Nat.mul_le_mul h3 h3)
   have h6:m*c<c*c:=Nat.lt_of_lt_of_le h2 (Nat.mul_le_mul h4 h4)
   have h7:c<m:=Nat.lt_of_mul_lt_mul_left h5
   have h8:m<c:=Nat.lt_of_mul_lt_mul_right h6
   omega
theorem jM {N a q f:Nat} (hN:2≤N) (hq:Pr q) (hqN:(N-1)%q=0) (hf:N-1<2^f) (h1:gS N f a (N-1)=1) (h2:Nat.gcd (gS N f a ((N-1)/q)+(N-1)) N=1) (hs:N<q*q):Pr N:=by
 rw [cS N f _ _ hf] at h1
 rw [cS N f _ _ (Nat.lt_of_le_of_lt (Nat.div_le_self _ _) hf)] at h2
 refine nA hN fun r hr hrN=> ?_
 have h3:=nw hN hq (Nat.dvd_of_mod_eq_zero hqN) h1 h2 hr hrN
 have h4:=Nat.le_of_dvd (by have:=hr.two;omega) h3
 exact Nat.lt_of_lt_of_le hs (Nat.mul_le_mul (by omega) (by omega))
theorem pr {N a q s f:Nat} (hN:2≤N) (hq:Pr q) (hs:Pr s) (hqs:Nat.gcd q s=1) (hqN:(N-1)%q=0) (hsN:(N-1)%s=0) (hf:N-1<2^f) (h1:gS N f a (N-1)=1) (h2:Nat.gcd (gS N f a ((N-1)/q)+(N-1)) N=1) (h3:Nat.gcd (gS N f a ((N-1)/s)+(N-1)) N=1) (hb:N<q*s*(q*s)):Pr N:=by
 rw [cS N f _ _ hf] at h1
 rw [cS N f _ _ (Nat.lt_of_le_of_lt (Nat.div_le_self _ _) hf)] at h2 h3
 refine nA hN fun r hr hrN=> ?_
 have h4:=nw hN hq (Nat.dvd_of_mod_eq_zero hqN) h1 h2 hr hrN
 have h5:=nw hN hs (Nat.dvd_of_mod_eq_zero hsN) h1 h3 hr hrN
 have h6:q*s∣r-1:=Nat.Coprime.mul_dvd_of_dvd_of_dvd hqs h4 h5
 have h7:=Nat.le_of_dvd (by have:=hr.two;omega) h6
 exact Nat.lt_of_lt_of_le hb (Nat.mul_le_mul (by omega) (by omega))
def A5 (n:Nat):Nat→Nat→Bool
 |0,_=>true
 |f+1,d=>if n%d=0 then false else A5 n f (d+1)
theorem nf (n:Nat):∀f d,A5 n f d=true→∀m,d≤m→m<d+f→n%m≠0
 |0,d,_,m,h1,h2=>by omega
 |f+1,d,h,m,h1,h2=>by
  unfold A5 at h
  by_cases h0:n%d=0
  ·rw [if_pos h0] at h;cases h
  ·rw [if_neg h0] at h
   by_cases hm:m=d
   ·rw [hm];exact h0
   ·exact nf n f (d+1) h m (by omega) (by omega)
theorem bT {n f:Nat} (hn:2≤n) (h:A5 n f 2=true) (hf:n<(f+2)*(f+2)):Pr n:=by
 refine nA hn fun r hr hrn=> ?_
 by_cases h1:r<f+2
 ·exact absurd (Nat.mod_eq_zero_of_dvd hrn) (nf n f 2 h r hr.two (by omega))
 ·exact Nat.lt_of_lt_of_le hf (Nat.mul_le_mul (by omega) (by omega))
theorem OO:Pr 991:=bT (f:=31) (by omega) (by decide +kernel) (by omega)
theorem OM:Pr 103:=bT (f:=10) (by omega) (by decide +kernel) (by omega)
theorem ze:Pr 8574133:=pr (a:=2) (q:=991) (s:=103) (f:=24) (by omega) OO OM (by decide +kernel) (by decide +kernel) (by decide +kernel) (by decide +kernel) (by decide +kernel) (by decide +kernel) (by decide +kernel) (by decide +kernel)
theorem ON:Pr 127:=bT (f:=11) (by omega) (by decide +kernel) (by omega)
theorem iH:Pr 1919519569386763:=pr (a:=2) (q:=8574133) (s:=127) (f:=51) (by omega) ze ON (by decide +kernel) (by decide +kernel) (by decide +kernel) (by decide +kernel) (by decide +kernel) (by decide +kernel) (by decide +kernel) (by decide +kernel)
theorem CJ:Pr 569003:=bT (f:=754) (by omega) (by decide +kernel) (by omega)
theorem ox:Pr 2773320623:=jM (a:=2) (q:=569003) (f:=32) (by omega) CJ (by decide +kernel) (by decide +kernel) (by decide +kernel) (by decide +kernel) (by decide +kernel)
theorem nz:Pr 72106336199:=jM (a:=2) (q:=2773320623) (f:=37) (by omega) ox (by decide +kernel) (by decide +kernel) (by decide +kernel) (by decide +kernel) (by decide +kernel)
theorem cl:Pr 75445702479781427272750846543864801:=pr (a:=2) (q:=1919519569386763) (s:=72106336199) (f:=116) (by omega) iH nz (by decide +kernel) (by decide +kernel) (by decide +kernel) (by decide +kernel) (by decide +kernel) (by decide +kernel) (by decide +kernel) (by decide +kernel)
theorem CH:Pr 430751:=bT (f:=656) (by omega) (by decide +kernel) (by omega)
theorem KW:Pr 4153:=bT (f:=64) (by omega) (by decide +kernel) (by omega)
theorem gT:Pr 31757755568855353:=pr (a:=2) (q:=430751) (s:=4153) (f:=55) (by omega) CH KW (by decide +kernel) (by decide +kernel) (by decide +kernel) (by decide +kernel) (by decide +kernel) (by decide +kernel) (by decide +kernel) (by decide +kernel)
theorem aP:Pr 74058212732561358302231226437062788676166966415465897661863160754340907:=pr (a:=2) (q:=75445702479781427272750846543864801) (s:=31757755568855353) (f:=236) (by omega) cl gT (by decide +kernel) (by decide +kernel) (by decide +kernel) (by decide +kernel) (by decide +kernel) (by decide +kernel) (by decide +kernel) (by decide +kernel)
theorem aI:Pr 57896044618658097711785492504343953926634992332820282019728792003956564819949:=jM (a:=2) (q:=74058212732561358302231226437062788676166966415465897661863160754340907) (f:=255) (by omega) aP (by decide +kernel) (by decide +kernel) (by decide +kernel) (by decide +kernel) (by decide +kernel)
theorem KV:Pr 2551:=bT (f:=50) (by omega) (by decide +kernel) (by omega)
theorem zd:Pr 1224481:=jM (a:=2) (q:=2551) (f:=21) (by omega) KV (by decide +kernel) (by decide +kernel) (by decide +kernel) (by decide +kernel) (by decide +kernel)
theorem CI:Pr 531581:=bT (f:=729) (by omega) (by decide +kernel) (by omega)
theorem iG:Pr 1257559732178653:=pr (a:=2) (q:=1224481) (s:=531581) (f:=51) (by omega) zd CI (by decide +kernel) (by decide +kernel) (by decide +kernel) (by decide +kernel) (by decide +kernel) (by decide +kernel) (by decide +kernel) (by decide +kernel)
theorem fY:Pr 4434155615661930479:=jM (a:=2) (q:=1257559732178653) (f:=62) (by omega) iG (by decide +kernel) (by decide +kernel) (by decide +kernel) (by decide +kernel) (by decide +kernel)
theorem dt:Pr 172054593956031949258510691:=jM (a:=2) (q:=4434155615661930479) (f:=88) (by omega) fY (by decide +kernel) (by decide +kernel) (by decide +kernel) (by decide +kernel) (by decide +kernel)
theorem bQ:Pr 19757330305831588566944191468367130476339:=jM (a:=2) (q:=172054593956031949258510691) (f:=134) (by omega) dt (by decide +kernel) (by decide +kernel) (by decide +kernel) (by decide +kernel) (by decide +kernel)
theorem bL:Pr 276602624281642239937218680557139826668747:=jM (a:=2) (q:=19757330305831588566944191468367130476339) (f:=138) (by omega) bQ (by decide +kernel) (by decide +kernel) (by decide +kernel) (by decide +kernel) (by decide +kernel)
theorem aJ:Pr 7237005577332262213973186563042994240857116359379907606001950938285454250989:=jM (a:=2) (q:=276602624281642239937218680557139826668747) (f:=253) (by omega) bL (by decide +kernel) (by decide +kernel) (by decide +kernel) (by decide +kernel) (by decide +kernel)
def Pq:Nat:=57896044618658097711785492504343953926634992332820282019728792003956564819949
def eW:Nat:=57896044618658097711785492504343953926634992332820282019728792003956564819947
theorem wJ:0<Pq:=by unfold Pq;omega
theorem Tj:(57896044618658097711785492504343953926634992332820282019728792003956564819968:Nat)%Pq=19%Pq:=by decide +kernel
def cr (f:Nat→Nat) (c0:Nat):Nat→Nat
 |0=>c0
 |i+1=>(f i+cr f c0 i)/2251799813685248
def bP (f:Nat→Nat) (c0:Nat) (i:Nat):Nat:=(f i+cr f c0 i)%2251799813685248
def val (f:Nat→Nat):Nat:=f 0+2251799813685248*(f 1+2251799813685248*(f 2+2251799813685248*(f 3+2251799813685248*f 4)))
theorem lL (f:Nat→Nat) (c0:Nat):val (bP f c0)+57896044618658097711785492504343953926634992332820282019728792003956564819968*cr f c0 5=val f+c0:=by
 unfold val bP
 simp only [cr]
 omega
def cF (f:Nat→Nat):Nat→Nat:=
 let g:=bP (bP f 0) (cr f 0 5*19)
 let c:=cr (bP f 0) (cr f 0 5*19) 5*19
 fun i=>if i=0 then g 0+c else g i
structure oH (f:Nat→Nat):Prop where
 l0:f 0<2251799813685248+20
 l1:f 1<2251799813685248
 l2:f 2<2251799813685248
 l3:f 3<2251799813685248
 l4:f 4<2251799813685248
theorem dv (a c:Nat):(a+57896044618658097711785492504343953926634992332820282019728792003956564819968*c)%Pq=(a+c*19)%Pq:=by
 rw [Nat.add_mod,Nat.mul_mod,Tj,←Nat.mul_mod,←Nat.add_mod,Nat.mul_comm 19]
theorem qg (f:Nat→Nat):val (cF f)%Pq=val f%Pq:=by
 have h1:=lL f 0
 have h2:=lL (bP f 0) (cr f 0 5*19)
 have e:val (cF f)=val (bP (bP f 0) (cr f 0 5*19))+cr (bP f 0) (cr f 0 5*19) 5*19:=by
  simp only [val,cF,if_true,if_neg (show ¬(1=0) by omega),if_neg (show ¬(2=0) by omega),if_neg (show ¬(3=0) by omega),if_neg (show ¬(4=0) by omega)]
  omega
 rw [e,←dv,h2,←dv,h1,Nat.add_zero]
theorem oR (f:Nat→Nat) (c0:Nat) (h:∀i,i<5→f i≤9223372036854775808) (hc:c0≤9223372036854775807):∀i,i≤5→cr f c0 i≤9223372036854775807
 |0,_=>hc
 |i+1,hi=>by
  have h1:=oR f c0 h hc i (by omega)
  have h2:=h i (by omega)
  unfold cr
  omega
theorem S6 (f:Nat→Nat) (h:∀i,i<5→f i≤9223372036854775808):cr f 0 5≤4097:=by
 have h1:=oR f 0 h (by omega) 4 (by omega)
 have h2:=h 4 (by omega)
 have h3:=oR f 0 h (by omega) 3 (by omega)
 have h4:=h 3 (by omega)
 have e:cr f 0 5=(f 4+cr f 0 4)/2251799813685248:=rfl
 have e2:cr f 0 4=(f 3+cr f 0 3)/2251799813685248:=rfl
 omega
theorem dp (f:Nat→Nat) (c0 i:Nat):bP f c0 i<2251799813685248:=Nat.mod_lt _ (by omega)
theorem w_ (f:Nat→Nat) (c0:Nat) (h:∀i,f i<2251799813685248) (hc:c0≤2251799813685248):∀i,1≤i→cr f c0 i≤1
 |0,h0=>by omega
 |1,_=>by have:=h 0;unfold cr;simp only [cr];omega
 |i+2,_=>by
  have h1:=w_ f c0 h hc (i+1) (by omega)
  have h2:=h (i+1)
  rw [cr];omega
theorem qf (f:Nat→Nat) (h:∀i,i<5→f i≤9223372036854775808):oH (cF f):=by
 have h5:=S6 f h
 have h1:=w_ (bP f 0) (cr f 0 5*19) (dp f 0) (by omega) 5 (by omega)
 have hp:=dp (bP f 0) (cr f 0 5*19)
 refine ⟨?_,?_,?_,?_,?_⟩
 ·show bP (bP f 0) (cr f 0 5*19) 0+cr (bP f 0) (cr f 0 5*19) 5*19<_
  have:=hp 0;omega
 ·exact hp 1
 ·exact hp 2
 ·exact hp 3
 ·exact hp 4
theorem T6:Pr Pq:=aI
instance:NeZero Pq:=⟨by unfold Pq;omega⟩
abbrev F:=Fin Pq
def fn (n:Nat):F:=⟨n%Pq,Nat.mod_lt _ wJ⟩
def bA (x:F) (n:Nat):F:=⟨x.val^n%Pq,Nat.mod_lt _ wJ⟩
def bk (x:F):F:=bA x eW
theorem bI (x:F) (n:Nat):(bA x n).val=x.val^n%Pq:=rfl
theorem F.ext' {x y:F} (h:x.val=y.val):x=y:=Fin.ext h
theorem F.mul_val (x y:F):(x*y).val=x.val*y.val%Pq:=rfl
theorem F.add_val (x y:F):(x+y).val=(x.val+y.val)%Pq:=rfl
theorem ee (x:F) (m n:Nat):bA x (m+n)=bA x m*bA x n:=by
 apply F.ext'
 rw [F.mul_val,bI,bI,bI,Nat.pow_add,Nat.mul_mod]
theorem mu (x:F):bA x 1=x:=by
 apply F.ext';rw [bI,Nat.pow_one,Nat.mod_eq_of_lt x.isLt]
theorem o_ (x:F):bA x 0=1:=by
 apply F.ext';rw [bI,Nat.pow_zero];rfl
theorem Fb (x:F) (m n:Nat):bA (bA x m) n=bA x (m*n):=by
 apply F.ext';rw [bI,bI,bI,en,←Nat.pow_mul]
theorem oh (x y:F) (n:Nat):bA (x*y) n=bA x n*bA y n:=by
 apply F.ext';rw [bI,F.mul_val,F.mul_val,bI,bI,en,Nat.mul_pow,Nat.mul_mod]
theorem ug (n:Nat) (h:0<n):bA 0 n=0:=by
 apply F.ext';rw [bI,show (0:F).val=0 from rfl,Nat.zero_pow h];rfl
theorem F.val_ne {x:F} (h:x≠0):¬Pq∣x.val:=by
 intro hd
 apply h
 apply F.ext'
 show x.val=0
 rw [←Nat.mod_eq_of_lt x.isLt];exact Nat.mod_eq_zero_of_dvd hd
theorem qJ {x:F} (h:x≠0):bA x (Pq-1)=1:=by
 apply F.ext';rw [bI,xu T6 _ (F.val_ne h)];rfl
theorem cW {x:F} (h:x≠0):x*bk x=1:=by
 have h1:=qJ h
 rw [show Pq-1=1+eW from by unfold Pq eW;omega,ee,mu] at h1
 exact h1
instance:Inv F:=⟨bk⟩
instance:Div F:=⟨fun a b=>a*bk b⟩
theorem kj:bk 0=0:=ug _ (by unfold eW;omega)
theorem B4 (x:F):bk (bk x)=x:=by
 by_cases h:x=0
 ·subst h;rw [kj,kj]
 ·have h1:=cW h
  have h2:bk x≠0:=by
   intro e
   have h3:=congrArg Fin.val h1
   rw [e,F.mul_val,show (0:F).val=0 from rfl,Nat.mul_zero] at h3
   exact absurd h3 (by decide)
  have h4:=cW h2
  calc bk (bk x)=1*bk (bk x):=by grind
   _=(x*bk x)*bk (bk x):=by rw [h1]
   _=x*(bk x*bk (bk x)):=by grind
   _=x:=by rw [h4];grind
theorem Fa:bk 1=1:=by
 have h:=cW (x:=1) (by intro h;have:=congrArg Fin.val h;exact absurd this (by decide))
 grind
instance fieldPow:HPow F Int F:=⟨fun x n=>match n with | .ofNat n=>bA x n| .negSucc n=>bk (bA x (n+1))⟩
instance fieldF:Lean.Grind.Field F where
 zpow:=fieldPow
 div_eq_mul_inv:=fun _ _=>rfl
 zero_ne_one:=by intro h;have:=congrArg Fin.val h;exact absurd this (by decide)
 inv_zero:=kj
 mul_inv_cancel:=cW
 zpow_zero:=fun a=>o_ a
 zpow_succ:=fun a n=>by
  show bA a (n+1)=bA a n*a
  rw [ee,mu]
 zpow_neg:=fun a n=>by
  cases n with
  |ofNat n=>
   cases n with
   |zero=>
    show bA a 0=bk (bA a 0)
    rw [o_,Fa]
   |succ n=>rfl
  |negSucc n=>
   show bA a (n+1)=bk (bk (bA a (n+1)))
   rw [B4]
theorem F.dom {x y:F} (h:x*y=0):x=0∨y=0:=by grind
def nL:F:=fn 19681161376707505956807079304988542015446066515923890162744021073123829784752
theorem Bt:nL*nL= -1:=by decide +kernel
def d9:Nat:=7237005577332262213973186563042994240829374041602535252466099000494570602494
def og:Nat:=28948022309329048855892746252171976963317496166410141009864396001978282409974
theorem Ax:og+og=Pq-1:=by decide +kernel
theorem B1:(2*d9)+(2*d9)=2+og:=by decide +kernel
theorem FZ {y:F} (h:y≠0):bA y og=1∨bA y og= -1:=by
 have h1:=qJ h
 rw [←Ax,ee] at h1
 have h2:(bA y og-1)*(bA y og+1)=0:=by grind
 rcases F.dom h2 with h|h
 ·left;grind
 ·right;grind
def eU (x:F):F:=if bA x d9*bA x d9=x then bA x d9 else bA x d9*nL
def cq (x:F):Int:=if eU x*eU x=x then 0 else 7
def bu (x:F):F:=if eU x*eU x=x then (if (eU x).val%2=1 then -eU x else eU x) else 0
theorem Jr (y:F):eU (y*y)*eU (y*y)=y*y:=by
 have h2:bA y 2=y*y:=by rw [show 2=1+1 from rfl,ee,mu]
 have h1:bA (y*y) d9*bA (y*y) d9=y*y*bA y og:=by
  rw [←h2,Fb,←ee,B1,ee]
 unfold eU
 split
 ·assumption
 ·rename_i h
  by_cases hy:y=0
  ·subst hy
   rw [h1] at h;grind
  ·rcases FZ hy with e|e
   ·rw [h1,e] at h;grind
   ·rw [e] at h1
    have:=Bt
    grind
theorem vJ (y:F):cq (y*y)=0:=by unfold cq;rw [if_pos (Jr y)]
theorem A2 (x:F):(-x).val=(Pq-x.val)%Pq:=rfl
theorem Kv (v:Nat) (h:v<Pq) (h1:v%2=1):(Pq-v)%Pq%2=0:=by
 rw [Nat.mod_eq_of_lt (show Pq-v<Pq by omega)]
 have:Pq%2=1:=by decide +kernel
 omega
theorem zk (x:F):(bu x).val%2=0:=by
 unfold bu
 by_cases h:eU x*eU x=x
 ·rw [if_pos h]
  by_cases h1:(eU x).val%2=1
  ·rw [if_pos h1,A2]
   exact Kv _ (eU x).isLt h1
  ·rw [if_neg h1];exact (Nat.mod_two_eq_zero_or_one _).resolve_right h1
 ·rw [if_neg h];rfl
theorem pB {x:F} (h:cq x=0):bu x*bu x=x:=by
 unfold cq at h
 unfold bu
 by_cases e:eU x*eU x=x
 ·rw [if_pos e]
  generalize eU x=c at*
  by_cases h1:c.val%2=1
  ·rw [if_pos h1]
   clear h1 h
   grind
  ·rw [if_neg h1];exact e
 ·rw [if_neg e] at h;cases h
theorem K8 (y:F):bu (y*y)=y∨bu (y*y)= -y:=by
 have h:=pB (vJ y)
 have h2:(bu (y*y)-y)*(bu (y*y)+y)=0:=by grind
 rcases F.dom h2 with h|h
 ·left;grind
 ·right;grind
end Go.Proofs.YtnlhpncaldcllaaGreat
namespace Go.Proofs.YtnlhpncaldcllaaGreat
open Go.RowKit
theorem sy {k:IntKind} {a b:Int} (h:a=b):Ending.returned (.int k a)=Ending.returned (.int k b):=by rw [h]
theorem gW {a b:Bool} (h:a=b):Ending.returned (.bool a)=Ending.returned (.bool b):=by rw [h]
def bV (c:UInt8):Value:= .int .u8 (c.toNat:Int)
structure iS (w:World) (a:Option Addr) (n cap:Nat) (l:List UInt8):Prop where
 hlen:l.length=n
 hcap:n≤cap
 hmax:cap≤maxLen
 get:∀i (h:i<l.length),∃b o,a=some ⟨b,o,none⟩∧w.cell? ⟨b,o+i,none⟩=some (bV l[i])
 hnil:a=none→cap=0
def ao (w:World) (g:Nat) (cs:List Value) (E:TypeId):Prop:=w.heap[g]?=some (.cells cs.toArray E (0,0))
theorem ao.lt {w:World} {g:Nat} {cs:List Value} {E:TypeId} (h:ao w g cs E):g<w.heap.size:=by
 unfold ao at h
 by_cases hg:g<w.heap.size
 ·exact hg
 ·rw [Array.getElem?_eq_none (by omega)] at h;simp at h
theorem ao.cell {w:World} {g:Nat} {cs:List Value} {E:TypeId} (h:ao w g cs E) (i:Nat):w.cell? ⟨g,i,none⟩=cs[i]?:=by
 unfold ao at h
 simp [World.cell?,h]
theorem ao.frozen {w:World} {g:Nat} {cs:List Value} {E:TypeId} (h:ao w g cs E) (i:Nat):w.frozen? ⟨g,i,none⟩=false:=by
 unfold ao at h
 simp [World.frozen?,h]
theorem ao.below {w w':World} {B g:Nat} {cs:List Value} {E:TypeId} (h:ao w g cs E) (hb:Below B w w') (hg:g<B):ao w' g cs E:=by
 unfold ao at*
 rw [hb.block g hg];exact h
theorem ao.below' {w w':World} {g:Nat} {cs:List Value} {E:TypeId} (h:ao w g cs E) (hb:Below w.heap.size w w'):ao w' g cs E:=h.below hb h.lt
theorem ao.alloc {w:World} {g:Nat} {cs:List Value} {E:TypeId} (h:ao w g cs E) (o:Obj):ao (w.alloc o) g cs E:=
 h.below ((Below.refl _ _).alloc (Nat.le_refl _) o) h.lt
theorem ao.drew {w:World} {g:Nat} {cs:List Value} {E:TypeId} (h:ao w g cs E):ao w.drew g cs E:=h
theorem ao.set {w:World} {g:Nat} {cs:List Value} {E:TypeId} (h:ao w g cs E) (i:Nat) (v:Value):ao (w.setCell ⟨g,i,none⟩ v) g (cs.set i v) E:=by
 unfold ao at*
 simp [World.setCell,Array.getElem?_modify,h]
theorem ao.other {w:World} {g:Nat} {cs:List Value} {E:TypeId} (h:ao w g cs E) (a:Addr) (hne:a.block≠g) (v:Value):ao (w.setCell a v) g cs E:=by
 unfold ao at*
 rw [Below.heap_setCell _ _ _ _ (by omega)];exact h
theorem ao.new (w:World) (cs:Array Value) (E:TypeId):ao (w.alloc (.cells cs E)) w.heap.size cs.toList E:=by
 unfold ao
 show (w.heap.push _)[w.heap.size]?=_
 simp
theorem ao.new' {w:World} {cs:Array Value} {E:TypeId} {g:Nat} (hg:g=w.heap.size):ao (w.alloc (.cells cs E)) g cs.toList E:=by
 subst hg;exact ao.new _ _ _
theorem ao.own {w:World} {base E g n:Nat} {xs:List Value} (h:w.ownsRow base E 1 (.slice (some ⟨g,0,none⟩) n n) n xs):ao w g xs E:=by
 obtain ⟨h1,h2⟩:=h
 rcases h2 with ⟨h2,_⟩|⟨g',cap,cur,hv,_,hg,_,_,hs,ht⟩
 ·cases h2
 ·obtain ⟨h3,_,h5⟩:g=g'∧n=n∧n=cap:=by simpa using hv
  subst h3 h5
  have:cur.toList=xs:=by rw [←ht,List.take_of_length_le (by simp [hs])]
  unfold ao
  rw [hg,←this]
def row (n:Nat) (f:Nat→Value):List Value:=(List.range n).map f
theorem sA {n:Nat} {f:Nat→Value} {k:Nat} (h:k<n):(row n f)[k]?=some (f k):=by simp [row,h]
theorem iw {n:Nat} {f g:Nat→Value} (h:∀i,i<n→f i=g i):row n f=row n g:=by
 unfold row;apply List.map_congr_left;intro i hi;exact h i (by simpa using hi)
theorem dA {n:Nat} {f g:Nat→Value} (k:Nat) (v:Value) (hk:g k=v) (h:∀i,i<n→i≠k→g i=f i):(row n f).set k v=row n g:=by
 apply List.ext_getElem
 ·simp [row]
 ·intro i h1 h2
  have hi:i<n:=by simpa [row] using h2
  rw [List.getElem_set]
  split
  ·rename_i e;subst e;simp [row,hk]
  ·rename_i e;simp [row,h i hi (fun x=>e x.symm)]
theorem ao.at {w:World} {g n E:Nat} {f:Nat→Value} (h:ao w g (row n f) E) {k:Nat} (hk:k<n):w.cell? ⟨g,k,none⟩=some (f k):=by rw [h.cell,sA hk]
theorem Cz {w w':World} {base E n:Nat} {v:Value} {xs:List Value} (h:w.ownsRow base E 1 v n xs) (hb:Below w.heap.size w w'):w'.ownsRow base E 1 v n xs:=by
 obtain ⟨h1,h2⟩:=h
 refine ⟨h1,?_⟩
 rcases h2 with h2|⟨g,cap,cur,hv,hg,hh,r⟩
 ·exact Or.inl h2
 ·have hlt:g<w.heap.size:=ao.lt (cs:=cur.toList) (E:=E) (by unfold ao;simpa using hh)
  exact Or.inr ⟨g,cap,cur,hv,hg,by rw [hb.block g hlt];exact hh,r⟩
theorem cz {w:World} {p:Addr} {v:Value} (h:w.cell? p=some v):p.block<w.heap.size:=by
 by_cases hg:p.block<w.heap.size
 ·exact hg
 ·unfold World.cell? at h
  rw [Array.getElem?_eq_none (by omega)] at h;simp at h
theorem iS.below {w w':World} {a:Option Addr} {n cap:Nat} {l:List UInt8} (h:iS w a n cap l) (hb:Below w.heap.size w w'):iS w' a n cap l:=by
 refine ⟨h.hlen,h.hcap,h.hmax,fun i hi=> ?_,h.hnil⟩
 obtain ⟨b,o,ha,hc⟩:=h.get i hi
 exact ⟨b,o,ha,by rw [hb.cell (cz hc)];exact hc⟩
theorem iS.blk {w:World} {g E n cap:Nat} {l:List UInt8} (r:List Value) (h:ao w g (l.map bV++r) E) (hn:l.length=n) (hc:n≤cap) (hm:cap≤maxLen):iS w (some ⟨g,0,none⟩) n cap l:=
 ⟨hn,hc,hm,fun i hi=>⟨g,0,rfl,by rw [Nat.zero_add,h.cell,List.getElem?_append_left (by simpa using hi)];simp [hi]⟩,fun h=>by cases h⟩
theorem iS.cases {w:World} {a:Option Addr} {n cap:Nat} {l:List UInt8} (h:iS w a n cap l):
  (n=0∧l= [])∨∃b o,0<n∧a=some ⟨b,o,none⟩∧∀i (hi:i<l.length),w.cell? ⟨b,o+i,none⟩=some (bV l[i]):=by
 by_cases h0:n=0
 ·exact .inl ⟨h0,List.eq_nil_of_length_eq_zero (by rw [h.hlen,h0])⟩
 ·obtain ⟨b,o,ha,_⟩:=h.get 0 (by have:=h.hlen;omega)
  refine .inr ⟨b,o,by omega,ha,fun i hi=> ?_⟩
  obtain ⟨b',o',ha',hc⟩:=h.get i hi
  rw [ha] at ha'
  simp at ha'
  obtain ⟨rfl,rfl⟩:=ha'
  exact hc
theorem Below.alloc' {a w:World} (h:Below a.heap.size a w) (o:Obj):Below a.heap.size a (w.alloc o):=h.alloc h.size o
theorem Below.call {a w w1:World} (h:Below a.heap.size a w) (hb:Below w.heap.size w w1):Below a.heap.size a w1:=h.trans (hb.mono h.size)
theorem z8 {W w1:World} (hb:Below W.heap.size W w1):(∀b o,b<W.heap.size→w1.cell? ⟨b,o,none⟩=W.cell? ⟨b,o,none⟩)∧(∀b o,b<W.heap.size→w1.frozen? ⟨b,o,none⟩=W.frozen? ⟨b,o,none⟩):=
 ⟨fun b o h=>hb.cell (p:=⟨b,o,none⟩) h,fun b o h=>hb.frozen (p:=⟨b,o,none⟩) h⟩
theorem iK:∀(xs ys:List Int),xs.length=ys.length→((List.range xs.length).all fun i=>xs.getD i 0 ==ys.getD i 0)=(xs ==ys)
 | [],[],_=>rfl
 |x::xs,y::ys,h=>by
  have ih:=iK xs ys (by simpa using h)
  rw [List.length_cons,List.range_succ_eq_map,List.all_cons,List.all_map]
  simp only [List.getD_cons_zero,Function.comp_def,List.getD_cons_succ,ih]
  simp [List.cons_beq_cons]
 | [],_::_,h=>by simp at h
 |_::_,[],h=>by simp at h
theorem My {P:Program} (w:World) (d:Nat) (t e:TypeId) (n:Nat) (k:IntKind) (ht:P.underlying t=some (.array n e)) (he:P.underlying e=some (.int k)) (hsz:∀w,(sizeOf e).run P w= .ok 1 w)
  (xs ys:List Int) (hx:xs.length=n) (hy:ys.length=n):
  (Op.equalIn (d+2) t (.agg (xs.map (Value.int k)).toArray) (.agg (ys.map (Value.int k)).toArray)).run P w= .ok (xs ==ys) w:=by
 rw [←iK xs ys (hx.trans hy.symm),hx,List.range_eq_range',Op.equalIn]
 simp only [Sem.run_bind,run_underlying ht,Result.andThen_ok,hsz,Std.Legacy.Range.forIn_eq_forIn_range',Std.Legacy.Range.size,Nat.sub_zero,Nat.add_sub_cancel,Nat.div_one]
 have hl:∀i∈List.range' 0 n 1,i<n:=fun i hi=>by simpa using (List.mem_range'_1.1 hi).2
 generalize List.range' 0 n 1=l at hl ⊢
 induction l with
 |nil=>simp
 |cons i l ih=>
  have hi:i<n:=hl i (by simp)
  have px:(part e (xs.map (Value.int k)).toArray (i*1)).run P w= .ok (Value.int k (xs.getD i 0)) w:=by
   simp [part,isAgg,run_underlying he,List.getD,List.getElem?_eq_getElem (show i<xs.length by omega)]
  have py:(part e (ys.map (Value.int k)).toArray (i*1)).run P w= .ok (Value.int k (ys.getD i 0)) w:=by
   simp [part,isAgg,run_underlying he,List.getD,List.getElem?_eq_getElem (show i<ys.length by omega)]
  have pe:(Op.equalIn (d+1) e (Value.int k (xs.getD i 0)) (Value.int k (ys.getD i 0))).run P w= .ok (xs.getD i 0 ==ys.getD i 0) w:=by
   rw [run_equalIn_int w d e k k _ _ he]
  simp only [List.forIn_cons,Sem.run_bind,px,py,pe,Result.andThen_ok,List.all_cons]
  cases hb:(xs.getD i 0 ==ys.getD i 0)
  ·simp
  ·simp only [Bool.not_true,Bool.false_eq_true,if_false,Sem.run_pure,Result.andThen_ok,Bool.true_and]
   exact ih fun j hj=>hl j (by simp [hj])
theorem dO {P:Program} {c:Code} {Q:Exit→Act→World→Prop} {a:Act} {w:World} (F:World→Prop) (hF:F w) (h:∀W,F W→Code.wp P c Q a W):Code.wp P c Q a w:=h w hF
end Go.Proofs.YtnlhpncaldcllaaGreat
namespace Go.Proofs.YtnlhpncaldcllaaGreat
open Go Go.RowKit
structure Rp (α:Type) where
 n:Nat
 rep:α→List Value→Prop
 pos:0<n
 len:∀(x:α) cs,rep x cs→cs.length=n
 one:∀(x:α) cs,rep x cs→∀v∈cs,v.oneCell'=true
variable {α:Type} {R:Rp α}
def aU {α:Type} (R:Rp α):List α→List Value→Prop
 | [],cs=>cs= []
 |x::xs,cs=>∃h r,R.rep x h∧cs=h++r∧aU R xs r
theorem aU.len:∀ {xs:List α} {cs:List Value},aU R xs cs→cs.length=R.n*xs.length
 | [],_,h=>by cases h;simp
 |x::xs,cs,h=>by
  obtain ⟨h,r,hx,rfl,hr⟩:=h
  have:=R.len _ _ hx
  have:=aU.len hr
  simp [List.length_append,Nat.mul_add];omega
theorem aU.one:∀ {xs:List α} {cs:List Value},aU R xs cs→∀v∈cs,v.oneCell'=true
 | [],_,h,v,hv=>by cases h;simp at hv
 |x::xs,cs,h,v,hv=>by
  obtain ⟨h,r,hx,rfl,hr⟩:=h
  rcases List.mem_append.1 hv with hv|hv
  ·exact R.one _ _ hx v hv
  ·exact aU.one hr v hv
theorem aU.drop:∀(k:Nat) {xs:List α} {cs:List Value},aU R xs cs→aU R (xs.drop k) (cs.drop (R.n*k))
 |0,_,_,h=>by simpa using h
 |k+1,[],_,h=>by cases h;simp [aU]
 |k+1,x::xs,cs,h=>by
  obtain ⟨h,r,hx,rfl,hr⟩:=h
  have e:=R.len _ _ hx
  have:=aU.drop k hr
  have e2:(h++r).drop (R.n*(k+1))=r.drop (R.n*k):=by
   rw [show R.n*(k+1)=h.length+R.n*k by rw [e,Nat.mul_add];omega,List.drop_append];simp
  rw [List.drop_succ_cons,e2]
  exact this
theorem aU.take:∀(k:Nat) {xs:List α} {cs:List Value},aU R xs cs→aU R (xs.take k) (cs.take (R.n*k))
 |0,_,_,h=>by simp [aU]
 |k+1,[],_,h=>by cases h;simp [aU]
 |k+1,x::xs,cs,h=>by
  obtain ⟨h,r,hx,rfl,hr⟩:=h
  have e:=R.len _ _ hx
  rw [List.take_succ_cons]
  refine ⟨h,r.take (R.n*k),hx,?_,aU.take k hr⟩
  rw [List.take_append,List.take_of_length_le (by rw [e,Nat.mul_add];omega),e,Nat.mul_add,Nat.mul_one,Nat.add_sub_cancel]
theorem aU.app:∀ {xs ys:List α} {cs ds:List Value},aU R xs cs→aU R ys ds→aU R (xs++ys) (cs++ds)
 | [],_,_,_,h,k=>by cases h;simpa using k
 |x::xs,ys,cs,ds,h,k=>by
  obtain ⟨h,r,hx,rfl,hr⟩:=h
  exact ⟨h,r++ds,hx,by simp,aU.app hr k⟩
theorem aU.single {x:α} {cs:List Value} (h:R.rep x cs):aU R [x] cs:=⟨cs,[],h,by simp,rfl⟩
theorem aU.of_single {x:α} {cs:List Value} (h:aU R [x] cs):R.rep x cs:=by
 obtain ⟨h,r,hx,rfl,hr⟩:=h
 obtain rfl:r= []:=hr
 simpa using hx
theorem dw (b:Nat):∀(vs:List Value) (o:Nat) (w:World) (k:Nat),k≠b→(w.setCells b o vs).heap[k]?=w.heap[k]?
 | [],_,_,_,_=>rfl
 |v::r,o,w,k,h=>by rw [World.setCells,dw b r _ _ k h,Below.heap_setCell _ _ _ _ h]
theorem dB (b:Nat):∀(vs:List Value) (o:Nat) (w:World),(w.setCells b o vs).heap.size=w.heap.size
 | [],_,_=>rfl
 |v::r,o,w=>by rw [World.setCells,dB b r];simp [World.setCell]
theorem aS {B b:Nat} {w0:World} (hb:B≤b):∀(vs:List Value) (o:Nat) (w:World),Below B w0 w→Below B w0 (w.setCells b o vs)
 | [],_,_,h=>h
 |v::r,o,w,h=>by rw [World.setCells];exact aS hb r _ _ (h.setCell hb v)
structure WP where
 P:Value→World→Prop
 st:∀v w w',P v w→Below w.heap.size w w'→P v w'
inductive PU where
 |any
 /-- the numbers xs -/
 |val {α:Type} (R:Rp α) (xs:List α)
 /-- where something lies -/
 |ptr (g o:Nat)
 /-- a new variable of n cells -/
 |new (n:Nat)
 /-- a new variable that holds xs -/
 |box {α:Type} (R:Rp α) (xs:List α)
 /-- operation a's new variable holds xs -/
 |st (a:Nat) {α:Type} (R:Rp α) (xs:List α)
 /-- the old variable g holds xs -/
 |sto (g:Nat) {α:Type} (R:Rp α) (xs:List α)
 /-- one cell of the old block g is now v, the rest of it as it was -/
 |cst (g o:Nat) (v:Value)
 /-- a value that is known otherwise -/
 |oth (φ:Value→Prop)
 /-- a new slice of these cells, till operation v comes up -/
 |tmp (n:Nat) (cs:List Value) (v:Nat)
 /-- a new slice of these bytes -/
 |rd (l:List UInt8)
 /-- a new slice of these bytes, till operation v comes up -/
 |rdt (l:List UInt8) (v:Nat)
 /-- these bytes, alone in a new block, till operation v comes up -/
 |own (l:List UInt8) (v:Nat)
 /-- a value that is so, till operation v comes up -/
 |wld (φ:WP) (v:Option Nat)
end Go.Proofs.YtnlhpncaldcllaaGreat
namespace Go.Proofs.YtnlhpncaldcllaaGreat
def O4 (f:Nat→Nat):Nat→Nat
 |0=>0
 |n+1=>O4 f n+f n*65536^n
theorem pL {f g:Nat→Nat}:∀n,(∀i,i<n→f i=g i)→O4 f n=O4 g n
 |0,_=>rfl
 |n+1,h=>by simp only [O4];rw [pL n (fun i hi=>h i (by omega)),h n (by omega)]
def EN (n i:Nat):Nat:=n/65536^i%65536
theorem NM (n i:Nat):EN n i<65536:=Nat.mod_lt _ (by omega)
theorem qu (x:Nat):∀n,O4 (EN x) n=x%65536^n
 |0=>by simp [O4,Nat.mod_one]
 |n+1=>by
  rw [O4,qu x n,Nat.pow_succ,Nat.mod_mul]
  unfold EN
  rw [Nat.mul_comm (65536^n)]
def lw (n i:Nat):Nat:=n/2^(64*i)%18446744073709551616
theorem b6 (n i:Nat):lw n i<18446744073709551616:=by unfold lw;exact Nat.mod_lt _ (by omega)
def cy (a b i:Nat):Nat:=(a%2^(64*i)+b%2^(64*i))/2^(64*i)
def bw (a b i:Nat):Nat:=if a%2^(64*i)<b%2^(64*i) then 1 else 0
theorem dq (i:Nat):2^(64*(i+1))=2^(64*i)*18446744073709551616:=by
 rw [Nat.mul_add,Nat.pow_add]
theorem JA (a b:Nat):cy a b 0=0:=by simp [cy,Nat.mod_one]
theorem Jo (a b:Nat):bw a b 0=0:=by simp [bw,Nat.mod_one]
theorem QK (a b i:Nat):cy a b i≤1:=by
 unfold cy
 have hp:0<2^(64*i):=Nat.two_pow_pos _
 have h1:=Nat.mod_lt a hp
 have h2:=Nat.mod_lt b hp
 have h3:(a%2^(64*i)+b%2^(64*i))/2^(64*i)<2:=Nat.div_lt_of_lt_mul (by omega)
 omega
theorem QJ (a b i:Nat):bw a b i≤1:=by unfold bw;split<;>omega
theorem du (n P M:Nat):n%(P*M)=(n/P%M)*P+n%P:=by
 rw [Nat.mod_mul];rw [Nat.mul_comm P];omega
theorem td (a b i:Nat):(lw a i+lw b i+cy a b i)%18446744073709551616=lw (a+b) i∧(lw a i+lw b i+cy a b i)/18446744073709551616=cy a b (i+1):=by
 have hp:0<2^(64*i):=Nat.two_pow_pos _
 unfold lw cy
 rw [dq]
 generalize 2^(64*i)=P at hp
 have ea:=Nat.div_add_mod a P
 have eb:=Nat.div_add_mod b P
 have e:(a+b)/P=a/P+b/P+(a%P+b%P)/P:=by
  have:a+b=(a%P+b%P)+P*(a/P+b/P):=by rw [Nat.mul_add];omega
  rw [this,Nat.add_mul_div_left _ _ hp]
  have h1:(a%P+b%P+P*(a/P+b/P))%P=(a%P+b%P)%P:=by rw [Nat.add_mul_mod_self_left]
  omega
 constructor
 ·rw [e];omega
 ·rw [du a,du b,←Nat.div_div_eq_div_mul]
  have:a/P%18446744073709551616*P+a%P+(b/P%18446744073709551616*P+b%P)=(a%P+b%P)+P*(a/P%18446744073709551616+b/P%18446744073709551616):=by
   rw [Nat.mul_add,Nat.mul_comm P,Nat.mul_comm P];omega
  rw [this,Nat.add_mul_div_left _ _ hp]
  congr 1;omega
theorem Hk (a b i:Nat) (hi:i<4) (hb:b<2^256):
  (((lw a i:Int)-lw b i-bw a b i)%18446744073709551616=lw (a+2^256-b) i)∧((if (lw a i:Int)<lw b i+bw a b i then (1:Int) else 0)=bw a b (i+1)):=by
 have hp:0<2^(64*i):=Nat.two_pow_pos _
 obtain ⟨q,hq⟩:∃q,(2:Nat)^256=2^(64*i)*(18446744073709551616*q):=by
  refine ⟨2^(256-64*(i+1)),?_⟩
  rw [←Nat.mul_assoc,←dq,←Nat.pow_add]
  congr 1;omega
 unfold lw bw
 rw [dq,hq]
 rw [hq] at hb
 generalize 2^(64*i)=P at hp hb
 have ea:=Nat.div_add_mod a P
 have eb:=Nat.div_add_mod b P
 have ha1:=Nat.mod_lt a hp
 have hb1:=Nat.mod_lt b hp
 have hbq:b/P<18446744073709551616*q:=Nat.div_lt_of_lt_mul hb
 rw [du a,du b]
 constructor
 ·by_cases h:a%P<b%P
  ·rw [if_pos h]
   have e:a+P*(18446744073709551616*q)-b=(a%P+P-b%P)+P*(a/P+18446744073709551616*q-b/P-1):=by
    rw [Nat.mul_sub,Nat.mul_sub,Nat.mul_add,Nat.mul_one]
    have:P*(b/P)+P≤P*(18446744073709551616*q):=by
     rw [←Nat.mul_succ];exact Nat.mul_le_mul_left _ hbq
    omega
   have hs:a%P+P-b%P<P:=by omega
   rw [e,Nat.add_mul_div_left _ _ hp,Nat.div_eq_of_lt hs]
   clear e hs ea eb hb
   generalize a/P=x at*
   generalize b/P=y at*
   omega
  ·rw [if_neg h]
   have e:a+P*(18446744073709551616*q)-b=(a%P-b%P)+P*(a/P+18446744073709551616*q-b/P):=by
    rw [Nat.mul_sub,Nat.mul_add]
    have:P*(b/P)≤P*(18446744073709551616*q):=Nat.mul_le_mul_left _ (Nat.le_of_lt hbq)
    omega
   have hs:a%P-b%P<P:=by omega
   rw [e,Nat.add_mul_div_left _ _ hp,Nat.div_eq_of_lt hs]
   clear e hs ea eb hb
   generalize a/P=x at*
   generalize b/P=y at*
   omega
 ·have key:(a/P%18446744073709551616*P+a%P<b/P%18446744073709551616*P+b%P)↔(a/P%18446744073709551616<b/P%18446744073709551616+(if a%P<b%P then 1 else 0)):=by
   generalize a/P%18446744073709551616=x
   generalize b/P%18446744073709551616=y
   have hxy:x<y∨x=y∨y<x:=by omega
   rcases hxy with h|h|h
   ·have:x*P+P≤y*P:=by rw [←Nat.succ_mul];exact Nat.mul_le_mul_right _ h
    split<;>omega
   ·subst h;split<;>omega
   ·have:y*P+P≤x*P:=by rw [←Nat.succ_mul];exact Nat.mul_le_mul_right _ h
    split<;>omega
  by_cases h:a%P<b%P
  ·simp only [h,if_true] at key ⊢
   by_cases h2:a/P%18446744073709551616<b/P%18446744073709551616+1
   ·rw [if_pos (key.2 h2)]
    generalize a/P=x at*
    generalize b/P=y at*
    rw [if_pos (by omega)];rfl
   ·rw [if_neg (fun hh=>h2 (key.1 hh))]
    generalize a/P=x at*
    generalize b/P=y at*
    rw [if_neg (by omega)];rfl
  ·simp only [h,if_false] at key ⊢
   by_cases h2:a/P%18446744073709551616<b/P%18446744073709551616+0
   ·rw [if_pos (key.2 h2)]
    generalize a/P=x at*
    generalize b/P=y at*
    rw [if_pos (by omega)];rfl
   ·rw [if_neg (fun hh=>h2 (key.1 hh))]
    generalize a/P=x at*
    generalize b/P=y at*
    rw [if_neg (by omega)];rfl
theorem Ov (n i:Nat) (hi:i<4):lw (n%2^256) i=lw n i:=by
 have h:i=0∨i=1∨i=2∨i=3:=by omega
 unfold lw
 rcases h with rfl|rfl|rfl|rfl<;>simp only [Nat.reduceMul,Nat.reducePow]<;>omega
def Lq:Nat:=7237005577332262213973186563042994240857116359379907606001950938285454250989
def once (a:Nat):Nat:=if a<Lq then a else a-Lq
theorem uW {a:Nat} (h:a<2*Lq):once a=a%Lq:=by
 unfold once;unfold Lq at *;split<;>omega
theorem yJ (N j:Nat):lw N (j/64)/2^(j%64)%2=N/2^j%2:=by
 unfold lw
 have h1:j%64<64:=Nat.mod_lt _ (by omega)
 have h2:(18446744073709551616:Nat)=2^(j%64)*(2*2^(63-j%64)):=by
  rw [show (18446744073709551616:Nat)=2^64 from rfl,←Nat.pow_succ',←Nat.pow_add];congr 1;omega
 rw [h2,Nat.mod_mul_right_div_self,Nat.mod_mul_right_mod,Nat.div_div_eq_div_mul,←Nat.pow_add]
 congr 3;omega
theorem sw (N j:Nat):once (2*(N/2^(j+1)%Lq)+N/2^j%2)=N/2^j%Lq:=by
 have hL:0<Lq:=by unfold Lq;omega
 have h1:=Nat.mod_lt (N/2^(j+1)) hL
 rw [uW (by omega)]
 have e:N/2^j=2*(N/2^(j+1))+N/2^j%2:=by
  rw [Nat.pow_succ,←Nat.div_div_eq_div_mul];omega
 conv=>rhs;rw [e]
 rw [Nat.add_mod,Nat.mul_mod,Nat.mod_mod,←Nat.mul_mod,←Nat.add_mod]
theorem Gf (r b:Nat) (hb:b<2):lw (r+r+b) 0=lw (r+r) 0+b∧∀i,lw (r+r+b) (i+1)=lw (r+r) (i+1):=by
 constructor
 ·simp only [lw,Nat.mul_zero,Nat.pow_zero,Nat.div_one];omega
 ·intro i
  unfold lw
  congr 1
  rw [show 64*(i+1)=1+(64*i+63) from by omega,Nat.pow_add,←Nat.div_div_eq_div_mul,←Nat.div_div_eq_div_mul]
  congr 1;omega
theorem Ko (r:Nat):lw (r+r) 0%2=0:=by simp only [lw,Nat.mul_zero,Nat.pow_zero,Nat.div_one];omega
def bo:List UInt8→Nat
 | []=>0
 |c::l=>c.toNat+256*bo l
theorem m7 (l m:List UInt8):bo (l++m)=bo l+256^l.length*bo m:=by
 induction l with
 |nil=>simp [bo]
 |cons c l ih=>simp only [List.cons_append,bo,ih,List.length_cons,Nat.pow_succ,Nat.mul_add];rw [Nat.mul_comm (256^l.length) 256,Nat.mul_assoc];omega
theorem Gb (l:List UInt8):bo l<256^l.length:=by
 induction l with
 |nil=>simp [bo]
 |cons c l ih=>
  have:=c.toNat_lt
  simp only [bo,List.length_cons,Nat.pow_succ]
  omega
theorem jE (l:List UInt8) (k:Nat) (hk:k<l.length):bo (l.take (k+1))=bo (l.take k)+l[k].toNat*256^k:=by
 rw [List.take_succ_eq_append_getElem hk,m7]
 simp [bo,List.length_take,Nat.min_eq_left (Nat.le_of_lt hk)]
 rw [Nat.mul_comm]
theorem Cf (n:Nat):bo (List.replicate n 0)=0:=by
 induction n with
 |zero=>rfl
 |succ n ih=>simp [List.replicate_succ,bo,ih]
theorem dF (l:List UInt8) (k:Nat):bo (l.take k)<256^k:=
 Nat.lt_of_lt_of_le (Gb _) (Nat.pow_le_pow_right (by omega) (by simp;omega))
theorem OK (k:Nat):(256:Nat)^k=2^(8*k):=by rw [Nat.pow_mul]
theorem KN (n k c:Nat) (hn:n<256^k) (hc:c<256):lw n (k/8)|||c*2^(8*(k%8))=lw (n+c*256^k) (k/8):=by
 rw [OK] at*
 have hk:8*k=64*(k/8)+8*(k%8):=by omega
 have hr:8*(k%8)≤56:=by omega
 unfold lw
 rw [hk,Nat.pow_add] at hn
 rw [hk,Nat.pow_add]
 clear hk
 generalize 64*(k/8)=Q at*
 generalize 8*(k%8)=R at*
 have hq:0<2^Q:=Nat.two_pow_pos _
 have h1:n/2^Q<2^R:=Nat.div_lt_of_lt_mul hn
 have h2:2^R≤2^56:=Nat.pow_le_pow_right (by omega) hr
 have h3:c*2^R≤255*2^R:=Nat.mul_le_mul_right _ (by omega)
 have e:n+c*(2^Q*2^R)=n+2^Q*(c*2^R):=by rw [←Nat.mul_assoc,Nat.mul_comm c,Nat.mul_assoc]
 rw [e,Nat.add_mul_div_left _ _ hq,Nat.mod_eq_of_lt (by omega),Nat.mod_eq_of_lt (by omega)]
 have h4:=Nat.shiftLeft_add_eq_or_of_lt h1 c
 rw [Nat.shiftLeft_eq] at h4
 rw [Nat.or_comm,←h4];omega
theorem uZ (n k c j:Nat) (hn:n<256^k) (hc:c<256) (hj:j≠k/8):lw (n+c*256^k) j=lw n j:=by
 rw [OK] at*
 unfold lw
 by_cases h:j<k/8
 ·have e:n+c*2^(8*k)=n+2^(64*j)*(18446744073709551616*(c*2^(8*k-64*j-64))):=by
   rw [show 8*k=64*j+(64+(8*k-64*j-64)) from by omega,Nat.pow_add,Nat.pow_add,show (18446744073709551616:Nat)=2^64 from rfl]
   rw [show 64*j+(64+(8*k-64*j-64))-64*j-64=8*k-64*j-64 from by omega]
   generalize 2^(8*k-64*j-64)=y
   generalize 2^(64*j)=x
   rw [show c*(x*(2^64*y))=x*(2^64*(c*y)) from by grind]
  rw [e,Nat.add_mul_div_left _ _ (Nat.two_pow_pos _),Nat.add_mul_mod_self_left]
 ·have hb:n+c*2^(8*k)<2^(64*j):=by
   have h1:c*2^(8*k)≤255*2^(8*k):=Nat.mul_le_mul_right _ (by omega)
   have h2:2^(8*k+8)≤2^(64*j):=Nat.pow_le_pow_right (by omega) (by omega)
   rw [Nat.pow_add] at h2
   omega
  rw [Nat.div_eq_of_lt hb,Nat.div_eq_of_lt (Nat.lt_of_le_of_lt (Nat.le_add_right _ _) hb)]
def aV (k n:Nat):List UInt8:=(List.range k).map fun i=>UInt8.ofNat (n/2^(8*i))
theorem ar (k n:Nat):(aV k n).length=k:=by simp [aV]
theorem cD (k n i:Nat) (h:i<(aV k n).length):(aV k n)[i]=UInt8.ofNat (n/2^(8*i)):=by simp [aV]
theorem fP (j k n:Nat):aV (j+k) n=aV j n++aV k (n/2^(8*j)):=by
 apply List.ext_getElem
 ·simp [ar]
 ·intro i h1 h2
  rw [cD]
  by_cases h:i<j
  ·rw [List.getElem_append_left (by simpa [ar] using h),cD]
  ·rw [List.getElem_append_right (by simpa [ar] using h),cD,ar,Nat.div_div_eq_div_mul,←Nat.pow_add]
   simp [ar] at h1;congr 3;omega
theorem il (n:Nat):UInt8.ofNat (n%256)=UInt8.ofNat n:=by
 apply UInt8.toNat_inj.1;simp
theorem Kl (k n:Nat):aV k (n%2^(8*k))=aV k n:=by
 apply List.ext_getElem
 ·simp [ar]
 ·intro i h1 h2
  have hi:i<k:=by simpa [ar] using h1
  rw [cD,cD,←il,←il (n/_)]
  congr 1
  rw [show 8*k=8*i+(8+(8*k-8*i-8)) from by omega,Nat.pow_add,Nat.mod_mul_right_div_self,Nat.pow_add,show (2:Nat)^8=256 from rfl,Nat.mod_mul_right_mod]
theorem lE (k n:Nat):bo (aV k n)=n%2^(8*k):=by
 induction k generalizing n with
 |zero=>simp [aV,bo,Nat.mod_one]
 |succ k ih=>
  rw [show k+1=1+k from by omega,fP,show aV 1 n= [UInt8.ofNat n] from by simp [aV],List.singleton_append,bo,ih]
  rw [show 8*(1+k)=8*1+8*k from by omega,Nat.pow_add,Nat.mod_mul]
  simp
theorem AL (l:List UInt8):aV l.length (bo l)=l:=by
 induction l with
 |nil=>rfl
 |cons c l ih=>
  rw [List.length_cons,show l.length+1=1+l.length from by omega,fP,show aV 1 (bo (c::l))= [UInt8.ofNat (bo (c::l))] from by simp [aV]]
  have h1:bo (c::l)/2^(8*1)=bo l:=by have:=c.toNat_lt;simp only [bo];omega
  have h2:UInt8.ofNat (bo (c::l))=c:=by
   apply UInt8.toNat_inj.1;have:=c.toNat_lt;simp [bo]
  rw [h1,ih,h2];rfl
theorem Gg (A s Q z:Nat) (hQ:0<Q):
  (A+s+Q*z)/Q%18446744073709551616=(z+(A%Q+s)/Q+A/Q%18446744073709551616)%18446744073709551616∧
  (A%(Q*18446744073709551616)+s+Q*z)/(Q*18446744073709551616)=(z+(A%Q+s)/Q+A/Q%18446744073709551616)/18446744073709551616:=by
 constructor
 ·have e:A+s+Q*z=(A%Q+s)+Q*(A/Q+z):=by
   have:=Nat.div_add_mod A Q;rw [Nat.mul_add];omega
  rw [e,Nat.add_mul_div_left _ _ hQ];omega
 ·rw [←Nat.div_div_eq_div_mul,du A]
  have e:A/Q%18446744073709551616*Q+A%Q+s+Q*z=(A%Q+s)+Q*(A/Q%18446744073709551616+z):=by
   rw [Nat.mul_add,Nat.mul_comm Q (_%_)];omega
  rw [e,Nat.add_mul_div_left _ _ hQ]
  congr 1;omega
def ir (a b i:Nat):Nat:=(a%2^(64*i))*b
def ow (a b i j:Nat):Nat:=lw a i*2^(64*i)*(b%2^(64*j))
def s_ (a b i j:Nat):Nat:=(ir a b i%2^(64*(i+j))+ow a b i j)/2^(64*(i+j))
theorem ny (a b i j:Nat):ow a b i (j+1)=ow a b i j+2^(64*(i+j))*(lw a i*lw b j):=by
 unfold ow
 rw [show b%2^(64*(j+1))=lw b j*2^(64*j)+b%2^(64*j) from by rw [dq,du];rfl]
 rw [show 64*(i+j)=64*i+64*j from by omega,Nat.pow_add]
 generalize 2^(64*i)=P
 generalize 2^(64*j)=R
 grind
theorem sm (a b i j:Nat):lw (ir a b i+ow a b i (j+1)) (i+j)=(lw a i*lw b j+s_ a b i j+lw (ir a b i) (i+j))%18446744073709551616∧
  s_ a b i (j+1)=(lw a i*lw b j+s_ a b i j+lw (ir a b i) (i+j))/18446744073709551616:=by
 have h:=Gg (ir a b i) (ow a b i j) (2^(64*(i+j))) (lw a i*lw b j) (Nat.two_pow_pos _)
 rw [ny,←Nat.add_assoc]
 refine ⟨h.1,?_⟩
 refine Eq.trans ?_ h.2
 unfold s_
 rw [ny,show 64*(i+(j+1))=64*(i+j+1) from by omega,dq,Nat.add_assoc]
theorem OP (a b i j q:Nat) (hq:q<i+j):lw (ir a b i+ow a b i (j+1)) q=lw (ir a b i+ow a b i j) q:=by
 rw [ny]
 generalize lw a i*lw b j=z
 unfold lw
 rw [show 64*(i+j)=64*q+(64+(64*(i+j)-64*q-64)) from by omega,Nat.pow_add,Nat.pow_add,show (2:Nat)^64=18446744073709551616 from rfl]
 generalize 2^(64*(i+j)-64*q-64)=y
 generalize hx:2^(64*q)=x
 have hp:0<x:=by rw [←hx];exact Nat.two_pow_pos _
 rw [show ir a b i+(ow a b i j+x*(18446744073709551616*y)*z)=(ir a b i+ow a b i j)+x*(18446744073709551616*(y*z)) from by grind,Nat.add_mul_div_left _ _ hp,Nat.add_mul_mod_self_left]
theorem sk (a b i j:Nat):s_ a b i j<18446744073709551616:=by
 cases j with
 |zero=>
  unfold s_ ow
  rw [Nat.mul_zero,Nat.pow_zero,Nat.mod_one,Nat.mul_zero,Nat.add_zero,Nat.add_zero,Nat.div_eq_of_lt (Nat.mod_lt _ (Nat.two_pow_pos _))]
  omega
 |succ j=>
  rw [(sm a b i j).2]
  have h1:=b6 a i;have h2:=b6 b j;have h3:=b6 (ir a b i) (i+j)
  have h4:=sk a b i j
  have h5:lw a i*lw b j≤18446744073709551615*18446744073709551615:=Nat.mul_le_mul (by omega) (by omega)
  omega
theorem GU (a b i:Nat):s_ a b i 0=0:=by
 unfold s_ ow
 rw [Nat.mul_zero,Nat.pow_zero,Nat.mod_one,Nat.mul_zero,Nat.add_zero,Nat.add_zero,Nat.div_eq_of_lt (Nat.mod_lt _ (Nat.two_pow_pos _))]
theorem vr (a b i:Nat) (hb:b<2^256):ir a b i+ow a b i 4=ir a b (i+1):=by
 unfold ir ow
 rw [Nat.mod_eq_of_lt (show b<2^(64*4) from hb),dq,du,Nat.add_mul]
 unfold lw;omega
theorem zc (a b i:Nat) (hb:b<2^256):ir a b i<2^(64*(i+4)):=by
 unfold ir
 rw [show 64*(i+4)=64*i+256 from by omega,Nat.pow_add]
 have h1:a%2^(64*i)<2^(64*i):=Nat.mod_lt _ (Nat.two_pow_pos _)
 exact Nat.lt_of_le_of_lt (Nat.mul_le_mul_right _ (Nat.le_of_lt h1)) (Nat.mul_lt_mul_of_pos_left hb (Nat.two_pow_pos _))
theorem OQ (a b i:Nat) (hb:b<2^256):s_ a b i 4=lw (ir a b (i+1)) (i+4):=by
 have h1:=sk a b i 4
 unfold s_ at*
 rw [Nat.mod_eq_of_lt (zc a b i hb),vr a b i hb] at*
 unfold lw
 rw [Nat.mod_eq_of_lt h1]
theorem yI {a b m n:Nat} (ha:a<2^m) (hb:b<2^n):a*b<2^(m+n):=by
 rw [Nat.pow_add];exact Nat.mul_lt_mul'' ha hb
theorem AT {n i q:Nat} (h:n<2^(64*i)) (hq:i≤q):lw n q=0:=by
 unfold lw
 rw [Nat.div_eq_of_lt (Nat.lt_of_lt_of_le h (Nat.pow_le_pow_right (by omega) (by omega)))]
theorem fj (n k:Nat):aV (8*(k+1)) n=aV (8*k) n++aV 8 (lw n k):=by
 rw [Nat.mul_add,fP]
 congr 1
 rw [←Kl 8 (n/_)]
 congr 1
 unfold lw
 rw [←Nat.mul_assoc]
end Go.Proofs.YtnlhpncaldcllaaGreat
namespace Go.Proofs.YtnlhpncaldcllaaGreat
open Go Go.RowKit
structure KX where
 T:Type
 rp:Rp T
 df:T
def Rz:Rp Unit where
 n:=1
 rep:=fun _ cs=>∃v:Value,v.oneCell'=true∧cs= [v]
 pos:=by omega
 len:=by rintro _ _ ⟨_,_,rfl⟩;rfl
 one:=by rintro _ _ ⟨v,h,rfl⟩ x hx;simp at hx;rw [hx];exact h
def OT (n:Nat) (hn:0<n) (k:IntKind) {T:Type} (P:T→Prop) (f:T→Nat→Nat):Rp T where
 n:=n
 rep:=fun x cs=>P x∧cs=(List.range n).map fun i=> .int k ((f x i:Nat):Int)
 pos:=hn
 len:=by rintro _ _ ⟨_,rfl⟩;simp
 one:=by
  rintro _ _ ⟨_,rfl⟩ v hv
  rw [List.mem_map] at hv
  obtain ⟨i,_,rfl⟩:=hv
  rfl
def Rx:Rp F where
 n:=5
 rep:=fun x cs=>∃f:Nat→Nat,oH f∧val f%Pq=x.val∧cs=(List.range 5).map fun i=> .int .u64 ((f i:Nat):Int)
 pos:=by omega
 len:=by rintro _ _ ⟨_,_,_,rfl⟩;simp
 one:=by
  rintro _ _ ⟨_,_,_,rfl⟩ v hv
  rw [List.mem_map] at hv
  obtain ⟨i,_,rfl⟩:=hv
  rfl
def XK:Nat→KX
 |1=>⟨F,OT 16 (by omega) .u64 (fun _=>True) fun x=>EN x.val,0⟩
 |2=>⟨Nat,OT 4 (by omega) .u64 (fun x=>x<Lq) fun x=>lw x,0⟩
 |3=>⟨Nat,OT 32 (by omega) .u8 (fun x=>x<Lq) fun x i=>x/256^(31-i)%256,0⟩
 |4=>⟨F,Rx,0⟩
 |_=>⟨Unit,Rz,()⟩
section
variable {α:Type} {R:Rp α} {ops:Array Oper} {wt:Nat→Nat→Bool} {Q:Exit→Act→World→Prop} {fr:(Nat→Value)→Array Value} {df:List Deferred} {l:List PU} {W0:World} {i:Nat} {o:Oper}
end
end Go.Proofs.YtnlhpncaldcllaaGreat
namespace Go.Proofs.YtnlhpncaldcllaaGreat
open Go.RowKit
theorem yx:(Tryz.prog.info? 5).map (fun i=>(i.zero,i.size,i.bytes))=some (some (.int .u8 0),1,1):=by kernel_rfl
def lg (x y c:Int):Int:=(x+y+c)%18446744073709551616
def n7 (x y c:Int):Int:=(x+y+c)/18446744073709551616
def Lh (x y c:Int):Int:=(x-y-c)%18446744073709551616
def Lg (x y c:Int):Int:=if x<y+c then 1 else 0
structure Wd (x:Int):Prop where
 lo:0≤x
 hi:x<18446744073709551616
structure Cy (x:Int):Prop where
 lo:0≤x
 hi:x≤1
theorem Cy.zero:Cy 0:=⟨by omega,by omega⟩
theorem I4 (x y c:Int):Wd (lg x y c):=by unfold lg;exact ⟨by omega,by omega⟩
theorem I1 {x y c:Int} (hx:Wd x) (hy:Wd y) (hc:Cy c):Cy (n7 x y c):=by
 have:=hx.lo;have:=hx.hi;have:=hy.lo;have:=hy.hi;have:=hc.lo;have:=hc.hi;unfold n7;exact ⟨by omega,by omega⟩
theorem tc {x y c:Int} (hx:Wd x) (hy:Wd y) (hc:Cy c) (w:World):(callFunc 199 #[.int .u64 x,.int .u64 y,.int .u64 c]).run Tryz.prog w= .ok (.value (.tuple #[.int .u64 (lg x y c),.int .u64 (n7 x y c)])) w:=by
 rw [run_callFunc_extern Tryz.func199 (by kernel_rfl) (by kernel_rfl) (by kernel_rfl) (e:=add64Entry) (by kernel_rfl),run_add64 x y c hx.lo hy.lo hc.lo hc.hi];rfl
theorem RH {x y c:Int} (hx:Wd x) (hy:Wd y) (hc:Cy c) (w:World):(callFunc 257 #[.int .u64 x,.int .u64 y,.int .u64 c]).run Tryz.prog w= .ok (.value (.tuple #[.int .u64 (Lh x y c),.int .u64 (Lg x y c)])) w:=by
 obtain ⟨x0,x1⟩:=hx;obtain ⟨y0,y1⟩:=hy;obtain ⟨c0,c1⟩:=hc
 obtain ⟨x,rfl⟩:=Int.eq_ofNat_of_zero_le x0;obtain ⟨y,rfl⟩:=Int.eq_ofNat_of_zero_le y0;obtain ⟨c,rfl⟩:=Int.eq_ofNat_of_zero_le c0
 have e1:(((x+18446744073709551616-y-c)%18446744073709551616:Nat):Int)=Lh x y c:=by unfold Lh;omega
 have e2:((if x<y+c then 1 else 0:Nat):Int)=Lg x y c:=by unfold Lg;split<;>split<;>omega
 rw [run_callFunc_extern Tryz.func257 (by kernel_rfl) (by kernel_rfl) (by kernel_rfl) (e:=sub64Entry) (by kernel_rfl),run_sub64 x y c (by omega),←e1,←e2];rfl
theorem c8 {x:Int}:IntKind.u64.wrap x=x%18446744073709551616:=IntKind.wrap_u64 x
theorem Eu {x:Int} (h:Wd x):bits BinOp.and IntKind.u64 x 4294967295=x%4294967296:=by
 obtain ⟨x,rfl⟩:=Int.eq_ofNat_of_zero_le h.lo
 have h1:=h.hi
 rw [show (4294967295:Int)=((4294967295:Nat):Int) from rfl,u64_and_nat x 4294967295 (by omega) (by omega)]
 have e:x&&&4294967295=x%4294967296:=Nat.and_two_pow_sub_one_eq_mod x 32
 rw [e];omega
theorem rO {a b m:Int} (ha:0≤a) (hb:0≤b) (ha':a≤m) (hb':b≤m):0≤a*b∧a*b≤m*m:=
 ⟨Int.mul_nonneg ha hb,Int.mul_le_mul ha' hb' hb (by omega)⟩
theorem Cm {x y:Int} (hx:Wd x) (hy:Wd y):
  IntKind.u64.wrap (IntKind.u64.wrap (IntKind.u64.wrap (x/4294967296*(y/4294967296))+IntKind.u64.wrap (IntKind.u64.wrap (x/4294967296*bits BinOp.and IntKind.u64 y 4294967295)+IntKind.u64.wrap (bits BinOp.and IntKind.u64 x 4294967295*bits BinOp.and IntKind.u64 y 4294967295)/4294967296)/4294967296)+
   IntKind.u64.wrap (bits BinOp.and IntKind.u64 (IntKind.u64.wrap (IntKind.u64.wrap (x/4294967296*bits BinOp.and IntKind.u64 y 4294967295)+IntKind.u64.wrap (bits BinOp.and IntKind.u64 x 4294967295*bits BinOp.and IntKind.u64 y 4294967295)/4294967296)) 4294967295+IntKind.u64.wrap (bits BinOp.and IntKind.u64 x 4294967295*(y/4294967296)))/4294967296)
  =x*y/18446744073709551616:=by
 have e:=Eu (x:=IntKind.u64.wrap (IntKind.u64.wrap (x/4294967296*bits BinOp.and IntKind.u64 y 4294967295)+IntKind.u64.wrap (bits BinOp.and IntKind.u64 x 4294967295*bits BinOp.and IntKind.u64 y 4294967295)/4294967296)) (by rw [c8];exact ⟨by omega,by omega⟩)
 rw [e,Eu hx,Eu hy]
 simp only [c8]
 obtain ⟨hx0,hx1⟩:=hx;obtain ⟨hy0,hy1⟩:=hy
 have ex:x=x/4294967296*4294967296+x%4294967296:=by omega
 have ey:y=y/4294967296*4294967296+y%4294967296:=by omega
 have bx1:0≤x/4294967296∧x/4294967296≤4294967295:=by omega
 have bx0:0≤x%4294967296∧x%4294967296≤4294967295:=by omega
 have by1:0≤y/4294967296∧y/4294967296≤4294967295:=by omega
 have by0:0≤y%4294967296∧y%4294967296≤4294967295:=by omega
 generalize x/4294967296=x1 at*
 generalize x%4294967296=x0 at*
 generalize y/4294967296=y1 at*
 generalize y%4294967296=y0 at*
 have e2:x*y=18446744073709551616*(x1*y1)+4294967296*(x1*y0)+4294967296*(x0*y1)+x0*y0:=by rw [ex,ey];grind
 rw [e2]
 have b11:=rO bx1.1 by1.1 bx1.2 by1.2
 have b10:=rO bx1.1 by0.1 bx1.2 by0.2
 have b01:=rO bx0.1 by1.1 bx0.2 by1.2
 have b00:=rO bx0.1 by0.1 bx0.2 by0.2
 generalize x1*y1=p11 at*
 generalize x1*y0=p10 at*
 generalize x0*y1=p01 at*
 generalize x0*y0=p00 at*
 clear ex ey e e2
 omega
set_option maxHeartbeats 400000 in
theorem po {x y:Int} (hx:Wd x) (hy:Wd y) (w:World):Calls Tryz.prog 198 #[.int .u64 x,.int .u64 y] w fun e w'=>e= .returned (.tuple #[.int .u64 (x*y/18446744073709551616),.int .u64 (x*y%18446744073709551616)])∧w=w':=by
 have H:=Lib.hid (Cm hx hy)
 obtain ⟨hx0,hx1⟩:=hx;obtain ⟨hy0,hy1⟩:=hy
 go_enter Tryz.func198,Tryz.ntmps198
 go_wp2
 go_ret2
 refine ⟨?_,rfl⟩
 rw [H.out,c8];rfl
def Ox (x y:Int):Int:=x*y/18446744073709551616
def Gl (x y:Int):Int:=x*y%18446744073709551616
theorem AY {x y:Int} (hx:Wd x) (hy:Wd y) (w:World):Calls Tryz.prog 198 #[.int .u64 x,.int .u64 y] w fun e w'=>e= .returned (.tuple #[.int .u64 (Ox x y),.int .u64 (Gl x y)])∧w=w':=po hx hy w
theorem yL (x y:Int):Wd (Gl x y):=by unfold Gl;exact ⟨by omega,by omega⟩
theorem oK (w:World) {ops:Array Oper} {rest:List Oper} {o:Oper} {a:Act} {Q:Exit→Act→World→Prop} (hgd:o.guard=none) (s x:Operand)
  (ho:o.op= .call {callee:= .builtin .append,args:= #[s,x],argTypes:= #[26,26]}) (base:Nat) (v:Value) (n:Nat) (l:List UInt8) (hs:a.eval s=v) (hown:w.ownsRow base 5 1 v n (l.map bV))
  (sa:Option Addr) (m sc:Nat) (r:List UInt8) (hx:a.eval x= .slice sa m sc) (hr:iS w sa m sc r) (hlen:n+m≤70368744177664) (hbase:base≤w.heap.size) (w0:World) (hb0:Below base w0 w)
  (h:∀v' w',w'.ownsRow base 5 1 v' (n+m) ((l++r).map bV)→Below base w0 w'→wpList Tryz.prog ops Q rest (a.put o.dst v') w'):wpList Tryz.prog ops Q (o::rest) a w:=by
 obtain ⟨i0,hi,hz0,hz1,hz2⟩:=info_parts (show (Tryz.prog.info? 5).map (fun i=>(i.zero,i.size,i.bytes))=some (some (.int .u8 0),1,1) from by kernel_rfl)
 cases sa with
 |none=>
  obtain rfl:=hr.hnil rfl
  obtain rfl:m=0:=by have:=hr.hcap;omega
  obtain rfl:r= []:=List.eq_nil_of_length_eq_zero hr.hlen
  refine wpList_append_own_none hgd s x 26 ho base 5 i0 1 Tryz.underlying26 hi v n (l.map bV) hs hown hx ?_
  exact h v w (by simpa using hown) hb0
 |some ad=>
  refine wpList_append_own w hgd s x 26 ho base 5 i0 (.int .u8 0) 1 1 Tryz.underlying26 hi hz0 hz1 hz2 rfl (by decide) v n (l.map bV) hs hown ad m sc (r.map bV) hx (by simp [hr.hlen]) ?_ ?_ (by unfold maxLen;omega) (by omega) hbase ?_
  ·intro j u hu
   obtain ⟨hj,hv⟩:=List.getElem?_eq_some_iff.1 hu
   simp at hj
   obtain ⟨b,q,hab,hc⟩:=hr.get j hj
   simp at hab
   subst hab
   rw [show Addr.add ⟨b,q,none⟩ j=⟨b,q+j,none⟩ from by unfold Addr.add;split<;>simp_all,hc,←hv]
   simp
  ·intro u hu
   simp at hu
   obtain ⟨c,_,rfl⟩:=hu
   rfl
  ·intro v' w' hown' hgr _
   rw [←List.map_append] at hown'
   refine h v' w' hown' (hb0.grown hgr hbase fun q hq=> ?_)
   rcases hown.2 with ⟨h,_⟩|⟨g,cap,cur,hv,hg,_⟩
   ·rw [h] at hq;simp [Value.ownBlock] at hq
   ·rw [hv] at hq;simp [Value.ownBlock] at hq;omega
def first (l:List UInt8) (k:Nat):List UInt8:=l.take k++List.replicate (k-l.length) 0
theorem o8 (l:List UInt8) (k:Nat):(first l k).length=k:=by unfold first;simp;omega
theorem Ey (l:List UInt8):∀v∈l.map bV,v.oneCell'=true:=by intro v hv;simp at hv;obtain ⟨c,_,rfl⟩:=hv;rfl
def M0 (k:Nat):List Value:=(List.replicate k (0:UInt8)).map bV
def IC (l:List UInt8) (n:Nat):List Value:=(l.take n).map bV
theorem L5 (k:Nat):(M0 k).length=k:=by simp [M0]
theorem Am (l:List UInt8) (n:Nat):(IC l n).length=min n l.length:=by simp [IC]
theorem Jz (l:List UInt8) (n:Nat):∀v∈IC l n,v.oneCell'=true:=Ey _
theorem Ow (k:Nat):(madeCells #[Value.int .u8 0] k).toList=M0 k:=by
 apply List.ext_getElem
 ·simp [size_madeCells,M0]
 ·intro i h1 h2
  simp [madeCells,bV,Nat.mod_one,M0]
theorem sL (l:List UInt8) (k n:Nat) (hn:l.length=n):splice (M0 k) 0 (IC l (Nat.min n k))=(first l k).map bV:=by
 unfold splice first M0 IC
 subst hn
 rw [show (Nat.min l.length k)=min l.length k from rfl]
 simp only [List.take_zero,List.nil_append,Nat.zero_add,←List.map_drop,←List.map_append,List.length_map,List.length_take,List.drop_replicate]
 congr 2
 ·rw [Nat.min_comm,←List.take_take,List.take_length]
 ·congr 1;omega
theorem lY (b o j:Nat):Addr.add ⟨b,o,none⟩ j=⟨b,o+j,none⟩:=by
 unfold Addr.add;split
 ·rename_i h;subst h;rfl
 ·rfl
theorem iS.src {w:World} {a:Option Addr} {n cap:Nat} {l:List UInt8} (h:iS w a n cap l) (m:Nat) (hpos:0<(IC l m).length):
  ∃ad,a=some ad∧∀j v,(IC l m)[j]?=some v→w.cell? (ad.add j)=some v:=by
 rcases h.cases with ⟨h0,h0'⟩|⟨b,o,hn0,ha,hc⟩
 ·subst h0';simp [IC] at hpos
 ·refine ⟨⟨b,o,none⟩,ha,fun j v hv=> ?_⟩
  unfold IC at hv
  obtain ⟨hj,hv⟩:=List.getElem?_eq_some_iff.1 hv
  simp at hj
  rw [lY,hc j (by omega),←hv]
  simp
theorem Ol:(Tryz.prog.info? 5).map (·.size)=some 1:=by kernel_rfl
set_option maxHeartbeats 400000 in
theorem o7 {a:Option Addr} {n cap:Nat} {l:List UInt8} (k:Nat) (hk:k≤1000) (w:World) (h:iS w a n cap l):
  Calls Tryz.prog 191 #[.slice a n cap,.int .i64 k] w fun e w'=>e= .returned (.slice (some ⟨w.heap.size,0,none⟩) k k)∧ao w' w.heap.size ((first l k).map bV) 5∧Below w.heap.size w w':=by
 obtain ⟨i0,hi,hz0,hz1,hz2⟩:=info_parts yx
 have hkk:k≤maxLen:=by unfold maxLen;omega
 have hgl:=Lib.hid h.hlen
 go_enter Tryz.func191,Tryz.ntmps191
 go_wp2_with (at_make;refine wpList_make_full _ rfl _ _ 26 rfl w.heap.size 5 i0 (.int .u8 0) 1 Tryz.underlying26 hi hz0 hz1 .i64 .i64 _ _ k rfl rfl rfl rfl ?_ hkk (Nat.le_refl _) ?_)
 ·rw [hz2];omega
 ·intro w1 hown hgr
  have hB:=ao.own hown
  have hb1:Below w.heap.size w w1:=(Below.refl _ _).grown hgr (Nat.le_refl _) (by simp)
  rw [Ow k] at hB
  clear hown hgr hi hz0 hz1 hz2
  have h1:=h.below hb1
  go_wp2_with (refine wpList_copy_splice rfl (.tmp 8) (.tmp 9) 26 26 rfl 5 Tryz.underlying26 Ol _ _ _ _ _ _ rfl rfl w.heap.size 0 (M0 k) 5 hB (IC l (Nat.min n k)) ?_ ?_ ?_ (Jz _ _) w.heap.size w hb1 (Nat.le_refl _) ?_)
  ·rw [Am,hgl.out];show min (min n k) n=min n k;omega
  ·exact fun hpos=>h1.src _ hpos
  ·rw [L5,Am];show 0+min (min n k) l.length≤k;omega
  ·intro w2 hB2 hb2
   have hB3:Hid (ao w2 w.heap.size ((first l k).map bV) 5):=by
    rw [sL l k n hgl.out] at hB2;exact hB2
   clear hB2
   go_wp2
   go_ret
   exact ⟨rfl,hB3.out,hb2⟩
theorem Rh (w:World):(Instr.makeSlice 26 (.int .i64 8) (.int .i64 8)).run Tryz.prog w= .ok (.slice (some ⟨w.heap.size,0,none⟩) 8 8) (w.alloc (.cells #[.int .u8 0,.int .u8 0,.int .u8 0,.int .u8 0,.int .u8 0,.int .u8 0,.int .u8 0,.int .u8 0] 5)):=by kernel_rfl
theorem yF (n:Nat) (hn:n<18446744073709551616):(aV 8 n).map bV= [.int .u8 ((n:Int)%256),.int .u8 ((n:Int)/256%256),.int .u8 ((n:Int)/65536%256),.int .u8 ((n:Int)/16777216%256),.int .u8 ((n:Int)/4294967296%256),
  .int .u8 ((n:Int)/1099511627776%256),.int .u8 ((n:Int)/281474976710656%256),.int .u8 ((n:Int)/72057594037927936)]:=by
 have h:n/72057594037927936%256=n/72057594037927936:=by omega
 simp [aV,bV,List.range,List.range.loop]
 omega
set_option maxHeartbeats 400000 in
theorem dk {n:Nat} (hn:n<18446744073709551616) (w:World):
  Calls Tryz.prog 200 #[.int .u64 n] w fun e w'=>e= .returned (.slice (some ⟨w.heap.size,0,none⟩) 8 8)∧ao w' w.heap.size ((aV 8 n).map bV) 5∧Below w.heap.size w w':=by
 have hn0:(0:Int)≤(n:Int):=by omega
 have hn1:(n:Int)<18446744073709551616:=by omega
 have hmk:=Rh
 go_enter Tryz.func200,Tryz.ntmps200
 go_wp2
 refine wp_loop_rounds 9 ?_
 iterate 9 (rw [rounds_succ];go_wp2)
 go_ret
 refine ⟨rfl,?_,(Below.refl _ _).alloc (Nat.le_refl _) _⟩
 rw [yF n hn]
 exact ao.new w _ _
theorem JU {l m:List UInt8} (k:Nat) (hl:k<l.length) (hm:k<m.length) (h:l.take k=m.take k) (e:l[k]=m[k]):l.take (k+1)=m.take (k+1):=by
 rw [List.take_succ_eq_append_getElem hl,List.take_succ_eq_append_getElem hm,h,e]
set_option maxHeartbeats 400000 in
theorem vT {a b:Option Addr} {n m cap cap':Nat} {l r:List UInt8} (w:World) (hl:iS w a n cap l) (hr:iS w b m cap' r):
  Calls Tryz.prog 127 #[.slice a n cap,.slice b m cap'] w fun e w'=>e= .returned (.bool (decide (l=r)))∧Below w.heap.size w w':=by
 by_cases hnm:n=m
 ·subst hnm
  have HL:=Lib.hid hl.hlen;have HR:=Lib.hid hr.hlen
  rcases hl.cases with ⟨h0,h1⟩|⟨ba,oa,hn0,rfl,hca⟩
  ·subst h0 h1
   obtain rfl:r= []:=List.eq_nil_of_length_eq_zero HR.out
   go_enter Tryz.func127,Tryz.ntmps127
   go_wp2
   refine wp_loop_rounds 1 ?_
   rw [rounds_succ]
   go_wp2
   go_ret
   exact ⟨rfl,Below.refl _ _⟩
  ·rcases hr.cases with ⟨h0,h1⟩|⟨bb,ob,_,rfl,hcb⟩
   ·omega
   ·have hm63:(n:Int)≤9223372036854775807:=by have:=hl.hcap;have:=hl.hmax;unfold maxLen at *;omega
    clear hl hr
    go_enter Tryz.func127,Tryz.ntmps127
    go_wp2
    go_loopw [13] (fun i wr=>∃k:Nat,k≤n∧i= .int .i64 k∧l.take k=r.take k∧Below w.heap.size w wr) (fun i _=>n-(intOf i).toNat)
    case atStart=>exact ⟨0,Nat.zero_le _,rfl,by simp,Below.refl _ _⟩
    case round=>
     obtain ⟨k,hk,rfl,htk,hbel⟩:=hrel
     by_cases hlt:k<n
     ·have hkl:k<l.length:=by rw [HL.out];exact hlt
      have hkr:k<r.length:=by rw [HR.out];exact hlt
      have c1:wr.cell? ⟨ba,oa+k,none⟩=some (.int .u8 (l[k].toNat:Int)):=by have:=hca k hkl;rw [hbel.cell (cz this)];exact this
      have c2:wr.cell? ⟨bb,ob+k,none⟩=some (.int .u8 (r[k].toNat:Int)):=by have:=hcb k hkr;rw [hbel.cell (cz this)];exact this
      have HT:=Lib.hid htk;clear htk
      clear hca hcb
      by_cases he:l[k]=r[k]
      ·have HE:=Lib.hid (JU k hkl hkr HT.out he)
       have hz:((l[k].toNat:Int) != (r[k].toNat:Int))=false:=by rw [he];simp
       clear he
       generalize (l[k].toNat:Int)=x at*
       generalize (r[k].toNat:Int)=y at*
       go_wp2
       go_quiet (fail)
       go_wp2
       go_roundw
       case rel=>exact ⟨k+1,by omega,by go_num,HE.out,by repeat (first|exact hbel|apply Below.drew|apply below_drewN)⟩
       case measure=>simp [intOf];omega
      ·have HE:Hid (decide (l=r)=false):=Lib.hid (by simp;intro h;subst h;exact he rfl)
       have hz:((l[k].toNat:Int) != (r[k].toNat:Int))=true:=by
        simp;intro h;exact he (UInt8.toNat_inj.1 (by omega))
       clear he
       generalize (l[k].toNat:Int)=x at*
       generalize (r[k].toNat:Int)=y at*
       go_wp2
       go_quiet (fail)
       go_wp2
       go_ret
       exact ⟨by rw [HE.out];rfl,by repeat (first|exact hbel|apply Below.drew|apply below_drewN)⟩
     ·have hkn:k=n:=by omega
      have HE:Hid (decide (l=r)=true):=Lib.hid (by simp;rw [←List.take_of_length_le (show l.length≤k by rw [HL.out];omega),htk,List.take_of_length_le (by rw [HR.out];omega)])
      clear htk hkn hca hcb
      go_wp2
      go_ret
      exact ⟨by rw [HE.out];rfl,hbel⟩
 ·have HE:Hid (decide (l=r)=false):=Lib.hid (by simp;intro h;subst h;exact hnm (hl.hlen.symm.trans hr.hlen))
  have hz:((n:Int) != (m:Int))=true:=by simp;omega
  clear hl hr
  go_enter Tryz.func127,Tryz.ntmps127
  go_wp2
  go_ret
  exact ⟨by rw [HE.out];rfl,Below.refl _ _⟩
set_option maxHeartbeats 400000 in
theorem BY {a b:Option Addr} {n m cap cap':Nat} {l r:List UInt8} (w:World) (hl:iS w a n cap l) (hr:iS w b m cap' r):
  Calls Tryz.prog 65 #[.slice a n cap,.slice b m cap'] w fun e w'=>e= .returned (.bool (decide (l=r)))∧Below w.heap.size w w':=by
 go_enter Tryz.func65,Tryz.ntmps65
 go_wp2_with (go_at_call 127;refine (vT _ hl hr).mono ?_;rintro e w' ⟨rfl,hb⟩)
 go_ret
 exact ⟨rfl,hb⟩
def wV (n i:Nat):Value:= .int .u64 (lw n i:Nat)
theorem CW (f:Nat→Value):row 4 f= [f 0,f 1,f 2,f 3]:=rfl
theorem RZ (i:Nat):wV 0 i= .int .u64 0:=by unfold wV lw;rw [Nat.zero_div];rfl
theorem uY (x k c:Nat) (ci:Int) (hci:ci=(c:Int)) (hx:x<256^k) (hc:c<256):
  bits BinOp.or IntKind.u64 (lw x (k/8):Nat) (IntKind.u64.wrap (ci*2^(8*(k%8))))=(lw (x+c*256^k) (k/8):Nat):=by
 subst hci
 have h1:c*2^(8*(k%8))<18446744073709551616:=by
  have h2:2^(8*(k%8))≤2^56:=Nat.pow_le_pow_right (by omega) (by omega)
  have h3:c*2^(8*(k%8))≤255*2^56:=Nat.mul_le_mul (by omega) h2
  omega
 have e:(c:Int)*2^(8*(k%8))=((c*2^(8*(k%8)):Nat):Int):=by simp
 rw [e,c8,show ((c*2^(8*(k%8)):Nat):Int)%18446744073709551616=((c*2^(8*(k%8)):Nat):Int) from by omega,u64_or_nat _ _ (b6 _ _) h1,KN x k c hx hc]
def bs (l:List UInt8):ByteArray:=⟨l.toArray⟩
theorem EL {w:World} {a:Option Addr} {n cap:Nat} {l:List UInt8} (h:iS w a n cap l):(convert 26 9 (.slice a n cap)).run Tryz.prog w= .ok (.string (bs l)) w:=by
 have hl:=h.hlen
 rcases h.cases with ⟨rfl,rfl⟩|⟨b,o,hn,rfl,hc⟩
 ·cases a with
  |none=>rw [run_convert_bytes_string w 26 9 5 none 0 cap Tryz.underlying26 Tryz.underlying5 Tryz.underlying9];rfl
  |some ad=>exact run_convert_bytes_back w 26 9 5 ad cap [] Tryz.underlying26 Tryz.underlying5 Tryz.underlying9 (fun j hj=>by simp at hj)
 ·subst hl
  exact run_convert_bytes_back w 26 9 5 ⟨b,o,none⟩ cap l Tryz.underlying26 Tryz.underlying5 Tryz.underlying9 (fun j hj=>by rw [lY];exact hc j hj)
end Go.Proofs.YtnlhpncaldcllaaGreat
namespace Go.Proofs.YtnlhpncaldcllaaGreat
open Go Go.RowKit
section
variable {α:Type} {R:Rp α} {ops:Array Oper} {wt:Nat→Nat→Bool} {Q:Exit→Act→World→Prop} {fr:(Nat→Value)→Array Value} {df:List Deferred} {l:List PU} {W0:World} {i:Nat} {o:Oper}
end
def vx (a b:UInt32):UInt32:=a^^^b
def va (a b:UInt32):UInt32:=a&&&b
def vo (a b:UInt32):UInt32:=a|||b
def vn (a:UInt32):UInt32:= ~~~a
def vp (a b:UInt32):UInt32:=a+b
def ll (a:UInt32) (n:Nat):UInt32:=UInt32.ofNat (a.toNat/2^n)
def L3 (a:UInt32) (n:Nat):UInt32:=UInt32.ofNat (a.toNat*2^n)
def jg (a:UInt32) (n:Nat):UInt32:=vo (ll a n) (L3 a (32-n))
def Kc (x:UInt64):UInt32:=UInt32.ofNat (x.toNat/4294967296)
theorem Py (a b:UInt32):bits BinOp.or IntKind.u32 (a.toNat:Int) (b.toNat:Int)=((vo a b).toNat:Int):=by
 rw [u32_or_nat _ _ a.toNat_lt b.toNat_lt];simp [vo]
theorem L2 (a:UInt32) (n:Nat):(a.toNat:Int)/2^n=((ll a n).toNat:Int):=by
 have h:a.toNat/2^n<4294967296:=Nat.lt_of_le_of_lt (Nat.div_le_self _ _) a.toNat_lt
 unfold ll
 rw [UInt32.toNat_ofNat',Nat.mod_eq_of_lt h]
 simp
theorem L4 (a:UInt32) (n:Nat):IntKind.u32.wrap ((a.toNat:Int)*2^n)=((L3 a n).toNat:Int):=by
 rw [IntKind.wrap_u32];unfold L3
 rw [UInt32.toNat_ofNat']
 have:(a.toNat:Int)*2^n=((a.toNat*2^n:Nat):Int):=by simp
 rw [this];omega
def ux (a b:UInt64):UInt64:=a^^^b
def ua (a b:UInt64):UInt64:=a&&&b
def uo (a b:UInt64):UInt64:=a|||b
def un (a:UInt64):UInt64:= ~~~a
def up (a b:UInt64):UInt64:=a+b
def iI (a:UInt64) (n:Nat):UInt64:=UInt64.ofNat (a.toNat/2^n)
def j3 (a:UInt64) (n:Nat):UInt64:=UInt64.ofNat (a.toNat*2^n)
def jf (a:UInt64) (n:Nat):UInt64:=uo (iI a n) (j3 a (64-n))
theorem O3 (a b:UInt64):bits BinOp.or IntKind.u64 (a.toNat:Int) (b.toNat:Int)=((uo a b).toNat:Int):=by
 rw [u64_or_nat _ _ a.toNat_lt b.toNat_lt];simp [uo]
theorem Ln (a:UInt64) (n:Nat):(a.toNat:Int)/2^n=((iI a n).toNat:Int):=by
 have h:a.toNat/2^n<18446744073709551616:=Nat.lt_of_le_of_lt (Nat.div_le_self _ _) a.toNat_lt
 unfold iI
 rw [UInt64.toNat_ofNat',Nat.mod_eq_of_lt h]
 simp
theorem Lo (a:UInt64) (n:Nat):IntKind.u64.wrap ((a.toNat:Int)*2^n)=((j3 a n).toNat:Int):=by
 rw [IntKind.wrap_u64];unfold j3
 rw [UInt64.toNat_ofNat']
 have:(a.toNat:Int)*2^n=((a.toNat*2^n:Nat):Int):=by simp
 rw [this];omega
section
variable {ev:Operand→Value} {o:Oper} {x y:Operand} {t:TypeId} {w:World} {a b:UInt64}
end
inductive Kd where
 |u8|u16|u32|u64|int|bool|str
 |x (i:Nat)
@[reducible] def Kd.T:Kd→Type
 | .u8=>UInt8| .u16=>UInt16| .u32=>UInt32| .u64=>UInt64| .int=>Int| .bool=>Bool| .str=>ByteArray
 | .x i=>(XK i).T
def Kd.df:(k:Kd)→k.T
 | .u8=>(0:UInt8)| .u16=>(0:UInt16)| .u32=>(0:UInt32)| .u64=>(0:UInt64)| .int=>(0:Int)| .bool=>false| .str=>ByteArray.empty
 | .x i=>(XK i).df
def Kd.n:Kd→Nat
 | .x i=>(XK i).rp.n
 |_=>1
def Kd.sc:Kd→Bool
 | .x _=>false
 |_=>true
def vC {α:Type} (f:α→Value) (hf:∀x,(f x).oneCell'=true):Rp α where
 n:=1
 rep:=fun x cs=>cs= [f x]
 pos:=by omega
 len:=by rintro _ _ rfl;rfl
 one:=by rintro x _ rfl v hv;simp at hv;rw [hv];exact hf x
def Kd.rp:(k:Kd)→Rp k.T
 | .u8=>vC (fun x:UInt8=> .int .u8 (x.toNat:Int)) fun _=>rfl
 | .u16=>vC (fun x:UInt16=> .int .u16 (x.toNat:Int)) fun _=>rfl
 | .u32=>vC (fun x:UInt32=> .int .u32 (x.toNat:Int)) fun _=>rfl
 | .u64=>vC (fun x:UInt64=> .int .u64 (x.toNat:Int)) fun _=>rfl
 | .int=>vC (fun x:Int=> .int .i64 x) fun _=>rfl
 | .bool=>vC (fun x:Bool=> .bool x) fun _=>rfl
 | .str=>vC (fun x:ByteArray=> .string x) fun _=>rfl
 | .x i=>(XK i).rp
theorem Kd.rp_n (k:Kd):k.rp.n=k.n:=by cases k<;>rfl
inductive FC where
 |p (b o:Nat)
 |ob (k:Kd) (x:k.T)
 |r (l:List UInt8)
inductive Cl where
 |any
 |un
 |cv (v:Value)
 |ob (k:Kd) (x:k.T)
 |vec (k:Kd) (n:Nat) (l:List k.T)
 |ptr (b o:Nat)
 |pix (b o i:Nat)
 |pro (k:Kd) (x:k.T)
 |sl (b o n c:Nat)
 |rw (b:Nat)
 |sub (b lo n:Nat)
 |ro (k:Kd) (l:List k.T)
 |bb (l:List (List UInt8))
 |pbb (l:List UInt8)
 |ln (v:Value) (n:Nat)
 |mp (v:Value) (f:Int→Int)
 |rv (v:Value) (l:List UInt8)
 |fv (f:Nat) (l m:List FC)
inductive AV where
 |one (x:Cl)
 |agg (l:List Cl)
def FC.av:FC→AV
 | .p b o=> .one (.ptr b o)
 | .ob k x=> .one (.ob k x)
 | .r l=> .one (.ro .u8 l)
inductive Ch where
 |blk (E:Nat) (l:List Cl)
 |row (E:Nat) (k:Kd) (l:List k.T)
inductive cu where
 |s (t:Nat)
 |h (b:Nat)
inductive R (α:Type) where
 |pure (a:α)
 |fail
 |slot (t:Nat) (k:List AV→R α)
 |hp (b:Nat) (k:Option Ch→R α)
 |dec (p:Bool) (k:Bool→R α)
inductive RR (α:Type) where
 |ok (a:α) (rd:List cu) (qs:List (Bool×Bool))
 |need (p:Bool)
 |fail
def RR.rd {α:Type} (l:cu):RR α→RR α
 | .ok a r s=> .ok a (l::r) s
 | .need p=> .need p
 | .fail=> .fail
def RR.asm {α:Type} (p v:Bool):RR α→RR α
 | .ok a r s=> .ok a r ((p,v)::s)
 | .need p=> .need p
 | .fail=> .fail
def R.run {α:Type} (sl:Nat→List AV) (hp:Nat→Option Ch):R α→List Bool→RR α
 | .pure a,_=> .ok a [] []
 | .fail,_=> .fail
 | .slot t k,d=>((k (sl t)).run sl hp d).rd (.s t)
 | .hp b k,d=>((k (hp b)).run sl hp d).rd (.h b)
 | .dec p k,d::ds=>((k d).run sl hp ds).asm p d
 | .dec p _,[]=> .need p
structure aG where
 out:List AV
 upd:List (Nat×Option Ch)
 pre:Option Prop
 fact:Option Prop
def aw (x:Cl):R aG:= .pure ⟨[.one x],[],none,none⟩
def bC (x:Cl) (p:Prop):R aG:= .pure ⟨[.one x],[],some p,none⟩
inductive TI where
 |k (k:Kd)
 |ptr|fn|oth
 |sl (e:Nat)
 |arr (n e:Nat)
 |st (fs:List (Nat×Nat))
structure TE where
 ti:TI
 size:Nat
 zero:List Cl
def TE.isAgg (e:TE):Bool:=match e.ti with | .arr _ _=>true| .st _=>true|_=>false
def Cl.n:Cl→Nat
 | .ob k _=>k.n
 | .vec k n _=>n*k.n
 |_=>1
def d7:List Cl→Nat→Option (List Cl)
 |l,0=>some l
 | [],_+1=>none
 |x::r,n+1=>match Nat.ble x.n (n+1) with
  |true=>d7 r (n+1-x.n)
  |false=>match x with
   | .vec k m l=>match Nat.beq k.n 1 with
    |true=>some (.vec k (m-(n+1)) (l.drop (n+1))::r)
    |false=>none
   |_=>none
def fI:List Cl→Nat→Option (List Cl)
 |_,0=>some []
 | [],_+1=>none
 |x::r,n+1=>match Nat.ble x.n (n+1) with
  |true=>match fI r (n+1-x.n) with
   |some l=>some (x::l)
   |none=>none
  |false=>match x with
   | .vec k _ l=>match Nat.beq k.n 1 with
    |true=>some [.vec k (n+1) (l.take (n+1))]
    |false=>none
   |_=>none
def ql:List Cl→Nat
 | []=>0
 |x::r=>x.n+ql r
def oO:List Cl→Nat→Nat→List Cl→Option (List Cl)
 |l,0,n,new=>match Nat.beq (ql new) n with
  |true=>match d7 l n with
   |some r=>some (new++r)
   |none=>none
  |false=>none
 | [],_+1,_,_=>none
 |x::r,o+1,n,new=>match Nat.ble x.n (o+1) with
  |true=>match oO r (o+1-x.n) n new with
   |some l=>some (x::l)
   |none=>none
  |false=>none
def wZ:List Cl→Nat→Option Cl
 |x::_,0=>some x
 | [],_=>none
 |x::r,o+1=>match Nat.ble x.n (o+1) with
  |true=>wZ r (o+1-x.n)
  |false=>none
def tK:List Cl→Nat→Cl→Option (List Cl)
 |_::r,0,y=>some (y::r)
 | [],_,_=>none
 |x::r,o+1,y=>match Nat.ble x.n (o+1) with
  |true=>match tK r (o+1-x.n) y with
   |some l=>some (x::l)
   |none=>none
  |false=>none
def Ag:Cl→Option Cl
 | .ob (.x 1) z=>some (.ob .u64 (UInt64.ofNat (EN (Fin.val (n:=Pq) z) 0)))
 |_=>none
def mb:List Cl→Nat→Option Cl
 | [],_=>none
 |x::r,o=>match x with
  | .vec k n l=>match k.sc with
   |true=>match Nat.blt o n with
    |true=>some (.ob k (l.getD o k.df))
    |false=>mb r (o-n)
   |false=>none
  |x=>match o with
   |0=>match Nat.beq x.n 1 with |true=>some x|false=>Ag x
   |o+1=>match Nat.ble x.n (o+1) with
    |true=>mb r (o+1-x.n)
    |false=>none
def di:List Cl→Nat→Cl→Option (List Cl)
 | [],_,_=>none
 |x::r,o,y=>match x,y with
  | .vec .u8 n l,.ob .u8 z=>match Nat.blt o n with
   |true=>some (.vec .u8 n (l.set o z)::r)
   |false=>match di r (o-n) y with |some l=>some (x::l)|none=>none
  | .vec .u16 n l,.ob .u16 z=>match Nat.blt o n with
   |true=>some (.vec .u16 n (l.set o z)::r)
   |false=>match di r (o-n) y with |some l=>some (x::l)|none=>none
  | .vec .u32 n l,.ob .u32 z=>match Nat.blt o n with
   |true=>some (.vec .u32 n (l.set o z)::r)
   |false=>match di r (o-n) y with |some l=>some (x::l)|none=>none
  | .vec .u64 n l,.ob .u64 z=>match Nat.blt o n with
   |true=>some (.vec .u64 n (l.set o z)::r)
   |false=>match di r (o-n) y with |some l=>some (x::l)|none=>none
  |x,y=>match o with
   |0=>match Nat.beq x.n 1 with |true=>some (y::r)|false=>none
   |o+1=>match Nat.ble x.n (o+1) with
    |true=>match di r (o+1-x.n) y with |some l=>some (x::l)|none=>none
    |false=>none
inductive Nm where
 |lit (z:Int)
 |int (z:Int)
 |u8 (x:UInt8)|u16 (x:UInt16)|u32 (x:UInt32)|u64 (x:UInt64)
def fQ:AV→Option Nm
 | .one (.cv (.int .i64 z))=>some (.lit z)
 | .one (.ob .int z)=>some (.int z)
 | .one (.ob .u8 x)=>some (.u8 x)
 | .one (.ob .u16 x)=>some (.u16 x)
 | .one (.ob .u32 x)=>some (.u32 x)
 | .one (.ob .u64 x)=>some (.u64 x)
 |_=>none
def Nm.toInt:Nm→Int
 | .lit z=>z| .int z=>z
 | .u8 x=>(x.toNat:Int)| .u16 x=>(x.toNat:Int)| .u32 x=>(x.toNat:Int)| .u64 x=>(x.toNat:Int)
def tQ (v:Value):Option Cl:=
 match v with
 | .int k z=>match k with
  | .i64=>some (.cv (.int .i64 z))
  | .u8=>match z with
   | .ofNat n=>match Nat.blt n 256 with |true=>some (.ob .u8 (UInt8.ofNat n))|false=>none
   | .negSucc _=>none
  | .u16=>match z with
   | .ofNat n=>match Nat.blt n 65536 with |true=>some (.ob .u16 (UInt16.ofNat n))|false=>none
   | .negSucc _=>none
  | .u32=>match z with
   | .ofNat n=>match Nat.blt n 4294967296 with |true=>some (.ob .u32 (UInt32.ofNat n))|false=>none
   | .negSucc _=>none
  | .u64=>match z with
   | .ofNat n=>match Nat.blt n 18446744073709551616 with |true=>some (.ob .u64 (UInt64.ofNat n))|false=>none
   | .negSucc _=>none
  |_=>none
 | .bool b=>some (.cv (.bool b))
 | .string s=>some (.ob .str s)
 | .pointer none=>some (.cv (.pointer none))
 | .slice none 0 0=>some (.cv (.slice none 0 0))
 | .map none=>some (.cv (.map none))
 | .nilFunc=>some (.cv .nilFunc)
 |_=>none
def mf:List Value→Option (List Cl)
 | []=>some []
 |v::r=>match tQ v with
  |some x=>match mf r with
   |some l=>some (x::l)
   |none=>none
  |none=>none
def db {α:Type} (x:Operand) (k:AV→R α):R α:=
 match x with
 | .tmp t=> .slot t fun l=>match l with
  | [a]=>k a
  |_=> .fail
 | .const v=>match v with
  | .agg cs=>match mf cs.toList with
   |some l=>k (.agg l)
   |none=> .fail
  |v=>match tQ v with
   |some a=>k (.one a)
   |none=> .fail
 | .func f=>k (.one (.fv f [] []))
 |_=> .fail
def S_ {α:Type} (z:Int) (k:Int→α):α:=
 match z with
 | .ofNat n=>match n with
  |0=>k (.ofNat 0)
  |m+1=>k (.ofNat (m+1))
 | .negSucc n=>match n with
  |0=>k (.negSucc 0)
  |m+1=>k (.negSucc (m+1))
def S9 {α:Type} (b:Bool) (k:Bool→α):α:=match b with |true=>k true|false=>k false
def jq (z:Int):Prop:= -9223372036854775808≤z∧z<9223372036854775808
def Kh (z:Int):Bool:=match z with | .ofNat n=>Nat.blt n 9223372036854775808| .negSucc n=>Nat.blt n 9223372036854775808
def gn (z:Int):R aG:=match Kh z with |true=>S_ z fun z=>aw (.cv (.int .i64 z))|false=> .fail
def litB (b:Bool):R aG:=S9 b fun b=>aw (.cv (.bool b))
def symB (b:Bool):R aG:=aw (.ob .bool b)
def symI (z:Int):R aG:=bC (.ob .int z) (jq z)
def gL (a b:Int):Bool:=match a-b with | .ofNat _=>false| .negSucc _=>true
def Sk (a b:Int):Bool:=match a-b with | .ofNat n=>Nat.beq n 0| .negSucc _=>false
def s8 (x:UInt8) (n:Nat):UInt8:=UInt8.ofNat (x.toNat*2^n)
def Lc (x:UInt16) (n:Nat):UInt16:=UInt16.ofNat (x.toNat*2^n)
def r8 (x:UInt8) (n:Nat):UInt8:=UInt8.ofNat (x.toNat/2^n)
def OS (x:UInt16) (n:Nat):UInt16:=UInt16.ofNat (x.toNat/2^n)
def Cw (op:BinOp) (a b:Int):R aG:=
 match op with
 | .add=>gn (a+b)
 | .sub=>gn (a-b)
 | .mul=>gn (a*b)
 | .quo=>match gL a 0,gL 0 b with |false,true=>gn (a/b)|_,_=> .fail
 | .rem=>match gL a 0,gL 0 b with |false,true=>gn (a%b)|_,_=> .fail
 | .eql=>litB (Sk a b)
 | .neq=>litB (!Sk a b)
 | .lss=>litB (gL a b)
 | .gtr=>litB (gL b a)
 | .leq=>litB (!gL b a)
 | .geq=>litB (!gL a b)
 | .and=>match gL a 0,gL b 0,Kh a,Kh b with |false,false,true,true=>gn (Int.ofNat (a.toNat&&&b.toNat))|_,_,_,_=> .fail
 | .or=>match gL a 0,gL b 0,Kh a,Kh b with |false,false,true,true=>gn (Int.ofNat (a.toNat|||b.toNat))|_,_,_,_=> .fail
 | .shl=>match gL b 0,gL b 64 with |false,true=>gn (a*((2^b.toNat:Nat):Int))|_,_=> .fail
 | .shr=>match gL b 0,gL b 64 with |false,true=>gn (a/((2^b.toNat:Nat):Int))|_,_=> .fail
 |_=> .fail
def ky (op:BinOp) (a b:Int):R aG:=
 match op with
 | .add=>symI (a+b)
 | .sub=>symI (a-b)
 | .mul=>symI (a*b)
 | .quo=>bC (.ob .int (a/b)) (jq a∧0≤a∧0<b)
 | .rem=>bC (.ob .int (a%b)) (0≤a∧0<b)
 | .eql=>symB (decide (a=b))
 | .neq=>symB (decide (a≠b))
 | .lss=>symB (decide (a<b))
 | .gtr=>symB (decide (b<a))
 | .leq=>symB (decide (a≤b))
 | .geq=>symB (decide (b≤a))
 | .and=>bC (.ob .int ((a.toNat&&&b.toNat:Nat):Int)) ((jq a∧0≤a)∧jq b∧0≤b)
 | .or=>bC (.ob .int ((a.toNat|||b.toNat:Nat):Int)) ((jq a∧0≤a)∧jq b∧0≤b)
 | .shl=>bC (.ob .int (a*((2^b.toNat:Nat):Int))) (0≤b∧b<64∧jq (a*((2^b.toNat:Nat):Int)))
 | .shr=>bC (.ob .int (a/((2^b.toNat:Nat):Int))) (0≤b∧b<64)
 |_=> .fail
def KM (op:BinOp) (a b:UInt8):R aG:=
 match op with
 | .add=>aw (.ob .u8 (a+b))| .sub=>aw (.ob .u8 (a-b))| .mul=>aw (.ob .u8 (a*b))
 | .and=>aw (.ob .u8 (a&&&b))| .or=>aw (.ob .u8 (a|||b))| .xor=>aw (.ob .u8 (a^^^b))| .andNot=>aw (.ob .u8 (a&&& ~~~b))
 | .quo=>bC (.ob .u8 (a/b)) (b≠0)| .rem=>bC (.ob .u8 (a%b)) (b≠0)
 | .eql=>symB (decide (a=b))| .neq=>symB (decide (a≠b))| .lss=>symB (decide (a<b))| .gtr=>symB (decide (b<a))| .leq=>symB (decide (a≤b))| .geq=>symB (decide (b≤a))
 |_=> .fail
def Ba (op:BinOp) (a b:UInt16):R aG:=
 match op with
 | .add=>aw (.ob .u16 (a+b))| .sub=>aw (.ob .u16 (a-b))| .mul=>aw (.ob .u16 (a*b))
 | .and=>aw (.ob .u16 (a&&&b))| .or=>aw (.ob .u16 (a|||b))| .xor=>aw (.ob .u16 (a^^^b))| .andNot=>aw (.ob .u16 (a&&& ~~~b))
 | .quo=>bC (.ob .u16 (a/b)) (b≠0)| .rem=>bC (.ob .u16 (a%b)) (b≠0)
 | .eql=>symB (decide (a=b))| .neq=>symB (decide (a≠b))| .lss=>symB (decide (a<b))| .gtr=>symB (decide (b<a))| .leq=>symB (decide (a≤b))| .geq=>symB (decide (b≤a))
 |_=> .fail
def Bb (op:BinOp) (a b:UInt32):R aG:=
 match op with
 | .add=>aw (.ob .u32 (a+b))| .sub=>aw (.ob .u32 (a-b))| .mul=>aw (.ob .u32 (a*b))
 | .and=>aw (.ob .u32 (a&&&b))| .or=>aw (.ob .u32 (a|||b))| .xor=>aw (.ob .u32 (a^^^b))| .andNot=>aw (.ob .u32 (a&&& ~~~b))
 | .quo=>bC (.ob .u32 (a/b)) (b≠0)| .rem=>bC (.ob .u32 (a%b)) (b≠0)
 | .eql=>symB (decide (a=b))| .neq=>symB (decide (a≠b))| .lss=>symB (decide (a<b))| .gtr=>symB (decide (b<a))| .leq=>symB (decide (a≤b))| .geq=>symB (decide (b≤a))
 |_=> .fail
def Bc (op:BinOp) (a b:UInt64):R aG:=
 match op with
 | .add=>aw (.ob .u64 (a+b))| .sub=>aw (.ob .u64 (a-b))| .mul=>aw (.ob .u64 (a*b))
 | .and=>aw (.ob .u64 (a&&&b))| .or=>aw (.ob .u64 (a|||b))| .xor=>aw (.ob .u64 (a^^^b))| .andNot=>aw (.ob .u64 (a&&& ~~~b))
 | .quo=>bC (.ob .u64 (a/b)) (b≠0)| .rem=>bC (.ob .u64 (a%b)) (b≠0)
 | .eql=>symB (decide (a=b))| .neq=>symB (decide (a≠b))| .lss=>symB (decide (a<b))| .gtr=>symB (decide (b<a))| .leq=>symB (decide (a≤b))| .geq=>symB (decide (b≤a))
 |_=> .fail
def kA (left:Bool) (x:Nm) (n:Nat):R aG:=
 match x with
 | .u8 a=>match left with |true=>aw (.ob .u8 (s8 a n))|false=>aw (.ob .u8 (r8 a n))
 | .u16 a=>match left with |true=>aw (.ob .u16 (Lc a n))|false=>aw (.ob .u16 (OS a n))
 | .u32 a=>match left with |true=>aw (.ob .u32 (L3 a n))|false=>aw (.ob .u32 (ll a n))
 | .u64 a=>match left with |true=>aw (.ob .u64 (j3 a n))|false=>aw (.ob .u64 (iI a n))
 |_=> .fail
def GY (r:R aG) (p:Prop):R aG:=match r with
 | .pure a=>match a with
  |⟨o,u,none,f⟩=> .pure ⟨o,u,some p,f⟩
  |_=> .fail
 |_=> .fail
def KI (op:BinOp) (x y:Nm):R aG:=
 match op with
 | .shl=>match x with
  | .lit a=>match y with
   | .lit b=>Cw .shl a b
   |y=>ky .shl a y.toInt
  | .int a=>ky .shl a y.toInt
  |x=>match y with
   | .lit b=>match gL b 0 with |false=>kA true x b.toNat|true=> .fail
   | .int b=>GY (kA true x b.toNat) (0≤b)
   |y=>kA true x y.toInt.toNat
 | .shr=>match x with
  | .lit a=>match y with
   | .lit b=>Cw .shr a b
   |y=>ky .shr a y.toInt
  | .int a=>ky .shr a y.toInt
  |x=>match y with
   | .lit b=>match gL b 0 with |false=>kA false x b.toNat|true=> .fail
   | .int b=>GY (kA false x b.toNat) (0≤b)
   |y=>kA false x y.toInt.toNat
 |op=>match x with
  | .lit a=>match y with
   | .lit b=>Cw op a b
   | .int b=>ky op a b
   |_=> .fail
  | .int a=>match y with
   | .lit b=>ky op a b
   | .int b=>ky op a b
   |_=> .fail
  | .u8 a=>match y with | .u8 b=>KM op a b|_=> .fail
  | .u16 a=>match y with | .u16 b=>Ba op a b|_=> .fail
  | .u32 a=>match y with | .u32 b=>Bb op a b|_=> .fail
  | .u64 a=>match y with | .u64 b=>Bc op a b|_=> .fail
def ML (ti:TI) (op:BinOp) (x y:AV):R aG:=
 match fQ x with
 |some n=>match fQ y with
  |some m=>KI op n m
  |none=> .fail
 |none=>match x with
  | .one (.ob .bool a)=>match y,ti with
   | .one (.ob .bool b),.k .bool=>match op with
    | .eql=>symB (a ==b)
    | .neq=>symB (a != b)
    |_=> .fail
   | .one (.cv (.bool b)),.k .bool=>match op with
    | .eql=>symB (a ==b)
    | .neq=>symB (a != b)
    |_=> .fail
   |_,_=> .fail
  | .one (.ob .str a)=>match y with
   | .one (.ob .str b)=>match op with
    | .eql=>symB (a.toList ==b.toList)
    | .neq=>symB (!(a.toList ==b.toList))
    |_=> .fail
   |_=> .fail
  | .one (.ptr _ _)=>match y,ti with
   | .one (.cv (.pointer none)),.ptr=>match op with
    | .eql=>aw (.cv (.bool false))
    | .neq=>aw (.cv (.bool true))
    |_=> .fail
   |_,_=> .fail
  | .one (.cv (.pointer none))=>match y,ti with
   | .one (.cv (.pointer none)),.ptr=>match op with
    | .eql=>aw (.cv (.bool true))
    | .neq=>aw (.cv (.bool false))
    |_=> .fail
   |_,_=> .fail
  |_=> .fail
def OI (op:UnOp) (x:AV):R aG:=
 match op with
 | .not=>match x with
  | .one (.cv (.bool b))=>litB (!b)
  | .one (.ob .bool b)=>symB (!b)
  |_=> .fail
 | .neg=>match fQ x with
  |some (.lit a)=>gn (0-a)
  |some (.int a)=>symI (0-a)
  |some (.u64 a)=>aw (.ob .u64 (0-a))
  |some (.u32 a)=>aw (.ob .u32 (0-a))
  |_=> .fail
 | .xor=>match fQ x with
  |some (.u8 a)=>aw (.ob .u8 (~~~a))
  |some (.u16 a)=>aw (.ob .u16 (~~~a))
  |some (.u32 a)=>aw (.ob .u32 (~~~a))
  |some (.u64 a)=>aw (.ob .u64 (~~~a))
  |_=> .fail
 |_=> .fail
def KF (k:Kd) (x:Nm):R aG:=
 match k with
 | .u8=>match x with
  | .lit z=>bC (.ob .u8 (UInt8.ofNat z.toNat)) (0≤z)| .int z=>bC (.ob .u8 (UInt8.ofNat z.toNat)) (0≤z)
  | .u8 a=>aw (.ob .u8 a)| .u16 a=>aw (.ob .u8 a.toUInt8)| .u32 a=>aw (.ob .u8 a.toUInt8)| .u64 a=>aw (.ob .u8 a.toUInt8)
 | .u16=>match x with
  | .lit z=>bC (.ob .u16 (UInt16.ofNat z.toNat)) (0≤z)| .int z=>bC (.ob .u16 (UInt16.ofNat z.toNat)) (0≤z)
  | .u8 a=>aw (.ob .u16 a.toUInt16)| .u16 a=>aw (.ob .u16 a)| .u32 a=>aw (.ob .u16 a.toUInt16)| .u64 a=>aw (.ob .u16 a.toUInt16)
 | .u32=>match x with
  | .lit z=>bC (.ob .u32 (UInt32.ofNat z.toNat)) (0≤z)| .int z=>bC (.ob .u32 (UInt32.ofNat z.toNat)) (0≤z)
  | .u8 a=>aw (.ob .u32 a.toUInt32)| .u16 a=>aw (.ob .u32 a.toUInt32)| .u32 a=>aw (.ob .u32 a)| .u64 a=>aw (.ob .u32 a.toUInt32)
 | .u64=>match x with
  | .lit z=>bC (.ob .u64 (UInt64.ofNat z.toNat)) (0≤z)| .int z=>bC (.ob .u64 (UInt64.ofNat z.toNat)) (0≤z)
  | .u8 a=>aw (.ob .u64 a.toUInt64)| .u16 a=>aw (.ob .u64 a.toUInt64)| .u32 a=>aw (.ob .u64 a.toUInt64)| .u64 a=>aw (.ob .u64 a)
 | .int=>match x with
  | .lit z=>gn z| .int z=>symI z
  | .u8 a=>aw (.ob .int (a.toNat:Int))| .u16 a=>aw (.ob .int (a.toNat:Int))| .u32 a=>aw (.ob .int (a.toNat:Int))
  | .u64 a=>bC (.ob .int (a.toNat:Int)) (a.toNat<9223372036854775808)
 |_=> .fail
def kn {α:Type} (ty:Nat→TE) (t:Nat) (r:R α):R α:=match (ty t).ti with | .oth=> .fail|_=>r
def Kg (x:AV) (lit:Nat→R aG) (sym:Int→R aG):R aG:=
 match fQ x with
 |some (.lit z)=>match z with
  | .ofNat n=>lit n
  | .negSucc _=> .fail
 |some (.int z)=>sym z
 |some y=>sym y.toInt
 |none=> .fail
def gQ (ty:Nat→TE) (t:Nat) (x i:AV):R aG:=
 match x with
 | .one (.ptr b o)=>match (ty t).ti with
  | .arr n e=>kn ty e (Kg i (fun k=>match Nat.blt k n with |true=>aw (.ptr b (o+k*(ty e).size))|false=> .fail)
    (fun z=>match Nat.beq (ty e).size 1 with |true=>bC (.pix b o z.toNat) (0≤z∧z<n)|false=> .fail))
  |_=> .fail
 | .one (.sl b o n _)=>match (ty t).ti with
  | .sl e=>kn ty e (Kg i (fun k=>match Nat.blt k n with |true=>aw (.ptr b (o+k*(ty e).size))|false=> .fail)
    (fun z=>match Nat.beq (ty e).size 1 with |true=>bC (.pix b o z.toNat) (0≤z∧z<n)|false=> .fail))
  |_=> .fail
 | .one (.rw b)=>match (ty t).ti with
  | .sl e=>kn ty e (match Nat.beq (ty e).size 1 with
   |true=> .hp b fun c=>match c with
    |some (.row _ _ l)=>Kg i (fun k=>bC (.pix b 0 k) (k<l.length)) (fun z=>bC (.pix b 0 z.toNat) (0≤z∧z<l.length))
    |_=> .fail
   |false=> .fail)
  |_=> .fail
 | .one (.sub b lo n)=>match (ty t).ti with
  | .sl e=>kn ty e (match Nat.beq (ty e).size 1 with
   |true=>Kg i (fun k=>bC (.pix b 0 (lo+k)) (k<n)) (fun z=>bC (.pix b 0 (lo+z.toNat)) (0≤z∧z<n))
   |false=> .fail)
  |_=> .fail
 | .one (.ro k l)=>match (ty t).ti with
  | .sl e=>kn ty e (match Nat.beq (ty e).size k.n with
   |true=>Kg i (fun j=>bC (.pro k (l.getD j k.df)) (j<l.length)) (fun z=>bC (.pro k (l.getD z.toNat k.df)) (0≤z∧z<l.length))
   |false=> .fail)
  |_=> .fail
 | .one (.bb l)=>match (ty t).ti with
  | .sl e=>kn ty e (match Nat.beq (ty e).size 1 with
   |true=>Kg i (fun j=>bC (.pbb (l.getD j [])) (j<l.length)) (fun z=>bC (.pbb (l.getD z.toNat [])) (0≤z∧z<l.length))
   |false=> .fail)
  |_=> .fail
 |_=> .fail
def li:List Cl→Bool
 | []=>true
 |x::r=>match x with | .un=>false|_=>li r
def we (agg:Bool) (l:List Cl):R aG:=
 match agg with
 |true=> .pure ⟨[.agg l],[],none,none⟩
 |false=>match l with
  | [x]=>match Nat.beq x.n 1 with |true=>aw x|false=> .fail
  |_=> .fail
def nl (ty:Nat→TE) (t:Nat) (a:AV):R aG:=kn ty t<|
 match a with
 | .one (.ptr b o)=> .hp b fun c=>match c with
  |some (.blk _ l)=>match (ty t).isAgg with
   |true=>match d7 l o with
    |some r=>match fI r (ty t).size with
     |some q=>we true q
     |none=> .fail
    |none=> .fail
   |false=>match mb l o with
    |some x=>aw x
    |none=> .fail
  |_=> .fail
 | .one (.pix b o i)=> .hp b fun c=>match c with
  |some (.blk _ l)=>match wZ l o with
   |some (.vec k n l)=>match k.sc,(ty t).isAgg with |true,false=>bC (.ob k (l.getD i k.df)) (i<n)|_,_=> .fail
   |_=> .fail
  |some (.row _ k l)=>match k.sc,Nat.beq o 0,(ty t).isAgg with |true,true,false=>bC (.ob k (l.getD i k.df)) (i<l.length)|_,_,_=> .fail
  |none=> .fail
 | .one (.pro k x)=>match k.sc,(ty t).isAgg with |true,false=>aw (.ob k x)|_,_=> .fail
 | .one (.pbb l)=>match (ty t).isAgg with |false=>aw (.ro .u8 l)|true=> .fail
 |_=> .fail
def dU (v:AV):List Cl:=match v with | .one x=> [x]| .agg l=>l
def G1 (b:Nat) (c:Ch) (p:Option Prop):R aG:= .pure ⟨[],[(b,some c)],p,none⟩
def nK (k:Kd) (l:List k.T) (i:Nat) (x:Cl):Option (List k.T):=
 match k,l,x with
 | .u8,l,.ob .u8 z=>some (l.set i z)
 | .u16,l,.ob .u16 z=>some (l.set i z)
 | .u32,l,.ob .u32 z=>some (l.set i z)
 | .u64,l,.ob .u64 z=>some (l.set i z)
 | .int,l,.ob .int z=>some (l.set i z)
 | .int,l,.cv (.int .i64 z)=>some (l.set i z)
 | .bool,l,.ob .bool z=>some (l.set i z)
 | .bool,l,.cv (.bool z)=>some (l.set i z)
 |_,_,_=>none
def r7 (ty:Nat→TE) (t:Nat) (a v:AV):R aG:=kn ty t<|
 match a with
 | .one (.ptr b o)=> .hp b fun c=>match c with
  |some (.blk E l)=>match (ty t).isAgg with
   |true=>match v with
    | .agg q=>match oO l o (ty t).size q with
     |some l=>G1 b (.blk E l) none
     |none=> .fail
    |_=> .fail
   |false=>match v,Nat.beq (ty t).size 1 with
    | .one x,true=>match li [x] with
     |true=>match di l o x with
      |some l=>G1 b (.blk E l) none
      |none=> .fail
     |false=> .fail
    |_,_=> .fail
  |_=> .fail
 | .one (.pix b o i)=> .hp b fun c=>match c with
  |some (.blk E l)=>match wZ l o,v with
   |some (.vec k n q),.one x=>match Nat.beq (ty t).size 1 with
    |true=>match nK k q i x with
     |some q=>match tK l o (.vec k n q) with
      |some l=>G1 b (.blk E l) (some (i<n))
      |none=> .fail
     |none=> .fail
    |false=> .fail
   |_,_=> .fail
  |some (.row E k l)=>match v with
   | .one x=>match Nat.beq (ty t).size 1,Nat.beq o 0 with
    |true,true=>match nK k l i x with
     |some q=>G1 b (.row E k q) (some (i<l.length))
     |none=> .fail
    |_,_=> .fail
   |_=> .fail
  |none=> .fail
 |_=> .fail
def sq (nb:Nat) (x:Cl) (c:Ch) (p:Option Prop):R aG:= .hp nb fun q=>match q with
 |none=> .pure ⟨[.one x],[(nb,some c)],p,none⟩
 |some _=> .fail
def i5 (pl:Nat→Option (Nat×Nat)):List Cl→List (Nat×AV)→Option (List Cl)
 |l,[]=>some l
 |l,(i,v)::r=>match pl i with
  |some (off,sz)=>match li (dU v) with
   |true=>match oO l off sz (dU v) with
    |some l=>i5 pl l r
    |none=>none
   |false=>none
  |none=>none
def Ev:Nat→List Cl
 |0=> []
 |n+1=> .any::Ev n
def So (ty:Nat→TE):List (Nat×Nat)→R aG→R aG
 | [],r=>r
 |(_,t)::l,r=>kn ty t (So ty l r)
def OY (ty:Nat→TE) (fs:List (Nat×Nat)) (i:Nat):Option (Nat×Nat):=match fs[i]? with |some (o,t)=>some (o,(ty t).size)|none=>none
def od (k:Kd):List Cl→Option (List k.T)
 | []=>some []
 |x::r=>match od k r with
  |none=>none
  |some l=>match k,l,x with
   | .u8,l,.ob .u8 z=>some (z::l)
   | .u16,l,.ob .u16 z=>some (z::l)
   | .u32,l,.ob .u32 z=>some (z::l)
   | .u64,l,.ob .u64 z=>some (z::l)
   | .int,l,.ob .int z=>some (z::l)
   | .int,l,.cv (.int .i64 z)=>some (z::l)
   | .bool,l,.ob .bool z=>some (z::l)
   | .bool,l,.cv (.bool z)=>some (z::l)
   | .str,l,.ob .str z=>some (z::l)
   |_,_,_=>none
def mY (e:TE):Option Kd:=match e.ti with | .k k=>some k|_=>none
def rW (ty:Nat→TE) (t:Nat) (ps:List (Nat×AV)):R aG:=kn ty t<|
 match (ty t).ti with
 | .st fs=>So ty fs (match i5 (OY ty fs) (ty t).zero ps with
  |some l=>match li l with |true=> .pure ⟨[.agg l],[],none,none⟩|false=> .fail
  |none=> .fail)
 | .arr _ e=>kn ty e (match i5 (fun i=>some (i*(ty e).size,(ty e).size)) (match ps with | []=>(ty t).zero|_=>Ev (ql (ty t).zero)) ps with
  |some l=>match li l with
   |true=>match mY (ty e) with
    |some k=>match od k l with
     |some m=> .pure ⟨[.agg [.vec k m.length m]],[],none,none⟩
     |none=> .pure ⟨[.agg l],[],none,none⟩
    |none=> .pure ⟨[.agg l],[],none,none⟩
   |false=> .fail
  |none=> .fail)
 |_=> .fail
def y6 {α:Type}:List (Nat×Operand)→(List (Nat×AV)→R α)→R α
 | [],k=>k []
 |(i,x)::r,k=>db x fun a=>y6 r fun l=>k ((i,a)::l)
def nq {α:Type}:List Operand→(List AV→R α)→R α
 | [],k=>k []
 |x::r,k=>db x fun a=>nq r fun l=>k (a::l)
def yZ {α:Type} (x:Option Operand) (k:Option AV→R α):R α:=
 match x with
 |none=>k none
 |some x=>db x fun a=>k (some a)
def fR (ty:Nat→TE) (nb t len:Nat) (ps:List (Nat×AV)):R aG:=
 match (ty t).ti with
 | .sl e=>kn ty e (match Nat.beq len 0 with
  |true=>match ps,mY (ty e) with
   | [],some k=>sq nb (.rw nb) (.row e k []) none
   |_,_=> .fail
  |false=>match i5 (fun i=>some (i*(ty e).size,(ty e).size)) (Ev (len*(ty e).size)) ps,Nat.ble (len*(ty e).size) 65536,Nat.ble 1 (len*(ty e).size) with
  |some l,true,true=>match mY (ty e) with
   |some k=>match od k l with
    |some m=>sq nb (.rw nb) (.row e k m) none
    |none=> .fail
   |none=>match li l with |true=>sq nb (.sl nb 0 len len) (.blk e l) none|false=> .fail
  |_,_,_=> .fail)
 |_=> .fail
def gR (ty:Nat→TE) (nb t:Nat) (n c:AV):R aG:=
 match (ty t).ti,fQ n,fQ c with
 | .sl e,some n,some c=>match mY (ty e) with
  |some k=>match Nat.beq k.n 1 with
   |true=>sq nb (.rw nb) (.row e k (List.replicate n.toInt.toNat k.df)) (some (0≤n.toInt∧n.toInt=c.toInt∧c.toInt≤16777216))
   |false=> .fail
  |none=> .fail
 |_,_,_=> .fail
def KO (x:Option AV) (k:Option Nm→R aG):R aG:=
 match x with
 |none=>k none
 |some a=>match fQ a with
  |some n=>k (some n)
  |none=> .fail
def jG:Option Nm→Nat|none=>0|some n=>n.toInt.toNat
def yG (x:Option Nm) (hi:Nat):Prop:=match x with |none=>True|some n=>0≤n.toInt∧n.toInt≤(hi:Int)
def rZ (ty:Nat→TE) (t:Nat) (x:AV) (lo hi mx:Option AV):R aG:=
 KO lo fun lo=>KO hi fun hi=>
 match x with
 | .one (.ptr b o)=>match (ty t).ti with
  | .arr n e=>kn ty e (match lo,hi,mx with
   |none,none,none=>aw (.sl b o n n)
   |some (.lit (.ofNat l)),none,none=>match Nat.blt l n,Nat.beq (ty e).size 1 with
    |true,true=>aw (.sl b (o+l) (n-l) (n-l))
    |_,_=> .fail
   |_,_,_=> .fail)
  |_=> .fail
 | .one (.rw b)=>match (ty t).ti with
  | .sl e=>kn ty e (match Nat.beq (ty e).size 1 with
   |true=> .hp b fun c=>match c with
    |some (.row _ k l)=>match Nat.beq k.n 1 with
     |true=>match hi with
      |none=>match mx with
       |none=>bC (.sub b (jG lo) (l.length-jG lo)) (yG lo l.length)
       |some _=> .fail
      |some h=>match mx with
       |none=>bC (.sub b (jG lo) (h.toInt.toNat-jG lo)) (yG (some h) l.length∧yG lo h.toInt.toNat)
       |some _=> .fail
     |false=> .fail
    |_=> .fail
   |false=> .fail)
  |_=> .fail
 | .one (.sub b s n)=>match (ty t).ti with
  | .sl e=>kn ty e (match Nat.beq (ty e).size 1 with
   |true=>match hi with
    |none=>match mx with
     |none=>bC (.sub b (s+jG lo) (n-jG lo)) (yG lo n)
     |some _=> .fail
    |some h=>match mx with
     |none=>bC (.sub b (s+jG lo) (h.toInt.toNat-jG lo)) (yG (some h) n∧yG lo h.toInt.toNat)
     |some _=> .fail
   |false=> .fail)
  |_=> .fail
 | .one (.ro k l)=>match (ty t).ti with
  | .sl e=>kn ty e (match Nat.beq (ty e).size k.n with
   |true=>match hi with
    |none=>match mx with
     |none=>bC (.ro k (l.drop (jG lo))) (yG lo l.length)
     |some _=> .fail
    |some h=>match mx with
     |none=>bC (.ro k ((l.take h.toInt.toNat).drop (jG lo))) (yG (some h) l.length∧yG lo h.toInt.toNat)
     |some _=> .fail
   |false=> .fail)
  |_=> .fail
 |_=> .fail
def oG (a:AV) (k:AV→R aG):R aG:=
 match a with
 | .one (.cv (.slice none 0 0))=>k (.one (.ro .u8 []))
 | .one (.rv _ l)=>k (.one (.ro .u8 l))
 | .one (.rw b)=> .hp b fun c=>match c with
  |some (.row _ q l)=>k (.one (.ro q l))
  |_=> .fail
 | .one (.sub b lo n)=> .hp b fun c=>match c with
  |some (.row _ q l)=>match Nat.beq q.n 1 with
   |true=>k (.one (.ro q ((l.drop lo).take n)))
   |false=> .fail
  |_=> .fail
 | .one (.sl b o n cp)=> .hp b fun c=>match c with
  |some (.blk _ l)=>match wZ l o with
   |some (.vec q m l)=>match Nat.beq n m,Nat.ble cp 16777216 with |true,true=>k (.one (.ro q l))|_,_=> .fail
   |_=>match l with
    | [.vec q m l]=>match Nat.beq q.n 1,Nat.ble (o+n) m,Nat.ble cp 16777216 with
     |true,true,true=>k (.one (.ro q ((l.drop o).take n)))
     |_,_,_=> .fail
    |_=> .fail
  |_=> .fail
 |a=>k a
def GB (ty:Nat→TE) (t:Nat) (x:AV):R aG:=
 match (ty t).ti with
 | .sl _=>match x with
  | .one (.sl _ _ n _)=>aw (.cv (.int .i64 (.ofNat n)))
  | .one (.cv (.slice none 0 0))=>aw (.cv (.int .i64 (.ofNat 0)))
  | .one (.rw b)=> .hp b fun c=>match c with
   |some (.row _ _ l)=> .pure ⟨[.one (.ob .int (l.length:Int))],[],none,some (l.length≤maxLen)⟩
   |_=> .fail
  | .one (.sub _ _ n)=> .pure ⟨[.one (.ob .int (n:Int))],[],none,some (n≤maxLen)⟩
  | .one (.ro _ l)=> .pure ⟨[.one (.ob .int (l.length:Int))],[],none,some (l.length≤maxLen)⟩
  | .one (.bb l)=> .pure ⟨[.one (.ob .int (l.length:Int))],[],none,some (l.length≤maxLen)⟩
  | .one (.ln _ n)=> .pure ⟨[.one (.ob .int (n:Int))],[],none,some (n≤maxLen)⟩
  |_=> .fail
 | .k .str=>match x with
  | .one (.ob .str s)=>aw (.ob .int (s.size:Int))
  |_=> .fail
 | .arr n _=>aw (.cv (.int .i64 (.ofNat n)))
 |_=> .fail
def I5 (k q:Kd) (l:List k.T) (m:List q.T):Option (List k.T):=
 match k,q,l,m with
 | .u8,.u8,l,m=>some (l++m)
 | .u16,.u16,l,m=>some (l++m)
 | .u32,.u32,l,m=>some (l++m)
 | .u64,.u64,l,m=>some (l++m)
 | .int,.int,l,m=>some (l++m)
 | .bool,.bool,l,m=>some (l++m)
 |_,_,_,_=>none
def nk (ty:Nat→TE) (nb t:Nat) (s x:AV):R aG:=
 match (ty t).ti with
 | .sl e=>kn ty e (match Nat.beq (ty e).size 1 with
  |false=> .fail
  |true=>match mY (ty e) with
  |none=> .fail
  |some k=>oG x fun x=>match x with
   | .one (.ro q m)=>match s with
    | .one (.cv (.slice none 0 0))=>match I5 k q [] m with
     |some l=> .hp nb fun c=>match c with
      |none=> .pure ⟨[.one (.rw nb)],[(nb,some (.row e k l))],some (l.length≤16777216),none⟩
      |some _=> .fail
     |none=> .fail
    | .one (.rw b)=> .hp b fun c=>match c with
     |some (.row f p l)=>match Nat.beq e f,I5 p q l m with
      |true,some r=> .hp nb fun c=>match c with
       |none=> .pure ⟨[.one (.rw nb)],[(b,none),(nb,some (.row e p r))],some (r.length≤16777216),none⟩
       |some _=> .fail
      |_,_=> .fail
     |_=> .fail
    |_=> .fail
   |_=> .fail)
 |_=> .fail
def Ns (nb e b n:Nat) (z:Option Int):R aG:= .hp b fun c=>match c with
 |some (.row f .u8 l)=>match Nat.beq e f with
  |true=> .hp nb fun c=>match c with
   |none=>match l++List.replicate n (0:UInt8) with
    |r=> .pure ⟨[.one (.rw nb)],[(b,none),(nb,some (.row e .u8 r))],(match z with |none=>some (r.length≤16777216)|some z=>some (0≤z∧r.length≤16777216)),none⟩
   |some _=> .fail
  |false=> .fail
 |_=> .fail
def yV (ty:Nat→TE) (nb t u:Nat) (s x:AV):R aG:=
 match (ty t).ti,(ty u).ti with
 | .sl e,.k .int=>kn ty e (match Nat.beq (ty e).size 1 with
  |false=> .fail
  |true=>match mY (ty e),x,s with
   |some .u8,.one (.cv (.int .i64 (.ofNat n))),.one (.rw b)=>Ns nb e b n none
   |some .u8,.one (.ob .int z),.one (.rw b)=>Ns nb e b z.toNat (some z)
   |_,_,_=> .fail)
 |_,_=> .fail
def tF (k q:Kd) (m:List q.T):Option (List k.T):=
 match k,q,m with
 | .u8,.u8,m=>some m
 | .u16,.u16,m=>some m
 | .u32,.u32,m=>some m
 | .u64,.u64,m=>some m
 | .int,.int,m=>some m
 | .bool,.bool,m=>some m
 |_,_,_=>none
def yY (ty:Nat→TE) (t:Nat) (d x:AV):R aG:=
 match (ty t).ti with
 | .sl e=>kn ty e (match Nat.beq (ty e).size 1 with
  |false=> .fail
  |true=>oG x fun x=>match x with
   | .one (.ro q m)=>match d with
    | .one (.rw b)=> .hp b fun c=>match c with
     |some (.row f p l)=>match tF p q m with
      |some m=> .pure ⟨[.one (.ob .int ((min l.length m.length:Nat):Int))],[(b,some (.row f p (m.take l.length++l.drop m.length)))],none,none⟩
      |none=> .fail
     |_=> .fail
    | .one (.sub b lo n)=> .hp b fun c=>match c with
     |some (.row f p l)=>match tF p q m with
      |some m=> .pure ⟨[.one (.ob .int ((min n m.length:Nat):Int))],[(b,some (.row f p (l.take lo++m.take n++l.drop (lo+min n m.length))))],none,none⟩
      |none=> .fail
     |_=> .fail
    | .one (.sl b lo n _)=> .hp b fun c=>match c with
     |some (.blk E l)=>match l with
      | [.vec p N l]=>match tF p q m,Nat.ble (lo+n) N with
       |some m,true=> .pure ⟨[.one (.ob .int ((min n m.length:Nat):Int))],[(b,some (.blk E [.vec p N (l.take lo++m.take n++l.drop (lo+min n m.length))]))],none,none⟩
       |_,_=> .fail
      |_=> .fail
     |_=> .fail
    |_=> .fail
   |_=> .fail)
 |_=> .fail
def kx (ty:Nat→TE) (nb:Nat) (b:Builtin) (ts:Array TypeId) (l:List AV):R aG:=
 match b,l with
 | .len,[x]=>match ts.toList with
  | [t]=>GB ty t x
  |_=> .fail
 | .append,[s,x]=>match ts.toList with
  | [t,u]=>match Nat.beq t u with |true=>nk ty nb t s x|false=>yV ty nb t u s x
  |_=> .fail
 | .copy,[d,x]=>match ts.toList with
  | [t,u]=>match Nat.beq t u with |true=>yY ty t d x|false=> .fail
  |_=> .fail
 | .min,[x,y]=>match fQ x,fQ y with
  |some (.lit a),some (.lit b)=>gn (match gL b a with |true=>b|false=>a)
  |some (.int a),some b=>aw (.ob .int (min a b.toInt))
  |some (.lit a),some (.int b)=>aw (.ob .int (min a b))
  |_,_=> .fail
 | .max,[x,y]=>match fQ x,fQ y with
  |some (.lit a),some (.lit b)=>gn (match gL b a with |true=>a|false=>b)
  |some (.int a),some b=>aw (.ob .int (max a b.toInt))
  |some (.lit a),some (.int b)=>aw (.ob .int (max a b))
  |_,_=> .fail
 |_,_=> .fail
def rX (ty:Nat→TE) (t:Nat) (a i:AV):R aG:=
 match a with
 | .agg l=>match (ty t).ti with
  | .arr n e=>kn ty e (Kg i (fun j=>match Nat.blt j n with
   |true=>match (ty e).isAgg with
    |true=>match d7 l (j*(ty e).size) with
     |some r=>match fI r (ty e).size with
      |some q=> .pure ⟨[.agg q],[],none,none⟩
      |none=> .fail
     |none=> .fail
    |false=>match mb l (j*(ty e).size) with
     |some x=>aw x
     |none=> .fail
   |false=> .fail) (fun z=>match l with
    | [.vec k m q]=>match k.sc,(ty e).isAgg,Nat.beq (ty e).size 1,Nat.beq m n with
     |true,false,true,true=>bC (.ob k (q.getD z.toNat k.df)) (0≤z∧z<n)
     |_,_,_,_=> .fail
    |_=> .fail))
  |_=> .fail
 |_=> .fail
def Ty (op:BinOp) (x y:F):R aG:=match op with
 | .eql=>symB (decide (x=y))
 | .neq=>symB (!decide (x=y))
 |_=> .fail
def yW (ti:TI) (t:Nat) (op:BinOp) (x y:AV):R aG:=match x with
 | .agg l=>match y with
  | .agg m=>match Nat.beq t 111,l,m with
   |true,[.ob (.x 1) x],[.ob (.x 1) y]=>Ty op x y
   |_,_,_=> .fail
  |_=> .fail
 |x=>ML ti op x y
def yX (ty:Nat→TE) (s d:Nat) (a:AV):R aG:=match (ty s).ti with
 | .k _=>match (ty d).ti with
  | .k k=>match fQ a with
   |some n=>KF k n
   |none=> .fail
  |_=> .fail
 | .sl _=>match Nat.beq s 26 with
  |true=>match Nat.beq d 9 with
   |true=>oG a fun x=>match x with
    | .one (.ro .u8 l)=>aw (.ob .str (bs l))
    |_=> .fail
   |false=>match Nat.beq d 26,a with
    |true,.one (.rw b)=> .hp b fun c=>match c with
     |some (.row _ .u8 (x::l))=> .pure ⟨[.one (.ro .u8 (x::l))],[(b,none)],none,none⟩
     |_=> .fail
    |_,_=> .fail
  |false=> .fail
 |_=> .fail
def GC (_t:Nat) (_m _x:AV):R aG:= .fail
def NY:AV→Option FC
 | .one (.ptr b o)=>some (.p b o)
 | .one (.ob k x)=>some (.ob k x)
 | .one (.cv (.int .i64 z))=>some (.ob .int z)
 | .one (.ro .u8 l)=>some (.r l)
 |_=>none
def ud {α:Type}:List AV→(List FC→R α)→R α
 | [],k=>k []
 |a::r,k=>match NY a with
  |some x=>ud r fun l=>k (x::l)
  |none=> .fail
def oX:List FC→List AV→List AV
 | [],l=>l
 |x::r,l=>x.av::oX r l
def z7:List AV→List AV→List AV
 | [],l=>l
 |x::r,l=>x::z7 r l
def GE (f:Nat) (a b:List Operand):R aG:=nq a fun l=>nq b fun m=>ud l fun l=>ud m fun m=>aw (.fv f l m)
abbrev CF:Type:=Nat→List AV→R aG
def ml (ty:Nat→TE) (ct:Nat→Option CF) (nb:Nat) (op:Op):R aG:=
 match op with
 | .move x=>match x with
  | .tmp t=> .slot t fun l=>match l with
   | []=> .fail
   |a::r=> .pure ⟨a::r,[],none,none⟩
  |x=>db x fun a=> .pure ⟨[a],[],none,none⟩
 | .assign x=>db x fun a=> .pure ⟨[a],[],none,none⟩
 | .pick c a b=>db c fun c=>match c with
  | .one (.cv (.bool true))=>db a fun a=> .pure ⟨[a],[],none,none⟩
  | .one (.cv (.bool false))=>db b fun b=> .pure ⟨[b],[],none,none⟩
  |_=> .fail
 | .alloc e=>kn ty e (sq nb (.ptr nb 0) (.blk e (ty e).zero) none)
 | .box e v=>db v fun a=>match li (dU a) with |true=>sq nb (.ptr nb 0) (.blk e (dU a)) none|false=> .fail
 | .build t ps=>y6 ps.toList fun l=>rW ty t l
 | .buildSlice t len ps=>y6 ps.toList fun l=>fR ty nb t len l
 | .load t a=>db a fun a=>nl ty t a
 | .store t a v=>db a fun a=>db v fun v=>r7 ty t a v
 | .nilCheck x=>db x fun a=>match a with
  | .one (.ptr b o)=>aw (.ptr b o)
  |_=> .fail
 | .binOp op t x y _=>db x fun a=>db y fun b=>yW (ty t).ti t op a b
 | .unOp op _ x=>db x fun a=>OI op a
 | .convert s d x=>db x fun a=>yX ty s d a
 | .makeSlice t n c=>db n fun n=>db c fun c=>gR ty nb t n c
 | .slice t x lo hi mx=>db x fun a=>yZ lo fun lo=>yZ hi fun hi=>yZ mx fun mx=>rZ ty t a lo hi mx
 | .fieldAddr t x f=>db x fun a=>match a,(ty t).ti with
  | .one (.ptr b o),.st fs=>kn ty t (match fs[f]? with
   |some (off,u)=>kn ty u (match Nat.blt 0 (ty u).size with |true=>aw (.ptr b (o+off))|false=> .fail)
   |none=> .fail)
  |_,_=> .fail
 | .field t x f=>db x fun a=>match a,(ty t).ti with
  | .agg l,.st fs=>match fs[f]? with
   |some (off,u)=>kn ty u (match d7 l off with
    |some r=>match fI r (ty u).size with
     |some q=>we (ty u).isAgg q
     |none=> .fail
    |none=> .fail)
   |none=> .fail
  |_,_=> .fail
 | .lookup t m x c=>match c with
  |false=>db m fun m=>db x fun x=>GC t m x
  |true=> .fail
 | .indexAddr t x i=>db x fun a=>db i fun i=>gQ ty t a i
 | .index t x i=>db x fun a=>db i fun i=>rX ty t a i
 | .extract x i=>match x with
  | .tmp t=> .slot t fun l=>match l with
   |_::_::_=>(match l[i]? with
    |some a=> .pure ⟨[a],[],none,none⟩
    |none=> .fail)
   |_=> .fail
  |_=> .fail
 | .call c=>match c.callee with
  | .builtin b=>nq c.args.toList fun l=>kx ty nb b c.argTypes l
  | .value (.func f)=>match ct f with
   |some C=>nq c.args.toList fun l=>C nb l
   |none=> .fail
  | .value (.tmp t)=> .slot t fun v=>match v with
   | [.one (.fv f l m)]=>match ct f with
    |some C=>nq c.args.toList fun r=>C nb (oX l (z7 r (oX m [])))
    |none=> .fail
   |_=> .fail
  |_=> .fail
 | .makeFunc fn a b=>match fn with
  | .func f=>GE f a.toList b.toList
  |_=> .fail
 |_=> .fail
structure AS where
 sl:List (Nat×Nat×List AV)
 hp:List (Nat×Nat×Ch)
 nx:Nat
def bG:List (Nat×Nat×List AV)→Nat→List AV
 | [],_=> []
 |(t,_,a)::r,u=>match Nat.beq t u with |true=>a|false=>bG r u
def aH:List (Nat×Nat×Ch)→Nat→Option Ch
 | [],_=>none
 |(t,_,a)::r,u=>match Nat.beq t u with |true=>some a|false=>aH r u
def CM {α:Type} (t v:Nat) (a:List AV):List (Nat×Nat×List AV)→(List (Nat×Nat×List AV)→α)→α
 | [],k=>k [(t,v,a)]
 |(u,w,b)::r,k=>match Nat.beq u t with
  |true=>k ((t,v,a)::r)
  |false=>CM t v a r fun r=>k ((u,w,b)::r)
def tT {α:Type} (t:Nat):List (Nat×Nat×Ch)→(List (Nat×Nat×Ch)→α)→α
 | [],k=>k []
 |(u,w,b)::r,k=>match Nat.beq u t with
  |true=>tT t r k
  |false=>tT t r fun r=>k ((u,w,b)::r)
def vy {α:Type} (t v:Nat) (a:Ch):List (Nat×Nat×Ch)→(List (Nat×Nat×Ch)→α)→α
 | [],k=>k [(t,v,a)]
 |(u,w,b)::r,k=>match Nat.beq u t with
  |true=>k ((t,v,a)::r)
  |false=>vy t v a r fun r=>k ((u,w,b)::r)
def sV {α:Type} (v:Nat):List (Nat×Option Ch)→List (Nat×Nat×Ch)→(List (Nat×Nat×Ch)→α)→α
 | [],l,k=>k l
 |(b,c)::r,l,k=>match c with
  |some c=>vy b v c l fun l=>sV v r l k
  |none=>tT b l fun l=>sV v r l k
structure dQ where
 dst:Option Nat
 out:List AV
 upd:List (Nat×Option Ch)
 pre:Option Prop
 fact:Option Prop
 rd:List cu
 qs:List (Bool×Bool)
inductive BD where
 |ok (rs:List dQ) (S:AS)
 |need (i:Nat) (p:Bool)
 |fail
def BD.cons (r:dQ):BD→BD
 | .ok rs S=> .ok (r::rs) S
 | .need i p=> .need i p
 | .fail=> .fail
def fK (i:Nat):List (Nat×Bool)→List Bool
 | []=> []
 |(j,b)::r=>match Nat.beq i j with |true=>b::fK i r|false=>fK i r
def ry (i:Nat) (ops:List Oper):Bool:=match ops with
 | []=>false
 |o::r=>match o.guard with
  |some (j,_)=>match Nat.beq i j with |true=>true|false=>ry i r
  |none=>ry i r
def gY (g:Bool) (r:R aG):R aG:=
 match g with
 |false=>r
 |true=>go r
where go:R aG→R aG
 | .pure a=>match a with
  |⟨[.one (.ob .bool p)],u,q,f⟩=> .dec p fun v=> .pure ⟨[.one (.cv (.bool v))],u,q,f⟩
  |a=> .pure a
 | .fail=> .fail
 | .slot t k=> .slot t fun l=>go (k l)
 | .hp b k=> .hp b fun c=>go (k c)
 | .dec p k=> .dec p fun v=>go (k v)
def AC (all:List Oper) (g:Option (Nat×Bool)) (r:R aG):R aG:=
 match g with
 |none=>r
 |some (j,want)=>match all[j]? with
  |some o=>match o.dst with
   |some t=> .slot t fun l=>match l with
    | [.one (.cv (.bool b))]=>match b,want with
     |true,true=>r
     |false,false=>r
     |_,_=>aw .un
    | [.one .un]=>aw .un
    |_=> .fail
   |none=> .fail
  |none=> .fail
def fM {α:Type} (n:Nat) (k:Nat→α):α:=match n with |0=>k 0|m+1=>k (m+1)
def fZ (ty:Nat→TE) (ct:Nat→Option CF) (all:List Oper) (i:Nat) (g:Option (Nat×Bool)) (op:Op) (nx:Nat):R aG:=AC all g (gY (ry i all) (ml ty ct nx op))
def cN (ty:Nat→TE) (ct:Nat→Option CF) (all:List Oper) (ds:List (Nat×Bool)):Nat→List Oper→List (Nat×Nat×List AV)→List (Nat×Nat×Ch)→Nat→BD
 |_,[],sl,hp,nx=> .ok [] ⟨sl,hp,nx⟩
 |i,o::r,sl,hp,nx=>match o with
  |⟨dst,op,_,_,_,g⟩=>
  match (fZ ty ct all i g op nx).run (bG sl) (aH hp) (fK i ds) with
  | .ok ⟨out,upd,pre,fact⟩ rd qs=>sV nx upd hp fun hp=>match dst with
   |some t=>CM t nx out sl fun sl=>fM (nx+16) fun nx=>(cN ty ct all ds (i+1) r sl hp nx).cons ⟨dst,out,upd,pre,fact,rd,qs⟩
   |none=>fM (nx+16) fun nx=>(cN ty ct all ds (i+1) r sl hp nx).cons ⟨dst,out,upd,pre,fact,rd,qs⟩
  | .need p=> .need i p
  | .fail=> .fail
def I8:List (Bool×Bool)→Prop→Prop
 | [],k=>k
 |(p,v)::r,k=>p=v∧I8 r k
def tg:List dQ→Prop→Prop
 | [],k=>k
 |r::l,k=>I8 r.qs (tg l k)
def CK:List dQ→Prop→Prop
 | [],k=>k
 |r::l,k=>match r.pre with
  |none=>CK l k
  |some p=>p∧CK l k
def oW:List dQ→Prop→Prop
 | [],k=>k
 |r::l,k=>match r.fact with
  |none=>oW l k
  |some p=>p→oW l k
def uu:cu→cu→Bool
 | .s a,.s b=>Nat.beq a b
 | .h a,.h b=>Nat.beq a b
 |_,_=>false
def Gi (x:cu):List cu→Bool
 | []=>false
 |y::r=>match uu x y with |true=>true|false=>Gi x r
def m_:List cu→List cu→Bool
 | [],_=>false
 |x::r,l=>match Gi x l with |true=>true|false=>m_ r l
def dQ.wr (r:dQ):List cu:=(match r.dst with |some t=> [.s t]|none=> [])++r.upd.map fun p=>cu.h p.1
def BJ (ops:List Oper):List Nat:=go ops []
where go:List Oper→List Nat→List Nat
 | [],acc=>acc
 |o::r,acc=>go r (acc++ [o.after.toList.foldl (fun s e=>match Region.binds .any e with |true=>s|||2^e.on|||acc.getD e.on 0|false=>s) 0])
def oP (a b:dQ):Bool:=match m_ a.wr (b.rd++b.wr) with
 |true=>true
 |false=>m_ a.rd b.wr
def i6 (an:List Nat) (r:dQ) (i:Nat):Nat→List dQ→Bool
 |_,[]=>true
 |j,q::l=>match oP r q with
  |true=>match Nat.testBit (an.getD j 0) i with
   |true=>i6 an r i (j+1) l
   |false=>false
  |false=>i6 an r i (j+1) l
def gy (an:List Nat):Nat→List dQ→Bool
 |_,[]=>true
 |i,r::l=>match i6 an r i (i+1) l with
  |true=>gy an (i+1) l
  |false=>false
def qL:Value→Option Nat
 | .pointer (some a)=>some a.block
 | .slice (some a) _ _=>some a.block
 |_=>none
abbrev aY:Type:=Nat→Option Value
def bf (η:aY) (b:Nat):Option Nat:=(η b).bind qL
def eG (A:Nat→Prop) (w:World) (k:Kd) (l:List k.T) (v:Value):Prop:=
 ∃a c,v= .slice a l.length c∧l.length≤c∧c≤maxLen∧(a=none→c=0)∧(0<l.length→∃g o cs,a=some ⟨g,o,none⟩∧A g∧aU k.rp l cs∧w.rangeAt g o cs)
def wH (A:Nat→Prop) (w:World) (f:Int→Int) (v:Value):Prop:=
 ∃g m D,v= .map (some g)∧A g∧w.ownsMap (H:=Value) Tryz.prog 3 (plainElem Tryz.prog 3) g m D∧∀k,jq k→D.atKey (.int .i64 k) (.lit (.int .i64 0))= .lit (.int .i64 (f k))
def FC.H (η:aY) (A:Nat→Prop) (w:World):FC→Value→Prop
 | .p b q,v=>∃g,η b=some (.pointer (some ⟨g,0,none⟩))∧v= .pointer (some ⟨g,q,none⟩)
 | .ob k x,v=>k.rp.rep x [v]
 | .r l,v=>eG A w .u8 l v
def jp (η:aY) (A:Nat→Prop) (w:World):List FC→List Value→Prop
 | [],vs=>vs= []
 |x::r,vs=>∃v t,vs=v::t∧x.H η A w v∧jp η A w r t
def Cl.H (η:aY) (A:Nat→Prop) (w:World):Cl→List Value→Prop
 | .any,cs=>∃v,cs= [v]∧v.oneCell'=true
 | .un,cs=>cs= [undef]
 | .cv v,cs=>cs= [v]∧v.oneCell'=true
 | .ob k x,cs=>k.rp.rep x cs
 | .vec k n l,cs=>l.length=n∧aU k.rp l cs
 | .ptr b q,cs=>∃g,η b=some (.pointer (some ⟨g,0,none⟩))∧cs= [.pointer (some ⟨g,q,none⟩)]
 | .pix b q i,cs=>∃g,bf η b=some g∧cs= [.pointer (some ⟨g,q+i,none⟩)]
 | .pro k x,cs=>∃g o us,cs= [.pointer (some ⟨g,o,none⟩)]∧A g∧k.rp.rep x us∧w.rangeAt g o us
 | .sl b q n c,cs=>n≤c∧∃g,η b=some (.pointer (some ⟨g,0,none⟩))∧cs= [.slice (some ⟨g,q,none⟩) n c]
 | .rw b,cs=>∃v,η b=some v∧cs= [v]∧v.oneCell'=true
 | .sub b lo n,cs=>∃v a c,η b=some v∧cs= [.slice a n c]∧n≤c∧c≤maxLen∧(a=none→c=0)∧(0<n→∃g N C,v= .slice (some ⟨g,0,none⟩) N C∧a=some ⟨g,lo,none⟩∧lo+n≤N)
 | .ro k l,cs=>∃v,cs= [v]∧eG A w k l v
 | .bb l,cs=>∃a c,cs= [.slice a l.length c]∧l.length≤c∧c≤maxLen∧(a=none→c=0)∧(0<l.length→∃g o us,a=some ⟨g,o,none⟩∧A g∧w.rangeAt g o us∧us.length=l.length∧∀i (h:i<l.length) (h':i<us.length),eG A w .u8 l[i] us[i])
 | .pbb l,cs=>∃g o v,cs= [.pointer (some ⟨g,o,none⟩)]∧A g∧w.cell? ⟨g,o,none⟩=some v∧eG A w .u8 l v
 | .ln v n,cs=>cs= [v]∧(∃a c,v= .slice a n c)∧n≤maxLen
 | .mp v f,cs=>cs= [v]∧wH A w f v
 | .rv v l,cs=>cs= [v]∧eG A w .u8 l v
 | .fv f l m,cs=>∃us vs:List Value,cs= [.func (.func f) us.toArray vs.toArray]∧jp η A w l us∧jp η A w m vs
def aO (η:aY) (A:Nat→Prop) (w:World):List Cl→List Value→Prop
 | [],cs=>cs= []
 |x::r,cs=>∃h t,cs=h++t∧x.H η A w h∧aO η A w r t
def AV.H (η:aY) (A:Nat→Prop) (w:World):AV→Value→Prop
 | .one x,v=>x.H η A w [v]
 | .agg l,v=>∃cs:List Value,v= .agg cs.toArray∧aO η A w l cs∧∀v∈cs,v.oneCell'=true
def bp (η:aY) (A:Nat→Prop) (w:World):List AV→List Value→Prop
 | [],vs=>vs= []
 |x::r,vs=>∃v t,vs=v::t∧x.H η A w v∧bp η A w r t
def bF (η:aY) (A:Nat→Prop) (w:World):List AV→Value→Prop
 | [],_=>True
 | [x],v=>x.H η A w v
 |l,v=>∃vs:List Value,v= .tuple vs.toArray∧bp η A w l vs
def Ch.H (η:aY) (A:Nat→Prop) (w:World) (b:Nat):Ch→Prop
 | .blk E l=>∃g cs,η b=some (.pointer (some ⟨g,0,none⟩))∧ao w g cs E∧aO η A w l cs∧(∀v∈cs,v.oneCell'=true)
 | .row E k l=>∃v cs,η b=some v∧aU k.rp l cs∧w.ownsRow 0 E k.n v l.length cs
def ay (H:Nat→Option Ch) (η:aY) (g:Nat):Prop:=∀b,H b≠none→bf η b≠some g
structure Fw (H:Nat→Option Ch) (η:aY) (w:World) (H':Nat→Option Ch) (η':aY) (w':World):Prop where
 os:w'.os=w.os
 tape:w'.tape=w.tape
 output:w'.output=w.output
 size:w.heap.size≤w'.heap.size
 env:∀b v,η b=some v→η' b=some v
 anon:∀g,g<w.heap.size→ay H η g→w'.heap[g]?=w.heap[g]?∧ay H' η' g
theorem Fw.refl (H:Nat→Option Ch) (η:aY) (w:World):Fw H η w H η w:=⟨rfl,rfl,rfl,Nat.le_refl _,fun _ _ h=>h,fun _ _ h=>⟨rfl,h⟩⟩
theorem Fw.drew (H:Nat→Option Ch) (η:aY) (w:World):Fw H η w H η w.drew:=⟨rfl,rfl,rfl,Nat.le_refl _,fun _ _ h=>h,fun _ _ h=>⟨rfl,h⟩⟩
theorem Fw.trans {H1 H2 H3:Nat→Option Ch} {η1 η2 η3:aY} {w1 w2 w3:World} (h:Fw H1 η1 w1 H2 η2 w2) (k:Fw H2 η2 w2 H3 η3 w3):Fw H1 η1 w1 H3 η3 w3:=
 ⟨k.os.trans h.os,k.tape.trans h.tape,k.output.trans h.output,Nat.le_trans h.size k.size,fun b v e=>k.env b v (h.env b v e),fun g hg ha=>by
  obtain ⟨h1,h2⟩:=h.anon g hg ha
  obtain ⟨k1,k2⟩:=k.anon g (Nat.lt_of_lt_of_le hg h.size) h2
  exact ⟨k1.trans h1,k2⟩⟩
structure Lt (η:aY) (A:Nat→Prop) (w:World) (η':aY) (A':Nat→Prop) (w':World):Prop where
 env:∀b v,η b=some v→η' b=some v
 anon:∀g,g<w.heap.size→A g→w'.heap[g]?=w.heap[g]?∧A' g
theorem Fw.lt {H H':Nat→Option Ch} {η η':aY} {w w':World} (h:Fw H η w H' η' w'):Lt η (ay H η) w η' (ay H' η') w':=⟨h.env,h.anon⟩
theorem nE {w:World} {g o:Nat} {cs:List Value} (h:w.rangeAt g o cs) (hn:0<cs.length):g<w.heap.size:=by
 have:=h 0 cs[0] (List.getElem?_eq_getElem hn)
 exact cz this
theorem nD {w w':World} {g o:Nat} {cs:List Value} (h:w.rangeAt g o cs) (e:w'.heap[g]?=w.heap[g]?):w'.rangeAt g o cs:=fun j v hv=>by
 rw [World.cell?_of_block (w:=w) e];exact h j v hv
theorem J1 {η η':aY} (h:∀b v,η b=some v→η' b=some v) {b g:Nat} (hb:bf η b=some g):bf η' b=some g:=by
 unfold bf at*
 cases e:η b with
 |none=>rw [e] at hb;cases hb
 |some v=>rw [h b v e];rw [e] at hb;exact hb
theorem eG.later {η η':aY} {A A':Nat→Prop} {w w':World} (hl:Lt η A w η' A' w') {k:Kd} {l:List k.T} {v:Value} (h:eG A w k l v):eG A' w' k l v:=by
 obtain ⟨a,c,h1,h2,h3,h4,h5⟩:=h
 refine ⟨a,c,h1,h2,h3,h4,fun hn=> ?_⟩
 obtain ⟨g,o,cs,e,hA,hc,hr⟩:=h5 hn
 have hlen:0<cs.length:=by rw [hc.len];exact Nat.mul_pos k.rp.pos hn
 obtain ⟨e1,e2⟩:=hl.anon g (nE hr hlen) hA
 exact ⟨g,o,cs,e,e2,hc,nD hr e1⟩
theorem wH.later {A A':Nat→Prop} {w w':World} (hl:∀g,g<w.heap.size→A g→w'.heap[g]?=w.heap[g]?∧A' g) {f:Int→Int} {v:Value} (h:wH A w f v):wH A' w' f v:=by
 obtain ⟨g,m,D,h1,h2,ho,h4⟩:=h
 have hlt:=ho.lt
 obtain ⟨e1,e2⟩:=hl g hlt h2
 obtain ⟨es,clock,hb,F,hs,hD⟩:=ho
 exact ⟨g,m,D,h1,e2,⟨es,clock,e1.trans hb,F,hs,hD⟩,h4⟩
theorem wH.mono {A A':Nat→Prop} {w:World} (hA:∀g,A g→A' g) {f:Int→Int} {v:Value} (h:wH A w f v):wH A' w f v:=h.later fun g _ a=>⟨rfl,hA g a⟩
theorem FC.H.later {η η':aY} {A A':Nat→Prop} {w w':World} (hl:Lt η A w η' A' w'):∀ {x:FC} {v:Value},x.H η A w v→x.H η' A' w' v
 | .p _ _,_,⟨g,h1,h2⟩=>⟨g,hl.env _ _ h1,h2⟩
 | .ob _ _,_,h=>h
 | .r l,v,h=>eG.later (k:= .u8) (l:=l) (v:=v) hl h
theorem jp.later {η η':aY} {A A':Nat→Prop} {w w':World} (hl:Lt η A w η' A' w'):∀ {l:List FC} {vs:List Value},jp η A w l vs→jp η' A' w' l vs
 | [],_,h=>h
 |_::_,_,⟨v,t,e,hx,hr⟩=>⟨v,t,e,hx.later hl,hr.later hl⟩
theorem Cl.H.later {η η':aY} {A A':Nat→Prop} {w w':World} (hl:Lt η A w η' A' w'):∀ {x:Cl} {cs:List Value},x.H η A w cs→x.H η' A' w' cs
 | .any,_,h=>h
 | .un,_,h=>h
 | .cv _,_,h=>h
 | .ob _ _,_,h=>h
 | .vec _ _ _,_,h=>h
 | .ptr _ _,_,⟨g,h1,h2⟩=>⟨g,hl.env _ _ h1,h2⟩
 | .pix _ _ _,_,⟨g,h1,h2⟩=>⟨g,J1 hl.env h1,h2⟩
 | .pro k _,_,⟨g,q,us,h1,h2,h3,h4⟩=>by
  have hlen:0<us.length:=by rw [k.rp.len _ _ h3];exact k.rp.pos
  obtain ⟨e1,e2⟩:=hl.anon g (nE h4 hlen) h2
  exact ⟨g,q,us,h1,e2,h3,nD h4 e1⟩
 | .sl _ _ _ _,_,⟨hn,g,h1,h2⟩=>⟨hn,g,hl.env _ _ h1,h2⟩
 | .rw _,_,⟨v,h1,h2⟩=>⟨v,hl.env _ _ h1,h2⟩
 | .sub _ _ _,_,⟨v,a,c,h1,h2⟩=>⟨v,a,c,hl.env _ _ h1,h2⟩
 | .ro _ _,_,⟨v,h1,h2⟩=>⟨v,h1,h2.later hl⟩
 | .bb l,_,⟨a,c,h1,h2,h3,h4,h5⟩=>by
  refine ⟨a,c,h1,h2,h3,h4,fun hn=> ?_⟩
  obtain ⟨g,q,us,e,hA,hr,hlen,hall⟩:=h5 hn
  obtain ⟨e1,e2⟩:=hl.anon g (nE hr (by omega)) hA
  exact ⟨g,q,us,e,e2,nD hr e1,hlen,fun i hi hi'=>(hall i hi hi').later hl⟩
 | .pbb _,_,⟨g,q,v,h1,h2,h3,h4⟩=>by
  obtain ⟨e1,e2⟩:=hl.anon g (cz h3) h2
  exact ⟨g,q,v,h1,e2,by rw [World.cell?_of_block (w:=w) e1];exact h3,h4.later hl⟩
 | .ln _ _,_,h=>h
 | .mp _ _,_,⟨h1,h2⟩=>⟨h1,h2.later hl.anon⟩
 | .rv _ _,_,⟨h1,h2⟩=>⟨h1,h2.later hl⟩
 | .fv _ _ _,_,⟨us,vs,e,h1,h2⟩=>⟨us,vs,e,h1.later hl,h2.later hl⟩
theorem aO.later {η η':aY} {A A':Nat→Prop} {w w':World} (hl:Lt η A w η' A' w'):∀ {l:List Cl} {cs:List Value},aO η A w l cs→aO η' A' w' l cs
 | [],_,h=>h
 |_::_,_,⟨h,t,e,hx,hr⟩=>⟨h,t,e,hx.later hl,hr.later hl⟩
theorem AV.H.later {η η':aY} {A A':Nat→Prop} {w w':World} (hl:Lt η A w η' A' w'):∀ {x:AV} {v:Value},x.H η A w v→x.H η' A' w' v
 | .one _,_,h=>Cl.H.later hl h
 | .agg _,_,⟨cs,e,h,h1⟩=>⟨cs,e,h.later hl,h1⟩
theorem bp.later {η η':aY} {A A':Nat→Prop} {w w':World} (hl:Lt η A w η' A' w'):∀ {l:List AV} {vs:List Value},bp η A w l vs→bp η' A' w' l vs
 | [],_,h=>h
 |_::_,_,⟨v,t,e,hx,hr⟩=>⟨v,t,e,hx.later hl,hr.later hl⟩
theorem bF.later {η η':aY} {A A':Nat→Prop} {w w':World} (hl:Lt η A w η' A' w'):∀ {l:List AV} {v:Value},bF η A w l v→bF η' A' w' l v
 | [],_,_=>trivial
 | [_],_,h=>AV.H.later hl h
 |_::_::_,_,⟨vs,e,h⟩=>⟨vs,e,h.later hl⟩
theorem Ch.H.later {η η':aY} {A A':Nat→Prop} {w w':World} (hl:Lt η A w η' A' w') {b:Nat} {c:Ch} (h:c.H η A w b) (hb:∀g,bf η b=some g→w'.heap[g]?=w.heap[g]?):c.H η' A' w' b:=by
 cases c with
 |blk E l=>
  obtain ⟨g,cs,h1,h2,h3,h4⟩:=h
  exact ⟨g,cs,hl.env _ _ h1,by have:=hb g (by unfold bf;rw [h1];rfl);unfold ao at *;rw [this];exact h2,h3.later hl,h4⟩
 |row E k l=>
  obtain ⟨v,cs,h1,h2,h3⟩:=h
  refine ⟨v,cs,hl.env _ _ h1,h2,h3.1,?_⟩
  rcases h3.2 with h4|⟨g,cap,cur,e,h4,h5,h6⟩
  ·exact .inl h4
  ·exact .inr ⟨g,cap,cur,e,h4,by rw [hb g (by unfold bf;rw [h1,e];rfl)];exact h5,h6⟩
structure eH (S:Nat→List AV) (H:Nat→Option Ch) (N:Nat) (η:aY) (a:Act) (w:World):Prop where
 df:a.defers= []
 sz:a.tmps.size=N
 slot:∀t,bF η (ay H η) w (S t) (a.tmps.getD t undef)
 chunk:∀b c,H b=some c→c.H η (ay H η) w b
 apart:∀b b' g,b≠b'→H b≠none→H b'≠none→bf η b=some g→bf η b'≠some g
theorem R.run_same {α:Type} {sl sl':Nat→List AV} {hp hp':Nat→Option Ch}:∀(m:R α) (ds:List Bool) {a:α} {rd:List cu} {qs:List (Bool×Bool)},
  m.run sl hp ds= .ok a rd qs→(∀t,.s t∈rd→sl' t=sl t)→(∀b,.h b∈rd→hp' b=hp b)→m.run sl' hp' ds= .ok a rd qs
 | .pure _,_,_,_,_,h,_,_=>h
 | .fail,_,_,_,_,h,_,_=>h
 | .slot t k,ds,a,rd,qs,h,hs,hh=>by
  unfold R.run at h ⊢
  cases e:(k (sl t)).run sl hp ds with
  |ok a' r' q'=>
   rw [e] at h
   simp only [RR.rd,RR.ok.injEq] at h
   obtain ⟨rfl,rfl,rfl⟩:=h
   have h1:=hs t (by simp)
   rw [h1,R.run_same (k (sl t)) ds e (fun t ht=>hs t (by simp [ht])) (fun b hb=>hh b (by simp [hb]))]
   rfl
  |need p=>rw [e] at h;cases h
  |fail=>rw [e] at h;cases h
 | .hp b k,ds,a,rd,qs,h,hs,hh=>by
  unfold R.run at h ⊢
  cases e:(k (hp b)).run sl hp ds with
  |ok a' r' q'=>
   rw [e] at h
   simp only [RR.rd,RR.ok.injEq] at h
   obtain ⟨rfl,rfl,rfl⟩:=h
   have h1:=hh b (by simp)
   rw [h1,R.run_same (k (hp b)) ds e (fun t ht=>hs t (by simp [ht])) (fun b hb=>hh b (by simp [hb]))]
   rfl
  |need p=>rw [e] at h;cases h
  |fail=>rw [e] at h;cases h
 | .dec p k,d::ds,a,rd,qs,h,hs,hh=>by
  unfold R.run at h ⊢
  cases e:(k d).run sl hp ds with
  |ok a' r' q'=>
   rw [e] at h
   simp only [RR.asm,RR.ok.injEq] at h
   obtain ⟨rfl,rfl,rfl⟩:=h
   rw [R.run_same (k d) ds e hs hh]
   rfl
  |need p=>rw [e] at h;cases h
  |fail=>rw [e] at h;cases h
 | .dec p k,[],_,_,_,h,_,_=>by unfold R.run at h;cases h
structure FS where
 s:Nat→List AV
 h:Nat→Option Ch
def bi:List (Nat×Option Ch)→(Nat→Option Ch)→Nat→Option Ch
 | [],h=>h
 |(b,c)::r,h=>bi r fun x=>if x=b then c else h x
def dQ.app (r:dQ) (F:FS):FS:=⟨fun t=>if r.dst=some t then r.out else F.s t,bi r.upd F.h⟩
def FS.At (F G:FS):cu→Prop
 | .s t=>F.s t=G.s t
 | .h b=>F.h b=G.h b
theorem wd:∀(u:List (Nat×Option Ch)) (h:Nat→Option Ch) (b:Nat),(∀p∈u,p.1≠b)→bi u h b=h b
 | [],_,_,_=>rfl
 |(c,v)::r,h,b,hn=>by
  have hc:b≠c:=fun e=>hn (c,v) (by simp) e.symm
  rw [bi,wd r _ b fun p hp=>hn p (by simp [hp]),if_neg hc]
theorem jm:∀(u:List (Nat×Option Ch)) (h h':Nat→Option Ch) (b:Nat),h b=h' b→bi u h b=bi u h' b
 | [],_,_,_,e=>e
 |(c,v)::r,h,h',b,e=>by
  rw [bi,bi]
  apply jm
  split<;>simp_all
theorem Bw:∀(u:List (Nat×Option Ch)) (h h':Nat→Option Ch) (b:Nat),(∃p∈u,p.1=b)→bi u h b=bi u h' b
 | [],_,_,_,⟨_,h,_⟩=>by cases h
 |(c,v)::r,h,h',b,hp=>by
  rw [bi,bi]
  by_cases e:b=c
  ·apply jm;simp [e]
  ·refine Bw r _ _ b ?_
   obtain ⟨p,hp,rfl⟩:=hp
   rcases List.mem_cons.1 hp with rfl|hp
   ·exact absurd rfl e
   ·exact ⟨p,hp,rfl⟩
theorem uJ {r:dQ} {t:Nat}: .s t∈r.wr↔r.dst=some t:=by
 unfold dQ.wr
 cases r.dst<;>simp [eq_comm]
theorem uI {r:dQ} {b:Nat}: .h b∈r.wr↔∃p∈r.upd,p.1=b:=by
 unfold dQ.wr
 cases r.dst<;>simp
theorem p_ {r:dQ} {F:FS} {x:cu} (h:x ∉ r.wr):(r.app F).At F x:=by
 cases x with
 |s t=>rw [uJ] at h;simp [FS.At,dQ.app,h]
 |h b=>rw [uI] at h;exact wd _ _ _ fun p hp e=>h ⟨p,hp,e⟩
theorem Ew {r:dQ} {F G:FS} {x:cu} (h:x∈r.wr):(r.app F).At (r.app G) x:=by
 cases x with
 |s t=>rw [uJ] at h;simp [FS.At,dQ.app,h]
 |h b=>rw [uI] at h;exact Bw _ _ _ _ h
theorem BL {r:dQ} {F G:FS} {x:cu} (h:F.At G x):(r.app F).At (r.app G) x:=by
 cases x with
 |s t=>simp only [FS.At,dQ.app] at *;split<;>simp_all
 |h b=>exact jm _ _ _ _ h
theorem FS.At.symm {F G:FS} {x:cu} (h:F.At G x):G.At F x:=by cases x<;>exact Eq.symm h
theorem FS.At.trans {F G K:FS} {x:cu} (h:F.At G x) (k:G.At K x):F.At K x:=by cases x<;>exact Eq.trans h k
theorem FS.At.refl (F:FS) (x:cu):F.At F x:=by cases x<;>rfl
theorem FS.ext_at {F G:FS} (h:∀x,F.At G x):F=G:=by
 cases F;cases G
 congr 1
 ·funext t;exact h (.s t)
 ·funext b;exact h (.h b)
def lZ:List dQ→Nat→(Nat→Bool)→FS→FS
 | [],_,_,F=>F
 |r::rs,i,L,F=>lZ rs (i+1) L (if L i=true then r.app F else F)
theorem p9 (x:cu):∀(rs:List dQ) (i:Nat) (L L':Nat→Bool) (F G:FS),F.At G x→(∀k r,rs[k]?=some r→x∈r.wr→L (i+k)=L' (i+k))→(lZ rs i L F).At (lZ rs i L' G) x
 | [],_,_,_,_,_,h,_=>h
 |r::rs,i,L,L',F,G,h,hw=>by
  rw [lZ,lZ]
  refine p9 x rs (i+1) L L' _ _ ?_ fun k r' hk hx=>by
   have:=hw (k+1) r' (by simpa using hk) hx
   rw [show i+(k+1)=i+1+k by omega] at this;exact this
  by_cases hx:x∈r.wr
  ·have:=hw 0 r (by simp) hx
   rw [Nat.add_zero] at this
   rw [this]
   split
   ·exact Ew hx
   ·exact h
  ·split<;>split
   ·exact BL h
   ·exact (p_ hx).trans h
   ·exact h.trans (p_ hx).symm
   ·exact h
theorem zY:∀(rs:List dQ) (i:Nat) (L:Nat→Bool) (F:FS),(∀k,k<rs.length→L (i+k)=true)→lZ rs i L F=rs.foldl (fun F r=>r.app F) F
 | [],_,_,_,_=>rfl
 |r::rs,i,L,F,h=>by
  have h0:=h 0 (by simp)
  rw [Nat.add_zero] at h0
  rw [lZ,if_pos h0,List.foldl_cons]
  exact zY rs (i+1) L _ fun k hk=>by
   have:=h (k+1) (by simp;omega)
   rw [show i+(k+1)=i+1+k by omega] at this;exact this
theorem l5:∀(rs:List dQ) (i:Nat) (L:Nat→Bool) (F:FS),(∀k,k<rs.length→L (i+k)=false)→lZ rs i L F=F
 | [],_,_,_,_=>rfl
 |r::rs,i,L,F,h=>by
  have h0:=h 0 (by simp)
  rw [Nat.add_zero] at h0
  rw [lZ,if_neg (by rw [h0];simp)]
  exact l5 rs (i+1) L _ fun k hk=>by
   have:=h (k+1) (by simp;omega)
   rw [show i+(k+1)=i+1+k by omega] at this;exact this
theorem wM:∀(rs:List dQ) (i j:Nat) (F:FS),lZ rs i (fun x=>decide (x<i+j)) F=(rs.take j).foldl (fun F r=>r.app F) F
 | [],_,j,_=>by simp [lZ]
 |r::rs,i,0,F=>by
  rw [List.take_zero,List.foldl_nil]
  exact l5 _ _ _ _ fun k _=>by simp
 |r::rs,i,j+1,F=>by
  rw [lZ,if_pos (by simp),List.take_succ_cons,List.foldl_cons]
  have:=wM rs (i+1) j (r.app F)
  rw [show i+1+j=i+(j+1) by omega] at this
  exact this
theorem F6 {x y:cu} (h:uu x y=true):x=y:=by
 cases x<;>cases y<;>simp_all [uu]
theorem yz (x:cu):uu x x=true:=by cases x<;>simp [uu]
theorem na (x:cu):∀l:List cu,Gi x l=true↔x∈l
 | []=>by simp [Gi]
 |y::r=>by
  unfold Gi
  split
  ·rename_i h;simp [F6 h]
  ·rename_i h
   rw [na x r,List.mem_cons]
   refine ⟨.inr,?_⟩
   rintro (rfl|h1)
   ·rw [yz] at h;cases h
   ·exact h1
theorem ku:∀l m:List cu,m_ l m=true↔∃x∈l,x∈m
 | [],m=>by simp [m_]
 |x::r,m=>by
  unfold m_
  split
  ·rename_i h;rw [na] at h;simp [h]
  ·rename_i h
   rw [ku r m]
   have hx:x ∉ m:=by rw [←na];simp [h]
   simp [hx]
theorem oQ (a b:dQ):oP a b=true↔(∃x∈a.wr,x∈b.rd∨x∈b.wr)∨∃x∈a.rd,x∈b.wr:=by
 unfold oP
 split
 ·rename_i h;rw [ku] at h;simpa using .inl (by simpa using h)
 ·rename_i h
  have h':¬m_ a.wr (b.rd++b.wr)=true:=by simp [h]
  rw [ku] at h' ⊢
  constructor
  ·exact .inr
  ·rintro (⟨x,h1,h2⟩|h1)
   ·exact absurd ⟨x,h1,by simpa using h2⟩ h'
   ·exact h1
theorem kW {an:List Nat} {r:dQ} {i:Nat}:∀ {l:List dQ} {j:Nat},i6 an r i j l=true→∀k q,l[k]?=some q→oP r q=true→Nat.testBit (an.getD (j+k) 0) i=true
 | [],_,_,k,q,hk,_=>by simp at hk
 |q0::l,j,h,k,q,hk,hc=>by
  unfold i6 at h
  cases k with
  |zero=>
   simp at hk;subst hk
   rw [hc] at h
   simp only at h
   cases e:Nat.testBit (an.getD j 0) i with
   |true=>rfl
   |false=>rw [e] at h;cases h
  |succ k=>
   have h2:i6 an r i (j+1) l=true:=by
    cases e:oP r q0 with
    |false=>rw [e] at h;exact h
    |true=>
     rw [e] at h
     simp only at h
     cases e2:Nat.testBit (an.getD j 0) i with
     |true=>rw [e2] at h;exact h
     |false=>rw [e2] at h;cases h
   have:=kW h2 k q (by simpa using hk) hc
   rw [show j+(k+1)=j+1+k by omega];exact this
theorem iL {an:List Nat}:∀ {l:List dQ} {i:Nat},gy an i l=true→∀k m r q,k<m→l[k]?=some r→l[m]?=some q→oP r q=true→Nat.testBit (an.getD (i+m) 0) (i+k)=true
 | [],_,_,k,m,r,q,_,hk,_,_=>by simp at hk
 |r0::l,i,h,k,m,r,q,hlt,hk,hm,hc=>by
  unfold gy at h
  cases e:i6 an r0 i (i+1) l with
  |false=>rw [e] at h;cases h
  |true=>
   rw [e] at h
   obtain ⟨m,rfl⟩:∃m',m=m'+1:=⟨m-1,by omega⟩
   cases k with
   |zero=>
    simp at hk;subst hk
    have:=kW e m q (by simpa using hm) hc
    rw [show i+(m+1)=i+1+m by omega,Nat.add_zero];exact this
   |succ k=>
    have:=iL h k m r q (by omega) (by simpa using hk) (by simpa using hm) hc
    rw [show i+(m+1)=i+1+m by omega,show i+(k+1)=i+1+k by omega];exact this
theorem te (acc:List Nat) (i:Nat):∀(l:List Edge) (s:Nat),Nat.testBit (l.foldl (fun s e=>match Region.binds .any e with |true=>s|||2^e.on|||acc.getD e.on 0|false=>s) s) i=true→
  Nat.testBit s i=true∨∃e∈l,Region.binds .any e=true∧(e.on=i∨Nat.testBit (acc.getD e.on 0) i=true)
 | [],_,h=> .inl h
 |e::l,s,h=>by
  rw [List.foldl_cons] at h
  rcases te acc i l _ h with h1|⟨e',h1,h2⟩
  ·cases hb:Region.binds .any e with
   |false=>rw [hb] at h1;exact .inl h1
   |true=>
    rw [hb] at h1
    simp only [Nat.testBit_or,Bool.or_eq_true,Nat.testBit_two_pow,decide_eq_true_eq] at h1
    rcases h1 with (h1|h1)|h1
    ·exact .inl h1
    ·exact .inr ⟨e,by simp,hb,.inl h1⟩
    ·exact .inr ⟨e,by simp,hb,.inr h1⟩
  ·exact .inr ⟨e',by simp [h1],h2⟩
theorem zX {L:Nat→Bool}:∀(r:List Oper) (all:List Oper) (acc:List Nat),all.drop acc.length=r→acc.length≤all.length→
  (∀j i,j<acc.length→Nat.testBit (acc.getD j 0) i=true→∃o,all[j]?=some o∧((∀e∈o.after,Region.binds .any e=true→L e.on=true)→(∀k d o',L k=true→all[k]?=some o'→(∃e∈o'.after,Region.binds .any e=true∧e.on=d)→L d=true)→L i=true))→
  ∀j i,Nat.testBit ((BJ.go r acc).getD j 0) i=true→∃o,all[j]?=some o∧((∀e∈o.after,Region.binds .any e=true→L e.on=true)→(∀k d o',L k=true→all[k]?=some o'→(∃e∈o'.after,Region.binds .any e=true∧e.on=d)→L d=true)→L i=true)
 | [],all,acc,hr,hl,h,j,i,hb=>by
  rw [BJ.go] at hb
  by_cases hj:j<acc.length
  ·exact h j i hj hb
  ·rw [List.getD_eq_getElem?_getD,List.getElem?_eq_none (by omega)] at hb;simp at hb
 |o::r,all,acc,hr,hl,h,j,i,hb=>by
  rw [BJ.go] at hb
  have ho:all[acc.length]?=some o:=by
   have:(all.drop acc.length)[0]?=some o:=by rw [hr];rfl
   simpa using this
  have hlt:acc.length<all.length:=(List.getElem?_eq_some_iff.1 ho).1
  refine zX r all _ (by rw [List.length_append,List.length_singleton,←List.drop_drop,hr];rfl) (by simp;omega) ?_ j i hb
  intro j i hj hb
  by_cases hj2:j<acc.length
  ·rw [List.getD_eq_getElem?_getD,List.getElem?_append_left hj2,←List.getD_eq_getElem?_getD] at hb
   exact h j i hj2 hb
  ·obtain rfl:j=acc.length:=by simp at hj;omega
   rw [List.getD_eq_getElem?_getD,List.getElem?_append_right (Nat.le_refl _),Nat.sub_self] at hb
   refine ⟨o,ho,fun h1 h2=> ?_⟩
   rcases te acc i _ _ hb with hb|⟨e,he,hbd,hb⟩
   ·simp at hb
   ·have he':e∈o.after:=by simpa using he
    have hL:=h1 e he' hbd
    rcases hb with rfl|hb
    ·exact hL
    ·have hlt2:e.on<acc.length:=by
      rcases Nat.lt_or_ge e.on acc.length with h3|h3
      ·exact h3
      ·rw [List.getD_eq_getElem?_getD,List.getElem?_eq_none h3] at hb;simp at hb
     obtain ⟨o',ho',h3⟩:=h e.on i hlt2 hb
     exact h3 (fun e' he' hb'=>h2 e.on e'.on o' hL ho' ⟨e',he',hb',rfl⟩) h2
theorem oI {L:Nat→Bool} {ops:List Oper} (hcl:∀k d o',L k=true→ops[k]?=some o'→(∃e∈o'.after,Region.binds .any e=true∧e.on=d)→L d=true) {j i:Nat} {o:Oper} (ho:ops[j]?=some o)
  (hd:∀e∈o.after,Region.binds .any e=true→L e.on=true) (hb:Nat.testBit ((BJ ops).getD j 0) i=true):L i=true:=by
 obtain ⟨o',ho',h⟩:=zX (L:=L) ops ops [] (by simp) (by simp) (fun j i hj=>by simp at hj) j i hb
 rw [ho] at ho'
 cases ho'
 exact h hd hcl
theorem bD {α:Type} (n:Nat) (k:Nat→α):fM n k=k n:=by cases n<;>rfl
theorem iu (t v:Nat) (a:List AV):∀l:List (Nat×Nat×List AV),∃l',(∀ {α:Type} (k:List (Nat×Nat×List AV)→α),CM t v a l k=k l')∧bG l'=fun u=>if some t=some u then a else bG l u
 | []=>⟨[(t,v,a)],fun _=>rfl,by
  funext u;simp only [bG]
  cases e:Nat.beq t u with
  |true=>have e:=Nat.eq_of_beq_eq_true e;first |(simp [e];done)|(simp;omega)
  |false=>have e:=Nat.ne_of_beq_eq_false e;first |(simp [e];done)|(simp;omega)⟩
 |(u,w,b)::r=>by
  obtain ⟨l',h1,h2⟩:=iu t v a r
  cases e:Nat.beq u t with
  |true=>
   refine ⟨(t,v,a)::r,fun k=>by simp only [CM,e],?_⟩
   have e:=Nat.eq_of_beq_eq_true e;subst e
   funext x;simp only [bG]
   cases e2:Nat.beq u x with
   |true=>have e2:=Nat.eq_of_beq_eq_true e2;first |(simp [e2];done)|(simp;omega)
   |false=>have e2:=Nat.ne_of_beq_eq_false e2;first |(simp [e2];done)|(simp;omega)
  |false=>
   refine ⟨(u,w,b)::l',fun k=>by simp only [CM,e];exact h1 _,?_⟩
   have e:=Nat.ne_of_beq_eq_false e
   funext x;simp only [bG,h2]
   cases e2:Nat.beq u x with
   |true=>have e2:=Nat.eq_of_beq_eq_true e2;subst e2;first |(simp;done)|(simp;omega)|(simp;intro h;omega)
   |false=>simp
theorem fq (t v:Nat) (a:Ch):∀l:List (Nat×Nat×Ch),∃l',(∀ {α:Type} (k:List (Nat×Nat×Ch)→α),vy t v a l k=k l')∧aH l'=fun u=>if u=t then some a else aH l u
 | []=>⟨[(t,v,a)],fun _=>rfl,by
  funext u;simp only [aH]
  cases e:Nat.beq t u with
  |true=>have e:=Nat.eq_of_beq_eq_true e;first |(simp [e];done)|(simp;omega)
  |false=>have e:=Nat.ne_of_beq_eq_false e;first |(simp;done)|(simp;omega)|(simp;intro h;omega)⟩
 |(u,w,b)::r=>by
  obtain ⟨l',h1,h2⟩:=fq t v a r
  cases e:Nat.beq u t with
  |true=>
   refine ⟨(t,v,a)::r,fun k=>by simp only [vy,e],?_⟩
   have e:=Nat.eq_of_beq_eq_true e;subst e
   funext x;simp only [aH]
   cases e2:Nat.beq u x with
   |true=>have e2:=Nat.eq_of_beq_eq_true e2;first |(simp [e2];done)|(simp;omega)
   |false=>have e2:=Nat.ne_of_beq_eq_false e2;first |(simp;done)|(simp;omega)|(simp;intro h;omega)
  |false=>
   refine ⟨(u,w,b)::l',fun k=>by simp only [vy,e];exact h1 _,?_⟩
   have e:=Nat.ne_of_beq_eq_false e
   funext x;simp only [aH,h2]
   cases e2:Nat.beq u x with
   |true=>have e2:=Nat.eq_of_beq_eq_true e2;subst e2;first |(simp [e];done)|(simp;omega)
   |false=>simp
theorem h_ (t:Nat):∀l:List (Nat×Nat×Ch),∃l',(∀ {α:Type} (k:List (Nat×Nat×Ch)→α),tT t l k=k l')∧aH l'=fun u=>if u=t then none else aH l u
 | []=>⟨[],fun _=>rfl,by funext u;simp [aH]⟩
 |(u,w,b)::r=>by
  obtain ⟨l',h1,h2⟩:=h_ t r
  cases e:Nat.beq u t with
  |true=>
   refine ⟨l',fun k=>by simp only [tT,e];exact h1 _,?_⟩
   have e:=Nat.eq_of_beq_eq_true e;subst e
   funext x;simp only [aH,h2]
   cases e2:Nat.beq u x with
   |true=>have e2:=Nat.eq_of_beq_eq_true e2;first |(simp [e2];done)|(simp;omega)
   |false=>simp
  |false=>
   refine ⟨(u,w,b)::l',fun k=>by simp only [tT,e];exact h1 _,?_⟩
   have e:=Nat.ne_of_beq_eq_false e
   funext x;simp only [aH,h2]
   cases e2:Nat.beq u x with
   |true=>have e2:=Nat.eq_of_beq_eq_true e2;subst e2;first |(simp [e];done)|(simp;omega)
   |false=>simp
theorem dZ (v:Nat):∀(u:List (Nat×Option Ch)) (l:List (Nat×Nat×Ch)),∃l',(∀ {α:Type} (k:List (Nat×Nat×Ch)→α),sV v u l k=k l')∧aH l'=bi u (aH l)
 | [],l=>⟨l,fun _=>rfl,rfl⟩
 |(b,c)::r,l=>by
  cases c with
  |some c=>
   obtain ⟨l1,h1,e1⟩:=fq b v c l
   obtain ⟨l2,h2,e2⟩:=dZ v r l1
   exact ⟨l2,fun k=>by simp only [sV,h1,h2],by rw [e2,e1,bi]⟩
  |none=>
   obtain ⟨l1,h1,e1⟩:=h_ b l
   obtain ⟨l2,h2,e2⟩:=dZ v r l1
   exact ⟨l2,fun k=>by simp only [sV,h1,h2],by rw [e2,e1,bi]⟩
theorem BD.cons_ok {r:dQ} {e:BD} {rs:List dQ} {S:AS} (h:e.cons r= .ok rs S):∃l,rs=r::l∧e= .ok l S:=by
 cases e with
 |ok l S'=>simp only [BD.cons,BD.ok.injEq] at h;exact ⟨l,h.1.symm,by rw [h.2]⟩
 |need i p=>cases h
 |fail=>cases h
def gz (rs:List dQ) (F:FS):FS:=rs.foldl (fun F r=>r.app F) F
theorem jv {ty:Nat→TE} {ct:Nat→Option CF} {all:List Oper} {ds:List (Nat×Bool)}:∀(ops:List Oper) (i:Nat) (sl:List (Nat×Nat×List AV)) (hp:List (Nat×Nat×Ch)) (nx:Nat) (rs:List dQ) (S:AS),
  cN ty ct all ds i ops sl hp nx= .ok rs S→
  rs.length=ops.length∧(∀k o r,ops[k]?=some o→rs[k]?=some r→r.dst=o.dst∧
   (fZ ty ct all (i+k) o.guard o.op (nx+16*k)).run (gz (rs.take k) ⟨bG sl,aH hp⟩).s (gz (rs.take k) ⟨bG sl,aH hp⟩).h (fK (i+k) ds)= .ok ⟨r.out,r.upd,r.pre,r.fact⟩ r.rd r.qs)∧
  gz rs ⟨bG sl,aH hp⟩=⟨bG S.sl,aH S.hp⟩∧S.nx=nx+16*ops.length
 | [],i,sl,hp,nx,rs,S,h=>by
  simp only [cN,BD.ok.injEq] at h
  obtain ⟨rfl,rfl⟩:=h
  exact ⟨rfl,fun k o r hk=>by simp at hk,rfl,by simp⟩
 |⟨dst,op,tp,pos,aft,g⟩::ops,i,sl,hp,nx,rs,S,h=>by
  unfold cN at h
  simp only at h
  cases e:(fZ ty ct all i g op nx).run (bG sl) (aH hp) (fK i ds) with
  |need p=>rw [e] at h;cases h
  |fail=>rw [e] at h;cases h
  |ok res rd qs=>
   obtain ⟨out,upd,pre,fact⟩:=res
   rw [e] at h
   simp only at h
   obtain ⟨hp',h1,e1⟩:=dZ nx upd hp
   rw [h1] at h
   have key:∀sl',bG sl'=(fun u=>if dst=some u then out else bG sl u)→(cN ty ct all ds (i+1) ops sl' hp' (nx+16)).cons ⟨dst,out,upd,pre,fact,rd,qs⟩= .ok rs S→
     rs.length=(⟨dst,op,tp,pos,aft,g⟩::ops:List Oper).length∧(∀k o r,(⟨dst,op,tp,pos,aft,g⟩::ops:List Oper)[k]?=some o→rs[k]?=some r→r.dst=o.dst∧
      (fZ ty ct all (i+k) o.guard o.op (nx+16*k)).run (gz (rs.take k) ⟨bG sl,aH hp⟩).s (gz (rs.take k) ⟨bG sl,aH hp⟩).h (fK (i+k) ds)= .ok ⟨r.out,r.upd,r.pre,r.fact⟩ r.rd r.qs)∧
     gz rs ⟨bG sl,aH hp⟩=⟨bG S.sl,aH S.hp⟩∧S.nx=nx+16*(⟨dst,op,tp,pos,aft,g⟩::ops:List Oper).length:=by
    intro sl' hs h0
    obtain ⟨l,rfl,h9⟩:=BD.cons_ok h0
    obtain ⟨a1,a2,a3,a4⟩:=jv ops _ _ _ _ _ _ h9
    have hF:(dQ.app ⟨dst,out,upd,pre,fact,rd,qs⟩ ⟨bG sl,aH hp⟩)=⟨bG sl',aH hp'⟩:=by
     unfold dQ.app;rw [hs,e1]
    refine ⟨by simp [a1],fun k o r hk hr=> ?_,?_,by rw [a4,List.length_cons];omega⟩
    ·cases k with
     |zero=>
      simp at hk hr
      subst hk hr
      exact ⟨rfl,e⟩
     |succ k=>
      have:=a2 k o r (by simpa using hk) (by simpa using hr)
      rw [List.take_succ_cons]
      unfold gz at this ⊢
      rw [List.foldl_cons,hF,show i+(k+1)=i+1+k by omega,show nx+16*(k+1)=nx+16+16*k by omega]
      exact this
    ·unfold gz at a3 ⊢
     rw [List.foldl_cons,hF];exact a3
   cases dst with
   |some t=>
    simp only at h
    obtain ⟨sl',h2,e2⟩:=iu t nx out sl
    rw [h2,bD] at h
    exact key sl' e2 h
   |none=>
    simp only [bD] at h
    exact key sl (by funext u;simp) h
def aW:Option Prop→Prop
 |none=>True
 |some p=>p
theorem kI:∀ {rs:List dQ} {k:Prop},CK rs k→(∀r∈rs,aW r.pre)∧k
 | [],k,h=>⟨fun _ h=>(by cases h),h⟩
 |r::l,k,h=>by
  unfold CK at h
  cases e:r.pre with
  |none=>
   rw [e] at h
   obtain ⟨h1,h2⟩:=kI h
   refine ⟨fun x hx=> ?_,h2⟩
   rcases List.mem_cons.1 hx with rfl|hx
   ·rw [e];trivial
   ·exact h1 x hx
  |some p=>
   rw [e] at h
   obtain ⟨h0,h⟩:=h
   obtain ⟨h1,h2⟩:=kI h
   refine ⟨fun x hx=> ?_,h2⟩
   rcases List.mem_cons.1 hx with rfl|hx
   ·rw [e];exact h0
   ·exact h1 x hx
theorem i4:∀ {rs:List dQ} {k:Prop},oW rs k→(∀r∈rs,aW r.fact)→k
 | [],_,h,_=>h
 |r::l,k,h,hf=>by
  unfold oW at h
  have h0:=hf r (by simp)
  cases e:r.fact with
  |none=>rw [e] at h;exact i4 h fun x hx=>hf x (by simp [hx])
  |some p=>rw [e] at h h0;exact i4 (h h0) fun x hx=>hf x (by simp [hx])
def Tu (P:Program) (ty:Nat→TE) (ct:Nat→Option CF) (all:List Oper) (N:Nat) (Q:Exit→Act→World→Prop) (i:Nat) (o:Oper):Prop:=
 ∀(nx:Nat) (F:FS) (ds:List Bool) (res:aG) (rd:List cu) (qs:List (Bool×Bool)),(fZ ty ct all i o.guard o.op nx).run F.s F.h ds= .ok res rd qs→(∀q∈qs,q.1=q.2)→aW res.pre→
  ∀η a w,eH F.s F.h N η a w→(∀b,nx≤b→b<nx+16→η b=none)→(∀t,o.dst=some t→t<N)→
  ∀K:Act→World→Prop,(∀a' w' η',eH (fun t=>if o.dst=some t then res.out else F.s t) (bi res.upd F.h) N η' a' w'→Fw F.h η w (bi res.upd F.h) η' w'→(∀b,b<nx∨nx+16≤b→η' b=η b)→aW res.fact→K a' w')→
   if Region.wanted o (yielded all.toArray a.tmps)=true then Oper.wp P o a w K Q else K (a.put o.dst undef) w
section region
variable {P:Program} {ty:Nat→TE} {ct:Nat→Option CF} {N:Nat} {Q:Exit→Act→World→Prop} {a0:Act} {w0:World} {η0:aY}
def pU (ops:List Oper) (rs:List dQ) (F0:FS) (N nx:Nat) (η0:aY) (w0:World) (L:Nat→Bool) (a:Act) (w:World):Prop:=
 (∀k d o',L k=true→ops[k]?=some o'→(∃e∈o'.after,Region.binds .any e=true∧e.on=d)→L d=true)∧
 ∃η,eH (lZ rs 0 L F0).s (lZ rs 0 L F0).h N η a w∧Fw F0.h η0 w0 (lZ rs 0 L F0).h η w∧
  (∀k b,L k=false→nx+16*k≤b→b<nx+16*k+16→η b=none)∧(∀b,nx+16*ops.length≤b→η b=none)∧(∀b,b<nx→η b=η0 b)∧∀k r,L k=true→rs[k]?=some r→aW r.fact
theorem pU.step {all:List Oper} {rs:List dQ} {F0:FS} {nx:Nat} {ds:List (Nat×Bool)}
  (hlen:rs.length=all.length)
  (hrun:∀k o r,all[k]?=some o→rs[k]?=some r→r.dst=o.dst∧(fZ ty ct all k o.guard o.op (nx+16*k)).run (gz (rs.take k) F0).s (gz (rs.take k) F0).h (fK k ds)= .ok ⟨r.out,r.upd,r.pre,r.fact⟩ r.rd r.qs)
  (hq:∀r∈rs,∀q∈r.qs,q.1=q.2) (hpre:∀r∈rs,aW r.pre) (hdst:∀o∈all,∀t,o.dst=some t→t<N)
  {j:Nat} {o:Oper} (ho:all[j]?=some o) (hop:Tu P ty ct all N Q j o) {L:Nat→Bool} {a:Act} {w:World} (h:pU all rs F0 N nx η0 w0 L a w) (hL:L j=false)
  (hdep:∀e∈o.after,Region.binds .any e=true→L e.on=true)
  (hx:(∀k d o',L k=true→all[k]?=some o'→(∃e∈o'.after,Region.binds .any e=true∧e.on=d)→L d=true)→∀r,rs[j]?=some r→∀x,x∈r.rd∨x∈r.wr→∀k q,rs[k]?=some q→x∈q.wr→L k=decide (k<j))
  (K:Act→World→Prop) (hK:∀a w,pU all rs F0 N nx η0 w0 (jN L j) a w→K a w):
  if Region.wanted o (yielded all.toArray a.tmps)=true then Oper.wp P o a w K Q else K (a.put o.dst undef) w:=by
 obtain ⟨hcl,η,hS,hF,hfree,hend,hold,hfact⟩:=h
 have hj:j<all.length:=(List.getElem?_eq_some_iff.1 ho).1
 have hr:rs[j]?=some rs[j]:=List.getElem?_eq_getElem (by omega)
 have hmem:rs[j]∈rs:=List.getElem_mem _
 obtain ⟨hd,hrun⟩:=hrun j o _ ho hr
 have hx:=hx hcl _ hr
 have hAt:∀x,x∈rs[j].rd∨x∈rs[j].wr→(lZ rs 0 L F0).At (gz (rs.take j) F0) x:=fun x hx'=>by
  have e:=wM rs 0 j F0
  unfold gz
  rw [←e]
  refine p9 x rs 0 L _ F0 F0 (FS.At.refl _ _) fun k q hk hw=> ?_
  rw [Nat.zero_add]
  have:=hx x hx' k q hk hw
  rw [this,Nat.zero_add]
 have hrun':=R.run_same _ _ hrun (sl':=(lZ rs 0 L F0).s) (hp':=(lZ rs 0 L F0).h) (fun t ht=>hAt (.s t) (.inl ht)) (fun b hb=>hAt (.h b) (.inl hb))
 refine hop (nx+16*j) _ _ _ _ _ hrun' (hq _ hmem) (hpre _ hmem) η a w hS (fun b h1 h2=>hfree j b hL h1 h2) (hdst o (List.mem_of_getElem? ho)) K ?_
 intro a' w' η' hS' hF' hout hfa
 have eF:lZ rs 0 (jN L j) F0=dQ.app rs[j] (lZ rs 0 L F0):=by
  refine FS.ext_at fun x=> ?_
  by_cases hxw:x∈rs[j].wr
  ·have e:=wM rs 0 (j+1) F0
   rw [List.take_succ_eq_append_getElem (show j<rs.length by omega),List.foldl_append,List.foldl_cons,List.foldl_nil] at e
   have h1:(lZ rs 0 (jN L j) F0).At (lZ rs 0 (fun x=>decide (x<0+(j+1))) F0) x:=by
    refine p9 x rs 0 _ _ F0 F0 (FS.At.refl _ _) fun k q hk hw=> ?_
    have:=hx x (.inr hxw) k q hk hw
    rw [Nat.zero_add]
    by_cases hkj:k=j
    ·subst hkj;simp [pA]
    ·rw [jO hkj,this];simp;omega
   rw [e] at h1
   exact h1.trans (Ew hxw)
  ·refine (p9 x rs 0 _ L F0 F0 (FS.At.refl _ _) fun k q hk hw=> ?_).trans (p_ hxw).symm
   rw [Nat.zero_add]
   by_cases hkj:k=j
   ·subst hkj;rw [hr] at hk;cases hk;exact absurd hw hxw
   ·exact jO hkj
 refine hK a' w' ⟨fun k d o' hk ho' he=> ?_,η',?_,?_,fun k b hk h1 h2=> ?_,fun b hb=> ?_,fun b hb=> ?_,fun k r hk hr'=> ?_⟩
 ·by_cases hkj:k=j
  ·subst hkj
   rw [ho] at ho';cases ho'
   obtain ⟨e,he,hb,rfl⟩:=he
   exact vz (hdep e he hb)
  ·rw [jO hkj] at hk
   exact vz (hcl k d o' hk ho' he)
 ·rw [eF];unfold dQ.app;rw [hd];exact hS'
 ·rw [eF];unfold dQ.app;exact hF.trans hF'
 ·have hkj:k≠j:=by rintro rfl;rw [pA] at hk;cases hk
  rw [jO hkj] at hk
  rw [hout b (by omega)]
  exact hfree k b hk h1 h2
 ·rw [hout b (by omega)];exact hend b hb
 ·rw [hout b (by omega)];exact hold b hb
 ·by_cases hkj:k=j
  ·subst hkj;rw [hr] at hr';cases hr';exact hfa
  ·rw [jO hkj] at hk;exact hfact k r hk hr'
end region
inductive Ex where
 |normal
 |exit (id:Nat)
 |ret
abbrev KK:=Ex→AS→Prop
structure Inv where
 sl:List (Nat×AV)
 hp:List (Nat×Ch)
structure cV where
 m:List (Nat×Option Nat)
 u:List Nat
def bg (x:Nat):List Nat→Bool
 | []=>false
 |y::r=>match Nat.beq x y with |true=>true|false=>bg x r
def bm:List (Nat×Option Nat)→Nat→Option (Option Nat)
 | [],_=>none
 |(b,a)::r,x=>match Nat.beq b x with |true=>some a|false=>bm r x
def cU:List (Nat×Option Nat)→Nat→Bool
 | [],_=>false
 |(_,a)::r,x=>match a with
  |some a=>match Nat.beq a x with |true=>true|false=>cU r x
  |none=>cU r x
def cC (b:Nat):Bool:=Nat.blt b 1000
def fO (k q:Kd) (l:List k.T) (m:List q.T):Prop:=
 match k,q,l,m with
 | .u8,.u8,l,m=>m=l| .u16,.u16,l,m=>m=l| .u32,.u32,l,m=>m=l| .u64,.u64,l,m=>m=l
 | .int,.int,l,m=>m=l| .bool,.bool,l,m=>m=l| .str,.str,l,m=>m=l
 | .x i,.x j,l,m=>∃h:j=i,h▸m=l
 |_,_,_,_=>False
def Mt (kp:Nat→Bool) (σ:cV) (a b:Nat) (k:cV→Prop):Prop:=
 match kp a with
 |true=>False
 |false=>match cU σ.m a with
  |true=>False
  |false=>match bg a σ.u with
   |true=>False
   |false=>k ⟨(b,some a)::σ.m,σ.u⟩
def CN (kp:Nat→Bool) (σ:cV) (a b:Nat) (k:cV→Prop):Prop:=
 match cC b with
 |true=>match bm σ.m b with
  |none=>Mt kp σ a b k
  |some (some c)=>match Nat.beq a c with |true=>k σ|false=>False
  |some none=>False
 |false=>match Nat.beq a b with |true=>k σ|false=>False
def sF (kp:Nat→Bool) (σ:cV) (a:Nat) (k:cV→Prop):Prop:=
 match kp a with
 |true=>False
 |false=>match cU σ.m a with
  |true=>False
  |false=>k ⟨σ.m,a::σ.u⟩
def nY (H:Nat→Option Ch) (kp:Nat→Bool) (x y:Cl) (σ:cV) (k:cV→Prop):Prop:=
 match y with
 | .any=>match x with
  | .vec _ _ _=>False
  | .ob q _=>match Nat.beq q.n 1 with |true=>k σ|false=>False
  | .un=>False
  |_=>k σ
 | .un=>match x with | .un=>k σ|_=>False
 | .cv v=>match x with | .cv w=>v=w∧k σ|_=>False
 | .ob q y=>match x with
  | .ob p x=>fO p q [x] [y]∧k σ
  | .cv (.int .i64 z)=>fO .int q [z] [y]∧k σ
  | .cv (.bool z)=>fO .bool q [z] [y]∧k σ
  |_=>False
 | .vec q m l=>match x with
  | .vec p n i=>m=n∧fO p q i l∧k σ
  |_=>False
 | .ptr b j=>match x with
  | .ptr a i=>match Nat.beq i j with |true=>CN kp σ a b k|false=>False
  |_=>False
 | .rw b=>match x with
  | .rw a=>CN kp σ a b k
  | .cv (.slice none 0 0)=>match cC b with
   |true=>match bm σ.m b with
    |none=>k ⟨(b,none)::σ.m,σ.u⟩
    |some none=>k σ
    |_=>False
   |false=>False
  |_=>False
 | .sl b j n c=>match x with
  | .sl a i n' c'=>CN kp σ a b fun σ=>j=i∧n=n'∧c=c'∧k σ
  |_=>False
 | .sub b j n=>match x with
  | .sub a i n'=>CN kp σ a b fun σ=>j=i∧n=n'∧k σ
  |_=>False
 | .ro q l=>match x with
  | .ro p i=>fO p q i l∧k σ
  | .cv (.slice none 0 0)=>l= []∧k σ
  | .rw a=>match H a with
   |some (.row _ p i)=>fO p q i l∧sF kp σ a k
   |_=>False
  | .sub a lo n=>match H a with
   |some (.row _ p i)=>match Nat.beq p.n 1 with |true=>fO p q ((i.drop lo).take n) l∧sF kp σ a k|false=>False
   |_=>False
  |_=>False
 | .bb l=>match x with
  | .bb i=>l=i∧k σ
  |_=>False
 | .ln v n=>match x with
  | .ln u i=>(v=u∧n=i)∧k σ
  |_=>False
 | .mp v f=>match x with
  | .mp u i=>(v=u∧f=i)∧k σ
  |_=>False
 | .rv v l=>match x with
  | .rv u i=>(v=u∧l=i)∧k σ
  |_=>False
 |_=>False
def Kt (H:Nat→Option Ch) (kp:Nat→Bool):List Cl→List Cl→cV→(cV→Prop)→Prop
 | [],[],σ,k=>k σ
 |x::r,y::q,σ,k=>nY H kp x y σ fun σ=>Kt H kp r q σ k
 |_,_,_,_=>False
def Tg (H:Nat→Option Ch) (kp:Nat→Bool) (x:List AV) (y:AV) (σ:cV) (k:cV→Prop):Prop:=
 match x with
 | [.one x]=>match y with
  | .one y=>nY H kp x y σ k
  |_=>False
 | [.agg x]=>match y with
  | .agg y=>Kt H kp x y σ k
  |_=>False
 |_=>False
def OB (H:Nat→Option Ch) (kp:Nat→Bool) (sl:Nat→List AV):List (Nat×AV)→cV→(cV→Prop)→Prop
 | [],σ,k=>k σ
 |(t,y)::r,σ,k=>Tg H kp (sl t) y σ fun σ=>OB H kp sl r σ k
def Rk (H:Nat→Option Ch) (kp:Nat→Bool) (x:Option Ch) (y:Ch) (σ:cV) (k:cV→Prop):Prop:=
 match y with
 | .blk E l=>match x with
  |some (.blk F i)=>match Nat.beq E F with |true=>Kt H kp i l σ k|false=>False
  |_=>False
 | .row E q l=>match x with
  |some (.row F p i)=>match Nat.beq E F with |true=>fO p q i l∧k σ|false=>False
  |_=>False
def Ck (H:Nat→Option Ch) (kp:Nat→Bool):List (Nat×Ch)→cV→(cV→Prop)→Prop
 | [],σ,k=>k σ
 |(b,y)::r,σ,k=>match cC b with
  |true=>match bm σ.m b with
   |some (some a)=>Rk H kp (H a) y σ fun σ=>Ck H kp r σ k
   |some none=>match y with
    | .row _ _ l=>l= []∧Ck H kp r σ k
    |_=>False
   |none=>False
  |false=>Rk H kp (H b) y σ fun σ=>Ck H kp r σ k
def bz:List (Nat×Nat×Ch)→Nat→Nat
 | [],_=>0
 |(t,v,_)::r,u=>match Nat.beq t u with |true=>v|false=>bz r u
def cJ {α:Type} (b:Nat):List (Nat×α)→Bool
 | []=>false
 |(c,_)::r=>match Nat.beq c b with |true=>true|false=>cJ b r
def gO (I:List (Nat×Ch)) (hp:List (Nat×Nat×Ch)):List (Nat×Nat×Ch)→Prop→Prop
 | [],k=>k
 |(b,v,_)::r,k=>match cJ b I with
  |true=>gO I hp r k
  |false=>match Nat.beq (bz hp b) v with
   |true=>gO I hp r k
   |false=>False
def qH (n:Nat):List FC→Bool
 | []=>true
 | .p b _::r=>match Nat.blt b n with |true=>qH n r|false=>false
 |_::r=>qH n r
def Cl.lt (n:Nat):Cl→Bool
 | .ptr b _=>Nat.blt b n| .pix b _ _=>Nat.blt b n| .sl b _ _ _=>Nat.blt b n| .rw b=>Nat.blt b n| .sub b _ _=>Nat.blt b n
 | .fv _ l m=>match qH n l with |true=>qH n m|false=>false
 |_=>true
def b_ (n:Nat):List Cl→Bool
 | []=>true
 |x::r=>match x.lt n with |true=>b_ n r|false=>false
def fc (n:Nat):List AV→Bool
 | []=>true
 | .one x::r=>match x.lt n with |true=>fc n r|false=>false
 | .agg l::r=>match b_ n l with |true=>fc n r|false=>false
def vV (n:Nat):List (Nat×Nat×List AV)→Bool
 | []=>true
 |(_,_,a)::r=>match fc n a with |true=>vV n r|false=>false
def mR (n:Nat):List (Nat×Nat×Ch)→Bool
 | []=>true
 |(b,v,c)::r=>match Nat.blt b n,Nat.blt v n,Nat.blt 0 v,cC b with
  |true,true,true,false=>match c with
   | .blk _ l=>match b_ n l with |true=>mR n r|false=>false
   | .row _ _ _=>mR n r
  |_,_,_,_=>false
def AV.lt (n:Nat):AV→Bool
 | .one x=>x.lt n
 | .agg l=>b_ n l
def vU (n:Nat):List (Nat×AV)→Bool
 | []=>true
 |(_,y)::r=>match y.lt n with |true=>vU n r|false=>false
def B7 (n:Nat):List (Nat×Ch)→Bool
 | []=>true
 |(b,c)::r=>match Nat.blt b n with
  |true=>match c with
   | .blk _ l=>match b_ n l with |true=>B7 n r|false=>false
   | .row _ _ _=>B7 n r
  |false=>false
def cM:Code→List Nat
 | .region _ ops _=>ops.toList.filterMap (·.dst)
 | .seq a b=>cM a++cM b
 | .cond _ a b=>cM a++cM b
 | .block _ a=>cM a
 | .loop a=>cM a
 |_=> []
def oU {α:Type} (w:List Nat):List (Nat×Nat×List AV)→(List (Nat×Nat×List AV)→α)→α
 | [],k=>k []
 |(t,v,a)::r,k=>match bg t w with
  |true=>oU w r k
  |false=>oU w r fun r=>k ((t,v,a)::r)
def kT {α:Type} (σ:cV):List (Nat×Nat×Ch)→(List (Nat×Nat×Ch)→α)→α
 | [],k=>k []
 |(t,v,a)::r,k=>match cU σ.m t with
  |true=>kT σ r k
  |false=>match bg t σ.u with
   |true=>kT σ r k
   |false=>kT σ r fun r=>k ((t,v,a)::r)
def dy (n b:Nat):Nat:=match cC b with |true=>n+b|false=>b
def Cl.rn (n:Nat):Cl→Cl
 | .ptr b j=> .ptr (dy n b) j
 | .rw b=> .rw (dy n b)
 | .sl b j m c=> .sl (dy n b) j m c
 | .sub b j m=> .sub (dy n b) j m
 |x=>x
def AV.rn (n:Nat):AV→AV
 | .one x=> .one (x.rn n)
 | .agg l=> .agg (l.map (Cl.rn n))
def Ch.rn (n:Nat):Ch→Ch
 | .blk E l=> .blk E (l.map (Cl.rn n))
 | .row E k l=> .row E k l
def J3 {α:Type} (x:Cl) (k:Cl→α):α:=match x with
 | .any=>k .any| .un=>k .un| .cv v=>k (.cv v)| .ob q x=>k (.ob q x)| .vec q n l=>k (.vec q n l)
 | .ptr b j=>fM b fun b=>k (.ptr b j)| .pix b j i=>k (.pix b j i)| .pro q x=>k (.pro q x)
 | .sl b j n c=>fM b fun b=>k (.sl b j n c)| .rw b=>fM b fun b=>k (.rw b)| .sub b j n=>fM b fun b=>k (.sub b j n)
 | .ro q l=>k (.ro q l)| .bb l=>k (.bb l)| .pbb l=>k (.pbb l)| .ln v n=>k (.ln v n)| .mp v f=>k (.mp v f)| .rv v l=>k (.rv v l)| .fv f l m=>k (.fv f l m)
def uh {α:Type} (l:List Cl) (k:List Cl→α):α:=match l with
 | []=>k []
 |x::r=>J3 x fun x=>uh r fun r=>k (x::r)
def N4 {α:Type} (x:AV) (k:AV→α):α:=match x with
 | .one x=>J3 x fun x=>k (.one x)
 | .agg l=>uh l fun l=>k (.agg l)
def N2 {α:Type} (x:Ch) (k:Ch→α):α:=match x with
 | .blk E l=>uh l fun l=>k (.blk E l)
 | .row E q l=>k (.row E q l)
theorem Az {α:Type} (x:Cl) (k:Cl→α):J3 x k=k x:=by cases x<;>simp only [J3,bD]
theorem my {α:Type}:∀(l:List Cl) (k:List Cl→α),uh l k=k l
 | [],k=>rfl
 |x::r,k=>by simp only [uh,Az];exact my r _
theorem J6 {α:Type} (x:AV) (k:AV→α):N4 x k=k x:=by cases x<;>simp only [N4,Az,my]
theorem J4 {α:Type} (x:Ch) (k:Ch→α):N2 x k=k x:=by cases x<;>simp only [N2,my]
def kK {α:Type} (n:Nat):List (Nat×AV)→List (Nat×Nat×List AV)→(List (Nat×Nat×List AV)→α)→α
 | [],l,k=>k l
 |(t,a)::r,l,k=>N4 (a.rn n) fun a=>CM t n [a] l fun l=>kK n r l k
def pz {α:Type} (n:Nat):List (Nat×Ch)→List (Nat×Nat×Ch)→(List (Nat×Nat×Ch)→α)→α
 | [],l,k=>k l
 |(b,c)::r,l,k=>N2 (c.rn n) fun c=>fM (dy n b) fun b=>vy b n c l fun l=>pz n r l k
def over (sl:List (Nat×Nat×List AV)) (hp:List (Nat×Nat×Ch)) (nx:Nat) (I:Inv) (k:AS→Prop):Prop:=
 fM nx fun nx=>kK nx I.sl sl fun sl=>pz nx I.hp hp fun hp=>fM (nx+1000) fun nx=>k ⟨sl,hp,nx⟩
def iE (I:List (Nat×Ch)) (hp:List (Nat×Nat×Ch)) (b:Nat):Bool:=match cJ b I with |true=>true|false=>cJ b hp
def i_ (w:List Nat):List (Nat×AV)→Bool
 | []=>true
 |(t,_)::r=>match bg t w with |true=>i_ w r|false=>false
def gN (S:AS) (nx:Nat) (w:List Nat) (I:Inv) (hp0:List (Nat×Nat×Ch)) (k:cV→Prop):Prop:=
 match vU nx I.sl,B7 nx I.hp,i_ w I.sl with
 |true,true,true=>OB (aH S.hp) (iE I.hp hp0) (bG S.sl) I.sl ⟨[],[]⟩ fun σ=>Ck (aH S.hp) (iE I.hp hp0) I.hp σ k
 |_,_,_=>False
def Ic (w:List Nat) (S:AS) (body:AS→KK→Prop) (K:KK):Prop:=
 ∃(ι:Type) (I:ι→Inv) (μ:ι→Nat) (i:ι),gN S S.nx w (I i) [] fun σ=>oU w S.sl fun sl=>kT σ S.hp fun hp=>match vV S.nx sl,mR S.nx hp,Nat.ble 1000 S.nx with
  |true,true,true=>∀i,over sl hp S.nx (I i) fun T=>body T fun e S'=>match e with
   | .normal=>∃j,μ j<μ i∧gN S' S.nx w (I j) hp fun _=>gO (I j).hp S'.hp hp True
   |e=>K e S'
  |_,_,_=>False
def zL (body:AS→KK→Prop) (K:KK):Nat→AS→Prop
 |0,_=>False
 |m+1,S=>body S fun e S'=>match e with
  | .normal=>zL body K m S'
  |e=>K e S'
def pX (N:Nat) (S:AS) (η:aY) (a:Act) (w:World):Prop:=eH (bG S.sl) (aH S.hp) N η a w∧∀b,S.nx≤b→η b=none
def tb (S S':AS):Prop:=S.nx≤S'.nx∧∀b,(bz S'.hp b=bz S.hp b∧aH S'.hp b=aH S.hp b)∨S.nx≤bz S'.hp b∨bz S'.hp b=0
theorem tb.refl (S:AS):tb S S:=⟨Nat.le_refl _,fun _=> .inl ⟨rfl,rfl⟩⟩
theorem tb.trans {S1 S2 S3:AS} (h:tb S1 S2) (k:tb S2 S3):tb S1 S3:=⟨Nat.le_trans h.1 k.1,fun b=>by
 rcases k.2 b with ⟨k1,k2⟩|k1|k1
 ·rcases h.2 b with ⟨h1,h2⟩|h1|h1
  ·exact .inl ⟨k1.trans h1,k2.trans h2⟩
  ·exact .inr (.inl (by rw [k1];exact h1))
  ·exact .inr (.inr (by rw [k1];exact h1))
 ·exact .inr (.inl (Nat.le_trans h.1 k1))
 ·exact .inr (.inr k1)⟩
def kh:Exit→Option Ex
 | .normal=>some .normal
 | .exit id=>some (.exit id)
 | .ret=>some .ret
 |_=>none
def gw (N:Nat) (W:List Nat) (S:AS) (η:aY) (w:World) (K:KK):Exit→Act→World→Prop:=fun e a' w'=>
 ∃e' S' η',kh e=some e'∧K e' S'∧pX N S' η' a' w'∧Fw (aH S.hp) η w (aH S'.hp) η' w'∧tb S S'∧(∀b,b<S.nx→η' b=η b)∧∀t,bg t W=false→bG S'.sl t=bG S.sl t
def Es (N:Nat) (c:Code) (S:AS) (K:KK):Prop:=∀η a w,pX N S η a w→c.wp Tryz.prog (gw N (cM c) S η w K) a w
def tW:Nat→List Oper→Bool
 |_,[]=>true
 |i,o::r=>match o.after.toList.all fun e=> !Region.binds .any e||Nat.blt e.on i with
  |true=>tW (i+1) r
  |false=>false
def kg (N:Nat):List Oper→Bool
 | []=>true
 |o::r=>match o.dst with
  |some t=>match Nat.blt t N with |true=>kg N r|false=>false
  |none=>kg N r
def N3 {α β:Type} (l:List α) (k:List α→β):β:=match l with | []=>k []|x::r=>k (x::r)
theorem J5 {α β:Type} (l:List α) (k:List α→β):N3 l k=k l:=by cases l<;>rfl
def N1 {α:Type} (S:AS) (k:List (Nat×Nat×List AV)→List (Nat×Nat×Ch)→Nat→α):α:=match S with
 |⟨sl,hp,nx⟩=>fM nx fun nx=>N3 hp fun hp=>N3 sl fun sl=>k sl hp nx
theorem J2 {α:Type} (S:AS) (k:List (Nat×Nat×List AV)→List (Nat×Nat×Ch)→Nat→α):N1 S k=k S.sl S.hp S.nx:=by
 obtain ⟨sl,hp,nx⟩:=S
 simp only [N1,bD,J5]
def wg (ty:Nat→TE) (ct:Nat→Option CF) (N:Nat) (c:Code) (ops:List Oper) (dr:Bool) (S:AS) (K:KK):Nat→List (Nat×Bool)→Prop
 |0,_=>Es N c S K
 |m+1,ds=>match N1 S (cN ty ct ops ds 0 ops) with
  | .ok rs S'=>match (match dr with |true=>gy (BJ ops) 0 rs|false=>true),tW 0 ops,kg N ops with
   |true,true,true=>tg rs (CK rs (oW rs (K .normal S')))
   |_,_,_=>Es N c S K
  | .need i p=>(p=true→wg ty ct N c ops dr S K m (ds++ [(i,true)]))∧(p=false→wg ty ct N c ops dr S K m (ds++ [(i,false)]))
  | .fail=>Es N c S K
def EK (c:Operand):R (Option Bool×Bool):=db c fun x=>match x with
 | .one (.cv (.bool v))=> .pure (some v,true)
 | .one (.ob .bool p)=> .pure (none,p)
 |_=> .fail
def vc (ty:Nat→TE) (ct:Nat→Option CF) (N:Nat):Code→AS→KK→Prop
 | .skip,S,K=>K .normal S
 | .region id ops dr,S,K=>wg ty ct N (.region id ops dr) ops.toList dr S K 12 []
 | .seq a b,S,K=>vc ty ct N a S fun e S'=>match e with
  | .normal=>vc ty ct N b S' K
  |e=>K e S'
 | .cond c a b,S,K=>match (EK c).run (bG S.sl) (aH S.hp) [] with
  | .ok (some true,_) _ _=>vc ty ct N a S K
  | .ok (some false,_) _ _=>vc ty ct N b S K
  | .ok (none,p) _ _=>(p=true→vc ty ct N a S K)∧(p=false→vc ty ct N b S K)
  |_=>Es N (.cond c a b) S K
 | .block id c,S,K=>vc ty ct N c S fun e S'=>match e with
  | .exit j=>match Nat.beq j id with
   |true=>K .normal S'
   |false=>K e S'
  |e=>K e S'
 | .loop c,S,K=>(∃m,zL (vc ty ct N c) K m S)∨Ic (cM c) S (vc ty ct N c) K
 | .exit id,S,K=>K (.exit id) S
 | .label _,S,K=>K .normal S
 | .ret,S,K=>K .ret S
 |c,S,K=>Es N c S K
theorem cg (x:Nat):∀l:List Nat,bg x l=true↔x∈l
 | []=>by simp [bg]
 |y::r=>by
  unfold bg
  split
  ·rename_i h;simp [Nat.eq_of_beq_eq_true h]
  ·rename_i h
   have h2:=Nat.ne_of_beq_eq_false h
   rw [cg x r,List.mem_cons]
   simp [h2]
theorem uH {x:Nat} {a b:List Nat} (h:bg x (a++b)=false):bg x a=false∧bg x b=false:=by
 have h1:x ∉ a++b:=by rw [←cg];simp [h]
 simp only [List.mem_append,not_or] at h1
 constructor
 ·cases e:bg x a with
  |true=>rw [cg] at e;exact absurd e h1.1
  |false=>rfl
 ·cases e:bg x b with
  |true=>rw [cg] at e;exact absurd e h1.2
  |false=>rfl
theorem gw.mono {N:Nat} {W W':List Nat} {S S0:AS} {η η0:aY} {w w0:World} {K K':KK} (hF:Fw (aH S0.hp) η0 w0 (aH S.hp) η w) (hH:tb S0 S) (hE:∀b,b<S0.nx→η b=η0 b) (hT:∀t,bg t W'=false→bG S.sl t=bG S0.sl t) (hW:∀t,bg t W'=false→bg t W=false)
  (hK:∀e S,K e S→K' e S) {e:Exit} {a':Act} {w':World} (h:gw N W S η w K e a' w'):gw N W' S0 η0 w0 K' e a' w':=by
 obtain ⟨e',S',η',h1,h2,h3,h4,h5,h6,h7⟩:=h
 exact ⟨e',S',η',h1,hK _ _ h2,h3,hF.trans h4,hH.trans h5,fun b hb=>(h6 b (Nat.lt_of_lt_of_le hb hH.1)).trans (hE b hb),fun t ht=>(h7 t (hW t ht)).trans (hT t ht)⟩
def ap (ty:Nat→TE) (ct:Nat→Option CF):Prop:=∀(all:List Oper) (N:Nat) (Q:Exit→Act→World→Prop) (i:Nat) (o:Oper),all[i]?=some o→Tu Tryz.prog ty ct all N Q i o
theorem mi:∀ {l:List Oper} {i:Nat},tW i l=true→∀k o,l[k]?=some o→∀e∈o.after,Region.binds .any e=true→e.on<i+k
 | [],_,_,k,o,hk=>by simp at hk
 |x::r,i,h,k,o,hk=>by
  unfold tW at h
  cases e:(x.after.toList.all fun e=> !Region.binds .any e||Nat.blt e.on i) with
  |false=>rw [e] at h;cases h
  |true=>
   rw [e] at h
   cases k with
   |zero=>
    simp at hk;subst hk
    intro ed he hb
    rw [List.all_eq_true] at e
    have:=e ed (by simpa using he)
    simp only [hb,Bool.not_true,Bool.false_or,Nat.blt_eq] at this
    exact this
   |succ k=>
    intro ed he hb
    have:=mi h k o (by simpa using hk) ed he hb
    omega
theorem gD {N:Nat}:∀ {l:List Oper},kg N l=true→∀o∈l,∀t,o.dst=some t→t<N
 | [],_,o,ho=>by cases ho
 |x::r,h,o,ho=>by
  intro t ht
  unfold kg at h
  cases e:x.dst with
  |none=>
   rw [e] at h
   rcases List.mem_cons.1 ho with rfl|ho
   ·rw [e] at ht;cases ht
   ·exact gD h o ho t ht
  |some u=>
   rw [e] at h
   simp only at h
   cases e2:Nat.blt u N with
   |false=>rw [e2] at h;cases h
   |true=>
    rw [e2] at h
    rcases List.mem_cons.1 ho with rfl|ho
    ·rw [e] at ht;cases ht;simpa using e2
    ·exact gD h o ho t ht
theorem oL:∀ {l:List (Bool×Bool)} {k:Prop},I8 l k→(∀q∈l,q.1=q.2)∧k
 | [],k,h=>⟨fun _ h=>(by cases h),h⟩
 |(p,v)::r,k,⟨h0,h⟩=>by
  obtain ⟨h1,h2⟩:=oL h
  refine ⟨fun q hq=> ?_,h2⟩
  rcases List.mem_cons.1 hq with rfl|hq
  ·exact h0
  ·exact h1 q hq
theorem l6:∀ {l:List dQ} {k:Prop},tg l k→(∀r∈l,∀q∈r.qs,q.1=q.2)∧k
 | [],k,h=>⟨fun _ h=>(by cases h),h⟩
 |r::l,k,h=>by
  obtain ⟨h0,h⟩:=oL (show I8 r.qs (tg l k) from h)
  obtain ⟨h1,h2⟩:=l6 h
  refine ⟨fun x hx=> ?_,h2⟩
  rcases List.mem_cons.1 hx with rfl|hx
  ·exact h0
  ·exact h1 x hx
theorem tf:∀(rs:List dQ) (F:FS) (t:Nat),(∀r∈rs,r.dst≠some t)→(gz rs F).s t=F.s t
 | [],_,_,_=>rfl
 |r::rs,F,t,h=>by
  unfold gz
  rw [List.foldl_cons]
  have:=tf rs (r.app F) t fun x hx=>h x (by simp [hx])
  unfold gz at this
  rw [this]
  unfold dQ.app
  simp [h r (by simp)]
def iC (n:Nat) (hp hp':List (Nat×Nat×Ch)):Prop:=∀b,(bz hp' b=bz hp b∧aH hp' b=aH hp b)∨n≤bz hp' b∨bz hp' b=0
theorem iC.trans {n m:Nat} (hnm:n≤m) {h1 h2 h3:List (Nat×Nat×Ch)} (h:iC n h1 h2) (k:iC m h2 h3):iC n h1 h3:=fun b=>by
 rcases k b with ⟨k1,k2⟩|k1|k1
 ·rcases h b with ⟨h1,h2⟩|h1|h1
  ·exact .inl ⟨k1.trans h1,k2.trans h2⟩
  ·exact .inr (.inl (by rw [k1];exact h1))
  ·exact .inr (.inr (by rw [k1];exact h1))
 ·exact .inr (.inl (Nat.le_trans hnm k1))
 ·exact .inr (.inr k1)
theorem iC.refl (n:Nat) (h:List (Nat×Nat×Ch)):iC n h h:=fun _=> .inl ⟨rfl,rfl⟩
theorem nB (t v:Nat) (a:Ch):∀l l':List (Nat×Nat×Ch),(∀ {α:Type} (k:List (Nat×Nat×Ch)→α),vy t v a l k=k l')→iC v l l'
 | [],l',h=>by
  have e: [(t,v,a)]=l':=h id
  subst e
  intro b
  simp only [bz,aH]
  cases e:Nat.beq t b with
  |true=>exact .inr (.inl (Nat.le_refl _))
  |false=>exact .inl ⟨rfl,rfl⟩
 |(u,w,c)::r,l',h=>by
  have e:=h id
  unfold vy at e
  cases e1:Nat.beq u t with
  |true=>
   rw [e1] at e
   simp only [id] at e
   subst e
   have:=Nat.eq_of_beq_eq_true e1
   subst this
   intro b
   simp only [bz,aH]
   cases e2:Nat.beq u b with
   |true=>exact .inr (.inl (Nat.le_refl _))
   |false=>exact .inl ⟨rfl,rfl⟩
  |false=>
   rw [e1] at e
   simp only at e
   obtain ⟨l2,h2,_⟩:=fq t v a r
   rw [h2] at e
   simp only [id] at e
   subst e
   have ih:=nB t v a r l2 h2
   intro b
   simp only [bz,aH]
   cases e2:Nat.beq u b with
   |true=>exact .inl ⟨rfl,rfl⟩
   |false=>exact ih b
theorem tU (t v:Nat):∀l l':List (Nat×Nat×Ch),(∀ {α:Type} (k:List (Nat×Nat×Ch)→α),tT t l k=k l')→iC v l l'∧bz l' t=0
 | [],l',h=>by
  have e: []=l':=h id
  subst e
  exact ⟨iC.refl _ _,rfl⟩
 |(u,w,c)::r,l',h=>by
  have e:=h id
  unfold tT at e
  obtain ⟨l2,h2,h3⟩:=h_ t r
  obtain ⟨ih,ih0⟩:=tU t v r l2 h2
  cases e1:Nat.beq u t with
  |true=>
   rw [e1] at e
   simp only at e
   rw [h2] at e
   simp only [id] at e
   subst e
   have:=Nat.eq_of_beq_eq_true e1
   subst this
   refine ⟨fun b=> ?_,ih0⟩
   simp only [bz,aH]
   cases e2:Nat.beq u b with
   |true=>have:=Nat.eq_of_beq_eq_true e2;subst this;exact .inr (.inr ih0)
   |false=>exact ih b
  |false=>
   rw [e1] at e
   simp only at e
   rw [h2] at e
   simp only [id] at e
   subst e
   refine ⟨fun b=> ?_,?_⟩
   ·simp only [bz,aH]
    cases e2:Nat.beq u b with
    |true=>exact .inl ⟨rfl,rfl⟩
    |false=>exact ih b
   ·simp only [bz,e1];exact ih0
theorem nQ (v:Nat):∀(u:List (Nat×Option Ch)) (l l':List (Nat×Nat×Ch)),(∀ {α:Type} (k:List (Nat×Nat×Ch)→α),sV v u l k=k l')→iC v l l'
 | [],l,l',h=>by
  have e:l=l':=h id
  subst e;exact iC.refl _ _
 |(b,c)::r,l,l',h=>by
  have e:=h id
  cases c with
  |some c=>
   obtain ⟨l1,h1,_⟩:=fq b v c l
   obtain ⟨l2,h2,_⟩:=dZ v r l1
   simp only [sV,h1,h2,id] at e
   subst e
   exact (nB b v c l l1 h1).trans (Nat.le_refl _) (nQ v r l1 l2 h2)
  |none=>
   obtain ⟨l1,h1,_⟩:=h_ b l
   obtain ⟨l2,h2,_⟩:=dZ v r l1
   simp only [sV,h1,h2,id] at e
   subst e
   exact (tU b v l l1 h1).1.trans (Nat.le_refl _) (nQ v r l1 l2 h2)
theorem gE {ty:Nat→TE} {ct:Nat→Option CF} {all:List Oper} {ds:List (Nat×Bool)}:∀(ops:List Oper) (i:Nat) (sl:List (Nat×Nat×List AV)) (hp:List (Nat×Nat×Ch)) (nx:Nat) (rs:List dQ) (S:AS),
  cN ty ct all ds i ops sl hp nx= .ok rs S→iC nx hp S.hp
 | [],i,sl,hp,nx,rs,S,h=>by
  simp only [cN,BD.ok.injEq] at h
  obtain ⟨rfl,rfl⟩:=h
  exact iC.refl _ _
 |⟨dst,op,tp,pos,aft,g⟩::ops,i,sl,hp,nx,rs,S,h=>by
  unfold cN at h
  simp only at h
  cases e:(fZ ty ct all i g op nx).run (bG sl) (aH hp) (fK i ds) with
  |need p=>rw [e] at h;cases h
  |fail=>rw [e] at h;cases h
  |ok res rd qs=>
   obtain ⟨out,upd,pre,fact⟩:=res
   rw [e] at h
   simp only at h
   obtain ⟨hp',h1,e1⟩:=dZ nx upd hp
   rw [h1] at h
   have hv:=nQ nx upd hp hp' h1
   cases dst with
   |some t=>
    simp only at h
    obtain ⟨sl',h2,e2⟩:=iu t nx out sl
    rw [h2,bD] at h
    obtain ⟨l,rfl,h9⟩:=BD.cons_ok h
    exact hv.trans (by omega) (gE ops _ _ _ _ _ _ h9)
   |none=>
    simp only [bD] at h
    obtain ⟨l,rfl,h9⟩:=BD.cons_ok h
    exact hv.trans (by omega) (gE ops _ _ _ _ _ _ h9)
section
variable {ty:Nat→TE} {ct:Nat→Option CF} {N:Nat}
theorem CO (hm:Tryz.prog.follows .mixedOrders=true) (hO:ap ty ct) {id:Nat} {ops:Array Oper} {dr:Bool} {S S':AS} {K:KK} {ds:List (Nat×Bool)} {rs:List dQ}
  (he:cN ty ct ops.toList ds 0 ops.toList S.sl S.hp S.nx= .ok rs S') (hord:dr=true→gy (BJ ops.toList) 0 rs=true) (hea:tW 0 ops.toList=true) (hd:kg N ops.toList=true)
  (hv:tg rs (CK rs (oW rs (K .normal S')))):Es N (.region id ops dr) S K:=by
 intro η a w ⟨hS,hfree⟩
 obtain ⟨hlen,hrun,hfin,hnx⟩:=jv _ _ _ _ _ _ _ he
 have hver:=gE _ _ _ _ _ _ _ he
 obtain ⟨hq,hv⟩:=l6 hv
 obtain ⟨hpre,hv⟩:=kI hv
 have hearl:=mi hea
 have hdst:=gD hd
 have hsz:ops.toList.length=ops.size:=by simp
 have hop:∀ {j:Nat} {o:Oper},ops[j]?=some o→ops.toList[j]?=some o:=fun h=>by simpa using h
 have hend:∀(a':Act) (w':World) (L:Nat→Bool),(∀i,i<ops.size→L i=true)→pU ops.toList rs ⟨bG S.sl,aH S.hp⟩ N S.nx η w L a' w'→gw N (cM (.region id ops dr)) S η w K .normal a' w':=by
  rintro a' w' L hall ⟨_,η',h1,h2,h3,h4,h5,h6⟩
  have e:=zY rs 0 L ⟨bG S.sl,aH S.hp⟩ fun k hk=>by rw [Nat.zero_add];exact hall k (by omega)
  have hfin':rs.foldl (fun F r=>r.app F) ⟨bG S.sl,aH S.hp⟩=⟨bG S'.sl,aH S'.hp⟩:=hfin
  rw [e,hfin'] at h1 h2
  refine ⟨.normal,S',η',rfl,i4 hv fun r hr=> ?_,⟨h1,fun b hb=>h4 b (by omega)⟩,h2,⟨by omega,fun b=>hver b⟩,h5,fun t ht=> ?_⟩
  ·obtain ⟨k,hk,rfl⟩:=List.mem_iff_getElem.1 hr
   exact h6 k _ (hall k (by omega)) (List.getElem?_eq_getElem hk)
  ·have hs:=tf rs ⟨bG S.sl,aH S.hp⟩ t fun r hr=>by
    obtain ⟨k,hk,rfl⟩:=List.mem_iff_getElem.1 hr
    have ho:ops.toList[k]?=some (ops.toList[k]'(by omega)):=List.getElem?_eq_getElem (by omega)
    have:=(hrun k _ _ ho (List.getElem?_eq_getElem hk)).1
    rw [this]
    intro e2
    have hmem:t∈cM (.region id ops dr):=by
     unfold cM
     rw [List.mem_filterMap]
     exact ⟨_,List.getElem_mem (by omega),e2⟩
    rw [←cg,ht] at hmem
    cases hmem
   rw [hfin] at hs
   exact hs
 have hrun':∀k o r,ops.toList[k]?=some o→rs[k]?=some r→r.dst=o.dst∧(fZ ty ct ops.toList k o.guard o.op (S.nx+16*k)).run (gz (rs.take k) ⟨bG S.sl,aH S.hp⟩).s (gz (rs.take k) ⟨bG S.sl,aH S.hp⟩).h (fK k ds)= .ok ⟨r.out,r.upd,r.pre,r.fact⟩ r.rd r.qs:=fun k o r h1 h2=>by
  have:=hrun k o r h1 h2
  rw [Nat.zero_add] at this;exact this
 have h0:∀w1:World,Fw (aH S.hp) η w (aH S.hp) η w1→eH (bG S.sl) (aH S.hp) N η a w1→pU ops.toList rs ⟨bG S.sl,aH S.hp⟩ N S.nx η w (fun _=>false) a w1:=fun w1 hF hS1=>by
  have e:lZ rs 0 (fun _=>false) ⟨bG S.sl,aH S.hp⟩=⟨bG S.sl,aH S.hp⟩:=l5 _ _ _ _ fun _ _=>rfl
  refine ⟨fun k d o' hk=>(by cases hk),η,?_,?_,fun k b _ h1 _=>hfree b (by omega),fun b hb=>hfree b (by omega),fun _ _=>rfl,fun k r hk=>(by cases hk)⟩
  ·rw [e];exact hS1
  ·rw [e];exact hF
 cases dr with
 |true=>
  have hanc:=iL (hord rfl)
  refine wp_region_any hm (DE ?_ (pU ops.toList rs ⟨bG S.sl,aH S.hp⟩ N S.nx η w) ?_ (fun L a' w' hall h=>hend a' w' L hall h) _ _ _ _ (by simp) (by simp) ?_)
  ·unfold ju
   rw [List.all_eq_true]
   intro i hi
   simp only [List.mem_range] at hi
   have ho:ops[i]?=some ops[i]:=by simp [hi]
   simp only [ho,Option.map_some,Option.getD_some,Array.all_eq_true_iff_forall_mem,Bool.or_eq_true,Bool.not_eq_true',decide_eq_true_eq]
   intro e he'
   cases hb:Region.binds .any e with
   |false=>exact .inl rfl
   |true=>have:=hearl i _ (hop ho) e he' hb;exact .inr (by omega)
  ·intro i o ho L a' w' hM hL hdep
   refine wpOp_step ho (fun K' hK'=> ?_)
   have:=pU.step (P:=Tryz.prog) (ty:=ty) (ct:=ct) (Q:=gw N (cM (.region id ops true)) S η w K) hlen hrun' hq hpre hdst (hop ho) (hO _ _ _ _ _ (hop ho)) hM hL hdep ?_ K' (fun a2 w2 h2=>hK' _ _ h2)
   ·simpa using this
   ·intro hcl r hr x hx k q hk hxq
    have hoj:=hop ho
    have hLj:=hL
    have hdj:=hdep
    have hkl:k<rs.length:=(List.getElem?_eq_some_iff.1 hk).1
    rcases Nat.lt_trichotomy k i with hkj|hkj|hkj
    ·have hb:=hanc k i q r hkj hk hr (by rw [oQ];exact .inl ⟨x,hxq,hx⟩)
     rw [Nat.zero_add,Nat.zero_add] at hb
     rw [oI hcl hoj hdj hb];simp [hkj]
    ·subst hkj;rw [hLj];simp
    ·have hb:=hanc i k r q hkj hr hk (by
      rw [oQ]
      rcases hx with hx|hx
      ·exact .inr ⟨x,hx,hxq⟩
      ·exact .inl ⟨x,hx,.inr hxq⟩)
     rw [Nat.zero_add,Nat.zero_add] at hb
     have hok:ops.toList[k]?=some (ops.toList[k]'(by omega)):=List.getElem?_eq_getElem (by omega)
     cases hLk:L k with
     |false=>simp;omega
     |true=>
      have:=oI hcl hok (fun e he' hb'=>hcl k e.on _ hLk hok ⟨e,he',hb',rfl⟩) hb
      rw [this] at hLj;cases hLj
  ·rw [Ge]
   exact h0 w.drew (Fw.drew _ _ _) ⟨hS.df,hS.sz,fun t=>(hS.slot t).later (Fw.drew (aH S.hp) η w).lt,fun b c hb=>(hS.chunk b c hb).later (Fw.drew (aH S.hp) η w).lt fun _ _=>rfl,hS.apart⟩
 |false=>
  have key:∀(m i:Nat) (a':Act) (w':World),i+m=ops.size→pU ops.toList rs ⟨bG S.sl,aH S.hp⟩ N S.nx η w (fun j=>decide (j<i)) a' w'→wpOps Tryz.prog ops (gw N (cM (.region id ops false)) S η w K) (List.range' i m) a' w':=by
   intro m
   induction m with
   |zero=>
    intro i a' w' hi hM
    exact hend a' w' _ (fun j hj=>by simp;omega) hM
   |succ m ih=>
    intro i a' w' hi hM
    have hlt:i<ops.size:=by omega
    have ho:ops[i]?=some ops[i]:=by simp [hlt]
    rw [List.range'_succ,wpOps_cons]
    refine wpOp_step ho (fun K' hK'=> ?_)
    have hdep:∀e∈(ops[i]).after,Region.binds .any e=true→decide (e.on<i)=true:=fun e he' hb=>by
     have:=hearl i _ (hop ho) e he' hb
     rw [Nat.zero_add] at this
     simpa using this
    have e:jN (fun j=>decide (j<i)) i=fun j=>decide (j<i+1):=by
     funext j;unfold jN;split
     ·subst_vars;simp
     ·rw [decide_eq_decide];omega
    have:=pU.step (P:=Tryz.prog) (ty:=ty) (ct:=ct) (Q:=gw N (cM (.region id ops false)) S η w K) hlen hrun' hq hpre hdst (hop ho) (hO _ _ _ _ _ (hop ho)) hM (by simp) hdep (fun _ _ _ _ _ _ _ _ _=>rfl) K' (fun a2 w2 h2=>hK' _ _ (ih (i+1) a2 w2 (by omega) (by rw [←e];exact h2)))
    simpa using this
  refine wp_region ?_
  rw [List.range_eq_range']
  refine key _ 0 a w (by simp) ?_
  have e:(fun j:Nat=>decide (j<0))=fun _=>false:=by funext j;simp
  rw [e]
  exact h0 w (Fw.refl _ _ _) hS
end
section loops
variable {P:Program} {Q:Exit→Act→World→Prop}
def wK (P:Program) (c:Code) (Q:Exit→Act→World→Prop):Nat→Act→World→Prop
 |0,_,_=>False
 |m+1,a,w=>c.wp P (Exit.then (wK P c Q m) Q) a w
theorem BB {c:Code} {a:Act} {w:World} (m:Nat) (h:wK P c Q m a w):(Code.loop c).wp P Q a w:=by
 intro b k cs
 have key:∀m a w,wK P c Q m a w→∃e a' w',Q e a' w'∧Arrives P (lone (b.at a (.code c:: .inLoop c::k)) cs w) b k cs e a' w':=by
  intro m
  induction m with
  |zero=>intro a w h;exact h.elim
  |succ m ih=>
   intro a w h
   obtain ⟨e,a₁,w₁,hq,harr⟩:=h b (.inLoop c::k) cs
   cases e with
   |normal=>
    obtain ⟨e₂,a₂,w₂,hq₂,harr₂⟩:=ih a₁ w₁ hq
    exact ⟨e₂,a₂,w₂,hq₂,.of_steps (Steps.trans harr (.one step_inLoop)) harr₂⟩
   |exit id=>exact ⟨_,a₁,w₁,hq,.pass (x:= .inLoop c) rfl (fun _ _=> .inl (by simp)) harr⟩
   |goto l=>exact ⟨_,a₁,w₁,hq,.pass (x:= .inLoop c) rfl (fun _ _=> .inl (by simp)) harr⟩
   |ret=>exact ⟨_,a₁,w₁,hq,.pass (x:= .inLoop c) rfl (fun _ _=> .inl (by simp)) harr⟩
   |panic ch=>exact ⟨_,a₁,w₁,hq,.pass (x:= .inLoop c) rfl (fun _ _=> .inl (by simp)) harr⟩
   |outgrown=>exact ⟨_,a₁,w₁,hq,.pass (x:= .inLoop c) rfl (fun _ _=> .inl (by simp)) harr⟩
 obtain ⟨e,a',w',hq,harr⟩:=key m a w h
 exact ⟨e,a',w',hq,.of_steps (.one step_loop) harr⟩
theorem DF {ι:Type} {c:Code} {a:Act} {w:World} (I:ι→Act→World→Prop) (μ:ι→Nat) (i:ι) (h₀:I i a w)
  (round:∀i a w,I i a w→c.wp P (Exit.then (fun a' w'=>∃j,μ j<μ i∧I j a' w') Q) a w):(Code.loop c).wp P Q a w:=by
 have key:∀n i a w,μ i=n→I i a w→wK P c Q (n+1) a w:=by
  intro n
  induction n using Nat.strongRecOn with
  |_ n ih=>
   intro i a w hn hI
   have mono:∀m m' a w,m≤m'→wK P c Q m a w→wK P c Q m' a w:=by
    intro m
    induction m with
    |zero=>intro m' a w _ h;exact h.elim
    |succ m ihm=>
     intro m' a w hle h
     obtain ⟨m',rfl⟩:∃k,m'=k+1:=⟨m'-1,by omega⟩
     exact wp_mono h fun e a w hq=>by
      cases e with
      |normal=>exact ihm m' a w (by omega) hq
      |_=>exact hq
   exact wp_mono (round i a w hI) fun e a w hq=>by
    cases e with
    |normal=>
     obtain ⟨j,hlt,hj⟩:=hq
     exact mono (μ j+1) n a w (by omega) (ih (μ j) (by omega) j a w rfl hj)
    |_=>exact hq
 exact BB _ (key _ i a w rfl h₀)
end loops
theorem aL {a b:Nat} (h:Nat.beq a b=true):a=b:=Nat.eq_of_beq_eq_true h
def dR (σ τ:cV):Prop:=(∀b a,bm σ.m b=some a→bm τ.m b=some a)∧∀a,bg a σ.u=true→bg a τ.u=true
theorem dR.refl (σ:cV):dR σ σ:=⟨fun _ _ h=>h,fun _ h=>h⟩
theorem dR.trans {a b c:cV} (h:dR a b) (k:dR b c):dR a c:=⟨fun x y e=>k.1 x y (h.1 x y e),fun x e=>k.2 x (h.2 x e)⟩
theorem fz (a:Nat):∀m:List (Nat×Option Nat),cU m a=true↔∃p∈m,p.2=some a
 | []=>by simp [cU]
 |(b,none)::r=>by
  have e:cU ((b,none)::r) a=cU r a:=rfl
  rw [e,fz a r]
  constructor
  ·rintro ⟨p,h1,h2⟩;exact ⟨p,.tail _ h1,h2⟩
  ·rintro ⟨p,h1,h2⟩
   rcases List.mem_cons.1 h1 with h1|h1
   ·subst h1;cases h2
   ·exact ⟨p,h1,h2⟩
 |(b,some c)::r=>by
  cases e:Nat.beq c a with
  |true=>
   have e1:cU ((b,some c)::r) a=true:=by simp only [cU,e]
   rw [e1]
   exact ⟨fun _=>⟨(b,some c),.head _,by rw [aL e]⟩,fun _=>rfl⟩
  |false=>
   have e1:cU ((b,some c)::r) a=cU r a:=by simp only [cU,e]
   have hne:=Nat.ne_of_beq_eq_false e
   rw [e1,fz a r]
   constructor
   ·rintro ⟨p,h1,h2⟩;exact ⟨p,.tail _ h1,h2⟩
   ·rintro ⟨p,h1,h2⟩
    rcases List.mem_cons.1 h1 with h1|h1
    ·subst h1;simp at h2;exact absurd h2 hne
    ·exact ⟨p,h1,h2⟩
structure dC (H:Nat→Option Ch) (kp:Nat→Bool) (σ:cV):Prop where
 inj:∀b b' a,bm σ.m b=some (some a)→bm σ.m b'=some (some a)→b=b'
 used:∀b a,bm σ.m b=some (some a)→cU σ.m a=true
 kept:∀b a,bm σ.m b=some (some a)→kp a=false
 ukept:∀a,bg a σ.u=true→kp a=false
 shut:∀b a,bm σ.m b=some (some a)→bg a σ.u=false
 live:∀a,bg a σ.u=true→H a≠none
theorem dC.nil (H:Nat→Option Ch) (kp:Nat→Bool):dC H kp ⟨[],[]⟩:=⟨fun _ _ _ h=>(by cases h),fun _ _ h=>(by cases h),fun _ _ h=>(by cases h),fun _ h=>(by cases h),fun _ _ h=>(by cases h),fun _ h=>(by cases h)⟩
section mt
variable {H:Nat→Option Ch} {kp:Nat→Bool} {η:aY} {A:Nat→Prop} {w:World}
structure iJ (nx:Nat) (kp:Nat→Bool) (η:aY) (A:Nat→Prop) (σ:cV) (η':aY) (A':Nat→Prop):Prop where
 old:∀b,cC b=false→b<nx→∀v,η b=some v→η' b=some v
 new:∀b a,cC b=true→bm σ.m b=some (some a)→η' (nx+b)=η a
 nil:∀b,cC b=true→bm σ.m b=some none→η' (nx+b)=some (.slice none 0 0)
 anon:∀g,A g→A' g
 shared:∀a g,bg a σ.u=true→bf η a=some g→A' g
def gj (H:Nat→Option Ch) (nx:Nat) (kp:Nat→Bool) (η:aY) (A:Nat→Prop) (σ:cV) (k:cV→Prop) (X:aY→(Nat→Prop)→Prop):Prop:=
 ∃τ,dR σ τ∧dC H kp τ∧k τ∧∀υ,dR τ υ→∀η' A',iJ nx kp η A υ η' A'→X η' A'
theorem jD {k q:Kd} {l:List k.T} {m:List q.T} (h:fO k q l m) {cs:List Value} (hl:aU k.rp l cs):aU q.rp m cs∧k.n=q.n∧l.length=m.length:=by
 cases k<;>cases q<;>simp only [fO] at h
 all_goals first |(subst h;exact ⟨hl,rfl,rfl⟩)|skip
 obtain ⟨h1,h2⟩:=h
 subst h1
 subst h2
 exact ⟨hl,rfl,rfl⟩
theorem lN {nx:Nat} {σ:cV} (hσ:dC H kp σ) {a b:Nat} (hlt:Nat.blt b nx=true) {k:cV→Prop} (h:CN kp σ a b k):gj H nx kp η A σ k fun η' _=>∀v,η a=some v→η' (dy nx b)=some v:=by
 unfold CN at h
 cases hb:cC b with
 |false=>
  rw [hb] at h
  simp only at h
  cases e:Nat.beq a b with
  |false=>rw [e] at h;exact h.elim
  |true=>
   rw [e] at h
   have:=aL e
   subst this
   refine ⟨σ,dR.refl _,hσ,h,fun υ _ η' A' hM v hv=> ?_⟩
   unfold dy;rw [hb];exact hM.old _ hb (by simpa using hlt) v hv
 |true=>
  rw [hb] at h
  simp only at h
  cases e:bm σ.m b with
  |some c=>
   rw [e] at h
   cases c with
   |none=>exact h.elim
   |some c=>
    simp only at h
    cases e2:Nat.beq a c with
    |false=>rw [e2] at h;exact h.elim
    |true=>
     rw [e2] at h
     have:=aL e2
     subst this
     refine ⟨σ,dR.refl _,hσ,h,fun υ hle η' A' hM v hv=> ?_⟩
     unfold dy;rw [hb]
     simp only
     rw [hM.new b a hb (hle.1 _ _ e)];exact hv
  |none=>
   rw [e] at h
   simp only [Mt] at h
   cases e1:kp a with
   |true=>rw [e1] at h;exact h.elim
   |false=>
    rw [e1] at h
    cases e2:cU σ.m a with
    |true=>rw [e2] at h;exact h.elim
    |false=>
     rw [e2] at h
     cases e3:bg a σ.u with
     |true=>rw [e3] at h;exact h.elim
     |false=>
      rw [e3] at h
      simp only at h
      have hnew:∀x y,bm ((b,some a)::σ.m) x=some y→(x=b∧y=some a)∨(x≠b∧bm σ.m x=some y):=fun x y hx=>by
       unfold bm at hx
       cases e4:Nat.beq b x with
       |true=>rw [e4] at hx;simp at hx;exact .inl ⟨(aL e4).symm,hx.symm⟩
       |false=>rw [e4] at hx;exact .inr ⟨fun e=>Nat.ne_of_beq_eq_false e4 e.symm,hx⟩
      have hne:∀x,bm σ.m x≠some (some a):=fun x hx=>by rw [hσ.used x a hx] at e2;cases e2
      refine ⟨⟨(b,some a)::σ.m,σ.u⟩,⟨fun x y hx=> ?_,fun _ h=>h⟩,⟨fun x x' y hx hx'=> ?_,fun x y hx=> ?_,fun x y hx=> ?_,hσ.ukept,fun x y hx=> ?_,hσ.live⟩,h,fun υ hle η' A' hM v hv=> ?_⟩
      ·unfold bm
       cases e4:Nat.beq b x with
       |true=>have:=aL e4;subst this;rw [e] at hx;cases hx
       |false=>exact hx
      ·rcases hnew x _ hx with ⟨h1,h2⟩|⟨h1,h2⟩
       ·simp at h2;subst h2
        rcases hnew x' _ hx' with ⟨h3,h4⟩|⟨h3,h4⟩
        ·rw [h1,h3]
        ·exact absurd h4 (hne _)
       ·rcases hnew x' _ hx' with ⟨h3,h4⟩|⟨h3,h4⟩
        ·simp at h4;subst h4;exact absurd h2 (hne _)
        ·exact hσ.inj _ _ _ h2 h4
      ·rw [fz]
       rcases hnew x _ hx with ⟨h1,h2⟩|⟨h1,h2⟩
       ·exact ⟨(b,some a),by simp,h2.symm⟩
       ·have:=hσ.used x y h2
        rw [fz] at this
        obtain ⟨p,h3,h4⟩:=this
        exact ⟨p,by simp [h3],h4⟩
      ·rcases hnew x _ hx with ⟨h1,h2⟩|⟨h1,h2⟩
       ·simp at h2;subst h2;exact e1
       ·exact hσ.kept x y h2
      ·rcases hnew x _ hx with ⟨h1,h2⟩|⟨h1,h2⟩
       ·simp at h2;subst h2;exact e3
       ·exact hσ.shut x y h2
      ·unfold dy;rw [hb]
       simp only
       rw [hM.new b a hb (hle.1 b (some a) (by unfold bm;simp))];exact hv
theorem pF {nx:Nat} {σ:cV} (hσ:dC H kp σ) {a:Nat} (hne:H a≠none) {k:cV→Prop} (h:sF kp σ a k):gj H nx kp η A σ k fun _ A'=>∀g,bf η a=some g→A' g:=by
 unfold sF at h
 cases e1:kp a with
 |true=>rw [e1] at h;exact h.elim
 |false=>
  rw [e1] at h
  cases e2:cU σ.m a with
  |true=>rw [e2] at h;exact h.elim
  |false=>
   rw [e2] at h
   have hme:∀x,bg x (a::σ.u)=true→x=a∨bg x σ.u=true:=fun x hx=>by
    rw [cg] at hx ⊢
    rcases List.mem_cons.1 hx with h|h
    ·exact .inl h
    ·exact .inr h
   refine ⟨⟨σ.m,a::σ.u⟩,⟨fun _ _ h=>h,fun x hx=>by rw [cg] at hx ⊢;simp [hx]⟩,⟨hσ.inj,hσ.used,hσ.kept,fun x hx=> ?_,fun x y hx=> ?_,fun x hx=> ?_⟩,h,fun υ hle η' A' hM g hg=>hM.shared a g (hle.2 a (by rw [cg];simp)) hg⟩
   ·rcases hme x hx with rfl|hx
    ·exact e1
    ·exact hσ.ukept x hx
   ·cases e3:bg y (a::σ.u) with
    |false=>rfl
    |true=>
     rcases hme y e3 with rfl|h3
     ·rw [hσ.used x y hx] at e2;cases e2
     ·rw [hσ.shut x y hx] at h3;cases h3
   ·rcases hme x hx with rfl|hx
    ·exact hne
    ·exact hσ.live x hx
theorem gj.pure {nx:Nat} {σ:cV} (hσ:dC H kp σ) {k:cV→Prop} (h:k σ) {X:aY→(Nat→Prop)→Prop} (hX:∀υ η' A',dR σ υ→iJ nx kp η A υ η' A'→X η' A'):gj H nx kp η A σ k X:=
 ⟨σ,dR.refl _,hσ,h,fun υ hle η' A' hM=>hX υ η' A' hle hM⟩
theorem gj.imp {nx:Nat} {σ:cV} {k:cV→Prop} {X Y:aY→(Nat→Prop)→Prop} (h:gj H nx kp η A σ k X) (hXY:∀υ η' A',iJ nx kp η A υ η' A'→X η' A'→Y η' A'):gj H nx kp η A σ k Y:=by
 obtain ⟨τ,h1,h2,h3,h4⟩:=h
 exact ⟨τ,h1,h2,h3,fun υ hle η' A' hM=>hXY υ η' A' hM (h4 υ hle η' A' hM)⟩
end mt
section mt
variable {H:Nat→Option Ch} {kp:Nat→Bool} {η:aY} {A:Nat→Prop} {w:World} {nx:Nat}
theorem gj.bind {σ:cV} {k:cV→Prop} {f:cV→Prop} {X Y:aY→(Nat→Prop)→Prop} (h:gj H nx kp η A σ f X) (hf:∀τ,dC H kp τ→f τ→gj H nx kp η A τ k Y):gj H nx kp η A σ k fun η' A'=>X η' A'∧Y η' A':=by
 obtain ⟨τ,h1,h2,h3,h4⟩:=h
 obtain ⟨υ,g1,g2,g3,g4⟩:=hf τ h2 h3
 exact ⟨υ,h1.trans g1,g2,g3,fun ρ hle η' A' hM=>⟨h4 ρ (g1.trans hle) η' A' hM,g4 ρ hle η' A' hM⟩⟩
theorem gX {E:Nat} {k:Kd} {l:List k.T} {v:Value} {cs:List Value} (hl:aU k.rp l cs) (ho:w.ownsRow 0 E k.n v l.length cs):
  (v= .slice none 0 0∧l= [])∨∃g c,v= .slice (some ⟨g,0,none⟩) l.length c∧l.length≤c∧c≤maxLen∧w.rangeAt g 0 cs:=by
 rcases ho.2 with ⟨h1,h2⟩|⟨g,cap,cur,h1,_,h2,h3,h4,h5,h6⟩
 ·exact .inl ⟨h1,List.eq_nil_of_length_eq_zero h2⟩
 ·refine .inr ⟨g,cap,h1,h3,h4,fun j u hu=> ?_⟩
  rw [Nat.zero_add,←h6,List.getElem?_take] at*
  split at hu
  ·simp only [World.cell?,h2,Option.isSome_none,Bool.false_eq_true,if_false]
   simpa using hu
  ·cases hu
theorem sB {E:Nat} {k:Kd} {l:List k.T} {b:Nat} (h:(Ch.row E k l).H η A w b) {A':Nat→Prop} (hA:∀g,bf η b=some g→A' g):∃v,η b=some v∧eG A' w k l v:=by
 obtain ⟨v,cs,h1,h2,h3⟩:=h
 refine ⟨v,h1,?_⟩
 rcases gX h2 h3 with ⟨e,rfl⟩|⟨g,c,e,h4,h5,h6⟩
 ·exact ⟨none,0,e,Nat.le_refl _,by simp,fun _=>rfl,fun h=>by simp at h⟩
 ·exact ⟨_,c,e,h4,h5,fun h=>(by cases h),fun _=>⟨g,0,cs,rfl,hA g (by unfold bf;rw [h1,e];rfl),h2,h6⟩⟩
theorem eG.cast {A':Nat→Prop} {k q:Kd} {l:List k.T} {m:List q.T} {v:Value} (he:fO k q l m) (hA:∀g,A g→A' g) (h:eG A w k l v):eG A' w q m v:=by
 obtain ⟨a,c,h1,h2,h3,h4,h5⟩:=h
 have hlen:l.length=m.length:=by
  cases k<;>cases q<;>simp only [fO] at he
  all_goals first |(subst he;rfl)|skip
  obtain ⟨e1,e2⟩:=he
  subst e1;subst e2;rfl
 refine ⟨a,c,by rw [←hlen];exact h1,by omega,h3,h4,fun hn=> ?_⟩
 obtain ⟨g,o,cs,e,hg,hc,hr⟩:=h5 (by omega)
 exact ⟨g,o,cs,e,hA g hg,(jD he hc).1,hr⟩
theorem sQ {E:Nat} {k:Kd} {l:List k.T} {b lo n:Nat} (hk:k.n=1) (h:(Ch.row E k l).H η A w b) {cs:List Value} (hs:(Cl.sub b lo n).H η A w cs) {A':Nat→Prop} (hA:∀g,bf η b=some g→A' g):
  ∃v,cs= [v]∧eG A' w k ((l.drop lo).take n) v:=by
 obtain ⟨v,cs',h1,h2,h3⟩:=h
 obtain ⟨v',a,c,g1,g2,g3,g4,g5,g6⟩:=hs
 rw [h1] at g1;cases g1
 have hlen:((l.drop lo).take n).length=n:=by
  rcases Nat.eq_zero_or_pos n with h0|h0
  ·subst h0;simp
  ·obtain ⟨g,N,C,e1,_,e3⟩:=g6 h0
   rcases gX h2 h3 with ⟨e,rfl⟩|⟨g',c',e,h4,h5,h6⟩
   ·rw [e] at e1;cases e1
   ·rw [e] at e1;cases e1
    rw [List.length_take,List.length_drop];omega
 refine ⟨_,g2,a,c,by rw [hlen],by omega,g4,g5,fun hn0=> ?_⟩
 obtain ⟨g,N,C,e1,e2,_⟩:=g6 (by omega)
 rcases gX h2 h3 with ⟨e,rfl⟩|⟨g',c',e,h4,h5,h6⟩
 ·rw [e] at e1;cases e1
 ·rw [e] at e1;cases e1
  have hd:=(h2.drop lo).take n
  rw [k.rp_n,hk,Nat.one_mul,Nat.one_mul] at hd
  refine ⟨g,lo,_,e2,hA g (by unfold bf;rw [h1,e];rfl),hd,fun j u hu=> ?_⟩
  have hu2:cs'[lo+j]?=some u:=by
   rw [List.getElem?_take] at hu
   split at hu
   ·rw [List.getElem?_drop] at hu;exact hu
   ·cases hu
  have:=h6 (lo+j) u hu2
  rw [Nat.zero_add] at this;exact this
theorem Kd.one_rep {k:Kd} (hk:k.n=1) {x:k.T} {cs:List Value} (h:k.rp.rep x cs):∃v,cs= [v]∧v.oneCell'=true:=by
 have h1:=k.rp.len _ _ h
 rw [k.rp_n,hk] at h1
 obtain ⟨v,rfl⟩:=List.length_eq_one_iff.1 h1
 exact ⟨v,rfl,k.rp.one _ _ h v (by simp)⟩
theorem yT (k:Kd):eG A w k [] (.slice none 0 0):=⟨none,0,rfl,Nat.le_refl _,by simp,fun _=>rfl,fun h=>by simp at h⟩
theorem Gn (hH:∀b c,H b=some c→c.H η A w b) {x y:Cl} (hy:y.lt nx=true) {cs:List Value} (hx:x.H η A w cs) {σ:cV} (hσ:dC H kp σ) {k:cV→Prop} (h:nY H kp x y σ k):gj H nx kp η A σ k fun η' A'=>(y.rn nx).H η' A' w cs:=by
 cases y with
 |any=>
  have key:(∃v,cs= [v]∧v.oneCell'=true)→k σ→gj H nx kp η A σ k fun η' A'=>(Cl.any.rn nx).H η' A' w cs:=fun h1 h2=> .pure hσ h2 fun _ _ _ _ _=>h1
  cases x<;>simp only [nY] at h
  ·exact key hx h
  ·exact key ⟨_,hx⟩ h
  ·rename_i q z
   cases e:Nat.beq q.n 1 with
   |false=>rw [e] at h;exact h.elim
   |true=>rw [e] at h;exact key (Kd.one_rep (aL e) hx) h
  ·obtain ⟨g,_,e⟩:=hx;exact key ⟨_,e,rfl⟩ h
  ·obtain ⟨g,_,e⟩:=hx;exact key ⟨_,e,rfl⟩ h
  ·obtain ⟨g,o,us,e,_⟩:=hx;exact key ⟨_,e,rfl⟩ h
  ·obtain ⟨_,g,_,e⟩:=hx;exact key ⟨_,e,rfl⟩ h
  ·obtain ⟨v,_,e⟩:=hx;exact key ⟨_,e⟩ h
  ·obtain ⟨v,a,c,_,e,_⟩:=hx;exact key ⟨_,e,rfl⟩ h
  ·obtain ⟨v,e,a,c,e2,_⟩:=hx;exact key ⟨_,e,by rw [e2];rfl⟩ h
  ·obtain ⟨a,c,e,_⟩:=hx;exact key ⟨_,e,rfl⟩ h
  ·obtain ⟨g,o,v,e,_⟩:=hx;exact key ⟨_,e,rfl⟩ h
  ·obtain ⟨e,⟨a,c,e2⟩,_⟩:=hx;exact key ⟨_,e,by rw [e2];rfl⟩ h
  ·obtain ⟨e,g,m,D,e2,_⟩:=hx;exact key ⟨_,e,by rw [e2];rfl⟩ h
  ·obtain ⟨e,a,c,e2,_⟩:=hx;exact key ⟨_,e,by rw [e2];rfl⟩ h
  ·obtain ⟨us,vs,e,_⟩:=hx;exact key ⟨_,e,rfl⟩ h
 |un=>
  cases x<;>simp only [nY] at h
  exact .pure hσ h fun _ _ _ _ _=>hx
 |cv v=>
  cases x<;>simp only [nY] at h
  obtain ⟨rfl,h⟩:=h
  exact .pure hσ h fun _ _ _ _ _=>hx
 |ob q y=>
  have key:∀ {p:Kd} {x:p.T},p.rp.rep x cs→fO p q [x] [y]→k σ→gj H nx kp η A σ k fun η' A'=>((Cl.ob q y).rn nx).H η' A' w cs:=fun h1 h2 h3=>
   .pure hσ h3 fun _ _ _ _ _=>((jD h2 (aU.single h1)).1).of_single
  unfold nY at h
  cases x
  case ob p x=>exact key hx h.1 h.2
  case cv v=>
   simp only at h
   split at h
   ·rename_i z he;cases he
   ·rename_i z he;cases he;exact key (p:= .int) (x:=z) hx.1 h.1 h.2
   ·rename_i z he;cases he;exact key (p:= .bool) (x:=z) hx.1 h.1 h.2
   ·exact h.elim
  all_goals exact h.elim
 |vec q m l=>
  cases x<;>simp only [nY] at h
  obtain ⟨rfl,h1,h2⟩:=h
  exact .pure hσ h2 fun _ _ _ _ _=>by
   obtain ⟨e1,e2⟩:=hx
   obtain ⟨g1,g2,g3⟩:=jD h1 e2
   exact ⟨by omega,g1⟩
 |ptr b j=>
  cases x<;>simp only [nY] at h
  rename_i a i
  cases e:Nat.beq i j with
  |false=>rw [e] at h;exact h.elim
  |true=>
   rw [e] at h
   have:=aL e
   subst this
   obtain ⟨g,e1,e2⟩:=hx
   exact (lN hσ hy h).imp fun _ _ _ _ hM=>⟨g,hM _ e1,e2⟩
 |pix b j i=>cases x<;>simp only [nY] at h
 |pro q z=>cases x<;>simp only [nY] at h
 |pbb l=>cases x<;>simp only [nY] at h
 |fv f l m=>cases x<;>simp only [nY] at h
 |ln v n=>
  cases x<;>simp only [nY] at h
  obtain ⟨⟨rfl,rfl⟩,h⟩:=h
  exact .pure hσ h fun _ _ _ _ _=>hx
 |mp v f=>
  cases x<;>simp only [nY] at h
  obtain ⟨⟨rfl,rfl⟩,h⟩:=h
  obtain ⟨e,hm⟩:=hx
  exact .pure hσ h fun υ η' A' hle hM=>⟨e,hm.mono hM.anon⟩
 |rv v l=>
  cases x<;>simp only [nY] at h
  obtain ⟨⟨rfl,rfl⟩,h⟩:=h
  obtain ⟨e,hr⟩:=hx
  exact .pure hσ h fun υ η' A' hle hM=>⟨e,hr.cast (k:= .u8) (q:= .u8) (show fO .u8 .u8 _ _ from rfl) hM.anon⟩
 |sl b j n c=>
  cases x<;>simp only [nY] at h
  rename_i a i n' c'
  obtain ⟨hn,g,e1,e2⟩:=hx
  obtain ⟨τ,h1,h2,⟨rfl,rfl,rfl,h3⟩,h4⟩:=lN (A:=A) (η:=η) hσ hy h
  exact ⟨τ,h1,h2,h3,fun υ hle η' A' hM=>⟨hn,g,h4 υ hle η' A' hM _ e1,e2⟩⟩
 |sub b j n=>
  cases x<;>simp only [nY] at h
  rename_i a i n'
  obtain ⟨v,ad,c,e1,e2⟩:=hx
  obtain ⟨τ,h1,h2,⟨rfl,rfl,h3⟩,h4⟩:=lN (A:=A) (η:=η) hσ hy h
  exact ⟨τ,h1,h2,h3,fun υ hle η' A' hM=>⟨v,ad,c,h4 υ hle η' A' hM _ e1,e2⟩⟩
 |rw b=>
  unfold nY at h
  cases x
  case rw a=>
   obtain ⟨v,e1,e2⟩:=hx
   exact (lN hσ hy h).imp fun _ _ _ _ hM=>⟨v,hM _ e1,e2⟩
  case cv v=>
   simp only at h
   split at h
   ·rename_i he;cases he
   ·rename_i he;cases he
    cases hb:cC b with
    |false=>rw [hb] at h;exact h.elim
    |true=>
     rw [hb] at h
     simp only at h
     have hfin:∀υ,bm υ.m b=some none→∀η' A',iJ nx kp η A υ η' A'→((Cl.rw b).rn nx).H η' A' w cs:=fun υ hs η' A' hM=>by
      obtain ⟨e1,e2⟩:=hx
      show (Cl.rw (dy nx b)).H η' A' w cs
      unfold dy;rw [hb]
      exact ⟨_,hM.nil b hb hs,e1,e2⟩
     cases e:bm σ.m b with
     |some c=>
      rw [e] at h
      cases c with
      |none=>exact .pure hσ h fun υ η' A' hle hM=>hfin υ (hle.1 _ _ e) η' A' hM
      |some c=>exact h.elim
     |none=>
      rw [e] at h
      simp only at h
      have hnew:∀x y,bm ((b,none)::σ.m) x=some (some y)→bm σ.m x=some (some y):=fun x y hx=>by
       unfold bm at hx
       cases e4:Nat.beq b x with
       |true=>rw [e4] at hx;simp at hx
       |false=>rw [e4] at hx;exact hx
      refine ⟨⟨(b,none)::σ.m,σ.u⟩,⟨fun x y hx=> ?_,fun _ h=>h⟩,⟨fun x x' y hx hx'=>hσ.inj _ _ _ (hnew _ _ hx) (hnew _ _ hx'),fun x y hx=> ?_,fun x y hx=>hσ.kept _ _ (hnew _ _ hx),hσ.ukept,fun x y hx=>hσ.shut _ _ (hnew _ _ hx),hσ.live⟩,h,fun υ hle η' A' hM=>hfin υ (hle.1 b none (by unfold bm;simp)) η' A' hM⟩
      ·unfold bm
       cases e4:Nat.beq b x with
       |true=>have:=aL e4;subst this;rw [e] at hx;cases hx
       |false=>exact hx
      ·have:=hσ.used x y (hnew _ _ hx)
       rw [fz] at this ⊢
       obtain ⟨p,h3,h4⟩:=this
       exact ⟨p,by simp [h3],h4⟩
   ·exact h.elim
  all_goals exact h.elim
 |ro q l=>
  unfold nY at h
  cases x
  case ro p i=>
   obtain ⟨v,e,hr⟩:=hx
   exact .pure hσ h.2 fun υ η' A' hle hM=>⟨v,e,hr.cast h.1 hM.anon⟩
  case cv v=>
   simp only at h
   split at h
   ·rename_i he;cases he
   ·rename_i he;cases he
    obtain ⟨rfl,h⟩:=h
    obtain ⟨e1,e2⟩:=hx
    exact .pure hσ h fun υ η' A' hle hM=>⟨_,e1,yT q⟩
   all_goals first |exact h.elim|(rename_i he;cases he)
  case rw a=>
   simp only at h
   cases e:H a with
   |none=>rw [e] at h;exact h.elim
   |some c=>
    rw [e] at h
    cases c with
    |blk E i=>exact h.elim
    |row E p i=>
     simp only at h
     obtain ⟨v,e1,e2,_⟩:=hx
     refine (pF hσ (by rw [e];simp) h.2).imp fun υ η' A' hM hA=> ?_
     obtain ⟨v',e3,hr⟩:=sB (hH _ _ e) hA
     rw [e1] at e3;cases e3
     exact ⟨v,e2,hr.cast h.1 fun _ h=>h⟩
  case sub a lo n=>
   simp only at h
   cases e:H a with
   |none=>rw [e] at h;exact h.elim
   |some c=>
    rw [e] at h
    cases c with
    |blk E i=>exact h.elim
    |row E p i=>
     simp only at h
     cases e2:Nat.beq p.n 1 with
     |false=>rw [e2] at h;exact h.elim
     |true=>
      rw [e2] at h
      refine (pF hσ (by rw [e];simp) h.2).imp fun υ η' A' hM hA=> ?_
      obtain ⟨v,e3,hr⟩:=sQ (aL e2) (hH _ _ e) hx hA
      exact ⟨v,e3,hr.cast h.1 fun _ h=>h⟩
  all_goals exact h.elim
 |bb l=>
  cases x<;>simp only [nY] at h
  obtain ⟨rfl,h⟩:=h
  refine .pure hσ h fun υ η' A' hle hM=> ?_
  obtain ⟨a,c,h1,h2,h3,h4,h5⟩:=hx
  refine ⟨a,c,h1,h2,h3,h4,fun hn=> ?_⟩
  obtain ⟨g,q,us,e,hA,hr,hlen,hall⟩:=h5 hn
  exact ⟨g,q,us,e,hM.anon g hA,hr,hlen,fun i hi hi'=>eG.cast (k:= .u8) (q:= .u8) (show fO .u8 .u8 l[i] l[i] from rfl) hM.anon (hall i hi hi')⟩
theorem iY {n:Nat} {x:Cl} {l:List Cl} (h:b_ n (x::l)=true):x.lt n=true∧b_ n l=true:=by
 unfold b_ at h
 cases e:x.lt n with
 |false=>rw [e] at h;cases h
 |true=>rw [e] at h;exact ⟨rfl,h⟩
theorem rN (hH:∀b c,H b=some c→c.H η A w b):∀ {l m:List Cl},b_ nx m=true→∀ {cs:List Value},aO η A w l cs→∀ {σ:cV},dC H kp σ→∀ {k:cV→Prop},Kt H kp l m σ k→gj H nx kp η A σ k fun η' A'=>aO η' A' w (m.map (Cl.rn nx)) cs
 | [],[],_,_,hc,_,hσ,_,h=> .pure hσ h fun _ _ _ _ _=>hc
 | [],_::_,_,_,_,_,_,_,h=>h.elim
 |_::_,[],_,_,_,_,_,_,h=>h.elim
 |x::r,y::q,hy,_,⟨h1,t,e,hx,hr⟩,_,hσ,_,h=>by
  obtain ⟨hy1,hy2⟩:=iY hy
  refine ((Gn hH hy1 hx hσ (show nY H kp x y _ _ from h)).bind fun τ hτ hf=>rN hH hy2 hr hτ hf).imp fun υ η' A' hM hXY=> ?_
  exact ⟨h1,t,e,hXY.1,hXY.2⟩
theorem OA (hH:∀b c,H b=some c→c.H η A w b) {l:List AV} {y:AV} (hy:y.lt nx=true) {v:Value} (hl:bF η A w l v) {σ:cV} (hσ:dC H kp σ) {k:cV→Prop} (h:Tg H kp l y σ k):gj H nx kp η A σ k fun η' A'=>bF η' A' w [y.rn nx] v:=by
 match l,h with
 | [.one x],h=>
  cases y with
  |one y=>exact Gn hH hy hl hσ h
  |agg y=>exact h.elim
 | [.agg x],h=>
  cases y with
  |one y=>exact h.elim
  |agg y=>
   obtain ⟨cs,e,hc,h1⟩:=hl
   exact (rN hH hy hc hσ h).imp fun _ _ _ _ hX=>⟨cs,e,hX,h1⟩
 | [],h=>exact h.elim
 | .one _::_::_,h=>exact h.elim
 | .agg _::_::_,h=>exact h.elim
theorem AW (hH:∀b c,H b=some c→c.H η A w b) {sl:Nat→List AV} {val:Nat→Value} (hs:∀t,bF η A w (sl t) (val t)):∀ {I:List (Nat×AV)},vU nx I=true→∀ {σ:cV},dC H kp σ→∀ {k:cV→Prop},OB H kp sl I σ k→
  gj H nx kp η A σ k fun η' A'=>∀p∈I,bF η' A' w [p.2.rn nx] (val p.1)
 | [],_,_,hσ,_,h=> .pure hσ h fun _ _ _ _ _ _ hp=>(by cases hp)
 |(t,y)::r,hl,_,hσ,_,h=>by
  unfold vU at hl
  cases e:y.lt nx with
  |false=>rw [e] at hl;cases hl
  |true=>
   rw [e] at hl
   refine ((OA hH e (hs t) hσ (show Tg H kp (sl t) y _ _ from h)).bind fun τ hτ hf=>AW hH hs hl hτ hf).imp fun υ η' A' hM hXY=> ?_
   intro p hp
   rcases List.mem_cons.1 hp with rfl|hp
   ·exact hXY.1
   ·exact hXY.2 p hp
theorem Gp (hH:∀b c,H b=some c→c.H η A w b) {a b:Nat} {y:Ch} (hl:∀E l,y= .blk E l→b_ nx l=true) {σ:cV} (hσ:dC H kp σ) {k:cV→Prop} (h:Rk H kp (H a) y σ k):
  H a≠none∧gj H nx kp η A σ k fun η' A'=>(∀v,η a=some v→η' b=some v)→(y.rn nx).H η' A' w b:=by
 cases e:H a with
 |none=>rw [e] at h;cases y<;>exact h.elim
 |some c=>
  refine ⟨by simp,?_⟩
  have hc:=hH a c e
  rw [e] at h
  cases y with
  |blk E l=>
   cases c with
   |row F p i=>exact h.elim
   |blk F i=>
    unfold Rk at h
    simp only at h
    cases e2:Nat.beq E F with
    |false=>rw [e2] at h;exact h.elim
    |true=>
     rw [e2] at h
     have:=aL e2
     subst this
     obtain ⟨g,cs,h1,h2,h3,h4⟩:=hc
     exact (rN hH (hl _ _ rfl) h3 hσ h).imp fun υ η' A' hM hX hv=>⟨g,cs,hv _ h1,h2,hX,h4⟩
  |row E q l=>
   cases c with
   |blk F i=>exact h.elim
   |row F p i=>
    unfold Rk at h
    simp only at h
    cases e2:Nat.beq E F with
    |false=>rw [e2] at h;exact h.elim
    |true=>
     rw [e2] at h
     have:=aL e2
     subst this
     obtain ⟨v,cs,h1,h2,h3⟩:=hc
     refine .pure hσ h.2 fun υ η' A' hle hM hv=> ?_
     obtain ⟨g1,g2,g3⟩:=jD h.1 h2
     exact ⟨v,cs,hv _ h1,g1,by rw [←g2,←g3];exact h3⟩
def wD (nx:Nat) (H:Nat→Option Ch) (w:World) (υ:cV) (p:Nat×Ch) (η':aY) (A':Nat→Prop):Prop:=
 (p.2.rn nx).H η' A' w (dy nx p.1)∧(cC p.1=false→H p.1≠none)∧(cC p.1=true→∃d,bm υ.m p.1=some d∧∀a,d=some a→H a≠none)
theorem lI (hH:∀b c,H b=some c→c.H η A w b):∀ {I:List (Nat×Ch)},B7 nx I=true→∀ {σ:cV},dC H kp σ→∀ {k:cV→Prop},Ck H kp I σ k→
  ∃τ,dR σ τ∧dC H kp τ∧k τ∧∀υ,dR τ υ→∀η' A',iJ nx kp η A υ η' A'→∀p∈I,wD nx H w υ p η' A'
 | [],_,σ,hσ,_,h=>⟨σ,dR.refl _,hσ,h,fun _ _ _ _ _ _ hp=>(by cases hp)⟩
 |(b,y)::r,hl,σ,hσ,k,h=>by
  have hl2:Nat.blt b nx=true∧(∀E l,y= .blk E l→b_ nx l=true)∧B7 nx r=true:=by
   unfold B7 at hl
   cases e:Nat.blt b nx with
   |false=>rw [e] at hl;cases hl
   |true=>
    rw [e] at hl
    refine ⟨rfl,?_⟩
    cases y with
    |row E q l=>exact ⟨fun _ _ h=>(by cases h),hl⟩
    |blk E l=>
     simp only at hl
     cases e2:b_ nx l with
     |false=>rw [e2] at hl;cases hl
     |true=>rw [e2] at hl;exact ⟨fun _ _ h=>(by cases h;exact e2),hl⟩
  obtain ⟨hb1,hb2,hb3⟩:=hl2
  unfold Ck at h
  cases hb:cC b with
  |false=>
   rw [hb] at h
   obtain ⟨hne,hok⟩:=Gp (nx:=nx) (b:=b) hH hb2 hσ h
   obtain ⟨τ,h1,h2,h3,h4⟩:=hok
   obtain ⟨ρ,g1,g2,g3,g4⟩:=lI hH hb3 h2 h3
   refine ⟨ρ,h1.trans g1,g2,g3,fun υ hle η' A' hM p hp=> ?_⟩
   rcases List.mem_cons.1 hp with rfl|hp
   ·refine ⟨?_,fun _=>hne,fun h=>by simp [hb] at h⟩
    unfold dy;simp only [hb]
    exact h4 υ (g1.trans hle) η' A' hM fun v hv=>hM.old b hb (by simpa using hb1) v hv
   ·exact g4 υ hle η' A' hM p hp
  |true=>
   rw [hb] at h
   simp only at h
   cases e:bm σ.m b with
   |none=>rw [e] at h;exact h.elim
   |some d=>
    rw [e] at h
    cases d with
    |some a=>
     simp only at h
     obtain ⟨hne,hok⟩:=Gp (nx:=nx) (b:=nx+b) hH hb2 hσ h
     obtain ⟨τ,h1,h2,h3,h4⟩:=hok
     obtain ⟨ρ,g1,g2,g3,g4⟩:=lI hH hb3 h2 h3
     refine ⟨ρ,h1.trans g1,g2,g3,fun υ hle η' A' hM p hp=> ?_⟩
     rcases List.mem_cons.1 hp with rfl|hp
     ·have hsub:=hle.1 _ _ (g1.1 _ _ (h1.1 _ _ e))
      refine ⟨?_,fun h=>by simp [hb] at h,fun _=>⟨some a,hsub,fun a' ha=>by cases ha;exact hne⟩⟩
      unfold dy;simp only [hb]
      exact h4 υ (g1.trans hle) η' A' hM fun v hv=>by rw [hM.new b a hb hsub];exact hv
     ·exact g4 υ hle η' A' hM p hp
    |none=>
     cases y with
     |blk E l=>exact h.elim
     |row E q l=>
      simp only at h
      obtain ⟨rfl,h⟩:=h
      obtain ⟨ρ,g1,g2,g3,g4⟩:=lI hH hb3 hσ h
      refine ⟨ρ,g1,g2,g3,fun υ hle η' A' hM p hp=> ?_⟩
      rcases List.mem_cons.1 hp with rfl|hp
      ·have hsub:=hle.1 _ _ (g1.1 _ _ e)
       refine ⟨?_,fun h=>by simp [hb] at h,fun _=>⟨none,hsub,fun a' ha=>by cases ha⟩⟩
       unfold dy;simp only [hb]
       exact ⟨_,[],hM.nil b hb hsub,rfl,World.ownsRow_nil w 0 E q.n⟩
      ·exact g4 υ hle η' A' hM p hp
end mt
theorem k8 (n:Nat):∀(I:List (Nat×AV)) (l:List (Nat×Nat×List AV)),∃l',(∀ {α:Type} (k:List (Nat×Nat×List AV)→α),kK n I l k=k l')∧∀t,(∃y,(t,y)∈I∧bG l' t= [y.rn n])∨bG l' t=bG l t
 | [],l=>⟨l,fun _=>rfl,fun _=> .inr rfl⟩
 |(u,a)::r,l=>by
  obtain ⟨l1,h1,e1⟩:=iu u n [a.rn n] l
  obtain ⟨l2,h2,e2⟩:=k8 n r l1
  refine ⟨l2,fun k=>by simp only [kK,J6,h1,h2],fun t=> ?_⟩
  rcases e2 t with ⟨y,h3,h4⟩|h3
  ·exact .inl ⟨y,by simp [h3],h4⟩
  ·rw [h3,e1]
   by_cases h:u=t
   ·subst h;exact .inl ⟨a,by simp,by simp⟩
   ·exact .inr (by simp [h])
theorem nC (n:Nat):∀(I:List (Nat×Ch)) (l:List (Nat×Nat×Ch)),∃l',(∀ {α:Type} (k:List (Nat×Nat×Ch)→α),pz n I l k=k l')∧
  (∀b c,aH l' b=some c→(∃p∈I,b=dy n p.1∧c=p.2.rn n)∨(aH l b=some c∧∀p∈I,dy n p.1≠b))∧(∀b,aH l b≠none→aH l' b≠none)∧iC n l l'
 | [],l=>⟨l,fun _=>rfl,fun b c h=> .inr ⟨h,fun _ h=>(by cases h)⟩,fun _ h=>h,iC.refl _ _⟩
 |(u,a)::r,l=>by
  obtain ⟨l1,h1,e1⟩:=fq (dy n u) n (a.rn n) l
  obtain ⟨l2,h2,e2,e3,e4⟩:=nC n r l1
  refine ⟨l2,fun k=>by simp only [pz,J4,bD,h1,h2],fun b c h=> ?_,fun b hb=>e3 b ?_,(nB _ _ _ _ _ h1).trans (Nat.le_refl _) e4⟩
  ·rcases e2 b c h with ⟨p,h3,h4⟩|⟨h3,h4⟩
   ·exact .inl ⟨p,by simp [h3],h4⟩
   ·rw [e1] at h3
    simp only at h3
    by_cases hb:b=dy n u
    ·rw [if_pos hb] at h3
     exact .inl ⟨(u,a),by simp,hb,by cases h3;rfl⟩
    ·rw [if_neg hb] at h3
     refine .inr ⟨h3,fun p hp=> ?_⟩
     rcases List.mem_cons.1 hp with rfl|hp
     ·exact fun e=>hb e.symm
     ·exact h4 p hp
  ·rw [e1];simp only;split
   ·simp
   ·exact hb
theorem fk {α:Type} (b:Nat):∀l:List (Nat×α),cJ b l=true↔∃p∈l,p.1=b
 | []=>by simp [cJ]
 |(c,x)::r=>by
  cases e:Nat.beq c b with
  |true=>
   have e1:cJ b ((c,x)::r)=true:=by simp only [cJ,e]
   rw [e1];exact ⟨fun _=>⟨(c,x),.head _,aL e⟩,fun _=>rfl⟩
  |false=>
   have e1:cJ b ((c,x)::r)=cJ b r:=by simp only [cJ,e]
   have hne:=Nat.ne_of_beq_eq_false e
   rw [e1,fk b r]
   constructor
   ·rintro ⟨p,h1,h2⟩;exact ⟨p,.tail _ h1,h2⟩
   ·rintro ⟨p,h1,h2⟩
    rcases List.mem_cons.1 h1 with h1|h1
    ·subst h1;exact absurd h2 hne
    ·exact ⟨p,h1,h2⟩
theorem jF {b:Nat}:∀ {l:List (Nat×Nat×Ch)} {c:Ch},aH l b=some c→cJ b l=true
 | [],_,h=>by cases h
 |(u,v,x)::r,c,h=>by
  unfold aH at h
  unfold cJ
  cases e:Nat.beq u b with
  |true=>rfl
  |false=>rw [e] at h;exact jF h
section
variable {n:Nat} {η η':aY} {A A':Nat→Prop} {w:World}
theorem jp.names (he:∀b,b<n→η' b=η b) (hA:∀g,A g→A' g):∀ {l:List FC} {vs:List Value},qH n l=true→jp η A w l vs→jp η' A' w l vs
 | [],_,_,h=>h
 |x::r,vs,hx,⟨v,t,e,h1,h2⟩=>by
  cases x with
  |p b q=>
   unfold qH at hx
   split at hx
   ·rename_i hb
    obtain ⟨g,g1,g2⟩:=h1
    exact ⟨v,t,e,⟨g,by rw [he b (by simpa using hb)];exact g1,g2⟩,jp.names he hA hx h2⟩
   ·cases hx
  |ob k z=>exact ⟨v,t,e,h1,jp.names he hA hx h2⟩
  |r l=>exact ⟨v,t,e,eG.cast (k:= .u8) (q:= .u8) (show fO .u8 .u8 _ _ from rfl) hA h1,jp.names he hA hx h2⟩
theorem Cl.H.names (he:∀b,b<n→η' b=η b) (hA:∀g,A g→A' g) {x:Cl} (hx:x.lt n=true) {cs:List Value} (h:x.H η A w cs):x.H η' A' w cs:=by
 cases x
 case any=>exact h
 case un=>exact h
 case cv=>exact h
 case ob=>exact h
 case vec=>exact h
 case ptr b j=>
  obtain ⟨g,h1,h2⟩:=h
  exact ⟨g,by rw [he b (by simpa [Cl.lt] using hx)];exact h1,h2⟩
 case pix b j i=>
  obtain ⟨g,h1,h2⟩:=h
  exact ⟨g,by unfold bf at *;rw [he b (by simpa [Cl.lt] using hx)];exact h1,h2⟩
 case pro k x=>
  obtain ⟨g,q,us,h1,h2,h3⟩:=h
  exact ⟨g,q,us,h1,hA g h2,h3⟩
 case sl b j m c=>
  obtain ⟨hn,g,h1,h2⟩:=h
  exact ⟨hn,g,by rw [he b (by simpa [Cl.lt] using hx)];exact h1,h2⟩
 case rw b=>
  obtain ⟨v,h1,h2⟩:=h
  exact ⟨v,by rw [he b (by simpa [Cl.lt] using hx)];exact h1,h2⟩
 case sub b j m=>
  obtain ⟨v,a,c,h1,h2⟩:=h
  exact ⟨v,a,c,by rw [he b (by simpa [Cl.lt] using hx)];exact h1,h2⟩
 case ro k l=>
  obtain ⟨v,h1,a,c,g1,g2,g3,g4,g5⟩:=h
  exact ⟨v,h1,a,c,g1,g2,g3,g4,fun hn=>by obtain ⟨g,q,cs,e1,e2,e3⟩:=g5 hn;exact ⟨g,q,cs,e1,hA g e2,e3⟩⟩
 case fv f l m=>
  obtain ⟨us,vs,e,h1,h2⟩:=h
  simp only [Cl.lt] at hx
  split at hx
  ·rename_i hl
   exact ⟨us,vs,e,h1.names he hA hl,h2.names he hA hx⟩
  ·cases hx
 case bb l=>
  obtain ⟨a,c,h1,h2,h3,h4,h5⟩:=h
  refine ⟨a,c,h1,h2,h3,h4,fun hn=> ?_⟩
  obtain ⟨g,q,us,e,e2,hr,hlen,hall⟩:=h5 hn
  exact ⟨g,q,us,e,hA g e2,hr,hlen,fun i hi hi'=>eG.cast (k:= .u8) (q:= .u8) (show fO .u8 .u8 l[i] l[i] from rfl) hA (hall i hi hi')⟩
 case pbb l=>
  obtain ⟨g,q,v,h1,h2,h3,h4⟩:=h
  exact ⟨g,q,v,h1,hA g h2,h3,eG.cast (k:= .u8) (q:= .u8) (show fO .u8 .u8 l l from rfl) hA h4⟩
 case ln=>exact h
 case mp v f=>exact ⟨h.1,h.2.mono hA⟩
 case rv v l=>exact ⟨h.1,eG.cast (k:= .u8) (q:= .u8) (show fO .u8 .u8 l l from rfl) hA h.2⟩
theorem aO.names (he:∀b,b<n→η' b=η b) (hA:∀g,A g→A' g):∀ {l:List Cl},b_ n l=true→∀ {cs:List Value},aO η A w l cs→aO η' A' w l cs
 | [],_,_,h=>h
 |_::_,hl,_,⟨h,t,e,hx,hr⟩=>by
  obtain ⟨h1,h2⟩:=iY hl
  exact ⟨h,t,e,hx.names he hA h1,hr.names he hA h2⟩
theorem l7 {x:AV} {l:List AV} (h:fc n (x::l)=true):x.lt n=true∧fc n l=true:=by
 cases x with
 |one x=>
  unfold fc at h
  cases e:x.lt n with
  |false=>rw [e] at h;cases h
  |true=>rw [e] at h;exact ⟨e,h⟩
 |agg q=>
  unfold fc at h
  cases e:b_ n q with
  |false=>rw [e] at h;cases h
  |true=>rw [e] at h;exact ⟨e,h⟩
theorem AV.H.names (he:∀b,b<n→η' b=η b) (hA:∀g,A g→A' g) {x:AV} (hx:x.lt n=true) {v:Value} (h:x.H η A w v):x.H η' A' w v:=by
 cases x with
 |one x=>exact Cl.H.names he hA hx h
 |agg l=>obtain ⟨cs,e,h,h1⟩:=h;exact ⟨cs,e,h.names he hA hx,h1⟩
theorem bp.names (he:∀b,b<n→η' b=η b) (hA:∀g,A g→A' g):∀ {l:List AV},fc n l=true→∀ {vs:List Value},bp η A w l vs→bp η' A' w l vs
 | [],_,_,h=>h
 |_::_,hl,_,⟨v,t,e,hx,hr⟩=>by
  obtain ⟨h1,h2⟩:=l7 hl
  exact ⟨v,t,e,hx.names he hA h1,hr.names he hA h2⟩
theorem bF.names (he:∀b,b<n→η' b=η b) (hA:∀g,A g→A' g):∀ {l:List AV},fc n l=true→∀ {v:Value},bF η A w l v→bF η' A' w l v
 | [],_,_,_=>trivial
 | [_],hl,_,h=>AV.H.names he hA (l7 hl).1 h
 |_::_::_,hl,_,⟨vs,e,h⟩=>⟨vs,e,h.names he hA hl⟩
theorem vW:∀ {l:List (Nat×Nat×List AV)},vV n l=true→∀t,fc n (bG l t)=true
 | [],_,_=>rfl
 |(u,v,a)::r,h,t=>by
  unfold vV at h
  cases e:fc n a with
  |false=>rw [e] at h;cases h
  |true=>
   rw [e] at h
   unfold bG
   cases e2:Nat.beq u t with
   |true=>exact e
   |false=>exact vW h t
theorem gF:∀ {l:List (Nat×Nat×Ch)},mR n l=true→∀ {b:Nat} {c:Ch},aH l b=some c→b<n∧(∀E q,c= .blk E q→b_ n q=true)∧0<bz l b∧bz l b<n∧cC b=false
 | [],_,_,_,h=>by cases h
 |(u,v,a)::r,h,b,c,hb=>by
  unfold mR at h
  cases e1:Nat.blt u n<;>cases e2:Nat.blt v n<;>cases e3:Nat.blt 0 v<;>cases e6:cC u<;>rw [e1,e2,e3,e6] at h<;>first |(cases h;done)|skip
  simp only at h
  have hr:mR n r=true∧∀E q,a= .blk E q→b_ n q=true:=by
   cases a with
   |row E k l=>exact ⟨h,fun _ _ h=>(by cases h)⟩
   |blk E l=>
    simp only at h
    cases e4:b_ n l with
    |false=>rw [e4] at h;cases h
    |true=>rw [e4] at h;exact ⟨h,fun _ _ h=>(by cases h;exact e4)⟩
  unfold aH at hb
  unfold bz
  cases e5:Nat.beq u b with
  |true=>
   rw [e5] at hb
   simp only [Option.some.injEq] at hb
   subst hb
   have:=aL e5
   subst this
   exact ⟨by simpa using e1,hr.2,by simpa using e3,by simpa using e2,e6⟩
  |false=>rw [e5] at hb;exact gF hr.1 hb
theorem Ch.H.names (he:∀b,b<n→η' b=η b) (hA:∀g,A g→A' g) {b:Nat} (hb:b<n) {c:Ch} (hc:∀E q,c= .blk E q→b_ n q=true) (h:c.H η A w b):c.H η' A' w b:=by
 cases c with
 |blk E l=>obtain ⟨g,cs,h1,h2,h3,h4⟩:=h;exact ⟨g,cs,by rw [he b hb];exact h1,h2,h3.names he hA (hc _ _ rfl),h4⟩
 |row E k l=>obtain ⟨v,cs,h1,h2⟩:=h;exact ⟨v,cs,by rw [he b hb];exact h1,h2⟩
end
theorem eM {b:Nat} (h:cC b=true):b<1000:=by simpa [cC] using h
def bZ (nx:Nat) (τ:cV) (η:aY):aY:=fun b=>if b<nx then η b else if b<nx+1000 then (match bm τ.m (b-nx) with |some (some a)=>η a|some none=>some (.slice none 0 0)|none=>none) else none
theorem cX {nx:Nat} {τ:cV} {η:aY} {b:Nat} (h:b<nx):bZ nx τ η b=η b:=by simp [bZ,h]
theorem cB {nx:Nat} {τ:cV} {η:aY} {b:Nat} (h:b<1000):bZ nx τ η (nx+b)=(match bm τ.m b with |some (some a)=>η a|some none=>some (.slice none 0 0)|none=>none):=by
 unfold bZ
 rw [if_neg (by omega),if_pos (by omega),show nx+b-nx=b by omega]
theorem Tz {S':AS} {N nx:Nat} {η:aY} {a:Act} {w:World} (hS:eH (bG S'.sl) (aH S'.hp) N η a w) {sl0:List (Nat×Nat×List AV)} {hp0:List (Nat×Nat×Ch)} {I:Inv} {kp:Nat→Bool} {τ:cV} (hnx:1000≤nx)
  (hI:∀η' A',iJ nx kp η (ay (aH S'.hp) η) τ η' A'→(∀p∈I.sl,bF η' A' w [p.2.rn nx] (a.tmps.getD p.1 undef))∧∀p∈I.hp,wD nx (aH S'.hp) w τ p η' A') (hτ:dC (aH S'.hp) kp τ) (hIl:∀p∈I.hp,p.1<nx)
  (hd:∀b c,bm τ.m b=some (some c)→cJ c hp0=false∧cJ c I.hp=false) (hu:∀c,bg c τ.u=true→cJ c hp0=false∧cJ c I.hp=false)
  (h1:∀t,bG sl0 t= []∨bG S'.sl t=bG sl0 t) (h2:vV nx sl0=true) (h3:mR nx hp0=true) (h4:∀b c,aH hp0 b=some c→cJ b I.hp=true∨aH S'.hp b=some c)
  {sl1:List (Nat×Nat×List AV)} {hp1:List (Nat×Nat×Ch)} (e1:∀t,(∃y,(t,y)∈I.sl∧bG sl1 t= [y.rn nx])∨bG sl1 t=bG sl0 t)
  (e2:∀b c,aH hp1 b=some c→(∃p∈I.hp,b=dy nx p.1∧c=p.2.rn nx)∨(aH hp0 b=some c∧∀p∈I.hp,dy nx p.1≠b)):
  eH (bG sl1) (aH hp1) N (bZ nx τ η) a w∧∀g,ay (aH S'.hp) η g→ay (aH hp1) (bZ nx τ η) g:=by
 have hold:∀b,b<nx→bZ nx τ η b=η b:=fun b hb=>cX hb
 have hM0:∀A':Nat→Prop,(∀g,ay (aH S'.hp) η g→A' g)→(∀a g,bg a τ.u=true→bf η a=some g→A' g)→iJ nx kp η (ay (aH S'.hp) η) τ (bZ nx τ η) A':=fun A' hA hsh=>
  ⟨fun b _ hlt v hv=>by rw [hold b hlt];exact hv,fun b c hb hs=>by rw [cB (eM hb),hs],fun b hb hs=>by rw [cB (eM hb),hs],hA,hsh⟩
 have hX:=hI _ _ (hM0 (fun _=>True) (fun _ _=>trivial) (fun _ _ _ _=>trivial))
 have h5:∀b c,aH hp0 b=some c→aH S'.hp b≠none:=fun b c hb=>by
  rcases h4 b c hb with h6|h6
  ·rw [fk] at h6
   obtain ⟨p,hp,rfl⟩:=h6
   exact (hX.2 p hp).2.1 (gF h3 hb).2.2.2.2
  ·rw [h6];simp
 have href:∀b c,aH hp1 b=some c→bf (bZ nx τ η) b=none∨∃r,aH S'.hp r≠none∧bf (bZ nx τ η) b=bf η r∧((∃q,cC q=true∧b=nx+q∧bm τ.m q=some (some r))∨(r=b∧(cJ b hp0=true∨cJ b I.hp=true))):=fun b c hb=>by
  rcases e2 b c hb with ⟨p,hp,rfl,rfl⟩|⟨hb,_⟩
  ·obtain ⟨_,g1,g2⟩:=hX.2 p hp
   cases hbn:cC p.1 with
   |true=>
    obtain ⟨d,hd1,hd2⟩:=g2 hbn
    have er:dy nx p.1=nx+p.1:=by unfold dy;rw [hbn]
    rw [er]
    have eh:=cB (nx:=nx) (τ:=τ) (η:=η) (eM hbn)
    rw [hd1] at eh
    cases d with
    |none=>left;unfold bf;rw [eh];rfl
    |some r=>right;exact ⟨r,hd2 r rfl,by unfold bf;rw [eh],.inl ⟨p.1,hbn,rfl,hd1⟩⟩
   |false=>
    have er:dy nx p.1=p.1:=by unfold dy;rw [hbn]
    rw [er]
    exact .inr ⟨p.1,g1 hbn,by unfold bf;rw [hold _ (hIl p hp)],.inr ⟨rfl,.inr (by rw [fk];exact ⟨p,hp,rfl⟩)⟩⟩
  ·exact .inr ⟨b,h5 b c hb,by unfold bf;rw [hold b (gF h3 hb).1],.inr ⟨rfl,.inl (jF hb)⟩⟩
 have hanon:∀g,ay (aH S'.hp) η g→ay (aH hp1) (bZ nx τ η) g:=fun g hg b hb=>by
  cases e:aH hp1 b with
  |none=>exact absurd e hb
  |some c=>
   rcases href b c e with h|⟨r,hr,e3,_⟩
   ·rw [h];simp
   ·rw [e3];exact hg r hr
 have hshare:∀a g,bg a τ.u=true→bf η a=some g→ay (aH hp1) (bZ nx τ η) g:=fun x g hx hg b hb=>by
  cases e:aH hp1 b with
  |none=>exact absurd e hb
  |some c=>
   rcases href b c e with h|⟨r,hr,e3,h⟩
   ·rw [h];simp
   ·rw [e3]
    have hne:x≠r:=by
     rintro rfl
     rcases h with ⟨q,_,_,hq⟩|⟨rfl,hk|hk⟩
     ·rw [hτ.shut q x hq] at hx;cases hx
     ·rw [(hu x hx).1] at hk;cases hk
     ·rw [(hu x hx).2] at hk;cases hk
    exact hS.apart x r g hne (hτ.live x hx) hr hg
 have hY:=hI _ _ (hM0 _ hanon hshare)
 refine ⟨⟨hS.df,hS.sz,fun t=> ?_,fun b c hb=> ?_,fun b b' g hne hb hb' hg=> ?_⟩,hanon⟩
 ·rcases e1 t with ⟨y,h6,h7⟩|h6
  ·rw [h7];exact hY.1 (t,y) h6
  ·rw [h6]
   rcases h1 t with h7|h7
   ·rw [h7];trivial
   ·have:=hS.slot t
    rw [h7] at this
    exact this.names hold hanon (vW h2 t)
 ·rcases e2 b c hb with ⟨p,hp,rfl,rfl⟩|⟨hb,hn⟩
  ·exact (hY.2 p hp).1
  ·obtain ⟨g1,g2,_,_,g5⟩:=gF h3 hb
   rcases h4 b c hb with h6|h6
   ·rw [fk] at h6
    obtain ⟨p,hp,rfl⟩:=h6
    exact absurd (by unfold dy;rw [g5]) (hn p hp)
   ·exact (hS.chunk b c h6).names hold hanon g1 g2
 ·cases e:aH hp1 b with
  |none=>exact absurd e hb
  |some c=>
   cases e':aH hp1 b' with
   |none=>exact absurd e' hb'
   |some c'=>
    rcases href b c e with h|⟨r,hr,e3,h⟩
    ·rw [h] at hg;cases hg
    ·rcases href b' c' e' with h'|⟨r',hr',e3',h'⟩
     ·rw [h'];simp
     ·rw [e3']
      rw [e3] at hg
      refine hS.apart r r' g ?_ hr hr' hg
      rintro rfl
      rcases h with ⟨q,hq,rfl,hs⟩|⟨rfl,hk⟩
      ·rcases h' with ⟨q',hq',rfl,hs'⟩|⟨rfl,hk'⟩
       ·exact hne (by rw [hτ.inj q q' r hs hs'])
       ·obtain ⟨d1,d2⟩:=hd q r hs
        rcases hk' with hk'|hk'
        ·rw [d1] at hk';cases hk'
        ·rw [d2] at hk';cases hk'
      ·rcases h' with ⟨q',hq',rfl,hs'⟩|⟨h9,hk'⟩
       ·obtain ⟨d1,d2⟩:=hd q' r hs'
        rcases hk with hk|hk
        ·rw [d1] at hk;cases hk
        ·rw [d2] at hk;cases hk
       ·exact hne h9
section
variable {sl:Nat→List AV} {hp:Nat→Option Ch}
theorem fy {α:Type} {t:Nat} {k:List AV→R α} {ds:List Bool} {a:α} {rd:List cu} {qs:List (Bool×Bool)} (h:(R.slot t k).run sl hp ds= .ok a rd qs):∃rd',(k (sl t)).run sl hp ds= .ok a rd' qs:=by
 unfold R.run at h
 cases e:(k (sl t)).run sl hp ds with
 |ok a' r' q'=>rw [e] at h;simp only [RR.rd,RR.ok.injEq] at h;obtain ⟨rfl,_,rfl⟩:=h;exact ⟨r',rfl⟩
 |need p=>rw [e] at h;cases h
 |fail=>rw [e] at h;cases h
theorem bl {α:Type} {b:Nat} {k:Option Ch→R α} {ds:List Bool} {a:α} {rd:List cu} {qs:List (Bool×Bool)} (h:(R.hp b k).run sl hp ds= .ok a rd qs):∃rd',(k (hp b)).run sl hp ds= .ok a rd' qs:=by
 unfold R.run at h
 cases e:(k (hp b)).run sl hp ds with
 |ok a' r' q'=>rw [e] at h;simp only [RR.rd,RR.ok.injEq] at h;obtain ⟨rfl,_,rfl⟩:=h;exact ⟨r',rfl⟩
 |need p=>rw [e] at h;cases h
 |fail=>rw [e] at h;cases h
theorem Bl {α:Type} {p:Bool} {k:Bool→R α} {ds:List Bool} {a:α} {rd:List cu} {qs:List (Bool×Bool)} (h:(R.dec p k).run sl hp ds= .ok a rd qs):∃d ds' qs',qs=(p,d)::qs'∧(k d).run sl hp ds'= .ok a rd qs':=by
 cases ds with
 |nil=>cases h
 |cons d ds=>
  unfold R.run at h
  cases e:(k d).run sl hp ds with
  |ok a' r' q'=>rw [e] at h;simp only [RR.asm,RR.ok.injEq] at h;obtain ⟨rfl,rfl,rfl⟩:=h;exact ⟨d,ds,q',rfl,e⟩
  |need p=>rw [e] at h;cases h
  |fail=>rw [e] at h;cases h
theorem xa {v:Value} {x:Cl} (h:tQ v=some x) {η:aY} {A:Nat→Prop} {w:World}:x.H η A w [v]∧v.oneCell'=true:=by
 unfold tQ at h
 cases v
 case int k z=>
  cases k<;>simp only at h<;>first |(cases h;done)|skip
  ·cases h;exact ⟨⟨rfl,rfl⟩,rfl⟩
  all_goals
   cases z with
   |negSucc _=>cases h
   |ofNat n=>
    simp only at h
    split at h
    ·rename_i hn
     simp only [Nat.blt_eq] at hn
     cases h
     refine ⟨?_,rfl⟩
     simp only [Cl.H,Kd.rp,vC,UInt8.toNat_ofNat',UInt16.toNat_ofNat',UInt32.toNat_ofNat',UInt64.toNat_ofNat']
     rw [Nat.mod_eq_of_lt hn];rfl
    ·cases h
 case bool b=>cases h;exact ⟨⟨rfl,rfl⟩,rfl⟩
 case string s=>cases h;exact ⟨rfl,rfl⟩
 case pointer a=>cases a<;>simp only at h<;>cases h;exact ⟨⟨rfl,rfl⟩,rfl⟩
 case slice a n c=>
  split at h<;>first |(cases h;done)|skip
  all_goals first |(cases h;exact ⟨⟨rfl,rfl⟩,rfl⟩)|(rename_i he;cases he;done)|(rename_i he;cases he;cases h;exact ⟨⟨rfl,rfl⟩,rfl⟩)
 case map r=>cases r<;>simp only at h<;>cases h;exact ⟨⟨rfl,rfl⟩,rfl⟩
 case nilFunc=>cases h;exact ⟨⟨rfl,rfl⟩,rfl⟩
 all_goals cases h
theorem qt {η:aY} {A:Nat→Prop} {w:World}:∀ {vs:List Value} {l:List Cl},mf vs=some l→aO η A w l vs∧∀v∈vs,v.oneCell'=true
 | [],l,h=>by cases h;exact ⟨rfl,fun _ h=>(by cases h)⟩
 |v::r,l,h=>by
  unfold mf at h
  cases e:tQ v with
  |none=>rw [e] at h;cases h
  |some x=>
   rw [e] at h
   simp only at h
   cases e2:mf r with
   |none=>rw [e2] at h;cases h
   |some l'=>
    rw [e2] at h;cases h
    obtain ⟨g1,g2⟩:=qt (η:=η) (A:=A) (w:=w) e2
    refine ⟨⟨[v],r,rfl,(xa e).1,g1⟩,fun u hu=> ?_⟩
    rcases List.mem_cons.1 hu with rfl|hu
    ·exact (xa (η:=η) (A:=A) (w:=w) e).2
    ·exact g2 u hu
theorem bc {α:Type} {x:Operand} {k:AV→R α} {ds:List Bool} {r:α} {rd:List cu} {qs:List (Bool×Bool)} (h:(db x k).run sl hp ds= .ok r rd qs) {η:aY} {A:Nat→Prop} {w:World} {a:Act} (hs:∀t,bF η A w (sl t) (a.tmps.getD t undef)):
  ∃av rd',(k av).run sl hp ds= .ok r rd' qs∧av.H η A w (a.eval x):=by
 cases x with
 |tmp t=>
  obtain ⟨rd',h⟩:=fy (show (R.slot t _).run sl hp ds=_ from h)
  have h1:=hs t
  split at h
  ·rename_i av e
   rw [e] at h1
   exact ⟨av,rd',h,h1⟩
  ·cases h
 |const v=>
  unfold db at h
  simp only at h
  split at h
  ·rename_i cs
   split at h
   ·rename_i l e
    exact ⟨_,rd,h,cs.toList,by simp [Act.eval],(qt e).1,(qt (η:=η) (A:=A) (w:=w) e).2⟩
   ·cases h
  ·split at h
   ·rename_i a e
    exact ⟨_,rd,h,(xa e).1⟩
   ·cases h
 |global g=>cases h
 |func f=>exact ⟨_,rd,h,[],[],rfl,rfl,rfl⟩
end
section
variable {ty:Nat→TE} {ct:Nat→Option CF} {N:Nat}
theorem eT (hm:Tryz.prog.follows .mixedOrders=true) (hO:ap ty ct) {id:Nat} {ops:Array Oper} {dr:Bool} {S:AS} {K:KK}:∀(m:Nat) (ds:List (Nat×Bool)),
  wg ty ct N (.region id ops dr) ops.toList dr S K m ds→Es N (.region id ops dr) S K
 |0,_,h=>h
 |m+1,ds,h=>by
  unfold wg at h
  rw [J2] at h
  cases e:cN ty ct ops.toList ds 0 ops.toList S.sl S.hp S.nx with
  |fail=>rw [e] at h;exact h
  |need i p=>
   rw [e] at h
   cases p with
   |true=>exact eT hm hO m _ (h.1 rfl)
   |false=>exact eT hm hO m _ (h.2 rfl)
  |ok rs S'=>
   rw [e] at h
   simp only at h
   split at h
   ·rename_i h1 h2 h3
    exact CO hm hO e (fun hd=>by subst hd;exact h1) h2 h3 h
   ·exact h
theorem mh (w:List Nat):∀l:List (Nat×Nat×List AV),∃l',(∀ {α:Type} (k:List (Nat×Nat×List AV)→α),oU w l k=k l')∧∀t,bG l' t=if bg t w=true then [] else bG l t
 | []=>⟨[],fun _=>rfl,fun t=>by simp [bG]⟩
 |(u,v,a)::r=>by
  obtain ⟨l',h1,h2⟩:=mh w r
  cases e:bg u w with
  |true=>
   refine ⟨l',fun k=>by simp only [oU,e];exact h1 k,fun t=> ?_⟩
   rw [h2 t];simp only [bG]
   cases e2:Nat.beq u t with
   |true=>have:=aL e2;subst this;simp [e]
   |false=>rfl
  |false=>
   refine ⟨(u,v,a)::l',fun k=>by simp only [oU,e];exact h1 _,fun t=> ?_⟩
   simp only [bG]
   cases e2:Nat.beq u t with
   |true=>have:=aL e2;subst this;simp [e]
   |false=>exact h2 t
theorem mg (σ:cV):∀l:List (Nat×Nat×Ch),∃l',(∀ {α:Type} (k:List (Nat×Nat×Ch)→α),kT σ l k=k l')∧(∀b c,aH l' b=some c→aH l b=some c∧bz l' b=bz l b)∧∀b,cJ b l'=true→cU σ.m b=false∧bg b σ.u=false
 | []=>⟨[],fun _=>rfl,fun _ _ h=>(by cases h),fun _ h=>(by cases h)⟩
 |(u,v,a)::r=>by
  obtain ⟨l',h1,h2,h3⟩:=mg σ r
  have hskip:cU σ.m u=true∨bg u σ.u=true→(∀b c,aH l' b=some c→aH ((u,v,a)::r) b=some c∧bz l' b=bz ((u,v,a)::r) b):=fun hu b c hb=>by
   have hk:=h3 b (jF hb)
   have hne:Nat.beq u b=false:=by
    cases e:Nat.beq u b with
    |false=>rfl
    |true=>
     have:=aL e;subst this
     rcases hu with hu|hu
     ·rw [hk.1] at hu;cases hu
     ·rw [hk.2] at hu;cases hu
   simp only [aH,bz,hne]
   exact h2 b c hb
  cases e:cU σ.m u with
  |true=>exact ⟨l',fun k=>by simp only [kT,e];exact h1 k,hskip (.inl e),h3⟩
  |false=>
   cases e2:bg u σ.u with
   |true=>exact ⟨l',fun k=>by simp only [kT,e,e2];exact h1 k,hskip (.inr e2),h3⟩
   |false=>
    refine ⟨(u,v,a)::l',fun k=>by simp only [kT,e,e2];exact h1 _,fun b c hb=> ?_,fun b hb=> ?_⟩
    ·simp only [aH,bz] at hb ⊢
     cases e3:Nat.beq u b with
     |true=>rw [e3] at hb;exact ⟨hb,rfl⟩
     |false=>rw [e3] at hb;exact h2 b c hb
    ·simp only [cJ] at hb
     cases e3:Nat.beq u b with
     |true=>have:=aL e3;subst this;exact ⟨e,e2⟩
     |false=>rw [e3] at hb;exact h3 b hb
theorem gP {I:List (Nat×Ch)} {hp:List (Nat×Nat×Ch)}:∀ {l:List (Nat×Nat×Ch)} {k:Prop},gO I hp l k→(∀b c,aH l b=some c→cJ b I=true∨bz hp b=bz l b)∧k
 | [],k,h=>⟨fun _ _ h=>(by cases h),h⟩
 |(u,v,a)::r,k,h=>by
  unfold gO at h
  have hh:(cJ u I=true∨bz hp u=v)∧gO I hp r k:=by
   cases e:cJ u I with
   |true=>rw [e] at h;exact ⟨.inl rfl,h⟩
   |false=>
    rw [e] at h
    simp only at h
    cases e2:Nat.beq (bz hp u) v with
    |true=>rw [e2] at h;exact ⟨.inr (aL e2),h⟩
    |false=>rw [e2] at h;exact h.elim
  obtain ⟨h1,h2⟩:=gP hh.2
  refine ⟨fun b c hb=> ?_,h2⟩
  simp only [aH,bz] at hb ⊢
  cases e3:Nat.beq u b with
  |true=>have:=aL e3;subst this;exact hh.1
  |false=>rw [e3] at hb;exact h1 b c hb
theorem AD {n:Nat}:∀ {I:List (Nat×Ch)},B7 n I=true→∀p∈I,p.1<n
 | [],_,_,hp=>by cases hp
 |(b,c)::r,h,p,hp=>by
  unfold B7 at h
  cases e:Nat.blt b n with
  |false=>rw [e] at h;cases h
  |true=>
   rw [e] at h
   have hr:B7 n r=true:=by
    cases c with
    |row E k l=>exact h
    |blk E l=>
     simp only at h
     cases e2:b_ n l with
     |false=>rw [e2] at h;cases h
     |true=>rw [e2] at h;exact h
   rcases List.mem_cons.1 hp with rfl|hp
   ·simpa using e
   ·exact AD hr p hp
theorem jH {S:AS} {nx:Nat} {η:aY} {a:Act} {w:World} (hS:eH (bG S.sl) (aH S.hp) N η a w) {I:Inv} {hp0:List (Nat×Nat×Ch)} {W:List Nat} {k:cV→Prop} (h:gN S nx W I hp0 k):
  ∃τ,dC (aH S.hp) (iE I.hp hp0) τ∧k τ∧(∀p∈I.hp,p.1<nx)∧i_ W I.sl=true∧∀η' A',iJ nx (iE I.hp hp0) η (ay (aH S.hp) η) τ η' A'→(∀p∈I.sl,bF η' A' w [p.2.rn nx] (a.tmps.getD p.1 undef))∧∀p∈I.hp,wD nx (aH S.hp) w τ p η' A':=by
 unfold gN at h
 cases e1:vU nx I.sl with
 |false=>rw [e1] at h;exact h.elim
 |true=>
  cases e2:B7 nx I.hp with
  |false=>rw [e1,e2] at h;exact h.elim
  |true=>
   cases e3:i_ W I.sl with
   |false=>rw [e1,e2,e3] at h;exact h.elim
   |true=>
   rw [e1,e2,e3] at h
   obtain ⟨τ1,g1,g2,g3,g4⟩:=AW (nx:=nx) hS.chunk hS.slot e1 (dC.nil _ _) h
   obtain ⟨τ,h1,h2,h3,h4⟩:=lI hS.chunk e2 g2 g3
   exact ⟨τ,h2,h3,AD e2,rfl,fun η' A' hM=>⟨g4 τ h1 η' A' hM,h4 τ (dR.refl _) η' A' hM⟩⟩
end
section
variable {ty:Nat→TE} {ct:Nat→Option CF} {N:Nat}
theorem mZ {w:List Nat}:∀ {I:List (Nat×AV)},i_ w I=true→∀ {t:Nat} {y:AV},(t,y)∈I→bg t w=true
 | [],_,_,_,h=>by cases h
 |(u,a)::r,h,t,y,hm=>by
  unfold i_ at h
  cases e:bg u w with
  |false=>rw [e] at h;cases h
  |true=>
   rw [e] at h
   rcases List.mem_cons.1 hm with h1|h1
   ·cases h1;exact e
   ·exact mZ h h1
theorem pN {b:Nat}:∀ {l:List (Nat×Nat×Ch)},aH l b=none→bz l b=0
 | [],_=>rfl
 |(u,v,a)::r,h=>by
  unfold aH at h
  unfold bz
  cases e:Nat.beq u b with
  |true=>rw [e] at h;cases h
  |false=>rw [e] at h;exact pN h
theorem dj {I:List (Nat×Ch)} {hp:List (Nat×Nat×Ch)} {b:Nat} (h:iE I hp b=false):cJ b I=false∧cJ b hp=false:=by
 unfold iE at h
 cases e:cJ b I with
 |true=>rw [e] at h;cases h
 |false=>rw [e] at h;exact ⟨rfl,h⟩
theorem yH {c:Code} (ih:∀S K,vc ty ct N c S K→Es N c S K) {S:AS} {K:KK} (h:Ic (cM c) S (vc ty ct N c) K):Es N (.loop c) S K:=by
 intro η a w ⟨hS,hfree⟩
 obtain ⟨ι,I,μ,i0,h⟩:=h
 obtain ⟨τ0,hτ0,h,hIl0,hk0,hX0⟩:=jH hS h
 obtain ⟨sl0,d1,d2⟩:=mh (cM c) S.sl
 obtain ⟨hp0,d3,d4,d5⟩:=mg τ0 S.hp
 rw [d1,d3] at h
 split at h
 rotate_left
 ·exact h.elim
 rename_i g1 g2 g3
 have hnx:1000≤S.nx:=by simpa using g3
 let slT:ι→List (Nat×Nat×List AV):=fun i=>kK S.nx (I i).sl sl0 id
 let hpT:ι→List (Nat×Nat×Ch):=fun i=>pz S.nx (I i).hp hp0 id
 have hsl:∀i,(∀ {α:Type} (k:List (Nat×Nat×List AV)→α),kK S.nx (I i).sl sl0 k=k (slT i))∧∀t,(∃y,(t,y)∈(I i).sl∧bG (slT i) t= [y.rn S.nx])∨bG (slT i) t=bG sl0 t:=fun i=>by
  obtain ⟨l,h1,h2⟩:=k8 S.nx (I i).sl sl0
  have e:slT i=l:=h1 id
  rw [e];exact ⟨h1,h2⟩
 have hhp:∀i,(∀ {α:Type} (k:List (Nat×Nat×Ch)→α),pz S.nx (I i).hp hp0 k=k (hpT i))∧(∀b c,aH (hpT i) b=some c→(∃p∈(I i).hp,b=dy S.nx p.1∧c=p.2.rn S.nx)∨(aH hp0 b=some c∧∀p∈(I i).hp,dy S.nx p.1≠b))∧iC S.nx hp0 (hpT i):=fun i=>by
  obtain ⟨l,h1,h2,_,h4⟩:=nC S.nx (I i).hp hp0
  have e:hpT i=l:=h1 id
  rw [e];exact ⟨h1,h2,h4⟩
 have hT:∀i,tb S ⟨slT i,hpT i,S.nx+1000⟩:=fun i=>⟨Nat.le_add_right _ _,fun b=>by
  have hb:=(hhp i).2.2 b
  cases e:aH hp0 b with
  |none=>
   rcases hb with ⟨h1,h2⟩|hb|hb
   ·exact .inr (.inr (by show bz (hpT i) b=0;rw [h1];exact pN e))
   ·exact .inr (.inl hb)
   ·exact .inr (.inr hb)
  |some c=>
   obtain ⟨e1,e2⟩:=d4 b c e
   rcases hb with ⟨h1,h2⟩|hb|hb
   ·exact .inl ⟨by show bz (hpT i) b=_;rw [h1,e2],by show aH (hpT i) b=_;rw [h2,e,e1]⟩
   ·exact .inr (.inl hb)
   ·exact .inr (.inr hb)⟩
 let J:ι→Act→World→Prop:=fun i a' w'=>i_ (cM c) (I i).sl=true∧∃η',eH (bG (slT i)) (aH (hpT i)) N η' a' w'∧(∀b,S.nx+1000≤b→η' b=none)∧Fw (aH S.hp) η w (aH (hpT i)) η' w'∧∀b,b<S.nx→η' b=η b
 have hlt:∀b v,η b=some v→b<S.nx:=fun b v hv=>by
  rcases Nat.lt_or_ge b S.nx with h1|h1
  ·exact h1
  ·rw [hfree b h1] at hv;cases hv
 have hhead:∀(τ:cV) (η':aY) (b:Nat),S.nx+1000≤b→bZ S.nx τ η' b=none:=fun τ η' b hb=>by
  unfold bZ;rw [if_neg (by omega),if_neg (by omega)]
 refine DF J μ i0 ⟨hk0,bZ S.nx τ0 η,?_⟩ ?_
 ·obtain ⟨q1,q2⟩:=Tz (kp:=iE (I i0).hp []) (τ:=τ0) (sl1:=slT i0) (hp1:=hpT i0) hS hnx hX0 hτ0 hIl0
   (fun b c hb=>by
    refine ⟨?_,(dj (hτ0.kept b c hb)).1⟩
    cases e:cJ c hp0 with
    |false=>rfl
    |true=>have:=(d5 c e).1;rw [hτ0.used b c hb] at this;cases this)
   (fun c hc=>by
    refine ⟨?_,(dj (hτ0.ukept c hc)).1⟩
    cases e:cJ c hp0 with
    |false=>rfl
    |true=>have:=(d5 c e).2;rw [hc] at this;cases this)
   (fun t=>by
    rw [d2 t];split
    ·exact .inl rfl
    ·exact .inr rfl) g1 g2 (fun b c hb=> .inr (d4 b c hb).1) (hsl i0).2 (hhp i0).2.1
  exact ⟨q1,hhead _ _,⟨rfl,rfl,rfl,Nat.le_refl _,fun b v hv=>by rw [cX (hlt b v hv)];exact hv,fun g _ hg=>⟨rfl,q2 g hg⟩⟩,fun b hb=>cX hb⟩
 ·rintro i a1 w1 ⟨hki,η1,hS1,hf1,hF1,hE1⟩
  have hv:=h i
  unfold over at hv
  rw [bD] at hv
  rw [(hsl i).1,(hhp i).1,bD] at hv
  have hw:=ih _ _ hv η1 a1 w1 ⟨hS1,hf1⟩
  have hslK:∀t,bg t (cM c)=false→bG (slT i) t=bG S.sl t:=fun t ht=>by
   rcases (hsl i).2 t with ⟨y,h1,_⟩|h1
   ·rw [mZ hki h1] at ht;cases ht
   ·rw [h1,d2 t,if_neg (by rw [ht];simp)]
  refine wp_mono hw fun e a2 w2 hP=> ?_
  obtain ⟨e',S',η2,x1,x2,⟨hS2,hf2⟩,hF2,hH2,hE2,hT2⟩:=hP
  have hother:e'≠ .normal→K e' S'→gw N (cM (.loop c)) S η w K e a2 w2:=fun _ hK=>
   ⟨e',S',η2,x1,hK,⟨hS2,hf2⟩,hF1.trans hF2,(hT i).trans hH2,fun b hb=>(hE2 b (by show b<S.nx+1000;omega)).trans (hE1 b hb),fun t ht=>(hT2 t ht).trans (hslK t ht)⟩
  cases e with
  |normal=>
   simp only [kh,Option.some.injEq] at x1
   subst x1
   obtain ⟨j,hj,x2⟩:=x2
   obtain ⟨τ,hτ,x2,hIl,hkj,hX⟩:=jH hS2 x2
   obtain ⟨hr,_⟩:=gP x2
   obtain ⟨q1,q2⟩:=Tz (kp:=iE (I j).hp hp0) (τ:=τ) (sl1:=slT j) (hp1:=hpT j) hS2 hnx hX hτ hIl
    (fun b c hb=>⟨(dj (hτ.kept b c hb)).2,(dj (hτ.kept b c hb)).1⟩)
    (fun c hc=>⟨(dj (hτ.ukept c hc)).2,(dj (hτ.ukept c hc)).1⟩)
    (fun t=>by
     rw [d2 t]
     cases ht:bg t (cM c) with
     |true=>left;simp
     |false=>right;rw [hT2 t ht];simp only [Bool.false_eq_true,if_false];exact hslK t ht) g1 g2
    (fun b c hb=>by
     rcases hr b c hb with h1|h1
     ·exact .inl h1
     ·obtain ⟨_,_,h3,h4,_⟩:=gF g2 hb
      right
      rcases hH2.2 b with ⟨h5,h6⟩|h5|h5
      ·rw [h6]
       have h5':bz (hpT i) b=bz hp0 b:=h5.symm.trans h1
       rcases (hhp i).2.2 b with ⟨_,h7⟩|h7|h7
       ·exact h7.trans hb
       ·omega
       ·omega
      ·have:S.nx+1000≤bz S'.hp b:=h5
       omega
      ·omega) (hsl j).2 (hhp j).2.1
   have hF:=hF1.trans hF2
   refine ⟨j,hj,hkj,bZ S.nx τ η2,q1,hhead _ _,⟨hF.os,hF.tape,hF.output,hF.size,fun b v hv=> ?_,fun g hg hA=> ?_⟩,fun b hb=> ?_⟩
   ·rw [cX (hlt b v hv)];exact hF.env b v hv
   ·obtain ⟨z1,z2⟩:=hF.anon g hg hA
    exact ⟨z1,q2 g z2⟩
   ·rw [cX hb];exact (hE2 b (by show b<S.nx+1000;omega)).trans (hE1 b hb)
  |exit id=>
   simp only [kh,Option.some.injEq] at x1
   subst x1
   exact hother (by simp) x2
  |ret=>
   simp only [kh,Option.some.injEq] at x1
   subst x1
   exact hother (by simp) x2
  |goto l=>cases x1
  |panic ch=>cases x1
  |outgrown=>cases x1
theorem nI {c:Code} (ih:∀S K,vc ty ct N c S K→Es N c S K) {K:KK} {S0:AS} {η0:aY} {w0:World}:∀(m:Nat) (S:AS),zL (vc ty ct N c) K m S→∀η a w,pX N S η a w→Fw (aH S0.hp) η0 w0 (aH S.hp) η w→tb S0 S→(∀b,b<S0.nx→η b=η0 b)→(∀t,bg t (cM c)=false→bG S.sl t=bG S0.sl t)→
  wK Tryz.prog c (gw N (cM (.loop c)) S0 η0 w0 K) m a w
 |0,_,h,_,_,_,_,_,_,_,_=>h
 |m+1,S,h,η,a,w,hS,hF,hH,hE,hT=>by
  refine wp_mono (ih _ _ h η a w hS) fun e a' w' hP=> ?_
  obtain ⟨e',S',η',x1,x2,hS',hF',hH',hE',hT'⟩:=hP
  have hother:K e' S'→gw N (cM (.loop c)) S0 η0 w0 K e a' w':=fun hK=>
   ⟨e',S',η',x1,hK,hS',hF.trans hF',hH.trans hH',fun b hb=>(hE' b (Nat.lt_of_lt_of_le hb hH.1)).trans (hE b hb),fun t ht=>(hT' t ht).trans (hT t ht)⟩
  cases e with
  |normal=>
   simp only [kh,Option.some.injEq] at x1
   subst x1
   exact nI ih m S' x2 η' a' w' hS' (hF.trans hF') (hH.trans hH') (fun b hb=>(hE' b (Nat.lt_of_lt_of_le hb hH.1)).trans (hE b hb)) (fun t ht=>(hT' t ht).trans (hT t ht))
  |exit id=>
   simp only [kh,Option.some.injEq] at x1
   subst x1
   exact hother x2
  |ret=>
   simp only [kh,Option.some.injEq] at x1
   subst x1
   exact hother x2
  |goto l=>cases x1
  |panic ch=>cases x1
  |outgrown=>cases x1
theorem qq {c:Operand} {S:AS} {r:Option Bool×Bool} {rd:List cu} {qs:List (Bool×Bool)} (h:(EK c).run (bG S.sl) (aH S.hp) []= .ok r rd qs) {η:aY} {a:Act} {w:World} (hS:pX N S η a w):
  a.eval c= .bool (r.1.getD r.2):=by
 obtain ⟨av,rd',h,hv⟩:=bc h hS.1.slot
 split at h
 ·rename_i v
  simp only [R.run,RR.ok.injEq] at h
  obtain ⟨rfl,_⟩:=h
  have:=hv.1
  simpa using this
 ·rename_i p
  simp only [R.run,RR.ok.injEq] at h
  obtain ⟨rfl,_⟩:=h
  have: [a.eval c]= [Value.bool p]:=hv
  simpa using this
 ·cases h
theorem nR (hm:Tryz.prog.follows .mixedOrders=true) (hO:ap ty ct):∀(c:Code) (S:AS) (K:KK),vc ty ct N c S K→Es N c S K:=by
 intro c
 induction c with
 |skip=>exact fun S K h η a w hS=>wp_skip ⟨.normal,S,η,rfl,h,hS,Fw.refl _ _ _,tb.refl _,fun _ _=>rfl,fun _ _=>rfl⟩
 |label l=>exact fun S K h η a w hS=>wp_label ⟨.normal,S,η,rfl,h,hS,Fw.refl _ _ _,tb.refl _,fun _ _=>rfl,fun _ _=>rfl⟩
 |exit id=>exact fun S K h η a w hS=>wp_exit ⟨.exit id,S,η,rfl,h,hS,Fw.refl _ _ _,tb.refl _,fun _ _=>rfl,fun _ _=>rfl⟩
 |ret=>exact fun S K h η a w hS=>wp_ret ⟨.ret,S,η,rfl,h,hS,Fw.refl _ _ _,tb.refl _,fun _ _=>rfl,fun _ _=>rfl⟩
 |region id ops dr=>exact fun S K h=>eT hm hO 12 [] h
 |seq a b iha ihb=>
  intro S K h η ac w hS
  refine wp_seq (wp_mono (iha S _ h η ac w hS) fun e a' w' hP=> ?_)
  obtain ⟨e',S',η',x1,x2,hS',hF',hH',hE',hT'⟩:=hP
  have hsub:∀t,bg t (cM (.seq a b))=false→bg t (cM a)=false∧bg t (cM b)=false:=fun t ht=>uH ht
  have hother:K e' S'→gw N (cM (.seq a b)) S η w K e a' w':=fun hK=>⟨e',S',η',x1,hK,hS',hF',hH',hE',fun t ht=>hT' t (hsub t ht).1⟩
  cases e with
  |normal=>
   simp only [kh,Option.some.injEq] at x1
   subst x1
   exact wp_mono (ihb S' K x2 η' a' w' hS') fun e a w hP=>gw.mono hF' hH' hE' (fun t ht=>hT' t (hsub t ht).1) (fun t ht=>(hsub t ht).2) (fun _ _ h=>h) hP
  |exit id=>
   simp only [kh,Option.some.injEq] at x1
   subst x1
   exact hother x2
  |ret=>
   simp only [kh,Option.some.injEq] at x1
   subst x1
   exact hother x2
  |goto l=>cases x1
  |panic ch=>cases x1
  |outgrown=>cases x1
 |cond cn a b iha ihb=>
  intro S K h
  have hsub:∀t,bg t (cM (.cond cn a b))=false→bg t (cM a)=false∧bg t (cM b)=false:=fun t ht=>uH ht
  have ha:vc ty ct N a S K→∀η ac w,pX N S η ac w→ac.eval cn= .bool true→(Code.cond cn a b).wp Tryz.prog (gw N (cM (.cond cn a b)) S η w K) ac w:=fun h η ac w hS he=>
   wp_cond_true he (wp_mono (iha S K h η ac w hS) fun e a w hP=>gw.mono (Fw.refl _ _ _) (tb.refl _) (fun _ _=>rfl) (fun _ _=>rfl) (fun t ht=>(hsub t ht).1) (fun _ _ h=>h) hP)
  have hb:vc ty ct N b S K→∀η ac w,pX N S η ac w→ac.eval cn= .bool false→(Code.cond cn a b).wp Tryz.prog (gw N (cM (.cond cn a b)) S η w K) ac w:=fun h η ac w hS he=>
   wp_cond_false he (wp_mono (ihb S K h η ac w hS) fun e a w hP=>gw.mono (Fw.refl _ _ _) (tb.refl _) (fun _ _=>rfl) (fun _ _=>rfl) (fun t ht=>(hsub t ht).2) (fun _ _ h=>h) hP)
  unfold vc at h
  split at h
  ·rename_i e
   exact fun η ac w hS=>ha h η ac w hS (qq e hS)
  ·rename_i e
   exact fun η ac w hS=>hb h η ac w hS (qq e hS)
  ·rename_i p _ _ e
   intro η ac w hS
   have he:=qq e hS
   cases p with
   |true=>exact ha (h.1 rfl) η ac w hS he
   |false=>exact hb (h.2 rfl) η ac w hS he
  ·exact h
 |block id c ih=>
  intro S K h η a w hS
  refine wp_block (wp_mono (ih S _ h η a w hS) fun e a' w' hP=> ?_)
  obtain ⟨e',S',η',x1,x2,hR⟩:=hP
  cases e with
  |normal=>
   simp only [kh,Option.some.injEq] at x1
   subst x1
   exact ⟨.normal,S',η',rfl,x2,hR⟩
  |exit j=>
   simp only [kh,Option.some.injEq] at x1
   subst x1
   simp only [Exit.inBlock]
   simp only at x2
   split at x2
   ·rename_i hj
    rw [if_pos (aL hj)]
    exact ⟨.normal,S',η',rfl,x2,hR⟩
   ·rename_i hj
    rw [if_neg (Nat.ne_of_beq_eq_false hj)]
    exact ⟨.exit j,S',η',rfl,x2,hR⟩
  |ret=>
   simp only [kh,Option.some.injEq] at x1
   subst x1
   exact ⟨.ret,S',η',rfl,x2,hR⟩
  |goto l=>cases x1
  |panic ch=>cases x1
  |outgrown=>cases x1
 |loop c ih=>
  intro S K h
  rcases h with ⟨m,h⟩|h
  ·intro η a w hS
   exact BB m (nI ih m S h η a w hS (Fw.refl _ _ _) (tb.refl _) (fun _ _=>rfl) (fun _ _=>rfl))
  ·exact yH ih h
 |_=>exact fun S K h=>h
end
def Ts:Nm→Value→Prop
 | .lit z,v=>v= .int .i64 z
 | .int z,v=>v= .int .i64 z
 | .u8 x,v=>v= .int .u8 (x.toNat:Int)
 | .u16 x,v=>v= .int .u16 (x.toNat:Int)
 | .u32 x,v=>v= .int .u32 (x.toNat:Int)
 | .u64 x,v=>v= .int .u64 (x.toNat:Int)
section
variable {η:aY} {A:Nat→Prop} {w:World}
theorem ai {u v:Value} (h: [u]= [v]):u=v:=by simpa using h
theorem a9 {a:AV} {n:Nm} (h:fQ a=some n) {v:Value} (ha:a.H η A w v):Ts n v:=by
 unfold fQ at h
 split at h<;>first |(cases h;done)|(cases h;first |exact ai ha|exact ai ha.1)
end
def aE (r:R aG) (ev:World→Result Value):Prop:=∀sl hp ds res rd qs,r.run sl hp ds= .ok res rd qs→aW res.pre→
 res.upd= []∧res.fact=none∧qs= []∧∀w,∃v,ev w= .ok v w∧∀η A,bF η A w res.out v
theorem aE.fail {ev:World→Result Value}:aE .fail ev:=fun _ _ _ _ _ _ h=>by cases h
theorem aE.one {x:Cl} {ev:World→Result Value} (v:Value) (h:∀w,ev w= .ok v w) (hx:∀w η A,x.H η A w [v]):aE (aw x) ev:=fun _ _ _ _ _ _ hr _=>by
 simp only [aw,R.run,RR.ok.injEq] at hr
 obtain ⟨rfl,rfl,rfl⟩:=hr
 exact ⟨rfl,rfl,rfl,fun w=>⟨v,h w,fun η A=>hx w η A⟩⟩
theorem aE.pre {x:Cl} {p:Prop} {ev:World→Result Value} (v:Value) (h:p→∀w,ev w= .ok v w) (hx:∀w η A,x.H η A w [v]):aE (bC x p) ev:=fun _ _ _ _ _ _ hr hp=>by
 simp only [bC,R.run,RR.ok.injEq] at hr
 obtain ⟨rfl,rfl,rfl⟩:=hr
 exact ⟨rfl,rfl,rfl,fun w=>⟨v,h hp w,fun η A=>hx w η A⟩⟩
theorem Kn (z:Int) (h:Kh z=true):gn z=aw (.cv (.int .i64 z)):=by
 unfold gn;rw [h]
 cases z with
 |ofNat n=>cases n<;>rfl
 |negSucc n=>cases n<;>rfl
theorem AO (b:Bool):litB b=aw (.cv (.bool b)):=by cases b<;>rfl
theorem gH {z:Int} (h:Kh z=true):jq z:=by
 unfold Kh at h
 unfold jq
 cases z with
 |ofNat n=>simp only [Nat.blt_eq] at h;constructor<;>simp<;>omega
 |negSucc n=>simp only [Nat.blt_eq] at h;constructor<;>omega
theorem aE.lit {z:Int} {ev:World→Result Value} (h:jq z→∀w,ev w= .ok (.int .i64 z) w):aE (gn z) ev:=by
 cases e:Kh z with
 |false=>unfold gn;rw [e];exact .fail
 |true=>rw [Kn z e];exact .one _ (h (gH e)) fun _ _ _=>⟨rfl,rfl⟩
theorem aE.litB {b:Bool} {ev:World→Result Value} (h:∀w,ev w= .ok (.bool b) w):aE (Go.Proofs.YtnlhpncaldcllaaGreat.litB b) ev:=by
 rw [AO];exact .one _ h fun _ _ _=>⟨rfl,rfl⟩
theorem aE.symB {b:Bool} {ev:World→Result Value} (h:∀w,ev w= .ok (.bool b) w):aE (Go.Proofs.YtnlhpncaldcllaaGreat.symB b) ev:= .one _ h fun _ _ _=>rfl
theorem aE.symI {z:Int} {ev:World→Result Value} (h:jq z→∀w,ev w= .ok (.int .i64 z) w):aE (Go.Proofs.YtnlhpncaldcllaaGreat.symI z) ev:= .pre _ h fun _ _ _=>rfl
theorem eA {z:Int} (h:jq z):IntKind.i64.wrap z=z:=by
 unfold jq at h
 rw [IntKind.wrap_i64];omega
theorem eO {a b:Int}:gL a b=true↔a<b:=by
 unfold gL
 cases e:a-b with
 |ofNat n=>simp;have:a-b=(n:Int):=e;omega
 | negSucc n => simp; have : a - b = -(n : Int) - 1 := by rw [e]; omega
                omega
theorem dx {a b:Int}:gL a b=false↔b≤a:=by
 have:= @eO a b
 cases e:gL a b with
 |true=>rw [e] at this;simp at this ⊢;omega
 |false=>rw [e] at this;simp at this ⊢;omega
theorem lG (a b:Int):gL a b=decide (a<b):=by
 cases e:gL a b with
 |true=>rw [eO] at e;simp [e]
 |false=>rw [dx] at e;simp;omega
theorem Aw (a b:Int):Sk a b=(a ==b):=by
 unfold Sk
 rw [Bool.eq_iff_iff,beq_iff_eq]
 cases e:a-b with
 |ofNat n=>
  have h:a-b=(n:Int):=e
  simp only [Nat.beq_eq];omega
 |negSucc n=>
  have h:a-b= -(n:Int)-1:=by rw [e];omega
  simp;omega
theorem tv {a b:Int} (ha:jq a) (h0:0≤a) (hb:jq b) (h1:0≤b):IntKind.i64.wrap ((BitVec.ofInt 64 a&&&BitVec.ofInt 64 b).toNat:Int)=((a.toNat&&&b.toNat:Nat):Int):=by
 obtain ⟨n,rfl⟩:=Int.eq_ofNat_of_zero_le h0
 obtain ⟨m,rfl⟩:=Int.eq_ofNat_of_zero_le h1
 unfold jq at ha hb
 have hn:n<2^64:=by omega
 have hm:m<2^64:=by omega
 have e:(BitVec.ofInt 64 (n:Int)&&&BitVec.ofInt 64 (m:Int)).toNat=n&&&m:=by
  rw [BitVec.ofInt_natCast,BitVec.ofInt_natCast,BitVec.toNat_and,BitVec.toNat_ofNat,BitVec.toNat_ofNat,Nat.mod_eq_of_lt hn,Nat.mod_eq_of_lt hm]
 have hle:n&&&m≤n:=Nat.and_le_left
 rw [e,Int.toNat_natCast,Int.toNat_natCast]
 exact eA ⟨by omega,by omega⟩
theorem Aa {a b:Int} (ha:jq a) (h0:0≤a) (hb:jq b) (h1:0≤b):IntKind.i64.wrap ((BitVec.ofInt 64 a|||BitVec.ofInt 64 b).toNat:Int)=((a.toNat|||b.toNat:Nat):Int):=by
 obtain ⟨n,rfl⟩:=Int.eq_ofNat_of_zero_le h0
 obtain ⟨m,rfl⟩:=Int.eq_ofNat_of_zero_le h1
 unfold jq at ha hb
 have hn:n<2^63:=by omega
 have hm:m<2^63:=by omega
 have e:(BitVec.ofInt 64 (n:Int)|||BitVec.ofInt 64 (m:Int)).toNat=n|||m:=by
  rw [BitVec.ofInt_natCast,BitVec.ofInt_natCast,BitVec.toNat_or,BitVec.toNat_ofNat,BitVec.toNat_ofNat,Nat.mod_eq_of_lt (by omega),Nat.mod_eq_of_lt (by omega)]
 have hle:n|||m<2^63:=Nat.or_lt_two_pow hn hm
 rw [e,Int.toNat_natCast,Int.toNat_natCast]
 exact eA ⟨by omega,by omega⟩
theorem mo (a:Int) (n:Nat):a.fdiv (2^n)=a/((2^n:Nat):Int):=by
 rw [Int.fdiv_eq_ediv_of_nonneg _ (by exact Int.le_of_lt (Int.pow_pos (by decide)))]
 simp
section
variable {t:TypeId}
theorem yy {op:BinOp} {a b:Int} (h:op= .quo∨op= .rem) (w:World) (ha:0≤a) (hi:jq a) (hb:0<b):(Op.intDiv op .i64 a b).run Tryz.prog w= .ok (.int .i64 (match op with | .quo=>a/b|_=>a%b)) w:=by
 unfold Op.intDiv
 rw [if_neg (by omega)]
 rcases h with rfl|rfl
 ·have h1:a/b≤a:=Int.ediv_le_self _ ha
  have h2:0≤a/b:=Int.ediv_nonneg ha (by omega)
  simp only [Int.tdiv_eq_ediv_of_nonneg ha]
  unfold jq at hi
  rw [eA ⟨by omega,by omega⟩];rfl
 ·simp only [Int.tmod_eq_emod_of_nonneg ha];rfl
theorem rY (op:BinOp) (a b:Int):aE (Cw op a b) fun w=>(binOp op t (.int .i64 a) (.int .i64 b)).run Tryz.prog w:=by
 have hs:∀(n:Int),0≤n→n<64→min n.toNat 64=n.toNat:=fun n h0 h1=>Nat.min_eq_left (by omega)
 unfold Cw
 cases op<;>simp only
 case add=>exact .lit fun h w=>by show Result.ok _ _=_;rw [eA h]
 case sub=>exact .lit fun h w=>by show Result.ok _ _=_;rw [eA h]
 case mul=>exact .lit fun h w=>by show Result.ok _ _=_;rw [eA h]
 case eql=>exact .litB fun w=>by rw [Aw];rfl
 case neq=>exact .litB fun w=>by rw [Aw];rfl
 case lss=>exact .litB fun w=>by rw [lG];rfl
 case gtr=>exact .litB fun w=>by rw [lG];rfl
 case leq=>exact .litB fun w=>by rw [lG,←decide_not];show Result.ok _ _=_;congr 2;exact decide_eq_decide.2 (by omega)
 case geq=>exact .litB fun w=>by rw [lG,←decide_not];show Result.ok _ _=_;congr 2;exact decide_eq_decide.2 (by omega)
 case quo=>
  split
  ·rename_i h1 h2
   rw [dx] at h1;rw [eO] at h2
   refine .lit fun h w=> ?_
   show (Op.intDiv .quo .i64 a b).run Tryz.prog w=_
   unfold Op.intDiv
   rw [if_neg (by omega)]
   simp only [Int.tdiv_eq_ediv_of_nonneg h1]
   rw [eA h];rfl
  ·exact .fail
 case rem=>
  split
  ·rename_i h1 h2
   rw [dx] at h1;rw [eO] at h2
   refine .lit fun h w=> ?_
   show (Op.intDiv .rem .i64 a b).run Tryz.prog w=_
   unfold Op.intDiv
   rw [if_neg (by omega)]
   simp only [Int.tmod_eq_emod_of_nonneg h1];rfl
  ·exact .fail
 case and=>
  split
  ·rename_i h1 h2 h3 h4
   rw [dx] at h1 h2
   exact .lit fun h w=>by rw [show (Int.ofNat _:Int)=_ from (tv (gH h3) h1 (gH h4) h2).symm];rfl
  ·exact .fail
 case or=>
  split
  ·rename_i h1 h2 h3 h4
   rw [dx] at h1 h2
   exact .lit fun h w=>by rw [show (Int.ofNat _:Int)=_ from (Aa (gH h3) h1 (gH h4) h2).symm];rfl
  ·exact .fail
 case shl=>
  split
  ·rename_i h1 h2
   rw [dx] at h1;rw [eO] at h2
   refine .lit fun h w=> ?_
   show (Op.shift .shl .i64 a .i64 b).run Tryz.prog w=_
   unfold Op.shift
   rw [if_neg (by omega)]
   have e:min b.toNat IntKind.i64.bits=b.toNat:=hs b h1 h2
   simp only [e]
   have e2:a*2^b.toNat=a*((2^b.toNat:Nat):Int):=by simp
   rw [e2,eA h];rfl
  ·exact .fail
 case shr=>
  split
  ·rename_i h1 h2
   rw [dx] at h1;rw [eO] at h2
   refine .lit fun h w=> ?_
   show (Op.shift .shr .i64 a .i64 b).run Tryz.prog w=_
   unfold Op.shift
   rw [if_neg (by omega)]
   have e:min b.toNat IntKind.i64.bits=b.toNat:=hs b h1 h2
   simp only [e,mo];rfl
  ·exact .fail
 all_goals exact .fail
theorem PF (n:Nat):IntKind.u8.wrap (n:Int)=((UInt8.ofNat n).toNat:Int):=by
 rw [show IntKind.u8.wrap (n:Int)=(n:Int)%256 by simp [IntKind.wrap,IntKind.bits,IntKind.signed],UInt8.toNat_ofNat'];omega
theorem Mv (x:UInt8):BitVec.ofInt IntKind.u8.bits (x.toNat:Int)=x.toBitVec:=by
 show BitVec.ofInt 8 (x.toNat:Int)=_
 rw [BitVec.ofInt_natCast];apply BitVec.eq_of_toNat_eq;rw [BitVec.toNat_ofNat];exact Nat.mod_eq_of_lt x.toNat_lt
theorem Sj (x:UInt8):IntKind.u8.wrap (x.toBitVec.toNat:Int)=(x.toNat:Int):=by
 have:=PF x.toNat
 rw [show UInt8.ofNat x.toNat=x from UInt8.ofNat_toNat] at this;exact this
theorem Bd (op:BinOp) (h1:op≠ .shl) (h2:op≠ .shr) (a b:UInt8):aE (KM op a b) fun w=>(binOp op t (.int .u8 (a.toNat:Int)) (.int .u8 (b.toNat:Int))).run Tryz.prog w:=by
 have ha:=a.toNat_lt
 have hb:=b.toNat_lt
 have hw:∀z:Int,IntKind.u8.wrap z=z%256:=fun z=>by simp [IntKind.wrap,IntKind.bits,IntKind.signed]
 have hd:∀(p q:Prop) [Decidable p] [Decidable q] (w:World),(p↔q)→(Result.ok (Value.bool (decide p)) w)= .ok (.bool (decide q)) w:=fun p q _ _ w h=>by rw [decide_eq_decide.2 h]
 unfold KM
 cases op<;>simp only
 case add=>exact .one (.int .u8 ((a+b).toNat:Int)) (fun w=>by show Result.ok _ _=_;rw [hw,UInt8.toNat_add];(congr 2)<;>omega) fun _ _ _=>rfl
 case sub=>exact .one (.int .u8 ((a-b).toNat:Int)) (fun w=>by show Result.ok _ _=_;rw [hw,UInt8.toNat_sub];(congr 2)<;>omega) fun _ _ _=>rfl
 case mul=>exact .one (.int .u8 ((a*b).toNat:Int)) (fun w=>by show Result.ok _ _=_;rw [hw,UInt8.toNat_mul];(congr 2)<;>simp) fun _ _ _=>rfl
 case and=>exact .one (.int .u8 ((a&&&b).toNat:Int)) (fun w=>by show Result.ok (Value.int _ (IntKind.wrap _ ((BitVec.ofInt _ _&&&BitVec.ofInt _ _).toNat:Int))) _=_;rw [Mv,Mv];exact congrArg (fun z=>Result.ok (Value.int .u8 z) w) (Sj (a&&&b))) fun _ _ _=>rfl
 case or=>exact .one (.int .u8 ((a|||b).toNat:Int)) (fun w=>by show Result.ok (Value.int _ (IntKind.wrap _ ((BitVec.ofInt _ _|||BitVec.ofInt _ _).toNat:Int))) _=_;rw [Mv,Mv];exact congrArg (fun z=>Result.ok (Value.int .u8 z) w) (Sj (a|||b))) fun _ _ _=>rfl
 case xor=>exact .one (.int .u8 ((a^^^b).toNat:Int)) (fun w=>by show Result.ok (Value.int _ (IntKind.wrap _ ((BitVec.ofInt _ _^^^BitVec.ofInt _ _).toNat:Int))) _=_;rw [Mv,Mv];exact congrArg (fun z=>Result.ok (Value.int .u8 z) w) (Sj (a^^^b))) fun _ _ _=>rfl
 case andNot=>exact .one (.int .u8 ((a&&& ~~~b).toNat:Int)) (fun w=>by show Result.ok (Value.int _ (IntKind.wrap _ ((BitVec.ofInt _ _&&& ~~~BitVec.ofInt _ _).toNat:Int))) _=_;rw [Mv,Mv];exact congrArg (fun z=>Result.ok (Value.int .u8 z) w) (Sj (a&&& ~~~b))) fun _ _ _=>rfl
 case quo=>exact .pre (.int .u8 ((a/b).toNat:Int)) (fun hne w=>by
  have h0:b.toNat≠0:=fun e=>hne (UInt8.toNat_inj.1 e)
  show (Op.intDiv .quo _ _ _).run Tryz.prog w=_
  unfold Op.intDiv
  rw [if_neg (by omega)]
  show Result.ok _ _=_
  have h3:a.toNat/b.toNat≤a.toNat:=Nat.div_le_self _ _
  have h4:((a.toNat/b.toNat:Nat):Int)%256=((a.toNat/b.toNat:Nat):Int):=by generalize a.toNat/b.toNat=q at h3 ⊢;omega
  rw [Int.tdiv_eq_ediv_of_nonneg (by omega),←Int.natCast_ediv,hw,UInt8.toNat_div,h4]) fun _ _ _=>rfl
 case rem=>exact .pre (.int .u8 ((a%b).toNat:Int)) (fun hne w=>by
  have h0:b.toNat≠0:=fun e=>hne (UInt8.toNat_inj.1 e)
  show (Op.intDiv .rem _ _ _).run Tryz.prog w=_
  unfold Op.intDiv
  rw [if_neg (by omega)]
  show Result.ok _ _=_
  rw [Int.tmod_eq_emod_of_nonneg (by omega),←Int.natCast_emod,UInt8.toNat_mod]) fun _ _ _=>rfl
 case eql=>exact .symB fun w=>by show Result.ok (Value.bool ((a.toNat:Int) ==(b.toNat:Int))) w=_;rw [show ((a.toNat:Int) ==(b.toNat:Int))=decide ((a.toNat:Int)=(b.toNat:Int)) from rfl];exact hd _ _ w (by rw [←UInt8.toNat_inj];omega)
 case neq=>exact .symB fun w=>by show Result.ok (Value.bool ((a.toNat:Int) != (b.toNat:Int))) w=_;rw [show ((a.toNat:Int) != (b.toNat:Int))= !decide ((a.toNat:Int)=(b.toNat:Int)) from rfl,←decide_not];exact hd _ _ w (by rw [ne_eq,←UInt8.toNat_inj];omega)
 case lss=>exact .symB fun w=>hd _ _ w (by rw [UInt8.lt_iff_toNat_lt];omega)
 case gtr=>exact .symB fun w=>hd _ _ w (by rw [UInt8.lt_iff_toNat_lt];omega)
 case leq=>exact .symB fun w=>hd _ _ w (by rw [UInt8.le_iff_toNat_le];omega)
 case geq=>exact .symB fun w=>hd _ _ w (by rw [UInt8.le_iff_toNat_le];omega)
 all_goals exact .fail
theorem zN (n:Nat):IntKind.u16.wrap (n:Int)=((UInt16.ofNat n).toNat:Int):=by
 rw [show IntKind.u16.wrap (n:Int)=(n:Int)%65536 by simp [IntKind.wrap,IntKind.bits,IntKind.signed],UInt16.toNat_ofNat'];omega
theorem tB (x:UInt16):BitVec.ofInt IntKind.u16.bits (x.toNat:Int)=x.toBitVec:=by
 show BitVec.ofInt 16 (x.toNat:Int)=_
 rw [BitVec.ofInt_natCast];apply BitVec.eq_of_toNat_eq;rw [BitVec.toNat_ofNat];exact Nat.mod_eq_of_lt x.toNat_lt
theorem Jl (x:UInt16):IntKind.u16.wrap (x.toBitVec.toNat:Int)=(x.toNat:Int):=by
 have:=zN x.toNat
 rw [show UInt16.ofNat x.toNat=x from UInt16.ofNat_toNat] at this;exact this
theorem uX (op:BinOp) (h1:op≠ .shl) (h2:op≠ .shr) (a b:UInt16):aE (Ba op a b) fun w=>(binOp op t (.int .u16 (a.toNat:Int)) (.int .u16 (b.toNat:Int))).run Tryz.prog w:=by
 have ha:=a.toNat_lt
 have hb:=b.toNat_lt
 have hw:∀z:Int,IntKind.u16.wrap z=z%65536:=fun z=>by simp [IntKind.wrap,IntKind.bits,IntKind.signed]
 have hd:∀(p q:Prop) [Decidable p] [Decidable q] (w:World),(p↔q)→(Result.ok (Value.bool (decide p)) w)= .ok (.bool (decide q)) w:=fun p q _ _ w h=>by rw [decide_eq_decide.2 h]
 unfold Ba
 cases op<;>simp only
 case add=>exact .one (.int .u16 ((a+b).toNat:Int)) (fun w=>by show Result.ok _ _=_;rw [hw,UInt16.toNat_add];(congr 2)<;>omega) fun _ _ _=>rfl
 case sub=>exact .one (.int .u16 ((a-b).toNat:Int)) (fun w=>by show Result.ok _ _=_;rw [hw,UInt16.toNat_sub];(congr 2)<;>omega) fun _ _ _=>rfl
 case mul=>exact .one (.int .u16 ((a*b).toNat:Int)) (fun w=>by show Result.ok _ _=_;rw [hw,UInt16.toNat_mul];(congr 2)<;>simp) fun _ _ _=>rfl
 case and=>exact .one (.int .u16 ((a&&&b).toNat:Int)) (fun w=>by show Result.ok (Value.int _ (IntKind.wrap _ ((BitVec.ofInt _ _&&&BitVec.ofInt _ _).toNat:Int))) _=_;rw [tB,tB];exact congrArg (fun z=>Result.ok (Value.int .u16 z) w) (Jl (a&&&b))) fun _ _ _=>rfl
 case or=>exact .one (.int .u16 ((a|||b).toNat:Int)) (fun w=>by show Result.ok (Value.int _ (IntKind.wrap _ ((BitVec.ofInt _ _|||BitVec.ofInt _ _).toNat:Int))) _=_;rw [tB,tB];exact congrArg (fun z=>Result.ok (Value.int .u16 z) w) (Jl (a|||b))) fun _ _ _=>rfl
 case xor=>exact .one (.int .u16 ((a^^^b).toNat:Int)) (fun w=>by show Result.ok (Value.int _ (IntKind.wrap _ ((BitVec.ofInt _ _^^^BitVec.ofInt _ _).toNat:Int))) _=_;rw [tB,tB];exact congrArg (fun z=>Result.ok (Value.int .u16 z) w) (Jl (a^^^b))) fun _ _ _=>rfl
 case andNot=>exact .one (.int .u16 ((a&&& ~~~b).toNat:Int)) (fun w=>by show Result.ok (Value.int _ (IntKind.wrap _ ((BitVec.ofInt _ _&&& ~~~BitVec.ofInt _ _).toNat:Int))) _=_;rw [tB,tB];exact congrArg (fun z=>Result.ok (Value.int .u16 z) w) (Jl (a&&& ~~~b))) fun _ _ _=>rfl
 case quo=>exact .pre (.int .u16 ((a/b).toNat:Int)) (fun hne w=>by
  have h0:b.toNat≠0:=fun e=>hne (UInt16.toNat_inj.1 e)
  show (Op.intDiv .quo _ _ _).run Tryz.prog w=_
  unfold Op.intDiv
  rw [if_neg (by omega)]
  show Result.ok _ _=_
  have h3:a.toNat/b.toNat≤a.toNat:=Nat.div_le_self _ _
  have h4:((a.toNat/b.toNat:Nat):Int)%65536=((a.toNat/b.toNat:Nat):Int):=by generalize a.toNat/b.toNat=q at h3 ⊢;omega
  rw [Int.tdiv_eq_ediv_of_nonneg (by omega),←Int.natCast_ediv,hw,UInt16.toNat_div,h4]) fun _ _ _=>rfl
 case rem=>exact .pre (.int .u16 ((a%b).toNat:Int)) (fun hne w=>by
  have h0:b.toNat≠0:=fun e=>hne (UInt16.toNat_inj.1 e)
  show (Op.intDiv .rem _ _ _).run Tryz.prog w=_
  unfold Op.intDiv
  rw [if_neg (by omega)]
  show Result.ok _ _=_
  rw [Int.tmod_eq_emod_of_nonneg (by omega),←Int.natCast_emod,UInt16.toNat_mod]) fun _ _ _=>rfl
 case eql=>exact .symB fun w=>by show Result.ok (Value.bool ((a.toNat:Int) ==(b.toNat:Int))) w=_;rw [show ((a.toNat:Int) ==(b.toNat:Int))=decide ((a.toNat:Int)=(b.toNat:Int)) from rfl];exact hd _ _ w (by rw [←UInt16.toNat_inj];omega)
 case neq=>exact .symB fun w=>by show Result.ok (Value.bool ((a.toNat:Int) != (b.toNat:Int))) w=_;rw [show ((a.toNat:Int) != (b.toNat:Int))= !decide ((a.toNat:Int)=(b.toNat:Int)) from rfl,←decide_not];exact hd _ _ w (by rw [ne_eq,←UInt16.toNat_inj];omega)
 case lss=>exact .symB fun w=>hd _ _ w (by rw [UInt16.lt_iff_toNat_lt];omega)
 case gtr=>exact .symB fun w=>hd _ _ w (by rw [UInt16.lt_iff_toNat_lt];omega)
 case leq=>exact .symB fun w=>hd _ _ w (by rw [UInt16.le_iff_toNat_le];omega)
 case geq=>exact .symB fun w=>hd _ _ w (by rw [UInt16.le_iff_toNat_le];omega)
 all_goals exact .fail
theorem zO (n:Nat):IntKind.u32.wrap (n:Int)=((UInt32.ofNat n).toNat:Int):=by
 rw [show IntKind.u32.wrap (n:Int)=(n:Int)%4294967296 by simp [IntKind.wrap,IntKind.bits,IntKind.signed],UInt32.toNat_ofNat'];omega
theorem tC (x:UInt32):BitVec.ofInt IntKind.u32.bits (x.toNat:Int)=x.toBitVec:=by
 show BitVec.ofInt 32 (x.toNat:Int)=_
 rw [BitVec.ofInt_natCast];apply BitVec.eq_of_toNat_eq;rw [BitVec.toNat_ofNat];exact Nat.mod_eq_of_lt x.toNat_lt
theorem Jm (x:UInt32):IntKind.u32.wrap (x.toBitVec.toNat:Int)=(x.toNat:Int):=by
 have:=zO x.toNat
 rw [show UInt32.ofNat x.toNat=x from UInt32.ofNat_toNat] at this;exact this
theorem nn (op:BinOp) (h1:op≠ .shl) (h2:op≠ .shr) (a b:UInt32):aE (Bb op a b) fun w=>(binOp op t (.int .u32 (a.toNat:Int)) (.int .u32 (b.toNat:Int))).run Tryz.prog w:=by
 have ha:=a.toNat_lt
 have hb:=b.toNat_lt
 have hw:∀z:Int,IntKind.u32.wrap z=z%4294967296:=fun z=>by simp [IntKind.wrap,IntKind.bits,IntKind.signed]
 have hd:∀(p q:Prop) [Decidable p] [Decidable q] (w:World),(p↔q)→(Result.ok (Value.bool (decide p)) w)= .ok (.bool (decide q)) w:=fun p q _ _ w h=>by rw [decide_eq_decide.2 h]
 unfold Bb
 cases op<;>simp only
 case add=>exact .one (.int .u32 ((a+b).toNat:Int)) (fun w=>by show Result.ok _ _=_;rw [hw,UInt32.toNat_add];(congr 2)<;>omega) fun _ _ _=>rfl
 case sub=>exact .one (.int .u32 ((a-b).toNat:Int)) (fun w=>by show Result.ok _ _=_;rw [hw,UInt32.toNat_sub];(congr 2)<;>omega) fun _ _ _=>rfl
 case mul=>exact .one (.int .u32 ((a*b).toNat:Int)) (fun w=>by show Result.ok _ _=_;rw [hw,UInt32.toNat_mul];(congr 2)<;>simp) fun _ _ _=>rfl
 case and=>exact .one (.int .u32 ((a&&&b).toNat:Int)) (fun w=>by show Result.ok (Value.int _ (IntKind.wrap _ ((BitVec.ofInt _ _&&&BitVec.ofInt _ _).toNat:Int))) _=_;rw [tC,tC];exact congrArg (fun z=>Result.ok (Value.int .u32 z) w) (Jm (a&&&b))) fun _ _ _=>rfl
 case or=>exact .one (.int .u32 ((a|||b).toNat:Int)) (fun w=>by show Result.ok (Value.int _ (IntKind.wrap _ ((BitVec.ofInt _ _|||BitVec.ofInt _ _).toNat:Int))) _=_;rw [tC,tC];exact congrArg (fun z=>Result.ok (Value.int .u32 z) w) (Jm (a|||b))) fun _ _ _=>rfl
 case xor=>exact .one (.int .u32 ((a^^^b).toNat:Int)) (fun w=>by show Result.ok (Value.int _ (IntKind.wrap _ ((BitVec.ofInt _ _^^^BitVec.ofInt _ _).toNat:Int))) _=_;rw [tC,tC];exact congrArg (fun z=>Result.ok (Value.int .u32 z) w) (Jm (a^^^b))) fun _ _ _=>rfl
 case andNot=>exact .one (.int .u32 ((a&&& ~~~b).toNat:Int)) (fun w=>by show Result.ok (Value.int _ (IntKind.wrap _ ((BitVec.ofInt _ _&&& ~~~BitVec.ofInt _ _).toNat:Int))) _=_;rw [tC,tC];exact congrArg (fun z=>Result.ok (Value.int .u32 z) w) (Jm (a&&& ~~~b))) fun _ _ _=>rfl
 case quo=>exact .pre (.int .u32 ((a/b).toNat:Int)) (fun hne w=>by
  have h0:b.toNat≠0:=fun e=>hne (UInt32.toNat_inj.1 e)
  show (Op.intDiv .quo _ _ _).run Tryz.prog w=_
  unfold Op.intDiv
  rw [if_neg (by omega)]
  show Result.ok _ _=_
  have h3:a.toNat/b.toNat≤a.toNat:=Nat.div_le_self _ _
  have h4:((a.toNat/b.toNat:Nat):Int)%4294967296=((a.toNat/b.toNat:Nat):Int):=by generalize a.toNat/b.toNat=q at h3 ⊢;omega
  rw [Int.tdiv_eq_ediv_of_nonneg (by omega),←Int.natCast_ediv,hw,UInt32.toNat_div,h4]) fun _ _ _=>rfl
 case rem=>exact .pre (.int .u32 ((a%b).toNat:Int)) (fun hne w=>by
  have h0:b.toNat≠0:=fun e=>hne (UInt32.toNat_inj.1 e)
  show (Op.intDiv .rem _ _ _).run Tryz.prog w=_
  unfold Op.intDiv
  rw [if_neg (by omega)]
  show Result.ok _ _=_
  rw [Int.tmod_eq_emod_of_nonneg (by omega),←Int.natCast_emod,UInt32.toNat_mod]) fun _ _ _=>rfl
 case eql=>exact .symB fun w=>by show Result.ok (Value.bool ((a.toNat:Int) ==(b.toNat:Int))) w=_;rw [show ((a.toNat:Int) ==(b.toNat:Int))=decide ((a.toNat:Int)=(b.toNat:Int)) from rfl];exact hd _ _ w (by rw [←UInt32.toNat_inj];omega)
 case neq=>exact .symB fun w=>by show Result.ok (Value.bool ((a.toNat:Int) != (b.toNat:Int))) w=_;rw [show ((a.toNat:Int) != (b.toNat:Int))= !decide ((a.toNat:Int)=(b.toNat:Int)) from rfl,←decide_not];exact hd _ _ w (by rw [ne_eq,←UInt32.toNat_inj];omega)
 case lss=>exact .symB fun w=>hd _ _ w (by rw [UInt32.lt_iff_toNat_lt];omega)
 case gtr=>exact .symB fun w=>hd _ _ w (by rw [UInt32.lt_iff_toNat_lt];omega)
 case leq=>exact .symB fun w=>hd _ _ w (by rw [UInt32.le_iff_toNat_le];omega)
 case geq=>exact .symB fun w=>hd _ _ w (by rw [UInt32.le_iff_toNat_le];omega)
 all_goals exact .fail
theorem zQ (n:Nat):IntKind.u64.wrap (n:Int)=((UInt64.ofNat n).toNat:Int):=by
 rw [show IntKind.u64.wrap (n:Int)=(n:Int)%18446744073709551616 by simp [IntKind.wrap,IntKind.bits,IntKind.signed],UInt64.toNat_ofNat'];omega
theorem tD (x:UInt64):BitVec.ofInt IntKind.u64.bits (x.toNat:Int)=x.toBitVec:=by
 show BitVec.ofInt 64 (x.toNat:Int)=_
 rw [BitVec.ofInt_natCast];apply BitVec.eq_of_toNat_eq;rw [BitVec.toNat_ofNat];exact Nat.mod_eq_of_lt x.toNat_lt
theorem Jn (x:UInt64):IntKind.u64.wrap (x.toBitVec.toNat:Int)=(x.toNat:Int):=by
 have:=zQ x.toNat
 rw [show UInt64.ofNat x.toNat=x from UInt64.ofNat_toNat] at this;exact this
theorem np (op:BinOp) (h1:op≠ .shl) (h2:op≠ .shr) (a b:UInt64):aE (Bc op a b) fun w=>(binOp op t (.int .u64 (a.toNat:Int)) (.int .u64 (b.toNat:Int))).run Tryz.prog w:=by
 have ha:=a.toNat_lt
 have hb:=b.toNat_lt
 have hw:∀z:Int,IntKind.u64.wrap z=z%18446744073709551616:=fun z=>by simp [IntKind.wrap,IntKind.bits,IntKind.signed]
 have hd:∀(p q:Prop) [Decidable p] [Decidable q] (w:World),(p↔q)→(Result.ok (Value.bool (decide p)) w)= .ok (.bool (decide q)) w:=fun p q _ _ w h=>by rw [decide_eq_decide.2 h]
 unfold Bc
 cases op<;>simp only
 case add=>exact .one (.int .u64 ((a+b).toNat:Int)) (fun w=>by show Result.ok _ _=_;rw [hw,UInt64.toNat_add];(congr 2)<;>omega) fun _ _ _=>rfl
 case sub=>exact .one (.int .u64 ((a-b).toNat:Int)) (fun w=>by show Result.ok _ _=_;rw [hw,UInt64.toNat_sub];(congr 2)<;>omega) fun _ _ _=>rfl
 case mul=>exact .one (.int .u64 ((a*b).toNat:Int)) (fun w=>by show Result.ok _ _=_;rw [hw,UInt64.toNat_mul];(congr 2)<;>simp) fun _ _ _=>rfl
 case and=>exact .one (.int .u64 ((a&&&b).toNat:Int)) (fun w=>by show Result.ok (Value.int _ (IntKind.wrap _ ((BitVec.ofInt _ _&&&BitVec.ofInt _ _).toNat:Int))) _=_;rw [tD,tD];exact congrArg (fun z=>Result.ok (Value.int .u64 z) w) (Jn (a&&&b))) fun _ _ _=>rfl
 case or=>exact .one (.int .u64 ((a|||b).toNat:Int)) (fun w=>by show Result.ok (Value.int _ (IntKind.wrap _ ((BitVec.ofInt _ _|||BitVec.ofInt _ _).toNat:Int))) _=_;rw [tD,tD];exact congrArg (fun z=>Result.ok (Value.int .u64 z) w) (Jn (a|||b))) fun _ _ _=>rfl
 case xor=>exact .one (.int .u64 ((a^^^b).toNat:Int)) (fun w=>by show Result.ok (Value.int _ (IntKind.wrap _ ((BitVec.ofInt _ _^^^BitVec.ofInt _ _).toNat:Int))) _=_;rw [tD,tD];exact congrArg (fun z=>Result.ok (Value.int .u64 z) w) (Jn (a^^^b))) fun _ _ _=>rfl
 case andNot=>exact .one (.int .u64 ((a&&& ~~~b).toNat:Int)) (fun w=>by show Result.ok (Value.int _ (IntKind.wrap _ ((BitVec.ofInt _ _&&& ~~~BitVec.ofInt _ _).toNat:Int))) _=_;rw [tD,tD];exact congrArg (fun z=>Result.ok (Value.int .u64 z) w) (Jn (a&&& ~~~b))) fun _ _ _=>rfl
 case quo=>exact .pre (.int .u64 ((a/b).toNat:Int)) (fun hne w=>by
  have h0:b.toNat≠0:=fun e=>hne (UInt64.toNat_inj.1 e)
  show (Op.intDiv .quo _ _ _).run Tryz.prog w=_
  unfold Op.intDiv
  rw [if_neg (by omega)]
  show Result.ok _ _=_
  have h3:a.toNat/b.toNat≤a.toNat:=Nat.div_le_self _ _
  have h4:((a.toNat/b.toNat:Nat):Int)%18446744073709551616=((a.toNat/b.toNat:Nat):Int):=by generalize a.toNat/b.toNat=q at h3 ⊢;omega
  rw [Int.tdiv_eq_ediv_of_nonneg (by omega),←Int.natCast_ediv,hw,UInt64.toNat_div,h4]) fun _ _ _=>rfl
 case rem=>exact .pre (.int .u64 ((a%b).toNat:Int)) (fun hne w=>by
  have h0:b.toNat≠0:=fun e=>hne (UInt64.toNat_inj.1 e)
  show (Op.intDiv .rem _ _ _).run Tryz.prog w=_
  unfold Op.intDiv
  rw [if_neg (by omega)]
  show Result.ok _ _=_
  rw [Int.tmod_eq_emod_of_nonneg (by omega),←Int.natCast_emod,UInt64.toNat_mod]) fun _ _ _=>rfl
 case eql=>exact .symB fun w=>by show Result.ok (Value.bool ((a.toNat:Int) ==(b.toNat:Int))) w=_;rw [show ((a.toNat:Int) ==(b.toNat:Int))=decide ((a.toNat:Int)=(b.toNat:Int)) from rfl];exact hd _ _ w (by rw [←UInt64.toNat_inj];omega)
 case neq=>exact .symB fun w=>by show Result.ok (Value.bool ((a.toNat:Int) != (b.toNat:Int))) w=_;rw [show ((a.toNat:Int) != (b.toNat:Int))= !decide ((a.toNat:Int)=(b.toNat:Int)) from rfl,←decide_not];exact hd _ _ w (by rw [ne_eq,←UInt64.toNat_inj];omega)
 case lss=>exact .symB fun w=>hd _ _ w (by rw [UInt64.lt_iff_toNat_lt];omega)
 case gtr=>exact .symB fun w=>hd _ _ w (by rw [UInt64.lt_iff_toNat_lt];omega)
 case leq=>exact .symB fun w=>hd _ _ w (by rw [UInt64.le_iff_toNat_le];omega)
 case geq=>exact .symB fun w=>hd _ _ w (by rw [UInt64.le_iff_toNat_le];omega)
 all_goals exact .fail
end
section
variable {t:TypeId}
theorem KH (op:BinOp) (h1:op≠ .shl) (h2:op≠ .shr) (a b:Int):aE (ky op a b) fun w=>(binOp op t (.int .i64 a) (.int .i64 b)).run Tryz.prog w:=by
 have hd:∀(p q:Prop) [Decidable p] [Decidable q] (w:World),(p↔q)→(Result.ok (Value.bool (decide p)) w)= .ok (.bool (decide q)) w:=fun p q _ _ w h=>by rw [decide_eq_decide.2 h]
 unfold ky
 cases op<;>simp only
 case add=>exact .symI fun h w=>by show Result.ok _ _=_;rw [eA h]
 case sub=>exact .symI fun h w=>by show Result.ok _ _=_;rw [eA h]
 case mul=>exact .symI fun h w=>by show Result.ok _ _=_;rw [eA h]
 case quo=>exact .pre _ (fun h w=>yy (op:= .quo) (.inl rfl) w h.2.1 h.1 h.2.2) fun _ _ _=>rfl
 case rem=>
  refine .pre (.int .i64 (a%b)) (fun h w=> ?_) fun _ _ _=>rfl
  show (Op.intDiv .rem .i64 a b).run Tryz.prog w=_
  unfold Op.intDiv
  rw [if_neg (by omega)]
  simp only [Int.tmod_eq_emod_of_nonneg h.1];rfl
 case eql=>exact .symB fun w=>rfl
 case neq=>exact .symB fun w=>by show Result.ok (Value.bool (a != b)) w=_;rw [show (a != b)= !decide (a=b) from rfl,←decide_not]
 case lss=>exact .symB fun w=>rfl
 case gtr=>exact .symB fun w=>rfl
 case leq=>exact .symB fun w=>rfl
 case geq=>exact .symB fun w=>rfl
 case and=>exact .pre _ (fun h w=>by rw [←tv h.1.1 h.1.2 h.2.1 h.2.2];rfl) fun _ _ _=>rfl
 case or=>exact .pre _ (fun h w=>by rw [←Aa h.1.1 h.1.2 h.2.1 h.2.2];rfl) fun _ _ _=>rfl
 case shl=>exact absurd rfl h1
 case shr=>exact absurd rfl h2
 all_goals exact .fail
theorem lK (op:BinOp) (h:op= .shl∨op= .shr) (k:IntKind) (a b:Int):aE (ky op a b) fun w=>(binOp op t (.int .i64 a) (.int k b)).run Tryz.prog w:=by
 have hs:∀(n:Int),0≤n→n<64→min n.toNat 64=n.toNat:=fun n h0 h1=>Nat.min_eq_left (by omega)
 rcases h with rfl|rfl
 ·refine .pre _ (fun h w=> ?_) fun _ _ _=>rfl
  show (Op.shift .shl .i64 a k b).run Tryz.prog w=_
  unfold Op.shift
  rw [if_neg (by omega)]
  have e:min b.toNat IntKind.i64.bits=b.toNat:=hs b h.1 h.2.1
  simp only [e]
  have e2:a*2^b.toNat=a*((2^b.toNat:Nat):Int):=by simp
  rw [e2,eA h.2.2];rfl
 ·refine .pre _ (fun h w=> ?_) fun _ _ _=>rfl
  show (Op.shift .shr .i64 a k b).run Tryz.prog w=_
  unfold Op.shift
  rw [if_neg (by omega)]
  have e:min b.toNat IntKind.i64.bits=b.toNat:=hs b h.1 h.2
  simp only [e,mo];rfl
theorem Ld {B n:Nat} (x:Nat):((x*2^min n B:Nat))%2^B=(x*2^n)%2^B:=by
 rcases Nat.le_total n B with h|h
 ·rw [Nat.min_eq_left h]
 ·rw [Nat.min_eq_right h]
  obtain ⟨d,rfl⟩:∃d,n=B+d:=⟨n-B,by omega⟩
  rw [Nat.pow_add,←Nat.mul_assoc,Nat.mul_right_comm,Nat.mul_mod_left,Nat.mul_mod_left]
theorem Hf {B n x:Nat} (hx:x<2^B):x/2^min n B=x/2^n:=by
 rcases Nat.le_total n B with h|h
 ·rw [Nat.min_eq_left h]
 ·rw [Nat.min_eq_right h,Nat.div_eq_of_lt hx,Nat.div_eq_of_lt (Nat.lt_of_lt_of_le hx (Nat.pow_le_pow_right (by decide) h))]
theorem lQ {k k':IntKind} {B:Nat} (hB:k.bits=B) (hw:∀z:Int,k.wrap z=z%((2^B:Nat):Int)) {x n:Nat} (w:World):(binOp .shl t (.int k (x:Int)) (.int k' (n:Int))).run Tryz.prog w= .ok (.int k ((x*2^n%2^B:Nat):Int)) w:=by
 show (Op.shift .shl k _ k' _).run Tryz.prog w=_
 unfold Op.shift
 rw [if_neg (by omega)]
 simp only [Int.toNat_natCast,hB,hw]
 rw [←Ld]
 show Result.ok _ _=_
 (congr 2)<;>simp
theorem lR {k k':IntKind} {B:Nat} (hB:k.bits=B) {x n:Nat} (hx:x<2^B) (w:World):(binOp .shr t (.int k (x:Int)) (.int k' (n:Int))).run Tryz.prog w= .ok (.int k ((x/2^n:Nat):Int)) w:=by
 show (Op.shift .shr k _ k' _).run Tryz.prog w=_
 unfold Op.shift
 rw [if_neg (by omega)]
 simp only [Int.toNat_natCast,hB,mo]
 rw [←Hf (n:=n) hx]
 show Result.ok _ _=_
 congr 2
def jK:Nm→Value
 | .lit z=> .int .i64 z| .int z=> .int .i64 z
 | .u8 x=> .int .u8 (x.toNat:Int)| .u16 x=> .int .u16 (x.toNat:Int)| .u32 x=> .int .u32 (x.toNat:Int)| .u64 x=> .int .u64 (x.toNat:Int)
theorem cL {n:Nm} {v:Value} (h:Ts n v):v=jK n:=by cases n<;>exact h
theorem KL (left:Bool) (x:Nm) (n:Nat) (k':IntKind):aE (kA left x n) fun w=>(binOp (if left=true then .shl else .shr) t (jK x) (.int k' (n:Int))).run Tryz.prog w:=by
 unfold kA
 cases x
 case lit=>exact .fail
 case int=>exact .fail
 case u8 a=>
  cases left with
  |true=>
   refine .one (.int .u8 ((s8 a n).toNat:Int)) (fun w=> ?_) fun _ _ _=>rfl
   have:=lQ (t:=t) (k:= .u8) (k':=k') (B:=8) rfl (fun z=>by simp [IntKind.wrap,IntKind.bits,IntKind.signed]) (x:=a.toNat) (n:=n) w
   rw [show (s8 a n).toNat=a.toNat*2^n%2^8 from by unfold s8;rw [UInt8.toNat_ofNat']];exact this
  |false=>
   refine .one (.int .u8 ((r8 a n).toNat:Int)) (fun w=> ?_) fun _ _ _=>rfl
   have:=lR (t:=t) (k:= .u8) (k':=k') (B:=8) rfl (x:=a.toNat) (n:=n) a.toNat_lt w
   rw [show (r8 a n).toNat=a.toNat/2^n from by unfold r8;rw [UInt8.toNat_ofNat',Nat.mod_eq_of_lt (Nat.lt_of_le_of_lt (Nat.div_le_self _ _) a.toNat_lt)]];exact this
 case u16 a=>
  cases left with
  |true=>
   refine .one (.int .u16 ((Lc a n).toNat:Int)) (fun w=> ?_) fun _ _ _=>rfl
   have:=lQ (t:=t) (k:= .u16) (k':=k') (B:=16) rfl (fun z=>by simp [IntKind.wrap,IntKind.bits,IntKind.signed]) (x:=a.toNat) (n:=n) w
   rw [show (Lc a n).toNat=a.toNat*2^n%2^16 from by unfold Lc;rw [UInt16.toNat_ofNat']];exact this
  |false=>
   refine .one (.int .u16 ((OS a n).toNat:Int)) (fun w=> ?_) fun _ _ _=>rfl
   have:=lR (t:=t) (k:= .u16) (k':=k') (B:=16) rfl (x:=a.toNat) (n:=n) a.toNat_lt w
   rw [show (OS a n).toNat=a.toNat/2^n from by unfold OS;rw [UInt16.toNat_ofNat',Nat.mod_eq_of_lt (Nat.lt_of_le_of_lt (Nat.div_le_self _ _) a.toNat_lt)]];exact this
 case u32 a=>
  cases left with
  |true=>
   refine .one (.int .u32 ((L3 a n).toNat:Int)) (fun w=> ?_) fun _ _ _=>rfl
   have:=lQ (t:=t) (k:= .u32) (k':=k') (B:=32) rfl (fun z=>by simp [IntKind.wrap,IntKind.bits,IntKind.signed]) (x:=a.toNat) (n:=n) w
   rw [show (L3 a n).toNat=a.toNat*2^n%2^32 from by unfold L3;rw [UInt32.toNat_ofNat']];exact this
  |false=>
   refine .one (.int .u32 ((ll a n).toNat:Int)) (fun w=> ?_) fun _ _ _=>rfl
   have:=lR (t:=t) (k:= .u32) (k':=k') (B:=32) rfl (x:=a.toNat) (n:=n) a.toNat_lt w
   rw [show (ll a n).toNat=a.toNat/2^n from by unfold ll;rw [UInt32.toNat_ofNat',Nat.mod_eq_of_lt (Nat.lt_of_le_of_lt (Nat.div_le_self _ _) a.toNat_lt)]];exact this
 case u64 a=>
  cases left with
  |true=>
   refine .one (.int .u64 ((j3 a n).toNat:Int)) (fun w=> ?_) fun _ _ _=>rfl
   have:=lQ (t:=t) (k:= .u64) (k':=k') (B:=64) rfl (fun z=>by simp [IntKind.wrap,IntKind.bits,IntKind.signed]) (x:=a.toNat) (n:=n) w
   rw [show (j3 a n).toNat=a.toNat*2^n%2^64 from by unfold j3;rw [UInt64.toNat_ofNat']];exact this
  |false=>
   refine .one (.int .u64 ((iI a n).toNat:Int)) (fun w=> ?_) fun _ _ _=>rfl
   have:=lR (t:=t) (k:= .u64) (k':=k') (B:=64) rfl (x:=a.toNat) (n:=n) a.toNat_lt w
   rw [show (iI a n).toNat=a.toNat/2^n from by unfold iI;rw [UInt64.toNat_ofNat',Nat.mod_eq_of_lt (Nat.lt_of_le_of_lt (Nat.div_le_self _ _) a.toNat_lt)]];exact this
theorem aE.and {r:R aG} {p:Prop} {ev:World→Result Value} (h:p→aE r ev):aE (GY r p) ev:=fun sl hp ds res rd qs hr hp'=>by
 unfold GY at hr
 cases r<;>simp only at hr<;>first |(cases hr;done)|skip
 rename_i a
 obtain ⟨o,u,q,f⟩:=a
 cases q with
 |some q=>cases hr
 |none=>
  simp only [R.run,RR.ok.injEq] at hr
  obtain ⟨rfl,rfl,rfl⟩:=hr
  exact h hp' sl hp [] ⟨o,u,none,f⟩ [] [] rfl trivial
theorem dm (n:Nm):∃k,jK n= .int k n.toInt:=by cases n<;>exact ⟨_,rfl⟩
theorem He {op : BinOp} {left : Bool} (hop : op = if left = true then .shl else .shr) (x y : Nm) (hx : (∀ z, x ≠ .lit z) ∧ ∀ z, x ≠ .int z) : aE (match y with
      | .lit b => match gL b 0 with | false => kA left x b.toNat | true => .fail
      | .int b => GY (kA left x b.toNat) (0 ≤ b)
      | y => kA left x y.toInt.toNat) fun w => (binOp op t (jK x) (jK y)).run Tryz.prog w := by
 subst hop
 have key:∀(k:IntKind) (b:Int),0≤b→aE (kA left x b.toNat) fun w=>(binOp (if left=true then .shl else .shr) t (jK x) (.int k b)).run Tryz.prog w:=fun k b hb=>by
  have:=KL (t:=t) left x b.toNat k
  rw [Int.toNat_of_nonneg hb] at this;exact this
 cases y
 case lit b=>
  show aE (match gL b 0 with |false=>kA left x b.toNat|true=> .fail) _
  cases e:gL b 0 with
  |true=>exact .fail
  |false=>rw [dx] at e;exact key _ b e
 case int b=>exact .and fun hb=>key _ b hb
 all_goals exact key _ _ (by simp [Nm.toInt])
theorem KJ (op:BinOp) (x y:Nm):aE (KI op x y) fun w=>(binOp op t (jK x) (jK y)).run Tryz.prog w:=by
 by_cases hl:op= .shl
 ·subst hl
  cases x
  case lit a=>
   cases y
   case lit b=>exact rY .shl a b
   all_goals exact lK .shl (.inl rfl) _ a _
  case int a=>obtain ⟨k,e⟩:=dm y;rw [e];exact lK .shl (.inl rfl) k a _
  all_goals exact He (left:=true) rfl _ y ⟨fun _ h=>(by cases h),fun _ h=>(by cases h)⟩
 ·by_cases hr:op= .shr
  ·subst hr
   cases x
   case lit a=>
    cases y
    case lit b=>exact rY .shr a b
    all_goals exact lK .shr (.inr rfl) _ a _
   case int a=>obtain ⟨k,e⟩:=dm y;rw [e];exact lK .shr (.inr rfl) k a _
   all_goals exact He (left:=false) rfl _ y ⟨fun _ h=>(by cases h),fun _ h=>(by cases h)⟩
  ·have e : KI op x y = (match x with
       | .lit a => match y with
         | .lit b => Cw op a b
         | .int b => ky op a b
         | _ => .fail
       | .int a => match y with
         | .lit b => ky op a b
         | .int b => ky op a b
         | _ => .fail
       | .u8 a => match y with | .u8 b => KM op a b | _ => .fail
       | .u16 a => match y with | .u16 b => Ba op a b | _ => .fail
       | .u32 a => match y with | .u32 b => Bb op a b | _ => .fail
       | .u64 a => match y with | .u64 b => Bc op a b | _ => .fail) := by
    unfold KI
    cases op<;>first |rfl|exact absurd rfl hl|exact absurd rfl hr
   rw [e]
   cases x<;>cases y<;>first |exact .fail|exact rY op _ _|exact KH op hl hr _ _|exact Bd op hl hr _ _|exact uX op hl hr _ _|exact nn op hl hr _ _|exact np op hl hr _ _
end
end Go.Proofs.YtnlhpncaldcllaaGreat
