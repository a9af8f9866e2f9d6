/- What SR rests on, part 2 of 6: my own texts, put together (merge.py). -/
import Derived.Test.YtknlbpjcjdenbaaGreatRows
import Derived.WalkKit
import Derived.ProofKit
import Derived.Lib.Hide
import Derived.OpenShut
import Derived.WalkSpells
import Derived.StillTactics
import Derived.Laws.Pointers
import Derived.Laws.CopyOwn
import Derived.Laws.AppendOwnNone
import Derived.Deep.RegionHeld3
import Derived.RowKit3
import Derived.BigQuiet
import Derived.Deep.QuietTactic
import Derived.Deep.LoopGhost
import Derived.Deep.DeepFit
import Derived.WalkLawsBesides
import Derived.Shelf.Spec.BitsCarry
import Derived.Maps.RangeWalk
import Derived.Deep.MidRow
import Derived.Laws.IdiomStrings
import Derived.Great.BuildSlice
import Derived.Lib.AppendZerosOnto
import Derived.Deep.DeepCutAuto
import Derived.Lib.SliceRun
import Derived.Laws.ResultCell
import Derived.Laws.CopyRow
import Derived.Deep.Cut
import Derived.Deep.RegionLaw
import Derived.Laws.Tables
import Derived.StillTailTactics
import Derived.Shelf.SlIter.Nil
import Derived.Shelf.SlLaysM
import Derived.Shelf.SortM.Plain
import Derived.Shelf.SortM.SortNone
import Derived.ShutString
import Derived.ChangeOld
import Derived.ChangeMaps5
import Derived.Test.YtknlbpjcjdenbaaGreatZSRA
set_option maxRecDepth 100000
namespace Go.Proofs.YtknlbpjcjdenbaaGreat
open Go Go.RowKit
def Yq:Nm→Value→Prop
 | .lit z,v=>v= .int .i64 z
 | .int z,v=>v= .int .i64 z
 | .u8 x,v=>v= .int .u8 (x.toNat:Int)
 | .u16 x,v=>v= .int .u16 (x.toNat:Int)
 | .u32 x,v=>v= .int .u32 (x.toNat:Int)
 | .u64 x,v=>v= .int .u64 (x.toNat:Int)
section
variable {η:bx} {A:Nat→Prop} {w:World}
theorem ak {u v:Value} (h: [u]= [v]):u=v:=by simpa using h
theorem bg {a:AV} {n:Nm} (h:hZ a=some n) {v:Value} (ha:a.H η A w v):Yq n v:=by
 unfold hZ at h
 split at h<;>first |(cases h;done)|(cases h;first |exact ak ha|exact ak ha.1)
end
def aG (r:R aU) (ev:World→Result Value):Prop:=∀sl hp ds res rd qs,r.run sl hp ds= .ok res rd qs→bn res.pre→
 res.upd= []∧res.fact=none∧qs= []∧∀w,∃v,ev w= .ok v w∧∀η A,bz η A w res.out v
theorem aG.fail {ev:World→Result Value}:aG .fail ev:=fun _ _ _ _ _ _ h=>by cases h
theorem aG.one {x:Cl} {ev:World→Result Value} (v:Value) (h:∀w,ev w= .ok v w) (hx:∀w η A,x.H η A w [v]):aG (aA x) ev:=fun _ _ _ _ _ _ hr _=>by
 simp only [aA,R.run,RR.ok.injEq] at hr
 obtain ⟨rfl,rfl,rfl⟩:=hr
 exact ⟨rfl,rfl,rfl,fun w=>⟨v,h w,fun η A=>hx w η A⟩⟩
theorem aG.pre {x:Cl} {p:Prop} {ev:World→Result Value} (v:Value) (h:p→∀w,ev w= .ok v w) (hx:∀w η A,x.H η A w [v]):aG (bT x p) ev:=fun _ _ _ _ _ _ hr hp=>by
 simp only [bT,R.run,RR.ok.injEq] at hr
 obtain ⟨rfl,rfl,rfl⟩:=hr
 exact ⟨rfl,rfl,rfl,fun w=>⟨v,h hp w,fun η A=>hx w η A⟩⟩
theorem Pb (z:Int) (h:OD z=true):i5 z=aA (.cv (.int .i64 z)):=by
 unfold i5;rw [h]
 cases z with
 |ofNat n=>cases n<;>rfl
 |negSucc n=>cases n<;>rfl
theorem DM (b:Bool):litB b=aA (.cv (.bool b)):=by cases b<;>rfl
theorem jh {z:Int} (h:OD z=true):gH z:=by
 unfold OD at h
 unfold gH
 cases z with
 |ofNat n=>simp only [Nat.blt_eq] at h;constructor<;>simp<;>omega
 |negSucc n=>simp only [Nat.blt_eq] at h;constructor<;>omega
theorem aG.lit {z:Int} {ev:World→Result Value} (h:gH z→∀w,ev w= .ok (.int .i64 z) w):aG (i5 z) ev:=by
 cases e:OD z with
 |false=>unfold i5;rw [e];exact .fail
 |true=>rw [Pb z e];exact .one _ (h (jh e)) fun _ _ _=>⟨rfl,rfl⟩
theorem aG.litB {b:Bool} {ev:World→Result Value} (h:∀w,ev w= .ok (.bool b) w):aG (Go.Proofs.YtknlbpjcjdenbaaGreat.litB b) ev:=by
 rw [DM];exact .one _ h fun _ _ _=>⟨rfl,rfl⟩
theorem aG.symB {b:Bool} {ev:World→Result Value} (h:∀w,ev w= .ok (.bool b) w):aG (Go.Proofs.YtknlbpjcjdenbaaGreat.symB b) ev:= .one _ h fun _ _ _=>rfl
theorem aG.symI {z:Int} {ev:World→Result Value} (h:gH z→∀w,ev w= .ok (.int .i64 z) w):aG (Go.Proofs.YtknlbpjcjdenbaaGreat.symI z) ev:= .pre _ h fun _ _ _=>rfl
theorem gg {z:Int} (h:gH z):IntKind.i64.wrap z=z:=by
 unfold gH at h
 rw [IntKind.wrap_i64];omega
theorem gG {a b:Int}:jx a b=true↔a<b:=by
 unfold jx
 cases e:a-b with
 |ofNat n=>simp;have:a-b=(n:Int):=e;omega
 | negSucc n => simp; have : a - b = -(n : Int) - 1 := by rw [e]; omega
                omega
theorem fc {a b:Int}:jx a b=false↔b≤a:=by
 have:= @gG a b
 cases e:jx a b with
 |true=>rw [e] at this;simp at this ⊢;omega
 |false=>rw [e] at this;simp at this ⊢;omega
theorem n_ (a b:Int):jx a b=decide (a<b):=by
 cases e:jx a b with
 |true=>rw [gG] at e;simp [e]
 |false=>rw [fc] at e;simp;omega
theorem EB (a b:Int):Wm a b=(a ==b):=by
 unfold Wm
 rw [Bool.eq_iff_iff,beq_iff_eq]
 cases e:a-b with
 |ofNat n=>
  have h:a-b=(n:Int):=e
  simp only [Nat.beq_eq];omega
 |negSucc n=>
  have h:a-b= -(n:Int)-1:=by rw [e];omega
  simp;omega
theorem wz {a b:Int} (ha:gH a) (h0:0≤a) (hb:gH b) (h1:0≤b):IntKind.i64.wrap ((BitVec.ofInt 64 a&&&BitVec.ofInt 64 b).toNat:Int)=((a.toNat&&&b.toNat:Nat):Int):=by
 obtain ⟨n,rfl⟩:=Int.eq_ofNat_of_zero_le h0
 obtain ⟨m,rfl⟩:=Int.eq_ofNat_of_zero_le h1
 unfold gH at ha hb
 have hn:n<2^64:=by omega
 have hm:m<2^64:=by omega
 have e:(BitVec.ofInt 64 (n:Int)&&&BitVec.ofInt 64 (m:Int)).toNat=n&&&m:=by
  rw [BitVec.ofInt_natCast,BitVec.ofInt_natCast,BitVec.toNat_and,BitVec.toNat_ofNat,BitVec.toNat_ofNat,Nat.mod_eq_of_lt hn,Nat.mod_eq_of_lt hm]
 have hle:n&&&m≤n:=Nat.and_le_left
 rw [e,Int.toNat_natCast,Int.toNat_natCast]
 exact gg ⟨by omega,by omega⟩
theorem D4 {a b:Int} (ha:gH a) (h0:0≤a) (hb:gH b) (h1:0≤b):IntKind.i64.wrap ((BitVec.ofInt 64 a|||BitVec.ofInt 64 b).toNat:Int)=((a.toNat|||b.toNat:Nat):Int):=by
 obtain ⟨n,rfl⟩:=Int.eq_ofNat_of_zero_le h0
 obtain ⟨m,rfl⟩:=Int.eq_ofNat_of_zero_le h1
 unfold gH at ha hb
 have hn:n<2^63:=by omega
 have hm:m<2^63:=by omega
 have e:(BitVec.ofInt 64 (n:Int)|||BitVec.ofInt 64 (m:Int)).toNat=n|||m:=by
  rw [BitVec.ofInt_natCast,BitVec.ofInt_natCast,BitVec.toNat_or,BitVec.toNat_ofNat,BitVec.toNat_ofNat,Nat.mod_eq_of_lt (by omega),Nat.mod_eq_of_lt (by omega)]
 have hle:n|||m<2^63:=Nat.or_lt_two_pow hn hm
 rw [e,Int.toNat_natCast,Int.toNat_natCast]
 exact gg ⟨by omega,by omega⟩
theorem pc (a:Int) (n:Nat):a.fdiv (2^n)=a/((2^n:Nat):Int):=by
 rw [Int.fdiv_eq_ediv_of_nonneg _ (by exact Int.le_of_lt (Int.pow_pos (by decide)))]
 simp
section
variable {t:TypeId}
theorem Az {op:BinOp} {a b:Int} (h:op= .quo∨op= .rem) (w:World) (ha:0≤a) (hi:gH a) (hb:0<b):(Op.intDiv op .i64 a b).run Tryz.prog w= .ok (.int .i64 (match op with | .quo=>a/b|_=>a%b)) w:=by
 unfold Op.intDiv
 rw [if_neg (by omega)]
 rcases h with rfl|rfl
 ·have h1:a/b≤a:=Int.ediv_le_self _ ha
  have h2:0≤a/b:=Int.ediv_nonneg ha (by omega)
  simp only [Int.tdiv_eq_ediv_of_nonneg ha]
  unfold gH at hi
  rw [gg ⟨by omega,by omega⟩];rfl
 ·simp only [Int.tmod_eq_emod_of_nonneg ha];rfl
theorem wi (op:BinOp) (a b:Int):aG (Fz op a b) fun w=>(binOp op t (.int .i64 a) (.int .i64 b)).run Tryz.prog w:=by
 have hs:∀(n:Int),0≤n→n<64→min n.toNat 64=n.toNat:=fun n h0 h1=>Nat.min_eq_left (by omega)
 unfold Fz
 cases op<;>simp only
 case add=>exact .lit fun h w=>by show Result.ok _ _=_;rw [gg h]
 case sub=>exact .lit fun h w=>by show Result.ok _ _=_;rw [gg h]
 case mul=>exact .lit fun h w=>by show Result.ok _ _=_;rw [gg h]
 case eql=>exact .litB fun w=>by rw [EB];rfl
 case neq=>exact .litB fun w=>by rw [EB];rfl
 case lss=>exact .litB fun w=>by rw [n_];rfl
 case gtr=>exact .litB fun w=>by rw [n_];rfl
 case leq=>exact .litB fun w=>by rw [n_,←decide_not];show Result.ok _ _=_;congr 2;exact decide_eq_decide.2 (by omega)
 case geq=>exact .litB fun w=>by rw [n_,←decide_not];show Result.ok _ _=_;congr 2;exact decide_eq_decide.2 (by omega)
 case quo=>
  split
  ·rename_i h1 h2
   rw [fc] at h1;rw [gG] at h2
   refine .lit fun h w=> ?_
   show (Op.intDiv .quo .i64 a b).run Tryz.prog w=_
   unfold Op.intDiv
   rw [if_neg (by omega)]
   simp only [Int.tdiv_eq_ediv_of_nonneg h1]
   rw [gg h];rfl
  ·exact .fail
 case rem=>
  split
  ·rename_i h1 h2
   rw [fc] at h1;rw [gG] at h2
   refine .lit fun h w=> ?_
   show (Op.intDiv .rem .i64 a b).run Tryz.prog w=_
   unfold Op.intDiv
   rw [if_neg (by omega)]
   simp only [Int.tmod_eq_emod_of_nonneg h1];rfl
  ·exact .fail
 case and=>
  split
  ·rename_i h1 h2 h3 h4
   rw [fc] at h1 h2
   exact .lit fun h w=>by rw [show (Int.ofNat _:Int)=_ from (wz (jh h3) h1 (jh h4) h2).symm];rfl
  ·exact .fail
 case or=>
  split
  ·rename_i h1 h2 h3 h4
   rw [fc] at h1 h2
   exact .lit fun h w=>by rw [show (Int.ofNat _:Int)=_ from (D4 (jh h3) h1 (jh h4) h2).symm];rfl
  ·exact .fail
 case shl=>
  split
  ·rename_i h1 h2
   rw [fc] at h1;rw [gG] at h2
   refine .lit fun h w=> ?_
   show (Op.shift .shl .i64 a .i64 b).run Tryz.prog w=_
   unfold Op.shift
   rw [if_neg (by omega)]
   have e:min b.toNat IntKind.i64.bits=b.toNat:=hs b h1 h2
   simp only [e]
   have e2:a*2^b.toNat=a*((2^b.toNat:Nat):Int):=by simp
   rw [e2,gg h];rfl
  ·exact .fail
 case shr=>
  split
  ·rename_i h1 h2
   rw [fc] at h1;rw [gG] at h2
   refine .lit fun h w=> ?_
   show (Op.shift .shr .i64 a .i64 b).run Tryz.prog w=_
   unfold Op.shift
   rw [if_neg (by omega)]
   have e:min b.toNat IntKind.i64.bits=b.toNat:=hs b h1 h2
   simp only [e,pc];rfl
  ·exact .fail
 all_goals exact .fail
theorem Sa (n:Nat):IntKind.u8.wrap (n:Int)=((UInt8.ofNat n).toNat:Int):=by
 rw [show IntKind.u8.wrap (n:Int)=(n:Int)%256 by simp [IntKind.wrap,IntKind.bits,IntKind.signed],UInt8.toNat_ofNat'];omega
theorem PY (x:UInt8):BitVec.ofInt IntKind.u8.bits (x.toNat:Int)=x.toBitVec:=by
 show BitVec.ofInt 8 (x.toNat:Int)=_
 rw [BitVec.ofInt_natCast];apply BitVec.eq_of_toNat_eq;rw [BitVec.toNat_ofNat];exact Nat.mod_eq_of_lt x.toNat_lt
theorem We (x:UInt8):IntKind.u8.wrap (x.toBitVec.toNat:Int)=(x.toNat:Int):=by
 have:=Sa x.toNat
 rw [show UInt8.ofNat x.toNat=x from UInt8.ofNat_toNat] at this;exact this
theorem Et (op:BinOp) (h1:op≠ .shl) (h2:op≠ .shr) (a b:UInt8):aG (NW op a b) fun w=>(binOp op t (.int .u8 (a.toNat:Int)) (.int .u8 (b.toNat:Int))).run Tryz.prog w:=by
 have ha:=a.toNat_lt
 have hb:=b.toNat_lt
 have hw:∀z:Int,IntKind.u8.wrap z=z%256:=fun z=>by simp [IntKind.wrap,IntKind.bits,IntKind.signed]
 have hd:∀(p q:Prop) [Decidable p] [Decidable q] (w:World),(p↔q)→(Result.ok (Value.bool (decide p)) w)= .ok (.bool (decide q)) w:=fun p q _ _ w h=>by rw [decide_eq_decide.2 h]
 unfold NW
 cases op<;>simp only
 case add=>exact .one (.int .u8 ((a+b).toNat:Int)) (fun w=>by show Result.ok _ _=_;rw [hw,UInt8.toNat_add];(congr 2)<;>omega) fun _ _ _=>rfl
 case sub=>exact .one (.int .u8 ((a-b).toNat:Int)) (fun w=>by show Result.ok _ _=_;rw [hw,UInt8.toNat_sub];(congr 2)<;>omega) fun _ _ _=>rfl
 case mul=>exact .one (.int .u8 ((a*b).toNat:Int)) (fun w=>by show Result.ok _ _=_;rw [hw,UInt8.toNat_mul];(congr 2)<;>simp) fun _ _ _=>rfl
 case and=>exact .one (.int .u8 ((a&&&b).toNat:Int)) (fun w=>by show Result.ok (Value.int _ (IntKind.wrap _ ((BitVec.ofInt _ _&&&BitVec.ofInt _ _).toNat:Int))) _=_;rw [PY,PY];exact congrArg (fun z=>Result.ok (Value.int .u8 z) w) (We (a&&&b))) fun _ _ _=>rfl
 case or=>exact .one (.int .u8 ((a|||b).toNat:Int)) (fun w=>by show Result.ok (Value.int _ (IntKind.wrap _ ((BitVec.ofInt _ _|||BitVec.ofInt _ _).toNat:Int))) _=_;rw [PY,PY];exact congrArg (fun z=>Result.ok (Value.int .u8 z) w) (We (a|||b))) fun _ _ _=>rfl
 case xor=>exact .one (.int .u8 ((a^^^b).toNat:Int)) (fun w=>by show Result.ok (Value.int _ (IntKind.wrap _ ((BitVec.ofInt _ _^^^BitVec.ofInt _ _).toNat:Int))) _=_;rw [PY,PY];exact congrArg (fun z=>Result.ok (Value.int .u8 z) w) (We (a^^^b))) fun _ _ _=>rfl
 case andNot=>exact .one (.int .u8 ((a&&& ~~~b).toNat:Int)) (fun w=>by show Result.ok (Value.int _ (IntKind.wrap _ ((BitVec.ofInt _ _&&& ~~~BitVec.ofInt _ _).toNat:Int))) _=_;rw [PY,PY];exact congrArg (fun z=>Result.ok (Value.int .u8 z) w) (We (a&&& ~~~b))) fun _ _ _=>rfl
 case quo=>exact .pre (.int .u8 ((a/b).toNat:Int)) (fun hne w=>by
  have h0:b.toNat≠0:=fun e=>hne (UInt8.toNat_inj.1 e)
  show (Op.intDiv .quo _ _ _).run Tryz.prog w=_
  unfold Op.intDiv
  rw [if_neg (by omega)]
  show Result.ok _ _=_
  have h3:a.toNat/b.toNat≤a.toNat:=Nat.div_le_self _ _
  have h4:((a.toNat/b.toNat:Nat):Int)%256=((a.toNat/b.toNat:Nat):Int):=by generalize a.toNat/b.toNat=q at h3 ⊢;omega
  rw [Int.tdiv_eq_ediv_of_nonneg (by omega),←Int.natCast_ediv,hw,UInt8.toNat_div,h4]) fun _ _ _=>rfl
 case rem=>exact .pre (.int .u8 ((a%b).toNat:Int)) (fun hne w=>by
  have h0:b.toNat≠0:=fun e=>hne (UInt8.toNat_inj.1 e)
  show (Op.intDiv .rem _ _ _).run Tryz.prog w=_
  unfold Op.intDiv
  rw [if_neg (by omega)]
  show Result.ok _ _=_
  rw [Int.tmod_eq_emod_of_nonneg (by omega),←Int.natCast_emod,UInt8.toNat_mod]) fun _ _ _=>rfl
 case eql=>exact .symB fun w=>by show Result.ok (Value.bool ((a.toNat:Int) ==(b.toNat:Int))) w=_;rw [show ((a.toNat:Int) ==(b.toNat:Int))=decide ((a.toNat:Int)=(b.toNat:Int)) from rfl];exact hd _ _ w (by rw [←UInt8.toNat_inj];omega)
 case neq=>exact .symB fun w=>by show Result.ok (Value.bool ((a.toNat:Int) != (b.toNat:Int))) w=_;rw [show ((a.toNat:Int) != (b.toNat:Int))= !decide ((a.toNat:Int)=(b.toNat:Int)) from rfl,←decide_not];exact hd _ _ w (by rw [ne_eq,←UInt8.toNat_inj];omega)
 case lss=>exact .symB fun w=>hd _ _ w (by rw [UInt8.lt_iff_toNat_lt];omega)
 case gtr=>exact .symB fun w=>hd _ _ w (by rw [UInt8.lt_iff_toNat_lt];omega)
 case leq=>exact .symB fun w=>hd _ _ w (by rw [UInt8.le_iff_toNat_le];omega)
 case geq=>exact .symB fun w=>hd _ _ w (by rw [UInt8.le_iff_toNat_le];omega)
 all_goals exact .fail
theorem Ay (n:Nat):IntKind.u16.wrap (n:Int)=((UInt16.ofNat n).toNat:Int):=by
 rw [show IntKind.u16.wrap (n:Int)=(n:Int)%65536 by simp [IntKind.wrap,IntKind.bits,IntKind.signed],UInt16.toNat_ofNat'];omega
theorem xZ (x:UInt16):BitVec.ofInt IntKind.u16.bits (x.toNat:Int)=x.toBitVec:=by
 show BitVec.ofInt 16 (x.toNat:Int)=_
 rw [BitVec.ofInt_natCast];apply BitVec.eq_of_toNat_eq;rw [BitVec.toNat_ofNat];exact Nat.mod_eq_of_lt x.toNat_lt
theorem MA (x:UInt16):IntKind.u16.wrap (x.toBitVec.toNat:Int)=(x.toNat:Int):=by
 have:=Ay x.toNat
 rw [show UInt16.ofNat x.toNat=x from UInt16.ofNat_toNat] at this;exact this
theorem yp (op:BinOp) (h1:op≠ .shl) (h2:op≠ .shr) (a b:UInt16):aG (Dz op a b) fun w=>(binOp op t (.int .u16 (a.toNat:Int)) (.int .u16 (b.toNat:Int))).run Tryz.prog w:=by
 have ha:=a.toNat_lt
 have hb:=b.toNat_lt
 have hw:∀z:Int,IntKind.u16.wrap z=z%65536:=fun z=>by simp [IntKind.wrap,IntKind.bits,IntKind.signed]
 have hd:∀(p q:Prop) [Decidable p] [Decidable q] (w:World),(p↔q)→(Result.ok (Value.bool (decide p)) w)= .ok (.bool (decide q)) w:=fun p q _ _ w h=>by rw [decide_eq_decide.2 h]
 unfold Dz
 cases op<;>simp only
 case add=>exact .one (.int .u16 ((a+b).toNat:Int)) (fun w=>by show Result.ok _ _=_;rw [hw,UInt16.toNat_add];(congr 2)<;>omega) fun _ _ _=>rfl
 case sub=>exact .one (.int .u16 ((a-b).toNat:Int)) (fun w=>by show Result.ok _ _=_;rw [hw,UInt16.toNat_sub];(congr 2)<;>omega) fun _ _ _=>rfl
 case mul=>exact .one (.int .u16 ((a*b).toNat:Int)) (fun w=>by show Result.ok _ _=_;rw [hw,UInt16.toNat_mul];(congr 2)<;>simp) fun _ _ _=>rfl
 case and=>exact .one (.int .u16 ((a&&&b).toNat:Int)) (fun w=>by show Result.ok (Value.int _ (IntKind.wrap _ ((BitVec.ofInt _ _&&&BitVec.ofInt _ _).toNat:Int))) _=_;rw [xZ,xZ];exact congrArg (fun z=>Result.ok (Value.int .u16 z) w) (MA (a&&&b))) fun _ _ _=>rfl
 case or=>exact .one (.int .u16 ((a|||b).toNat:Int)) (fun w=>by show Result.ok (Value.int _ (IntKind.wrap _ ((BitVec.ofInt _ _|||BitVec.ofInt _ _).toNat:Int))) _=_;rw [xZ,xZ];exact congrArg (fun z=>Result.ok (Value.int .u16 z) w) (MA (a|||b))) fun _ _ _=>rfl
 case xor=>exact .one (.int .u16 ((a^^^b).toNat:Int)) (fun w=>by show Result.ok (Value.int _ (IntKind.wrap _ ((BitVec.ofInt _ _^^^BitVec.ofInt _ _).toNat:Int))) _=_;rw [xZ,xZ];exact congrArg (fun z=>Result.ok (Value.int .u16 z) w) (MA (a^^^b))) fun _ _ _=>rfl
 case andNot=>exact .one (.int .u16 ((a&&& ~~~b).toNat:Int)) (fun w=>by show Result.ok (Value.int _ (IntKind.wrap _ ((BitVec.ofInt _ _&&& ~~~BitVec.ofInt _ _).toNat:Int))) _=_;rw [xZ,xZ];exact congrArg (fun z=>Result.ok (Value.int .u16 z) w) (MA (a&&& ~~~b))) fun _ _ _=>rfl
 case quo=>exact .pre (.int .u16 ((a/b).toNat:Int)) (fun hne w=>by
  have h0:b.toNat≠0:=fun e=>hne (UInt16.toNat_inj.1 e)
  show (Op.intDiv .quo _ _ _).run Tryz.prog w=_
  unfold Op.intDiv
  rw [if_neg (by omega)]
  show Result.ok _ _=_
  have h3:a.toNat/b.toNat≤a.toNat:=Nat.div_le_self _ _
  have h4:((a.toNat/b.toNat:Nat):Int)%65536=((a.toNat/b.toNat:Nat):Int):=by generalize a.toNat/b.toNat=q at h3 ⊢;omega
  rw [Int.tdiv_eq_ediv_of_nonneg (by omega),←Int.natCast_ediv,hw,UInt16.toNat_div,h4]) fun _ _ _=>rfl
 case rem=>exact .pre (.int .u16 ((a%b).toNat:Int)) (fun hne w=>by
  have h0:b.toNat≠0:=fun e=>hne (UInt16.toNat_inj.1 e)
  show (Op.intDiv .rem _ _ _).run Tryz.prog w=_
  unfold Op.intDiv
  rw [if_neg (by omega)]
  show Result.ok _ _=_
  rw [Int.tmod_eq_emod_of_nonneg (by omega),←Int.natCast_emod,UInt16.toNat_mod]) fun _ _ _=>rfl
 case eql=>exact .symB fun w=>by show Result.ok (Value.bool ((a.toNat:Int) ==(b.toNat:Int))) w=_;rw [show ((a.toNat:Int) ==(b.toNat:Int))=decide ((a.toNat:Int)=(b.toNat:Int)) from rfl];exact hd _ _ w (by rw [←UInt16.toNat_inj];omega)
 case neq=>exact .symB fun w=>by show Result.ok (Value.bool ((a.toNat:Int) != (b.toNat:Int))) w=_;rw [show ((a.toNat:Int) != (b.toNat:Int))= !decide ((a.toNat:Int)=(b.toNat:Int)) from rfl,←decide_not];exact hd _ _ w (by rw [ne_eq,←UInt16.toNat_inj];omega)
 case lss=>exact .symB fun w=>hd _ _ w (by rw [UInt16.lt_iff_toNat_lt];omega)
 case gtr=>exact .symB fun w=>hd _ _ w (by rw [UInt16.lt_iff_toNat_lt];omega)
 case leq=>exact .symB fun w=>hd _ _ w (by rw [UInt16.le_iff_toNat_le];omega)
 case geq=>exact .symB fun w=>hd _ _ w (by rw [UInt16.le_iff_toNat_le];omega)
 all_goals exact .fail
theorem zP (n:Nat):IntKind.u32.wrap (n:Int)=((UInt32.ofNat n).toNat:Int):=by
 rw [show IntKind.u32.wrap (n:Int)=(n:Int)%4294967296 by simp [IntKind.wrap,IntKind.bits,IntKind.signed],UInt32.toNat_ofNat'];omega
theorem xy (x:UInt32):BitVec.ofInt IntKind.u32.bits (x.toNat:Int)=x.toBitVec:=by
 show BitVec.ofInt 32 (x.toNat:Int)=_
 rw [BitVec.ofInt_natCast];apply BitVec.eq_of_toNat_eq;rw [BitVec.toNat_ofNat];exact Nat.mod_eq_of_lt x.toNat_lt
theorem NS (x:UInt32):IntKind.u32.wrap (x.toBitVec.toNat:Int)=(x.toNat:Int):=by
 have:=zP x.toNat
 rw [show UInt32.ofNat x.toNat=x from UInt32.ofNat_toNat] at this;exact this
theorem oI (op:BinOp) (h1:op≠ .shl) (h2:op≠ .shr) (a b:UInt32):aG (DK op a b) fun w=>(binOp op t (.int .u32 (a.toNat:Int)) (.int .u32 (b.toNat:Int))).run Tryz.prog w:=by
 have ha:=a.toNat_lt
 have hb:=b.toNat_lt
 have hw:∀z:Int,IntKind.u32.wrap z=z%4294967296:=fun z=>by simp [IntKind.wrap,IntKind.bits,IntKind.signed]
 have hd:∀(p q:Prop) [Decidable p] [Decidable q] (w:World),(p↔q)→(Result.ok (Value.bool (decide p)) w)= .ok (.bool (decide q)) w:=fun p q _ _ w h=>by rw [decide_eq_decide.2 h]
 unfold DK
 cases op<;>simp only
 case add=>exact .one (.int .u32 ((a+b).toNat:Int)) (fun w=>by show Result.ok _ _=_;rw [hw,UInt32.toNat_add];(congr 2)<;>omega) fun _ _ _=>rfl
 case sub=>exact .one (.int .u32 ((a-b).toNat:Int)) (fun w=>by show Result.ok _ _=_;rw [hw,UInt32.toNat_sub];(congr 2)<;>omega) fun _ _ _=>rfl
 case mul=>exact .one (.int .u32 ((a*b).toNat:Int)) (fun w=>by show Result.ok _ _=_;rw [hw,UInt32.toNat_mul];(congr 2)<;>simp) fun _ _ _=>rfl
 case and=>exact .one (.int .u32 ((a&&&b).toNat:Int)) (fun w=>by show Result.ok (Value.int _ (IntKind.wrap _ ((BitVec.ofInt _ _&&&BitVec.ofInt _ _).toNat:Int))) _=_;rw [xy,xy];exact congrArg (fun z=>Result.ok (Value.int .u32 z) w) (NS (a&&&b))) fun _ _ _=>rfl
 case or=>exact .one (.int .u32 ((a|||b).toNat:Int)) (fun w=>by show Result.ok (Value.int _ (IntKind.wrap _ ((BitVec.ofInt _ _|||BitVec.ofInt _ _).toNat:Int))) _=_;rw [xy,xy];exact congrArg (fun z=>Result.ok (Value.int .u32 z) w) (NS (a|||b))) fun _ _ _=>rfl
 case xor=>exact .one (.int .u32 ((a^^^b).toNat:Int)) (fun w=>by show Result.ok (Value.int _ (IntKind.wrap _ ((BitVec.ofInt _ _^^^BitVec.ofInt _ _).toNat:Int))) _=_;rw [xy,xy];exact congrArg (fun z=>Result.ok (Value.int .u32 z) w) (NS (a^^^b))) fun _ _ _=>rfl
 case andNot=>exact .one (.int .u32 ((a&&& ~~~b).toNat:Int)) (fun w=>by show Result.ok (Value.int _ (IntKind.wrap _ ((BitVec.ofInt _ _&&& ~~~BitVec.ofInt _ _).toNat:Int))) _=_;rw [xy,xy];exact congrArg (fun z=>Result.ok (Value.int .u32 z) w) (NS (a&&& ~~~b))) fun _ _ _=>rfl
 case quo=>exact .pre (.int .u32 ((a/b).toNat:Int)) (fun hne w=>by
  have h0:b.toNat≠0:=fun e=>hne (UInt32.toNat_inj.1 e)
  show (Op.intDiv .quo _ _ _).run Tryz.prog w=_
  unfold Op.intDiv
  rw [if_neg (by omega)]
  show Result.ok _ _=_
  have h3:a.toNat/b.toNat≤a.toNat:=Nat.div_le_self _ _
  have h4:((a.toNat/b.toNat:Nat):Int)%4294967296=((a.toNat/b.toNat:Nat):Int):=by generalize a.toNat/b.toNat=q at h3 ⊢;omega
  rw [Int.tdiv_eq_ediv_of_nonneg (by omega),←Int.natCast_ediv,hw,UInt32.toNat_div,h4]) fun _ _ _=>rfl
 case rem=>exact .pre (.int .u32 ((a%b).toNat:Int)) (fun hne w=>by
  have h0:b.toNat≠0:=fun e=>hne (UInt32.toNat_inj.1 e)
  show (Op.intDiv .rem _ _ _).run Tryz.prog w=_
  unfold Op.intDiv
  rw [if_neg (by omega)]
  show Result.ok _ _=_
  rw [Int.tmod_eq_emod_of_nonneg (by omega),←Int.natCast_emod,UInt32.toNat_mod]) fun _ _ _=>rfl
 case eql=>exact .symB fun w=>by show Result.ok (Value.bool ((a.toNat:Int) ==(b.toNat:Int))) w=_;rw [show ((a.toNat:Int) ==(b.toNat:Int))=decide ((a.toNat:Int)=(b.toNat:Int)) from rfl];exact hd _ _ w (by rw [←UInt32.toNat_inj];omega)
 case neq=>exact .symB fun w=>by show Result.ok (Value.bool ((a.toNat:Int) != (b.toNat:Int))) w=_;rw [show ((a.toNat:Int) != (b.toNat:Int))= !decide ((a.toNat:Int)=(b.toNat:Int)) from rfl,←decide_not];exact hd _ _ w (by rw [ne_eq,←UInt32.toNat_inj];omega)
 case lss=>exact .symB fun w=>hd _ _ w (by rw [UInt32.lt_iff_toNat_lt];omega)
 case gtr=>exact .symB fun w=>hd _ _ w (by rw [UInt32.lt_iff_toNat_lt];omega)
 case leq=>exact .symB fun w=>hd _ _ w (by rw [UInt32.le_iff_toNat_le];omega)
 case geq=>exact .symB fun w=>hd _ _ w (by rw [UInt32.le_iff_toNat_le];omega)
 all_goals exact .fail
theorem BY (n:Nat):IntKind.u64.wrap (n:Int)=((UInt64.ofNat n).toNat:Int):=by
 rw [show IntKind.u64.wrap (n:Int)=(n:Int)%18446744073709551616 by simp [IntKind.wrap,IntKind.bits,IntKind.signed],UInt64.toNat_ofNat'];omega
theorem wH (x:UInt64):BitVec.ofInt IntKind.u64.bits (x.toNat:Int)=x.toBitVec:=by
 show BitVec.ofInt 64 (x.toNat:Int)=_
 rw [BitVec.ofInt_natCast];apply BitVec.eq_of_toNat_eq;rw [BitVec.toNat_ofNat];exact Nat.mod_eq_of_lt x.toNat_lt
theorem M3 (x:UInt64):IntKind.u64.wrap (x.toBitVec.toNat:Int)=(x.toNat:Int):=by
 have:=BY x.toNat
 rw [show UInt64.ofNat x.toNat=x from UInt64.ofNat_toNat] at this;exact this
theorem pS (op:BinOp) (h1:op≠ .shl) (h2:op≠ .shr) (a b:UInt64):aG (Ey op a b) fun w=>(binOp op t (.int .u64 (a.toNat:Int)) (.int .u64 (b.toNat:Int))).run Tryz.prog w:=by
 have ha:=a.toNat_lt
 have hb:=b.toNat_lt
 have hw:∀z:Int,IntKind.u64.wrap z=z%18446744073709551616:=fun z=>by simp [IntKind.wrap,IntKind.bits,IntKind.signed]
 have hd:∀(p q:Prop) [Decidable p] [Decidable q] (w:World),(p↔q)→(Result.ok (Value.bool (decide p)) w)= .ok (.bool (decide q)) w:=fun p q _ _ w h=>by rw [decide_eq_decide.2 h]
 unfold Ey
 cases op<;>simp only
 case add=>exact .one (.int .u64 ((a+b).toNat:Int)) (fun w=>by show Result.ok _ _=_;rw [hw,UInt64.toNat_add];(congr 2)<;>omega) fun _ _ _=>rfl
 case sub=>exact .one (.int .u64 ((a-b).toNat:Int)) (fun w=>by show Result.ok _ _=_;rw [hw,UInt64.toNat_sub];(congr 2)<;>omega) fun _ _ _=>rfl
 case mul=>exact .one (.int .u64 ((a*b).toNat:Int)) (fun w=>by show Result.ok _ _=_;rw [hw,UInt64.toNat_mul];(congr 2)<;>simp) fun _ _ _=>rfl
 case and=>exact .one (.int .u64 ((a&&&b).toNat:Int)) (fun w=>by show Result.ok (Value.int _ (IntKind.wrap _ ((BitVec.ofInt _ _&&&BitVec.ofInt _ _).toNat:Int))) _=_;rw [wH,wH];exact congrArg (fun z=>Result.ok (Value.int .u64 z) w) (M3 (a&&&b))) fun _ _ _=>rfl
 case or=>exact .one (.int .u64 ((a|||b).toNat:Int)) (fun w=>by show Result.ok (Value.int _ (IntKind.wrap _ ((BitVec.ofInt _ _|||BitVec.ofInt _ _).toNat:Int))) _=_;rw [wH,wH];exact congrArg (fun z=>Result.ok (Value.int .u64 z) w) (M3 (a|||b))) fun _ _ _=>rfl
 case xor=>exact .one (.int .u64 ((a^^^b).toNat:Int)) (fun w=>by show Result.ok (Value.int _ (IntKind.wrap _ ((BitVec.ofInt _ _^^^BitVec.ofInt _ _).toNat:Int))) _=_;rw [wH,wH];exact congrArg (fun z=>Result.ok (Value.int .u64 z) w) (M3 (a^^^b))) fun _ _ _=>rfl
 case andNot=>exact .one (.int .u64 ((a&&& ~~~b).toNat:Int)) (fun w=>by show Result.ok (Value.int _ (IntKind.wrap _ ((BitVec.ofInt _ _&&& ~~~BitVec.ofInt _ _).toNat:Int))) _=_;rw [wH,wH];exact congrArg (fun z=>Result.ok (Value.int .u64 z) w) (M3 (a&&& ~~~b))) fun _ _ _=>rfl
 case quo=>exact .pre (.int .u64 ((a/b).toNat:Int)) (fun hne w=>by
  have h0:b.toNat≠0:=fun e=>hne (UInt64.toNat_inj.1 e)
  show (Op.intDiv .quo _ _ _).run Tryz.prog w=_
  unfold Op.intDiv
  rw [if_neg (by omega)]
  show Result.ok _ _=_
  have h3:a.toNat/b.toNat≤a.toNat:=Nat.div_le_self _ _
  have h4:((a.toNat/b.toNat:Nat):Int)%18446744073709551616=((a.toNat/b.toNat:Nat):Int):=by generalize a.toNat/b.toNat=q at h3 ⊢;omega
  rw [Int.tdiv_eq_ediv_of_nonneg (by omega),←Int.natCast_ediv,hw,UInt64.toNat_div,h4]) fun _ _ _=>rfl
 case rem=>exact .pre (.int .u64 ((a%b).toNat:Int)) (fun hne w=>by
  have h0:b.toNat≠0:=fun e=>hne (UInt64.toNat_inj.1 e)
  show (Op.intDiv .rem _ _ _).run Tryz.prog w=_
  unfold Op.intDiv
  rw [if_neg (by omega)]
  show Result.ok _ _=_
  rw [Int.tmod_eq_emod_of_nonneg (by omega),←Int.natCast_emod,UInt64.toNat_mod]) fun _ _ _=>rfl
 case eql=>exact .symB fun w=>by show Result.ok (Value.bool ((a.toNat:Int) ==(b.toNat:Int))) w=_;rw [show ((a.toNat:Int) ==(b.toNat:Int))=decide ((a.toNat:Int)=(b.toNat:Int)) from rfl];exact hd _ _ w (by rw [←UInt64.toNat_inj];omega)
 case neq=>exact .symB fun w=>by show Result.ok (Value.bool ((a.toNat:Int) != (b.toNat:Int))) w=_;rw [show ((a.toNat:Int) != (b.toNat:Int))= !decide ((a.toNat:Int)=(b.toNat:Int)) from rfl,←decide_not];exact hd _ _ w (by rw [ne_eq,←UInt64.toNat_inj];omega)
 case lss=>exact .symB fun w=>hd _ _ w (by rw [UInt64.lt_iff_toNat_lt];omega)
 case gtr=>exact .symB fun w=>hd _ _ w (by rw [UInt64.lt_iff_toNat_lt];omega)
 case leq=>exact .symB fun w=>hd _ _ w (by rw [UInt64.le_iff_toNat_le];omega)
 case geq=>exact .symB fun w=>hd _ _ w (by rw [UInt64.le_iff_toNat_le];omega)
 all_goals exact .fail
end
section
variable {t:TypeId}
theorem Nt (op:BinOp) (h1:op≠ .shl) (h2:op≠ .shr) (a b:Int):aG (m8 op a b) fun w=>(binOp op t (.int .i64 a) (.int .i64 b)).run Tryz.prog w:=by
 have hd:∀(p q:Prop) [Decidable p] [Decidable q] (w:World),(p↔q)→(Result.ok (Value.bool (decide p)) w)= .ok (.bool (decide q)) w:=fun p q _ _ w h=>by rw [decide_eq_decide.2 h]
 unfold m8
 cases op<;>simp only
 case add=>exact .symI fun h w=>by show Result.ok _ _=_;rw [gg h]
 case sub=>exact .symI fun h w=>by show Result.ok _ _=_;rw [gg h]
 case mul=>exact .symI fun h w=>by show Result.ok _ _=_;rw [gg h]
 case quo=>exact .pre _ (fun h w=>Az (op:= .quo) (.inl rfl) w h.2.1 h.1 h.2.2) fun _ _ _=>rfl
 case rem=>
  refine .pre (.int .i64 (a%b)) (fun h w=> ?_) fun _ _ _=>rfl
  show (Op.intDiv .rem .i64 a b).run Tryz.prog w=_
  unfold Op.intDiv
  rw [if_neg (by omega)]
  simp only [Int.tmod_eq_emod_of_nonneg h.1];rfl
 case eql=>exact .symB fun w=>rfl
 case neq=>exact .symB fun w=>by show Result.ok (Value.bool (a != b)) w=_;rw [show (a != b)= !decide (a=b) from rfl,←decide_not]
 case lss=>exact .symB fun w=>rfl
 case gtr=>exact .symB fun w=>rfl
 case leq=>exact .symB fun w=>rfl
 case geq=>exact .symB fun w=>rfl
 case and=>exact .pre _ (fun h w=>by rw [←wz h.1.1 h.1.2 h.2.1 h.2.2];rfl) fun _ _ _=>rfl
 case or=>exact .pre _ (fun h w=>by rw [←D4 h.1.1 h.1.2 h.2.1 h.2.2];rfl) fun _ _ _=>rfl
 case shl=>exact absurd rfl h1
 case shr=>exact absurd rfl h2
 all_goals exact .fail
theorem nV (op:BinOp) (h:op= .shl∨op= .shr) (k:IntKind) (a b:Int):aG (m8 op a b) fun w=>(binOp op t (.int .i64 a) (.int k b)).run Tryz.prog w:=by
 have hs:∀(n:Int),0≤n→n<64→min n.toNat 64=n.toNat:=fun n h0 h1=>Nat.min_eq_left (by omega)
 rcases h with rfl|rfl
 ·refine .pre _ (fun h w=> ?_) fun _ _ _=>rfl
  show (Op.shift .shl .i64 a k b).run Tryz.prog w=_
  unfold Op.shift
  rw [if_neg (by omega)]
  have e:min b.toNat IntKind.i64.bits=b.toNat:=hs b h.1 h.2.1
  simp only [e]
  have e2:a*2^b.toNat=a*((2^b.toNat:Nat):Int):=by simp
  rw [e2,gg h.2.2];rfl
 ·refine .pre _ (fun h w=> ?_) fun _ _ _=>rfl
  show (Op.shift .shr .i64 a k b).run Tryz.prog w=_
  unfold Op.shift
  rw [if_neg (by omega)]
  have e:min b.toNat IntKind.i64.bits=b.toNat:=hs b h.1 h.2
  simp only [e,pc];rfl
theorem MH {B n:Nat} (x:Nat):((x*2^min n B:Nat))%2^B=(x*2^n)%2^B:=by
 rcases Nat.le_total n B with h|h
 ·rw [Nat.min_eq_left h]
 ·rw [Nat.min_eq_right h]
  obtain ⟨d,rfl⟩:∃d,n=B+d:=⟨n-B,by omega⟩
  rw [Nat.pow_add,←Nat.mul_assoc,Nat.mul_right_comm,Nat.mul_mod_left,Nat.mul_mod_left]
theorem La {B n x:Nat} (hx:x<2^B):x/2^min n B=x/2^n:=by
 rcases Nat.le_total n B with h|h
 ·rw [Nat.min_eq_left h]
 ·rw [Nat.min_eq_right h,Nat.div_eq_of_lt hx,Nat.div_eq_of_lt (Nat.lt_of_lt_of_le hx (Nat.pow_le_pow_right (by decide) h))]
theorem nU {k k':IntKind} {B:Nat} (hB:k.bits=B) (hw:∀z:Int,k.wrap z=z%((2^B:Nat):Int)) {x n:Nat} (w:World):(binOp .shl t (.int k (x:Int)) (.int k' (n:Int))).run Tryz.prog w= .ok (.int k ((x*2^n%2^B:Nat):Int)) w:=by
 show (Op.shift .shl k _ k' _).run Tryz.prog w=_
 unfold Op.shift
 rw [if_neg (by omega)]
 simp only [Int.toNat_natCast,hB,hw]
 rw [←MH]
 show Result.ok _ _=_
 (congr 2)<;>simp
theorem oz {k k':IntKind} {B:Nat} (hB:k.bits=B) {x n:Nat} (hx:x<2^B) (w:World):(binOp .shr t (.int k (x:Int)) (.int k' (n:Int))).run Tryz.prog w= .ok (.int k ((x/2^n:Nat):Int)) w:=by
 show (Op.shift .shr k _ k' _).run Tryz.prog w=_
 unfold Op.shift
 rw [if_neg (by omega)]
 simp only [Int.toNat_natCast,hB,pc]
 rw [←La (n:=n) hx]
 show Result.ok _ _=_
 congr 2
def ma:Nm→Value
 | .lit z=> .int .i64 z| .int z=> .int .i64 z
 | .u8 x=> .int .u8 (x.toNat:Int)| .u16 x=> .int .u16 (x.toNat:Int)| .u32 x=> .int .u32 (x.toNat:Int)| .u64 x=> .int .u64 (x.toNat:Int)
theorem dL {n:Nm} {v:Value} (h:Yq n v):v=ma n:=by cases n<;>exact h
theorem NX (left:Bool) (x:Nm) (n:Nat) (k':IntKind):aG (mK left x n) fun w=>(binOp (if left=true then .shl else .shr) t (ma x) (.int k' (n:Int))).run Tryz.prog w:=by
 unfold mK
 cases x
 case lit=>exact .fail
 case int=>exact .fail
 case u8 a=>
  cases left with
  |true=>
   refine .one (.int .u8 ((s8 a n).toNat:Int)) (fun w=> ?_) fun _ _ _=>rfl
   have:=nU (t:=t) (k:= .u8) (k':=k') (B:=8) rfl (fun z=>by simp [IntKind.wrap,IntKind.bits,IntKind.signed]) (x:=a.toNat) (n:=n) w
   rw [show (s8 a n).toNat=a.toNat*2^n%2^8 from by unfold s8;rw [UInt8.toNat_ofNat']];exact this
  |false=>
   refine .one (.int .u8 ((r8 a n).toNat:Int)) (fun w=> ?_) fun _ _ _=>rfl
   have:=oz (t:=t) (k:= .u8) (k':=k') (B:=8) rfl (x:=a.toNat) (n:=n) a.toNat_lt w
   rw [show (r8 a n).toNat=a.toNat/2^n from by unfold r8;rw [UInt8.toNat_ofNat',Nat.mod_eq_of_lt (Nat.lt_of_le_of_lt (Nat.div_le_self _ _) a.toNat_lt)]];exact this
 case u16 a=>
  cases left with
  |true=>
   refine .one (.int .u16 ((Sb a n).toNat:Int)) (fun w=> ?_) fun _ _ _=>rfl
   have:=nU (t:=t) (k:= .u16) (k':=k') (B:=16) rfl (fun z=>by simp [IntKind.wrap,IntKind.bits,IntKind.signed]) (x:=a.toNat) (n:=n) w
   rw [show (Sb a n).toNat=a.toNat*2^n%2^16 from by unfold Sb;rw [UInt16.toNat_ofNat']];exact this
  |false=>
   refine .one (.int .u16 ((Ws a n).toNat:Int)) (fun w=> ?_) fun _ _ _=>rfl
   have:=oz (t:=t) (k:= .u16) (k':=k') (B:=16) rfl (x:=a.toNat) (n:=n) a.toNat_lt w
   rw [show (Ws a n).toNat=a.toNat/2^n from by unfold Ws;rw [UInt16.toNat_ofNat',Nat.mod_eq_of_lt (Nat.lt_of_le_of_lt (Nat.div_le_self _ _) a.toNat_lt)]];exact this
 case u32 a=>
  cases left with
  |true=>
   refine .one (.int .u32 ((Tv a n).toNat:Int)) (fun w=> ?_) fun _ _ _=>rfl
   have:=nU (t:=t) (k:= .u32) (k':=k') (B:=32) rfl (fun z=>by simp [IntKind.wrap,IntKind.bits,IntKind.signed]) (x:=a.toNat) (n:=n) w
   rw [show (Tv a n).toNat=a.toNat*2^n%2^32 from by unfold Tv;rw [UInt32.toNat_ofNat']];exact this
  |false=>
   refine .one (.int .u32 ((PO a n).toNat:Int)) (fun w=> ?_) fun _ _ _=>rfl
   have:=oz (t:=t) (k:= .u32) (k':=k') (B:=32) rfl (x:=a.toNat) (n:=n) a.toNat_lt w
   rw [show (PO a n).toNat=a.toNat/2^n from by unfold PO;rw [UInt32.toNat_ofNat',Nat.mod_eq_of_lt (Nat.lt_of_le_of_lt (Nat.div_le_self _ _) a.toNat_lt)]];exact this
 case u64 a=>
  cases left with
  |true=>
   refine .one (.int .u64 ((kA a n).toNat:Int)) (fun w=> ?_) fun _ _ _=>rfl
   have:=nU (t:=t) (k:= .u64) (k':=k') (B:=64) rfl (fun z=>by simp [IntKind.wrap,IntKind.bits,IntKind.signed]) (x:=a.toNat) (n:=n) w
   rw [show (kA a n).toNat=a.toNat*2^n%2^64 from by unfold kA;rw [UInt64.toNat_ofNat']];exact this
  |false=>
   refine .one (.int .u64 ((iz a n).toNat:Int)) (fun w=> ?_) fun _ _ _=>rfl
   have:=oz (t:=t) (k:= .u64) (k':=k') (B:=64) rfl (x:=a.toNat) (n:=n) a.toNat_lt w
   rw [show (iz a n).toNat=a.toNat/2^n from by unfold iz;rw [UInt64.toNat_ofNat',Nat.mod_eq_of_lt (Nat.lt_of_le_of_lt (Nat.div_le_self _ _) a.toNat_lt)]];exact this
theorem aG.and {r:R aU} {p:Prop} {ev:World→Result Value} (h:p→aG r ev):aG (Hy r p) ev:=fun sl hp ds res rd qs hr hp'=>by
 unfold Hy at hr
 cases r<;>simp only at hr<;>first |(cases hr;done)|skip
 rename_i a
 obtain ⟨o,u,q,f⟩:=a
 cases q with
 |some q=>cases hr
 |none=>
  simp only [R.run,RR.ok.injEq] at hr
  obtain ⟨rfl,rfl,rfl⟩:=hr
  exact h hp' sl hp [] ⟨o,u,none,f⟩ [] [] rfl trivial
theorem eN (n:Nm):∃k,ma n= .int k n.toInt:=by cases n<;>exact ⟨_,rfl⟩
theorem Jp {op : BinOp} {left : Bool} (hop : op = if left = true then .shl else .shr) (x y : Nm) (hx : (∀ z, x ≠ .lit z) ∧ ∀ z, x ≠ .int z) : aG (match y with
      | .lit b => match jx b 0 with | false => mK left x b.toNat | true => .fail
      | .int b => Hy (mK left x b.toNat) (0 ≤ b)
      | y => mK left x y.toInt.toNat) fun w => (binOp op t (ma x) (ma y)).run Tryz.prog w := by
 subst hop
 have key:∀(k:IntKind) (b:Int),0≤b→aG (mK left x b.toNat) fun w=>(binOp (if left=true then .shl else .shr) t (ma x) (.int k b)).run Tryz.prog w:=fun k b hb=>by
  have:=NX (t:=t) left x b.toNat k
  rw [Int.toNat_of_nonneg hb] at this;exact this
 cases y
 case lit b=>
  show aG (match jx b 0 with |false=>mK left x b.toNat|true=> .fail) _
  cases e:jx b 0 with
  |true=>exact .fail
  |false=>rw [fc] at e;exact key _ b e
 case int b=>exact .and fun hb=>key _ b hb
 all_goals exact key _ _ (by simp [Nm.toInt])
theorem Nk (op:BinOp) (x y:Nm):aG (Om op x y) fun w=>(binOp op t (ma x) (ma y)).run Tryz.prog w:=by
 by_cases hl:op= .shl
 ·subst hl
  cases x
  case lit a=>
   cases y
   case lit b=>exact wi .shl a b
   all_goals exact nV .shl (.inl rfl) _ a _
  case int a=>obtain ⟨k,e⟩:=eN y;rw [e];exact nV .shl (.inl rfl) k a _
  all_goals exact Jp (left:=true) rfl _ y ⟨fun _ h=>(by cases h),fun _ h=>(by cases h)⟩
 ·by_cases hr:op= .shr
  ·subst hr
   cases x
   case lit a=>
    cases y
    case lit b=>exact wi .shr a b
    all_goals exact nV .shr (.inr rfl) _ a _
   case int a=>obtain ⟨k,e⟩:=eN y;rw [e];exact nV .shr (.inr rfl) k a _
   all_goals exact Jp (left:=false) rfl _ y ⟨fun _ h=>(by cases h),fun _ h=>(by cases h)⟩
  ·have e : Om op x y = (match x with
       | .lit a => match y with
         | .lit b => Fz op a b
         | .int b => m8 op a b
         | _ => .fail
       | .int a => match y with
         | .lit b => m8 op a b
         | .int b => m8 op a b
         | _ => .fail
       | .u8 a => match y with | .u8 b => NW op a b | _ => .fail
       | .u16 a => match y with | .u16 b => Dz op a b | _ => .fail
       | .u32 a => match y with | .u32 b => DK op a b | _ => .fail
       | .u64 a => match y with | .u64 b => Ey op a b | _ => .fail) := by
    unfold Om
    cases op<;>first |rfl|exact absurd rfl hl|exact absurd rfl hr
   rw [e]
   cases x<;>cases y<;>first |exact .fail|exact wi op _ _|exact Nt op hl hr _ _|exact Et op hl hr _ _|exact yp op hl hr _ _|exact oI op hl hr _ _|exact pS op hl hr _ _
end
section
variable {η:bx} {A:Nat→Prop} {w:World}
theorem Cl.H.len {x:Cl} {cs:List Value} (h:x.H η A w cs):cs.length=x.n:=by
 cases x
 case ob k x=>have:=k.rp.len _ _ h;rw [k.rp_n] at this;exact this
 case vec k n l=>have:=h.2.len;rw [h.1,k.rp_n,Nat.mul_comm] at this;exact this
 case any=>obtain ⟨v,rfl,_⟩:=h;rfl
 case un=>cases h;rfl
 case cv=>obtain ⟨rfl,_⟩:=h;rfl
 case ptr=>obtain ⟨g,_,rfl⟩:=h;rfl
 case pix=>obtain ⟨g,_,rfl⟩:=h;rfl
 case pro=>obtain ⟨g,o,us,rfl,_⟩:=h;rfl
 case sl=>obtain ⟨_,g,_,rfl⟩:=h;rfl
 case rw=>obtain ⟨v,_,rfl,_⟩:=h;rfl
 case sub=>obtain ⟨v,a,c,_,rfl,_⟩:=h;rfl
 case ro=>obtain ⟨v,rfl,_⟩:=h;rfl
 case bb=>obtain ⟨a,c,rfl,_⟩:=h;rfl
 case pbb=>obtain ⟨g,o,v,rfl,_⟩:=h;rfl
 case ln=>obtain ⟨rfl,_⟩:=h;rfl
 case mp=>obtain ⟨rfl,_⟩:=h;rfl
 case rv=>obtain ⟨rfl,_⟩:=h;rfl
theorem aK.append:∀ {l m:List Cl} {cs ds:List Value},aK η A w l cs→aK η A w m ds→aK η A w (l++m) (cs++ds)
 | [],_,_,_,h,k=>by cases h;exact k
 |_::_,_,_,_,⟨h,t,e,hx,hr⟩,k=>⟨h,t++_,by rw [e,List.append_assoc],hx,hr.append k⟩
theorem cZ {a b:Nat} (h:Nat.ble a b=true):a≤b:=Nat.le_of_ble_eq_true h
theorem Dm {a b:Nat} (h:Nat.ble a b=false):b<a:=by
 rcases Nat.lt_or_ge b a with h1|h1
 ·exact h1
 ·rw [Nat.ble_eq_true_of_le h1] at h;cases h
theorem ix:∀ {l:List Cl} {n:Nat} {r:List Cl},fX l n=some r→∀ {cs:List Value},aK η A w l cs→n≤cs.length∧aK η A w r (cs.drop n)
 |l,0,r,h,cs,hc=>by
  have:l=r:=by cases l<;>(simp only [fX,Option.some.injEq] at h;exact h)
  subst this
  exact ⟨Nat.zero_le _,by simpa using hc⟩
 | [],n+1,r,h,cs,hc=>by cases h
 |x::l,n+1,r,h,cs,⟨hd,t,e,hx,hr⟩=>by
  have hlen:=hx.len
  subst e
  unfold fX at h
  cases e1:Nat.ble x.n (n+1) with
  |true=>
   rw [e1] at h
   obtain ⟨h1,h2⟩:=ix h hr
   have:=cZ e1
   refine ⟨by simp;omega,?_⟩
   rw [List.drop_append,List.drop_of_length_le (by omega),List.nil_append,hlen];exact h2
  |false=>
   rw [e1] at h
   have hn:=Dm e1
   cases x<;>simp only at h<;>first |(cases h;done)|skip
   rename_i k m q
   cases e2:Nat.beq k.n 1 with
   |false=>rw [e2] at h;cases h
   |true=>
    rw [e2] at h
    have hk:=aQ e2
    cases h
    obtain ⟨g1,g2⟩:=hx
    simp only [Cl.n,hk,Nat.mul_one] at hn hlen
    refine ⟨by simp;omega,hd.drop (n+1),t,by rw [List.drop_append_of_le_length (by omega)],⟨by simp;omega,?_⟩,hr⟩
    have:=g2.drop (n+1)
    rw [k.rp_n,hk,Nat.one_mul] at this;exact this
theorem j3:∀ {l:List Cl} {n:Nat} {r:List Cl},iS l n=some r→∀ {cs:List Value},aK η A w l cs→n≤cs.length∧aK η A w r (cs.take n)
 |l,0,r,h,cs,hc=>by
  have: []=r:=by cases l<;>(simp only [iS,Option.some.injEq] at h;exact h)
  subst this
  exact ⟨Nat.zero_le _,rfl⟩
 | [],n+1,r,h,cs,hc=>by cases h
 |x::l,n+1,r,h,cs,⟨hd,t,e,hx,hr⟩=>by
  have hlen:=hx.len
  subst e
  unfold iS at h
  cases e1:Nat.ble x.n (n+1) with
  |true=>
   rw [e1] at h
   simp only at h
   have hle:=cZ e1
   cases e2:iS l (n+1-x.n) with
   |none=>rw [e2] at h;cases h
   |some q=>
    rw [e2] at h
    cases h
    obtain ⟨h1,h2⟩:=j3 e2 hr
    refine ⟨by simp;omega,hd,t.take (n+1-x.n),?_,hx,h2⟩
    rw [List.take_append,List.take_of_length_le (by omega),hlen]
  |false=>
   rw [e1] at h
   have hn:=Dm e1
   cases x<;>simp only at h<;>first |(cases h;done)|skip
   rename_i k m q
   cases e2:Nat.beq k.n 1 with
   |false=>rw [e2] at h;cases h
   |true=>
    rw [e2] at h
    have hk:=aQ e2
    cases h
    obtain ⟨g1,g2⟩:=hx
    simp only [Cl.n,hk,Nat.mul_one] at hn hlen
    refine ⟨by simp;omega,hd.take (n+1),[],?_,⟨by simp;omega,?_⟩,rfl⟩
    ·rw [List.take_append_of_le_length (by omega),List.append_nil]
    ·have:=g2.take (n+1)
     rw [k.rp_n,hk,Nat.one_mul] at this;exact this
theorem aK.len:∀ {l:List Cl} {cs:List Value},aK η A w l cs→cs.length=uH l
 | [],_,h=>by cases h;rfl
 |_::_,_,⟨h,t,e,hx,hr⟩=>by subst e;rw [List.length_append,hx.len,hr.len];rfl
theorem pL:∀ {l:List Cl} {o n:Nat} {new r:List Cl},sE l o n new=some r→∀ {cs ds:List Value},aK η A w l cs→aK η A w new ds→(o+n≤cs.length∧ds.length=n)∧aK η A w r (cs.take o++ds++cs.drop (o+n))
 |l,0,n,new,r,h,cs,ds,hc,hn=>by
  have h':(match Nat.beq (uH new) n with |true=>(match fX l n with |some r=>some (new++r)|none=>none)|false=>none)=some r:=by cases l<;>exact h
  cases e0:Nat.beq (uH new) n with
  |false=>rw [e0] at h';cases h'
  |true=>
  rw [e0] at h'
  simp only at h'
  cases e:fX l n with
  |none=>rw [e] at h';cases h'
  |some q=>
   rw [e] at h'
   cases h'
   obtain ⟨h1,h2⟩:=ix e hc
   exact ⟨⟨by omega,hn.len.trans (aQ e0)⟩,by rw [Nat.zero_add,List.take_zero,List.nil_append];exact hn.append h2⟩
 | [],o+1,n,new,r,h,cs,ds,hc,hn=>by cases h
 |x::l,o+1,n,new,r,h,cs,ds,⟨hd,t,e,hx,hr⟩,hn=>by
  have hlen:=hx.len
  subst e
  unfold sE at h
  cases e1:Nat.ble x.n (o+1) with
  |false=>rw [e1] at h;cases h
  |true=>
   rw [e1] at h
   simp only at h
   have hle:=cZ e1
   cases e2:sE l (o+1-x.n) n new with
   |none=>rw [e2] at h;cases h
   |some q=>
    rw [e2] at h
    cases h
    obtain ⟨⟨h1,h3⟩,h2⟩:=pL e2 hr hn
    refine ⟨⟨by simp;omega,h3⟩,hd,_,?_,hx,h2⟩
    rw [List.take_append,List.take_of_length_le (by omega),hlen,List.drop_append,List.drop_of_length_le (by omega),List.nil_append,hlen,show o+1+n-x.n=o+1-x.n+n by omega]
    simp
theorem nO:∀ {l:List Cl} {o:Nat} {x:Cl},Ae l o=some x→∀ {cs:List Value},aK η A w l cs→o+x.n≤cs.length∧x.H η A w ((cs.drop o).take x.n)∧∀ {y:Cl} {r:List Cl},yo l o y=some r→∀ {ds:List Value},y.H η A w ds→aK η A w r (cs.take o++ds++cs.drop (o+x.n))
 | [],_,_,h,_,_=>by cases h
 |x::l,0,z,h,_,⟨hd,t,e,hx,hr⟩=>by
  cases h
  have hlen:=hx.len
  subst e
  refine ⟨by simp;omega,by rw [List.drop_zero,List.take_append,List.take_of_length_le (by omega),hlen,Nat.sub_self,List.take_zero,List.append_nil];exact hx,fun {y r} h {ds} hy=> ?_⟩
  cases h
  exact ⟨ds,t,by rw [List.take_zero,Nat.zero_add,List.drop_append,List.drop_of_length_le (by omega),hlen,Nat.sub_self];simp,hy,hr⟩
 |x::l,o+1,z,h,_,⟨hd,t,e,hx,hr⟩=>by
  have hlen:=hx.len
  subst e
  unfold Ae at h
  cases e1:Nat.ble x.n (o+1) with
  |false=>rw [e1] at h;cases h
  |true=>
   rw [e1] at h
   have hle:=cZ e1
   obtain ⟨h1,h2,h3⟩:=nO h hr
   refine ⟨by simp;omega,by rw [List.drop_append,List.drop_of_length_le (by omega),List.nil_append,hlen];exact h2,fun {y r} h {ds} hy=> ?_⟩
   unfold yo at h
   rw [e1] at h
   simp only at h
   cases e2:yo l (o+1-x.n) y with
   |none=>rw [e2] at h;cases h
   |some q=>
    rw [e2] at h
    cases h
    refine ⟨hd,_,?_,hx,h3 e2 hy⟩
    rw [List.take_append,List.take_of_length_le (by omega),hlen,List.drop_append,List.drop_of_length_le (by omega),List.nil_append,hlen,show o+1+z.n-x.n=o+1-x.n+z.n by omega]
    simp
theorem Kd.sc_n {k:Kd} (h:k.sc=true):k.n=1:=by cases k<;>first |rfl|cases h
theorem jP {k:Kd} (hk:k.n=1):∀ {l:List k.T} {cs:List Value},bj k.rp l cs→∀ {i:Nat},i<l.length→∃v,cs[i]?=some v∧k.rp.rep (l.getD i k.df) [v]
 | [],_,_,i,hi=>by simp at hi
 |x::l,_,⟨h,r,hx,e,hr⟩,i,hi=>by
  obtain ⟨v,rfl,_⟩:=Kd.one_rep hk hx
  subst e
  cases i with
  |zero=>exact ⟨v,rfl,by simpa using hx⟩
  |succ i=>
   obtain ⟨u,h1,h2⟩:=jP hk hr (i:=i) (by simpa using hi)
   exact ⟨u,by simpa using h1,by simpa using h2⟩
theorem jp {k:Kd} (hk:k.n=1):∀ {l:List k.T} {cs:List Value},bj k.rp l cs→∀ {i:Nat} {x:k.T} {v:Value},k.rp.rep x [v]→bj k.rp (l.set i x) (cs.set i v)
 | [],_,h,i,x,v,hx=>by cases h;simp [bj]
 |y::l,_,⟨h,r,hy,e,hr⟩,i,x,v,hx=>by
  obtain ⟨u,rfl,_⟩:=Kd.one_rep hk hy
  subst e
  cases i with
  |zero=>exact ⟨[v],r,hx,by simp,hr⟩
  |succ i=>exact ⟨[u],_,hy,by simp,jp hk hr hx⟩
theorem cS {k:Kd} (hk:k.n=1) {l:List k.T} {cs:List Value} (h:bj k.rp l cs):cs.length=l.length:=by
 have:=h.len;rw [k.rp_n,hk,Nat.one_mul] at this;exact this
theorem lp {a b:Nat} (h:Nat.blt a b=true):a<b:=by simpa using h
theorem CO {a b:Nat} (h:Nat.blt a b=false):b≤a:=by
 rcases Nat.lt_or_ge a b with h1|h1
 ·have:Nat.blt a b=true:=by simp [h1]
  rw [this] at h;cases h
 ·exact h1
theorem lV:∀ {l:List Cl} {o:Nat} {x:Cl},oY l o=some x→∀ {cs:List Value},aK η A w l cs→∃v,cs[o]?=some v∧x.H η A w [v]
 | [],_,_,h,_,_=>by cases h
 |x::l,o,z,h,_,⟨hd,t,e,hx,hr⟩=>by
  have hlen:=hx.len
  subst e
  have hgen:(match (generalizing:=false) o with
    |0=>match Nat.beq x.n 1 with |true=>some x|false=>D6 x
    |o+1=>match Nat.ble x.n (o+1) with
     |true=>oY l (o+1-x.n)
     |false=>none)=some z→∃v,(hd++t)[o]?=some v∧z.H η A w [v]:=fun h=>by
   cases o with
   |zero=>
    simp only at h
    cases e1:Nat.beq x.n 1 with
    |false=>
     rw [e1] at h
     replace h:D6 x=some z:=h
     unfold D6 at h
     split at h
     ·rename_i y _
      cases h
      obtain ⟨_,rfl⟩:=hx
      have:=di (Fin.val (n:=Pq) y) 0
      refine ⟨_,rfl,?_⟩
      show [Value.int .u64 _]= [Value.int .u64 _]
      rw [UInt64.toNat_ofNat',Nat.mod_eq_of_lt (by omega)]
     ·cases h
    |true=>
     rw [e1] at h
     cases h
     have hn:=aQ e1
     rw [hn] at hlen
     obtain ⟨v,rfl⟩:=List.length_eq_one_iff.1 hlen
     exact ⟨v,rfl,hx⟩
   |succ o=>
    simp only at h
    cases e1:Nat.ble x.n (o+1) with
    |false=>rw [e1] at h;cases h
    |true=>
     rw [e1] at h
     have hle:=cZ e1
     obtain ⟨v,h1,h2⟩:=lV h hr
     exact ⟨v,by rw [List.getElem?_append_right (by omega),hlen];exact h1,h2⟩
  cases x
  case vec k n q=>
   unfold oY at h
   simp only at h
   cases e1:k.sc with
   |false=>rw [e1] at h;cases h
   |true=>
    rw [e1] at h
    simp only at h
    have hk:=Kd.sc_n e1
    have hq:=cS hk hx.2
    cases e2:Nat.blt o n with
    |true=>
     rw [e2] at h
     cases h
     have ho:=lp e2
     obtain ⟨v,h1,h2⟩:=jP hk hx.2 (i:=o) (by rw [hx.1];exact ho)
     exact ⟨v,by rw [List.getElem?_append_left (by rw [hq,hx.1];exact ho)];exact h1,h2⟩
    |false=>
     rw [e2] at h
     have ho:=CO e2
     obtain ⟨v,h1,h2⟩:=lV h hr
     exact ⟨v,by rw [List.getElem?_append_right (by rw [hq,hx.1];exact ho),hq,hx.1];exact h1,h2⟩
  all_goals exact hgen h
theorem mI:∀ {l:List Cl} {o:Nat} {y:Cl} {r:List Cl},eO l o y=some r→∀ {cs:List Value} {v:Value},aK η A w l cs→y.H η A w [v]→o<cs.length∧aK η A w r (cs.set o v)
 | [],_,_,_,h,_,_,_,_=>by cases h
 |x::l,o,y,r,h,_,v,⟨hd,t,e,hx,hr⟩,hy=>by
  have hlen:=hx.len
  subst e
  have hgen:(match (generalizing:=false) o with
    |0=>match Nat.beq x.n 1 with |true=>some (y::l)|false=>none
    |o+1=>match Nat.ble x.n (o+1) with
     |true=>match eO l (o+1-x.n) y with |some l=>some (x::l)|none=>none
     |false=>none)=some r→o<(hd++t).length∧aK η A w r ((hd++t).set o v):=fun h=>by
   cases o with
   |zero=>
    simp only at h
    cases e1:Nat.beq x.n 1 with
    |false=>rw [e1] at h;cases h
    |true=>
     rw [e1] at h
     cases h
     have hn:=aQ e1
     rw [hn] at hlen
     obtain ⟨u,rfl⟩:=List.length_eq_one_iff.1 hlen
     exact ⟨by simp,[v],t,by simp,hy,hr⟩
   |succ o=>
    simp only at h
    cases e1:Nat.ble x.n (o+1) with
    |false=>rw [e1] at h;cases h
    |true=>
     rw [e1] at h
     simp only at h
     have hle:=cZ e1
     cases e2:eO l (o+1-x.n) y with
     |none=>rw [e2] at h;cases h
     |some q=>
      rw [e2] at h
      cases h
      obtain ⟨h1,h2⟩:=mI e2 hr hy
      exact ⟨by simp;omega,hd,_,by rw [List.set_append_right _ _ (by omega),hlen],hx,h2⟩
  have hvec:∀ {k:Kd} {n:Nat} {q:List k.T} {z:k.T},k.n=1→(Cl.vec k n q).H η A w hd→k.rp.rep z [v]→(match Nat.blt o n with
    |true=>some (.vec k n (q.set o z)::l)
    |false=>match eO l (o-n) y with |some l=>some (.vec k n q::l)|none=>none)=some r→o<(hd++t).length∧aK η A w r ((hd++t).set o v):=fun {k n q z} hk hx hz h=>by
   have hq:=cS hk hx.2
   have hqn:=hx.1
   cases e2:Nat.blt o n with
   |true=>
    rw [e2] at h
    cases h
    have ho:=lp e2
    refine ⟨by simp;omega,hd.set o v,t,by rw [List.set_append_left _ _ (by omega)],⟨by simp [hqn],jp hk hx.2 hz⟩,hr⟩
   |false=>
    rw [e2] at h
    simp only at h
    have ho:=CO e2
    cases e3:eO l (o-n) y with
    |none=>rw [e3] at h;cases h
    |some p=>
     rw [e3] at h
     cases h
     obtain ⟨h1,h2⟩:=mI e3 hr hy
     exact ⟨by simp;omega,hd,_,by rw [List.set_append_right _ _ (by omega),hq,hqn],hx,h2⟩
  cases x
  case vec k n q=>
   unfold eO at h
   cases y
   case ob k2 z=>
    cases k<;>cases k2<;>first |exact hvec rfl hx hy h|(cases h;done)|(simp only at h;cases h;done)|(simp at h;done)
   all_goals (cases k<;>first |(cases h;done)|(simp only at h;cases h;done)|(simp at h;done))
  all_goals
   unfold eO at h
   exact hgen h
end
def u_ (d:TypeDesc):TI→Prop
 | .k .u8=>d= .int .u8| .k .u16=>d= .int .u16| .k .u32=>d= .int .u32| .k .u64=>d= .int .u64| .k .int=>d= .int .i64
 | .k .bool=>d= .bool| .k .str=>d= .string| .k (.x _)=>False
 | .ptr=>∃e,d= .pointer e
 | .fn=>d.isRow=false
 | .sl e=>d= .slice e
 | .arr n e=>d= .array n e
 | .st fs=>∃fl,d= .struct fl∧fl.toList.map (fun f=>(f.offset,f.type))=fs
 | .oth=>True
structure wq (ty:Nat→TE) (t:Nat) (i:TypeInfo) (d:TypeDesc) (z:Value):Prop where
 info:Tryz.prog.info? t=some i
 und:Tryz.prog.underlying t=some d
 desc:u_ d (ty t).ti
 size:i.size=(ty t).size
 zero:i.zero=some z
 cells:∀η A w,aK η A w (ty t).zero z.cells.toList
 one:∀v∈z.cells.toList,v.oneCell'=true
 kz:∀k,(ty t).ti= .k k→k.rp.rep k.df z.cells.toList
 zs:z.cells.size=(ty t).size
 ks:∀k,(ty t).ti= .k k→(ty t).size=k.n
 bytes:i.bytes≤4096
def bk (ty:Nat→TE):Prop:=∀t,(ty t).ti= .oth∨∃i d z,wq ty t i d z
theorem de {α:Type} {ty:Nat→TE} (hT:bk ty) {t:Nat} {r:R α} {sl:Nat→List AV} {hp:Nat→Option Ch} {ds:List Bool} {a:α} {rd:List dZ} {qs:List (Bool×Bool)} (h:(kn ty t r).run sl hp ds= .ok a rd qs):(∃i d z,wq ty t i d z)∧r.run sl hp ds= .ok a rd qs:=by
 rcases hT t with h1|h1
 ·unfold kn at h;rw [h1] at h;cases h
 ·refine ⟨h1,?_⟩
  unfold kn at h
  split at h
  ·cases h
  ·exact h
section
variable {ty:Nat→TE} {t:Nat} {i:TypeInfo} {d:TypeDesc} {z:Value}
theorem wq.sizeOf (h:wq ty t i d z) (w:World):(sizeOf t).run Tryz.prog w= .ok (ty t).size w:=by
 simp [Go.sizeOf,typeInfo,h.info,h.size]
theorem wq.isAgg (h:wq ty t i d z) (hn:(ty t).ti≠ .oth) (w:World):(isAgg t).run Tryz.prog w= .ok (ty t).isAgg w∧d.isRow=(ty t).isAgg:=by
 have hd:=h.desc
 have e:d.isRow=(ty t).isAgg:=by
  unfold TE.isAgg
  cases ht:(ty t).ti with
  |oth=>exact absurd ht hn
  |k k=>rw [ht] at hd;cases k<;>first |(cases hd;rfl)|exact hd.elim
  |ptr=>rw [ht] at hd;obtain ⟨_,rfl⟩:=hd;rfl
  |fn=>rw [ht] at hd;exact hd
  |sl e=>rw [ht] at hd;cases hd;rfl
  |arr n e=>rw [ht] at hd;cases hd;rfl
  |st fs=>rw [ht] at hd;obtain ⟨_,rfl,_⟩:=hd;rfl
 refine ⟨?_,e⟩
 rw [←e]
 unfold Go.isAgg
 rw [Sem.run_bind,run_underlying h.und w]
 cases d<;>simp
end
structure dh (H:Nat→Option Ch) (η:bx) (w:World):Prop where
 chunk:∀b c,H b=some c→c.H η (ay H η) w b
 apart:∀b b' g,b≠b'→H b≠none→H b'≠none→bu η b=some g→bu η b'≠some g
structure bE (H:Nat→Option Ch) (η:bx) (w:World) (nx:Nat) (res:aU) (v:Value) (w':World) (η':bx):Prop where
 out:bz η' (ay (bF res.upd H) η') w' res.out v
 hp:dh (bF res.upd H) η' w'
 fw:Fw H η w (bF res.upd H) η' w'
 env:∀b,b<nx∨nx+16≤b→η' b=η b
 fact:bn res.fact
def OpDone (H:Nat→Option Ch) (η:bx) (w:World) (nx:Nat) (res:aU) (o:Oper) (a:Act):Prop:=
 (∃nv v w' η',(execOp a.eval o).run Tryz.prog w= .ok nv w'∧(nv= .value v∨(nv= .skip∧v=undef))∧bE H η w nx res v w' η')∨
 ∃f args,(execOp a.eval o).run Tryz.prog w= .ok (.enter f args) w∧Calls Tryz.prog f args w fun e w'=>∃v η',e= .returned v∧bE H η w nx res v w' η'
section
variable {H:Nat→Option Ch} {η:bx} {w:World} {nx:Nat}
theorem bE.pure (hH:dh H η w) {out:List AV} {v:Value} (ho:bz η (ay H η) w out v) {pre fact:Option Prop} (hf:bn fact):bE H η w nx ⟨out,[],pre,fact⟩ v w η:=
 ⟨ho,hH,Fw.refl _ _ _,fun _ _=>rfl,hf⟩
theorem bE.new (hH:dh H η w) (hn:H nx=none) (hfree:∀b,nx≤b→b<nx+16→η b=none) {w':World} (hb:Below w.heap.size w w') {ref:Value} (hr:∀g,xC ref=some g→w.heap.size≤g) {c:Ch} {out:List AV} {v:Value} {pre:Option Prop}
  (hc:∀η' A',(∀b u,η b=some u→η' b=some u)→(∀g,g<w.heap.size→ay H η g→A' g)→η' nx=some ref→c.H η' A' w' nx∧bz η' A' w' out v):
  ∃η',bE H η w nx ⟨out,[(nx,some c)],pre,none⟩ v w' η':=by
 have h0:η nx=none:=hfree nx (Nat.le_refl _) (by omega)
 let η':bx:=fun b=>if b=nx then some ref else η b
 have he:∀b u,η b=some u→η' b=some u:=fun b u hu=>by
  show (if b=nx then some ref else η b)=some u
  rw [if_neg (by rintro rfl;rw [h0] at hu;cases hu)];exact hu
 have hne:∀b,b≠nx→η' b=η b:=fun b hb=>by show (if b=nx then some ref else η b)=η b;rw [if_neg hb]
 have hnx:η' nx=some ref:=by show (if nx=nx then some ref else η nx)=_;rw [if_pos rfl]
 have hupd:∀b,bF [(nx,some c)] H b=if b=nx then some c else H b:=fun b=>rfl
 have hfp:∀b g,H b≠none→bu η b=some g→g<w.heap.size:=fun b g hb hg=>by
  cases e:H b with
  |none=>exact absurd e hb
  |some c=>
   have:=hH.chunk b c e
   cases c with
   |blk E l=>
    obtain ⟨g',cs,h1,h2,_⟩:=this
    unfold bu at hg;rw [h1] at hg;cases hg;exact h2.lt
   |row E k l=>
    obtain ⟨u,cs,h1,h2,h3⟩:=this
    rcases h3.2 with ⟨rfl,_⟩|⟨g',cap,cur,rfl,_,h4,_⟩
    ·unfold bu at hg;rw [h1] at hg;cases hg
    ·unfold bu at hg;rw [h1] at hg;cases hg;exact (Array.getElem?_eq_some_iff.1 h4).1
 have hA:∀g,g<w.heap.size→ay H η g→ay (bF [(nx,some c)] H) η' g:=fun g hg ha b hb=>by
  by_cases e:b=nx
  ·subst e;unfold bu;rw [hnx];exact fun h=>by have:=hr g h;omega
  ·rw [hupd,if_neg e] at hb
   unfold bu;rw [hne b e];exact ha b hb
 have hfw:Fw H η w (bF [(nx,some c)] H) η' w':=⟨hb.os,hb.tape,hb.output,hb.size,he,fun g hg ha=>⟨hb.block g hg,hA g hg ha⟩⟩
 obtain ⟨h1,h2⟩:=hc η' (ay (bF [(nx,some c)] H) η') he hA hnx
 refine ⟨η',h2,⟨fun b c' hb'=> ?_,fun b b' g hbb hb1 hb2 hg=> ?_⟩,hfw,fun b hb=>hne b (by omega),trivial⟩
 ·rw [hupd] at hb'
  by_cases e:b=nx
  ·subst e;rw [if_pos rfl] at hb';cases hb';exact h1
  ·rw [if_neg e] at hb'
   exact (hH.chunk b c' hb').later hfw.lt fun g hg=>hb.block g (hfp b g (by rw [hb'];simp) hg)
 ·rw [hupd] at hb1 hb2
  by_cases e:b=nx
  ·subst e
   rw [if_neg (Ne.symm hbb)] at hb2
   unfold bu at hg ⊢
   rw [hnx] at hg
   rw [hne b' (Ne.symm hbb)]
   have:=hr g hg
   intro h
   have:=hfp b' g hb2 h
   omega
  ·rw [if_neg e] at hb1
   unfold bu at hg ⊢
   rw [hne b e] at hg
   by_cases e':b'=nx
   ·subst e';rw [hnx];intro h;have:=hr g h;have:=hfp b g hb1 hg;omega
   ·rw [if_neg e'] at hb2
    rw [hne b' e']
    exact hH.apart b b' g hbb hb1 hb2 hg
theorem bE.set (hH:dh H η w) {b g:Nat} {c c':Ch} (hb:H b=some c) (hg:bu η b=some g) {w':World} (ho:w'.os=w.os) (ht:w'.tape=w.tape) (hu:w'.output=w.output) (hz:w.heap.size=w'.heap.size) (hw:∀x,x≠g→w'.heap[x]?=w.heap[x]?)
  (hc:∀A',(∀g,ay H η g→A' g)→Lt η (ay H η) w η A' w'→c'.H η A' w' b) {pre:Option Prop}:bE H η w nx ⟨[],[(b,some c')],pre,none⟩ undef w' η:=by
 have hupd:∀x,bF [(b,some c')] H x=if x=b then some c' else H x:=fun b=>rfl
 have hA:∀g',ay H η g'→ay (bF [(b,some c')] H) η g':=fun g' ha x hx=>by
  rw [hupd] at hx
  by_cases e:x=b
  ·subst e;exact ha x (by rw [hb];simp)
  ·rw [if_neg e] at hx;exact ha x hx
 have hfw:Fw H η w (bF [(b,some c')] H) η w':=⟨ho,ht,hu,by omega,fun _ _ h=>h,fun g' _ ha=>⟨hw g' fun e=>ha b (by rw [hb];simp) (by rw [hg,e]),hA g' ha⟩⟩
 refine ⟨trivial,⟨fun x cx hx=> ?_,fun x x' g' hxx hx1 hx2 hgx=> ?_⟩,hfw,fun _ _=>rfl,trivial⟩
 ·rw [hupd] at hx
  by_cases e:x=b
  ·subst e;rw [if_pos rfl] at hx;cases hx;exact hc _ hA ⟨fun _ _ h=>h,fun g' hg' ha=>hfw.anon g' hg' ha⟩
  ·rw [if_neg e] at hx
   exact (hH.chunk x cx hx).later hfw.lt fun g' hg'=>hw g' fun e2=>by
    subst e2
    exact hH.apart x b g' e (by rw [hx];simp) (by rw [hb];simp) hg' hg
 ·rw [hupd] at hx1 hx2
  refine hH.apart x x' g' hxx ?_ ?_ hgx
  ·by_cases e:x=b
   ·subst e;rw [hb];simp
   ·rw [if_neg e] at hx1;exact hx1
  ·by_cases e:x'=b
   ·subst e;rw [hb];simp
   ·rw [if_neg e] at hx2;exact hx2
end
section
variable {ty:Nat→TE} {sl:Nat→List AV} {H:Nat→Option Ch} {η:bx} {w:World} {nx N:Nat} {a:Act} {o:Oper} {ds:List Bool} {res:aU} {rd:List dZ} {qs:List (Bool×Bool)}
theorem aG.done {r:R aU} {ev:World→Result Value} (h:aG r ev) (hr:r.run sl H ds= .ok res rd qs) (hp:bn res.pre) (hH:dh H η w) (hex:∀v,ev w= .ok v w→(execOp a.eval o).run Tryz.prog w= .ok (.value v) w):OpDone H η w nx res o a:=by
 obtain ⟨h1,h2,_,h4⟩:=h _ _ _ _ _ _ hr hp
 obtain ⟨v,hv,hout⟩:=h4 w
 obtain ⟨out,upd,pre,fact⟩:=res
 simp only at h1 h2
 subst h1 h2
 exact .inl ⟨_,v,w,η,hex v hv,.inl rfl,.pure hH (hout _ _) trivial⟩
theorem aw {x:Cl} (h:(aA x).run sl H ds= .ok res rd qs):res=⟨[.one x],[],none,none⟩:=by
 simp only [aA,R.run,RR.ok.injEq] at h;exact h.1.symm
theorem aZ {x:Cl} {p:Prop} (h:(bT x p).run sl H ds= .ok res rd qs):res=⟨[.one x],[],some p,none⟩:=by
 simp only [bT,R.run,RR.ok.injEq] at h;exact h.1.symm
theorem aE {r:aU} (h:(R.pure r).run sl H ds= .ok res rd qs):res=r:=by
 simp only [R.run,RR.ok.injEq] at h;exact h.1.symm
theorem OpDone.val (hH:dh H η w) {x:Cl} {v:Value} {pre:Option Prop} (hx:x.H η (ay H η) w [v]) (hex:(execOp a.eval o).run Tryz.prog w= .ok (.value v) w):OpDone H η w nx ⟨[.one x],[],pre,none⟩ o a:=
 .inl ⟨_,v,w,η,hex,.inl rfl,.pure (out:= [.one x]) (v:=v) hH hx trivial⟩
theorem NF {t:Nat} (ho:o.op= .move (.tmp t)) (hS:gR sl H N η a w) (h:(R.slot t fun l=>match l with | []=> .fail|a::r=> .pure ⟨a::r,[],none,none⟩:R aU).run sl H ds= .ok res rd qs):OpDone H η w nx res o a:=by
 obtain ⟨rd',h⟩:=jQ h
 have hs:=hS.slot t
 split at h
 ·cases h
 ·rename_i x r e
  rw [e] at hs
  have:=aE h
  subst this
  refine .inl ⟨_,a.eval (.tmp t),w,η,?_,.inl rfl,.pure (out:=x::r) (v:=a.eval (.tmp t)) ⟨hS.chunk,hS.apart⟩ hs trivial⟩
  unfold execOp
  simp [ho]
theorem Il {x:Operand} (ho:o.op= .move x∨o.op= .assign x) (hS:gR sl H N η a w) (h:(eK x fun a=> .pure ⟨[a],[],none,none⟩:R aU).run sl H ds= .ok res rd qs):OpDone H η w nx res o a:=by
 obtain ⟨av,rd',h,hv⟩:=bt h hS.slot
 have:=aE h
 subst this
 refine .inl ⟨_,a.eval x,w,η,?_,.inl rfl,.pure (out:= [av]) (v:=a.eval x) ⟨hS.chunk,hS.apart⟩ hv trivial⟩
 unfold execOp
 rcases ho with ho|ho<;>simp [ho]
end
section
variable {ty:Nat→TE} {sl:Nat→List AV} {H:Nat→Option Ch} {η:bx} {w:World} {nx N:Nat} {a:Act} {o:Oper} {ds:List Bool} {res:aU} {rd:List dZ} {qs:List (Bool×Bool)}
theorem gR.hpOk (h:gR sl H N η a w):dh H η w:=⟨h.chunk,h.apart⟩
theorem gT {nb:Nat} {x:Cl} {c:Ch} {p:Option Prop} (h:(vk nb x c p).run sl H ds= .ok res rd qs):H nb=none∧res=⟨[.one x],[(nb,some c)],p,none⟩:=by
 obtain ⟨rd',h⟩:=cg (show (R.hp nb _).run sl H ds=_ from h)
 cases e:H nb with
 |none=>rw [e] at h;exact ⟨rfl,aE h⟩
 |some c=>rw [e] at h;cases h
theorem z7 {t:Nat} {i:TypeInfo} {z:Value} (h1:Tryz.prog.info? t=some i) (h2:i.zero=some z):(Instr.alloc t true (.tuple #[])).run Tryz.prog w= .ok (.pointer (some ⟨w.heap.size,0,none⟩)) (w.alloc (.cells z.cells t)):=by
 simp [Instr.alloc,zeroValue,typeInfo,h1,h2,newVar,newRow,newObj,Sem.run]
theorem tD (E:Nat) (cs:List Value):aj (w.alloc (.cells cs.toArray E)) w.heap.size cs E:=by
 have:=aj.new w cs.toArray E;simpa using this
theorem Pk {t:Nat} (hT:bk ty) (ho:o.op= .alloc t) (hS:gR sl H N η a w) (hfree:∀b,nx≤b→b<nx+16→η b=none) (h:(kn ty t (vk nx (.ptr nx 0) (.blk t (ty t).zero) none)).run sl H ds= .ok res rd qs):OpDone H η w nx res o a:=by
 obtain ⟨⟨i,d,z,hK⟩,h⟩:=de hT h
 obtain ⟨hn,rfl⟩:=gT h
 obtain ⟨η',hR⟩:=bE.new (nx:=nx) (ref:= .pointer (some ⟨w.heap.size,0,none⟩)) (c:= .blk t (ty t).zero) (out:= [.one (.ptr nx 0)]) (v:= .pointer (some ⟨w.heap.size,0,none⟩)) (pre:=none) hS.hpOk hn hfree (w':=w.alloc (.cells z.cells t)) ((Below.refl _ _).alloc (Nat.le_refl _) _) (fun g hg=>by cases hg;exact Nat.le_refl _)
  (fun η' A' he hA hnx=>⟨⟨_,z.cells.toList,hnx,tD t z.cells.toList,hK.cells _ _ _,hK.one⟩,_,hnx,rfl⟩)
 refine .inl ⟨_,_,_,η',?_,.inl rfl,hR⟩
 unfold execOp
 simp only [ho]
 rw [Sem.run_bind,z7 hK.info hK.zero]
 simp
theorem Cl.H.one {A:Nat→Prop} {x:Cl} (hx:x≠ .un) {cs:List Value} (h:x.H η A w cs):∀v∈cs,v.oneCell'=true:=by
 cases x
 case un=>exact absurd rfl hx
 case ob k x=>exact k.rp.one _ _ h
 case vec k n l=>exact h.2.one
 case any=>obtain ⟨v,rfl,hv⟩:=h;simpa using hv
 case cv=>obtain ⟨rfl,hv⟩:=h;simpa using hv
 case ptr=>obtain ⟨g,_,rfl⟩:=h;simp [Value.oneCell']
 case pix=>obtain ⟨g,_,rfl⟩:=h;simp [Value.oneCell']
 case pro=>obtain ⟨g,o,us,rfl,_⟩:=h;simp [Value.oneCell']
 case sl=>obtain ⟨_,g,_,rfl⟩:=h;simp [Value.oneCell']
 case rw=>obtain ⟨v,_,rfl,hv⟩:=h;simpa using hv
 case sub=>obtain ⟨v,a,c,_,rfl,_⟩:=h;simp [Value.oneCell']
 case ro=>obtain ⟨v,rfl,a,c,rfl,_⟩:=h;simp [Value.oneCell']
 case bb=>obtain ⟨a,c,rfl,_⟩:=h;simp [Value.oneCell']
 case pbb=>obtain ⟨g,o,v,rfl,_⟩:=h;simp [Value.oneCell']
 case ln=>obtain ⟨rfl,⟨a,c,rfl⟩,_⟩:=h;simp [Value.oneCell']
 case mp=>obtain ⟨rfl,g,m,D,rfl,_⟩:=h;simp [Value.oneCell']
 case rv=>obtain ⟨rfl,a,c,rfl,_⟩:=h;simp [Value.oneCell']
theorem nw {v:Value} (h:v.oneCell'=true):v.cells= #[v]:=by cases v<;>first |rfl|cases h
theorem fQ {b g:Nat} {E:Nat} {l:List Cl} (hS:dh H η w) (hb:H b=some (.blk E l)) (hg:η b=some (.pointer (some ⟨g,0,none⟩))):∃cs,aj w g cs E∧aK η (ay H η) w l cs∧∀v∈cs,v.oneCell'=true:=by
 obtain ⟨g',cs,h1,h2,h3,h4⟩:=hS.chunk b _ hb
 rw [hg] at h1;cases h1
 exact ⟨cs,h2,h3,h4⟩
theorem aj.range {g E q n:Nat} {cs:List Value} (h:aj w g cs E):w.rangeAt g q ((cs.drop q).take n):=fun j v hv=>by
 rw [h.cell]
 rw [List.getElem?_take] at hv
 split at hv
 ·rw [List.getElem?_drop] at hv;exact hv
 ·cases hv
theorem ip {t:Nat} {i:TypeInfo} {d:TypeDesc} {z:Value} (hK:wq ty t i d z) (hn:(ty t).ti≠ .oth) (ha:(ty t).isAgg=false) {g q:Nat} {v:Value} (hc:w.cell? ⟨g,q,none⟩=some v):(Instr.loadAt t (.pointer (some ⟨g,q,none⟩))).run Tryz.prog w= .ok v w:=by
 have:=(hK.isAgg hn w).1
 rw [ha] at this
 simp only [Instr.loadAt,Instr.sureAddr,Sem.run_bind,Sem.run_pure,Result.andThen_ok,loadVar,this]
 simp [load,Sem.run,hc]
theorem FB {t:Nat} {i:TypeInfo} {d:TypeDesc} {z:Value} (hK:wq ty t i d z) (hn:(ty t).ti≠ .oth) (ha:(ty t).isAgg=true) {g q:Nat} {cs:List Value} (hc:w.rangeAt g q cs) (hl:cs.length=(ty t).size):(Instr.loadAt t (.pointer (some ⟨g,q,none⟩))).run Tryz.prog w= .ok (.agg cs.toArray) w:=by
 have h2:=(hK.isAgg hn w).2
 rw [ha] at h2
 exact run_loadAt_mid w g q t cs d hc hK.und h2 (by rw [hK.info];simp [hK.size,hl])
theorem MZ {t:Nat} {x:Operand} (ho:o.op= .load t x) {v:Value} (h:(Instr.loadAt t (a.eval x)).run Tryz.prog w= .ok v w):(execOp a.eval o).run Tryz.prog w= .ok (.value v) w:=by
 unfold execOp
 simp only [ho]
 rw [Sem.run_bind,h]
 simp
theorem Bh {t:Nat} {α:Type} {r:R α} {x:α} (h:(kn ty t r).run sl H ds= .ok x rd qs):(ty t).ti≠ .oth:=by
 intro e
 unfold kn at h
 rw [e] at h;cases h
theorem DO {t:Nat} {av:AV} {v0:Value} (hT:bk ty) (hH:dh H η w) (h:(pT ty t av).run sl H ds= .ok res rd qs) (hp:bn res.pre) (hv:av.H η (ay H η) w v0):∃out pre v,res=⟨out,[],pre,none⟩∧(Instr.loadAt t v0).run Tryz.prog w= .ok v w∧bz η (ay H η) w out v:=by
 unfold pT at h
 have hn:=Bh h
 obtain ⟨⟨i,d,z,hK⟩,h9⟩:=de hT h
 clear h
 have h:=h9
 clear h9
 split at h
 ·-- a place in a block
  rename_i b q
  obtain ⟨g,hg,hv⟩:=hv
  obtain ⟨_,h9⟩:=cg h
  clear h
  have h:=h9
  clear h9
  split at h
  ·rename_i E l hb
   obtain ⟨cs,hB,hc,h1⟩:=fQ hH hb hg
   split at h
   ·rename_i ha
    split at h
    ·rename_i r e1
     split at h
     ·rename_i u e2
      obtain ⟨z1,z2⟩:=ix e1 hc
      obtain ⟨z3,z4⟩:=j3 e2 z2
      have:=aE h
      subst this
      refine ⟨[.agg u],none,_,rfl,by rw [ak hv];exact FB hK hn ha hB.range (by rw [List.length_take];omega),⟨_,rfl,z4,fun v hv=>h1 v (List.mem_of_mem_drop (List.mem_of_mem_take hv))⟩⟩
     ·cases h
    ·cases h
   ·rename_i ha
    split at h
    ·rename_i y e1
     obtain ⟨v,z1,z2⟩:=lV e1 hc
     have:=aw h
     subst this
     exact ⟨_,_,_,rfl,(by rw [ak hv];exact ip hK hn ha (by rw [hB.cell];exact z1)),z2⟩
    ·cases h
  ·cases h
 ·rename_i b q j
  obtain ⟨g,hg,hv⟩:=hv
  obtain ⟨_,h9⟩:=cg h
  clear h
  have h:=h9
  clear h9
  split at h
  ·rename_i E l hb
   split at h
   ·rename_i k n l' e1
    split at h
    ·rename_i hk ha
     have:=aZ h
     subst this
     have hk1:=Kd.sc_n hk
     obtain ⟨g',cs,h1,hB,hc,_⟩:=hH.chunk b _ hb
     have:g'=g:=by unfold bu at hg;rw [h1] at hg;cases hg;rfl
     subst this
     obtain ⟨z1,z2,_⟩:=nO e1 hc
     have hlen:=cS hk1 z2.2
     obtain ⟨v,y1,y2⟩:=jP hk1 z2.2 (i:=j) (by rw [z2.1];exact hp)
     exact ⟨_,_,_,rfl,(by rw [ak hv];exact ip hK hn ha (by
      rw [hB.cell]
      rw [List.getElem?_take] at y1
      split at y1
      ·rw [List.getElem?_drop] at y1;exact y1
      ·cases y1)),y2⟩
    ·cases h
   ·cases h
  ·rename_i E k l hb
   split at h
   ·rename_i hk hq ha
    have:=aZ h
    subst this
    have hk1:=Kd.sc_n hk
    have hq0:=aQ hq
    subst hq0
    obtain ⟨v',cs,h1,h2,h3⟩:=hH.chunk b _ hb
    rcases jB h2 h3 with ⟨_,rfl⟩|⟨g',c,e,_,_,hr⟩
    ·simp at hp;exact absurd hp (by simp [bn])
    ·have:g'=g:=by unfold bu at hg;rw [h1,e] at hg;cases hg;rfl
     subst this
     obtain ⟨v,y1,y2⟩:=jP hk1 h2 (i:=j) hp
     exact ⟨_,_,_,rfl,(by rw [ak hv];exact ip hK hn ha (hr _ _ y1)),y2⟩
   ·cases h
  ·cases h
 ·rename_i k y
  obtain ⟨g,q,us,hv,hA,hr,hc⟩:=hv
  split at h
  ·rename_i hk ha
   have:=aw h
   subst this
   obtain ⟨v,rfl,_⟩:=Kd.one_rep (Kd.sc_n hk) hr
   exact ⟨_,_,_,rfl,(by rw [ak hv];exact ip hK hn ha (by have:=hc 0 v rfl;rw [Nat.add_zero] at this;exact this)),hr⟩
  ·cases h
 ·rename_i l
  obtain ⟨g,q,v,hv,hA,hc,hr⟩:=hv
  split at h
  ·rename_i ha
   have:=aw h
   subst this
   exact ⟨_,_,_,rfl,(by rw [ak hv];exact ip hK hn ha hc),⟨v,rfl,hr⟩⟩
  ·cases h
 ·cases h
theorem QQ {t:Nat} {x:Operand} (hT:bk ty) (ho:o.op= .load t x) (hS:gR sl H N η a w) (h:(eK x fun a=>pT ty t a:R aU).run sl H ds= .ok res rd qs) (hp:bn res.pre):OpDone H η w nx res o a:=by
 obtain ⟨av,rd',h,hv⟩:=bt h hS.slot
 obtain ⟨out,pre,v,rfl,h1,h2⟩:=DO hT hS.hpOk h hp hv
 exact .inl ⟨_,v,w,η,MZ ho h1,.inl rfl,.pure hS.hpOk h2 trivial⟩
end
theorem oM {g:Nat} {E:TypeId}:∀(cs:List Value) (o:Nat) (w:World) (old:List Value),aj w g old E→o+cs.length≤old.length→aj (w.setCells g o cs) g (old.take o++cs++old.drop (o+cs.length)) E
 | [],o,w,old,h,_=>by simpa [World.setCells] using h
 |v::r,o,w,old,h,hl=>by
  simp only [List.length_cons] at hl
  have h2:=oM r (o+1) _ _ (h.set o v) (by rw [List.length_set];omega)
  have e:(old.set o v).take (o+1)++r++(old.set o v).drop (o+1+r.length)=old.take o++(v::r)++old.drop (o+(v::r).length):=by
   rw [List.take_set,List.drop_set_of_lt (by omega),List.take_add_one,List.getElem?_eq_getElem (by omega)]
   simp only [Option.toList_some,List.length_cons]
   rw [List.set_append_right _ _ (by rw [List.length_take];omega),List.length_take,Nat.min_eq_left (by omega),Nat.sub_self]
   simp [Nat.add_assoc,Nat.add_comm 1]
  rw [e] at h2
  exact h2
theorem aj.there {w:World} {g E:Nat} {cs:List Value} (h:aj w g cs E) {o n:Nat} (hn:o+n≤cs.length):w.there g o n:=fun j hj=>by
 rw [h.cell,List.getElem?_eq_getElem (by omega)]
 exact ⟨rfl,h.frozen _⟩
section
variable {ty:Nat→TE} {sl:Nat→List AV} {H:Nat→Option Ch} {η:bx} {w:World} {nx N:Nat} {a:Act} {o:Oper} {ds:List Bool} {res:aU} {rd:List dZ} {qs:List (Bool×Bool)}
theorem j6:∀ {l:List Cl},nN l=true→∀ {A:Nat→Prop} {cs:List Value},aK η A w l cs→∀v∈cs,v.oneCell'=true
 | [],_,_,_,h,v,hv=>by cases h;cases hv
 |x::r,hl,_,_,⟨hd,t,e,hx,hr⟩,v,hv=>by
  subst e
  have hne:x≠ .un:=by rintro rfl;cases hl
  have hl':nN r=true:=by cases x<;>first |exact hl|exact absurd rfl hne
  rcases List.mem_append.1 hv with h|h
  ·exact hx.one hne v h
  ·exact j6 hl' hr v h
theorem AV.cells {A:Nat→Prop} {x:AV} {v:Value} (h:x.H η A w v) (hn:nN (fK x)=true):∃cs:List Value,v.cells=cs.toArray∧aK η A w (fK x) cs∧∀u∈cs,u.oneCell'=true:=by
 cases x with
 |one x=>
  have hc:aK η A w [x] [v]:=⟨[v],[],rfl,h,rfl⟩
  have h1:=j6 hn hc
  exact ⟨[v],nw (h1 v (by simp)),hc,h1⟩
 |agg l=>
  obtain ⟨cs,rfl,hc,h1⟩:=h
  exact ⟨cs,rfl,hc,h1⟩
theorem UG {t:Nat} {x:Operand} (ho:o.op= .box t x) (hS:gR sl H N η a w) (hfree:∀b,nx≤b→b<nx+16→η b=none) (h:(eK x fun a=>match nN (fK a) with |true=>vk nx (.ptr nx 0) (.blk t (fK a)) none|false=> .fail:R aU).run sl H ds= .ok res rd qs):OpDone H η w nx res o a:=by
 obtain ⟨av,rd',h,hv⟩:=bt h hS.slot
 split at h
 ·rename_i hu
  obtain ⟨hn,rfl⟩:=gT h
  obtain ⟨cs,e,hc,h1⟩:=AV.cells hv hu
  obtain ⟨η',hR⟩:=bE.new (nx:=nx) (ref:= .pointer (some ⟨w.heap.size,0,none⟩)) (c:= .blk t (fK av)) (out:= [.one (.ptr nx 0)]) (v:= .pointer (some ⟨w.heap.size,0,none⟩)) (pre:=none) hS.hpOk hn hfree (w':=w.alloc (.cells cs.toArray t)) ((Below.refl _ _).alloc (Nat.le_refl _) _) (fun g hg=>by cases hg;exact Nat.le_refl _)
   (fun η' A' he hA hnx=>⟨⟨_,cs,hnx,tD t cs,hc.later ⟨he,fun g hg ha=>⟨Below.heap_alloc _ _ _ hg,hA g hg ha⟩⟩,h1⟩,_,hnx,rfl⟩)
  refine .inl ⟨_,_,_,η',?_,.inl rfl,hR⟩
  unfold execOp
  simp only [ho,Instr.box,newVar,newRow,newObj,e]
  rfl
 ·cases h
theorem mc {t:Nat} {x y:Operand} (ho:o.op= .store t x y) {w':World} (h:(Instr.storeAt t (a.eval x) (a.eval y)).run Tryz.prog w= .ok () w'):(execOp a.eval o).run Tryz.prog w= .ok .skip w':=by
 unfold execOp
 simp only [ho]
 rw [Sem.run_bind,h]
 simp
theorem ld {t:Nat} {i:TypeInfo} {d:TypeDesc} {z:Value} (hK:wq ty t i d z) (h1:(ty t).size=1) {g q E:Nat} {cs:List Value} {v:Value} (hv:v.oneCell'=true) (hB:aj w g cs E) (hq:q<cs.length):
  (Instr.storeAt t (.pointer (some ⟨g,q,none⟩)) v).run Tryz.prog w= .ok () (w.setCell ⟨g,q,none⟩ v):=by
 have hs:=hK.sizeOf w
 rw [h1] at hs
 have hc:w.cell? ⟨g,q,none⟩=some cs[q]:=by rw [hB.cell,List.getElem?_eq_getElem hq]
 have hf:=hB.frozen q
 simp only [Instr.storeAt,Instr.sureAddr,Sem.run_bind,Sem.run_pure,Result.andThen_ok,storeVar,nw hv,hs]
 simp [storeCells,run_store Tryz.prog w ⟨g,q,none⟩ v _ hv,hc,hf,Addr.add]
theorem gL {g q x:Nat} (h:x≠g) (v:Value):(w.setCell ⟨g,q,none⟩ v).heap[x]?=w.heap[x]?:=Below.heap_setCell _ _ _ _ h
theorem mi {b:Nat} {c:Ch} {p:Option Prop} (h:(Ho b c p).run sl H ds= .ok res rd qs):res=⟨[],[(b,some c)],p,none⟩:=aE h
theorem D7 {k:Kd} {l m:List k.T} {j:Nat} {x:Cl} (h:oL k l j x=some m) {A:Nat→Prop} {v:Value} (hx:x.H η A w [v]) {cs:List Value} (hl:bj k.rp l cs):bj k.rp m (cs.set j v)∧m.length=l.length∧k.n=1∧v.oneCell'=true:=by
 cases k<;>(try (unfold oL at h;cases h;done))
 all_goals
  cases x
  case ob k2 z=>
   cases k2<;>first
    |(unfold oL at h;cases h;done)
    |(simp only [oL,Option.some.injEq] at h;subst h;exact ⟨jp rfl hl hx,by simp,rfl,(Kd.rp _).one _ _ hx v (by simp)⟩)
  case cv u=>
   cases u<;>first
    |(unfold oL at h;cases h;done)
    |(simp only [oL,Option.some.injEq] at h;subst h;exact ⟨jp (k:= .bool) rfl hl hx.1,by simp,rfl,by rw [ak hx.1];rfl⟩)
    |(rename_i ik z;cases ik<;>first |(unfold oL at h;cases h;done)|(simp only [oL,Option.some.injEq] at h;subst h;exact ⟨jp (k:= .int) rfl hl hx.1,by simp,rfl,by rw [ak hx.1];rfl⟩))
  all_goals (unfold oL at h;cases h)
theorem Nv {t:Nat} {x y:Operand} (hT:bk ty) (ho:o.op= .store t x y) (hS:gR sl H N η a w) (h:(eK x fun a=>eK y fun v=>ub ty t a v:R aU).run sl H ds= .ok res rd qs) (hp:bn res.pre):OpDone H η w nx res o a:=by
 obtain ⟨av,rd1,h1,hv⟩:=bt h hS.slot
 obtain ⟨bv,rd2,h2,hw⟩:=bt h1 hS.slot
 unfold ub at h2
 obtain ⟨⟨i,d,z,hK⟩,h3⟩:=de hT h2
 clear h h1 h2
 split at h3
 ·rename_i b q
  obtain ⟨g,hg,hv⟩:=hv
  obtain ⟨_,h4⟩:=cg h3
  clear h3
  split at h4
  ·rename_i E l hb
   obtain ⟨cs,hB,hc,h1⟩:=fQ hS.hpOk hb hg
   have hfp:bu η b=some g:=by unfold bu;rw [hg];rfl
   split at h4
   ·rename_i ha
    split at h4
    ·rename_i u
     split at h4
     ·rename_i l' e1
      have:=mi h4
      subst this
      obtain ⟨us,e2,hu,hu1⟩:=hw
      obtain ⟨⟨z1,hl⟩,z2⟩:=pL e1 hc hu
      have hrun:=run_storeAt_mid (P:=Tryz.prog) w g q t us.toArray (by simpa using hB.there (by rw [hl];exact z1)) (by rw [hK.info];simp [hK.size,hl]) (all_oneCell_toArray hu1)
      refine .inl ⟨_,undef,_,η,mc ho (by rw [ak hv,e2];exact hrun),.inr ⟨rfl,rfl⟩,bE.set (c':= .blk E l') hS.hpOk hb hfp ?_ ?_ ?_ (fg _ _ _ _).symm (fun x hx=>fe _ _ _ _ _ hx) fun A' hA hL=>⟨g,_,hg,oM us q w cs hB (by omega),?_,?_⟩⟩
      ·exact (bf (Nat.zero_le _) _ _ _ (Below.refl 0 w)).os
      ·exact (bf (Nat.zero_le _) _ _ _ (Below.refl 0 w)).tape
      ·exact (bf (Nat.zero_le _) _ _ _ (Below.refl 0 w)).output
      ·rw [hl];exact z2.later hL
      ·intro v hv
       rcases List.mem_append.1 hv with hv|hv
       ·rcases List.mem_append.1 hv with hv|hv
        ·exact h1 v (List.mem_of_mem_take hv)
        ·exact hu1 v hv
       ·exact h1 v (List.mem_of_mem_drop hv)
     ·cases h4
    ·cases h4
   ·rename_i ha
    split at h4
    ·rename_i u h5
     split at h4
     ·rename_i hun
      split at h4
      ·rename_i l' e1
       have:=mi h4
       subst this
       obtain ⟨z1,z2⟩:=mI e1 hc hw
       have hone:(a.eval y).oneCell'=true:=j6 hun (A:=ay H η) (cs:= [a.eval y]) ⟨[a.eval y],[],rfl,hw,rfl⟩ _ (by simp)
       refine .inl ⟨_,undef,_,η,mc ho (by rw [ak hv];exact ld hK (aQ h5) hone hB z1),.inr ⟨rfl,rfl⟩,bE.set (c':= .blk E l') (w':=w.setCell ⟨g,q,none⟩ (a.eval y)) hS.hpOk hb hfp rfl rfl rfl (by simp [World.setCell]) (fun x hx=>gL hx _) fun A' hA hL=>⟨g,_,hg,hB.set q _,z2.later hL,?_⟩⟩
       intro v hv
       rcases List.mem_or_eq_of_mem_set hv with hv|rfl
       ·exact h1 v hv
       ·exact hone
      ·cases h4
     ·cases h4
    ·cases h4
  ·cases h4
 ·rename_i b q j
  obtain ⟨g,hg,hv⟩:=hv
  obtain ⟨_,h4⟩:=cg h3
  clear h3
  split at h4
  ·rename_i E l hb
   split at h4
   ·rename_i k n q' u e1
    split at h4
    ·rename_i h5
     split at h4
     ·rename_i q2 e2
      split at h4
      ·rename_i l' e3
       have:=mi h4
       subst this
       obtain ⟨g',cs,y1,hB,hc,y4⟩:=hS.chunk b _ hb
       have:g'=g:=by unfold bu at hg;rw [y1] at hg;cases hg;rfl
       subst this
       obtain ⟨z1,z2,z3⟩:=nO e1 hc
       obtain ⟨x1,x2,x3,x4⟩:=D7 e2 hw z2.2
       have hj:j<n:=hp
       have hlen:=cS x3 z2.2
       have hz:=z3 e3 (ds:=((cs.drop q).take (Cl.vec k n q').n).set j (a.eval y)) ⟨x2.trans z2.1,x1⟩
       have hn:(Cl.vec k n q').n=n:=by simp [Cl.n,x3]
       rw [hn] at hz z1
       have hlist:cs.take q++((cs.drop q).take n).set j (a.eval y)++cs.drop (q+n)=cs.set (q+j) (a.eval y):=by
        apply List.ext_getElem?
        intro m
        rw [List.getElem?_set]
        by_cases hm:m<q
        ·rw [List.append_assoc,List.getElem?_append_left (by simp;omega),List.getElem?_take,if_pos hm,if_neg (by omega)]
        ·by_cases hm2:m<q+n
         ·rw [List.append_assoc,List.getElem?_append_right (by simp;omega),List.getElem?_append_left (by simp;omega),List.getElem?_set]
          have e5:m-(cs.take q).length=m-q:=by simp;omega
          rw [e5]
          by_cases hmj:q+j=m
          ·rw [if_pos (by omega),if_pos hmj,if_pos (by simp;omega),if_pos (by omega)]
          ·rw [if_neg (by omega),if_neg hmj,List.getElem?_take,if_pos (by omega),List.getElem?_drop,show q+(m-q)=m by omega]
         ·rw [List.getElem?_append_right (by simp;omega),if_neg (by omega),List.getElem?_drop]
          congr 1
          simp;omega
       rw [hlist] at hz
       refine .inl ⟨_,undef,_,η,mc ho (by rw [ak hv];exact ld hK (aQ h5) x4 hB (q:=q+j) (by omega)),.inr ⟨rfl,rfl⟩,bE.set (c':= .blk E l') (w':=w.setCell ⟨g',q+j,none⟩ (a.eval y)) hS.hpOk hb hg rfl rfl rfl (by simp [World.setCell]) (fun x hx=>gL hx _) fun A' hA hL=>⟨g',_,y1,hB.set (q+j) _,hz.later hL,?_⟩⟩
       intro v hv
       rcases List.mem_or_eq_of_mem_set hv with hv|rfl
       ·exact y4 v hv
       ·exact x4
      ·cases h4
     ·cases h4
    ·cases h4
   ·cases h4
  ·rename_i E k l hb
   split at h4
   ·rename_i u
    split at h4
    ·rename_i h5 h6
     split at h4
     ·rename_i m e2
      have:=mi h4
      subst this
      have hq0:=aQ h6
      subst hq0
      obtain ⟨v',cs,y1,y2,y3⟩:=hS.chunk b _ hb
      obtain ⟨x1,x2,x3,x4⟩:=D7 e2 hw y2
      have hj:j<l.length:=hp
      have hlen:=cS x3 y2
      rcases y3 with ⟨y3,y4⟩
      rcases y4 with ⟨_,y5⟩|⟨g',cap,cur,rfl,_,hh,c1,c2,c3,c4⟩
      ·omega
      ·have:g'=g:=by unfold bu at hg;rw [y1] at hg;cases hg;rfl
       subst this
       rw [x3,Nat.mul_one] at c3 c4
       have hB:aj w g' cur.toList E:=by unfold aj;simpa using hh
       have hcl:cur.toList.length=cap:=by simpa using c3
       refine .inl ⟨_,undef,_,η,mc ho (by rw [ak hv];exact ld hK (aQ h5) x4 hB (q:=0+j) (by omega)),.inr ⟨rfl,rfl⟩,bE.set (c':= .row E k m) (w':=w.setCell ⟨g',0+j,none⟩ (a.eval y)) hS.hpOk hb hg rfl rfl rfl (by simp [World.setCell]) (fun x hx=>gL hx _) fun A' hA hL=>⟨_,_,y1,x1,?_⟩⟩
       have hB2:=hB.set (0+j) (a.eval y)
       rw [Nat.zero_add] at hB2 ⊢
       refine ⟨by rw [List.length_set,y3,x2],.inr ⟨g',cap,(cur.toList.set j (a.eval y)).toArray,by rw [x2],Nat.zero_le _,hB2,by omega,c2,by rw [x3];simp;omega,?_⟩⟩
       rw [x3,Nat.mul_one,x2]
       show (cur.toList.set j (a.eval y)).take l.length=_
       rw [List.take_set,c4]
     ·cases h4
    ·cases h4
   ·cases h4
  ·cases h4
 ·cases h3
end
section
variable {ty:Nat→TE} {sl:Nat→List AV} {H:Nat→Option Ch} {η:bx} {w:World} {nx N:Nat} {a:Act} {o:Oper} {ds:List Bool} {res:aU} {rd:List dZ} {qs:List (Bool×Bool)}
theorem li {i:AV} {lit:Nat→R aU} {sym:Int→R aU} (h:(Ot i lit sym).run sl H ds= .ok res rd qs) {A:Nat→Prop} {v:Value} (hi:i.H η A w v):
  (∃k:Nat,v= .int .i64 (k:Int)∧(lit k).run sl H ds= .ok res rd qs)∨∃kd z,v= .int kd z∧(sym z).run sl H ds= .ok res rd qs:=by
 unfold Ot at h
 split at h
 ·rename_i z e
  have:=bg e hi
  cases z with
  |ofNat n=>exact .inl ⟨n,this,h⟩
  |negSucc n=>cases h
 ·rename_i z e
  exact .inr ⟨_,_,bg e hi,h⟩
 ·rename_i y _ _ e
  obtain ⟨k,hk⟩:=eN y
  exact .inr ⟨k,_,by rw [dL (bg e hi),hk],h⟩
 ·cases h
theorem cT {t:Nat} {x y:Operand} (ho:o.op= .indexAddr t x y) {v:Value} (h:(Instr.indexAt t (a.eval x) (a.eval y)).run Tryz.prog w= .ok v w):(execOp a.eval o).run Tryz.prog w= .ok (.value v) w:=by
 unfold execOp
 simp only [ho]
 rw [Sem.run_bind,h]
 simp
theorem xh {t e:Nat} (h:Tryz.prog.underlying t=some (.slice e)):Tryz.prog.elem t=e∧Tryz.prog.underlying t=some (.slice (Tryz.prog.elem t)):=by
 have:Tryz.prog.elem t=e:=by simp [Program.elem,h]
 exact ⟨this,by rw [this];exact h⟩
theorem CW {t e n:Nat} (hu:Tryz.prog.underlying t=some (.array n e)) {s:Nat} (hs:(sizeOf e).run Tryz.prog w= .ok s w) {ad:Addr} {kd:IntKind} {z:Int} (h0:0≤z) (h1:z<n):(Instr.indexAt t (.pointer (some ad)) (.int kd z)).run Tryz.prog w= .ok (.pointer (some (ad.add (z.toNat*s)))) w:=by
 have e1:Tryz.prog.arrayLen t=n:=by simp [Program.arrayLen,hu]
 have e2:Tryz.prog.elem t=e:=by simp [Program.elem,hu]
 rw [run_indexAt_array w t ad kd z (by rw [e1,e2];exact hu),e1,e2,if_pos ⟨h0,h1⟩,hs];rfl
theorem j0 {t e n c:Nat} (hu:Tryz.prog.underlying t=some (.slice e)) {s:Nat} (hs:(sizeOf e).run Tryz.prog w= .ok s w) {ad:Addr} {kd:IntKind} {z:Int} (h0:0≤z) (h1:z<n):(Instr.indexAt t (.slice (some ad) n c) (.int kd z)).run Tryz.prog w= .ok (.pointer (some (ad.add (z.toNat*s)))) w:=by
 obtain ⟨e1,e2⟩:=xh hu
 rw [run_indexAt_slice w t ad n c kd z e2,e1,if_pos ⟨h0,h1⟩,hs];rfl
theorem eY (g q j:Nat):(⟨g,q,none⟩:Addr).add j=⟨g,q+j,none⟩:=Addr.add_mid g q j
theorem eD {t e:Nat} (hT:bk ty) (h:(ty t).ti= .sl e):Tryz.prog.underlying t=some (.slice e):=by
 rcases hT t with h1|⟨i,d,z,hK⟩
 ·rw [h] at h1;cases h1
 ·have:=hK.desc;rw [h] at this;rw [hK.und,this]
theorem lU {t n e:Nat} (hT:bk ty) (h:(ty t).ti= .arr n e):Tryz.prog.underlying t=some (.array n e):=by
 rcases hT t with h1|⟨i,d,z,hK⟩
 ·rw [h] at h1;cases h1
 ·have:=hK.desc;rw [h] at this;rw [hK.und,this]
theorem LR {t:Nat} {x y:Operand} (hT:bk ty) (ho:o.op= .indexAddr t x y) (hS:gR sl H N η a w) (h:(eK x fun a=>eK y fun i=>jM ty t a i:R aU).run sl H ds= .ok res rd qs) (hp:bn res.pre):OpDone H η w nx res o a:=by
 obtain ⟨av,rd1,h1,hv⟩:=bt h hS.slot
 obtain ⟨iv,rd2,h2,hw⟩:=bt h1 hS.slot
 clear h h1
 unfold jM at h2
 split at h2
 ·rename_i b q
  split at h2
  ·rename_i n e ht
   obtain ⟨⟨i,d,z,hK⟩,h3⟩:=de hT h2
   clear h2
   have hu:=lU hT ht
   obtain ⟨g,hg,hv⟩:=hv
   rcases li h3 hw with ⟨k,hi,h4⟩|⟨kd,z',hi,h4⟩
   ·split at h4
    ·rename_i hk
     have:=aw h4
     subst this
     have hk':=lp hk
     exact .val hS.hpOk ⟨g,hg,rfl⟩ (cT ho (by rw [ak hv,hi,CW hu (hK.sizeOf w) (by omega) (by omega),eY,Int.toNat_natCast]))
    ·cases h4
   ·split at h4
    ·rename_i hs
     have:=aZ h4
     subst this
     have hk:0≤z'∧z'<n:=hp
     exact .val hS.hpOk ⟨g,by unfold bu;rw [hg];rfl,rfl⟩ (cT ho (by rw [ak hv,hi,CW hu (hK.sizeOf w) hk.1 hk.2,eY,aQ hs,Nat.mul_one]))
    ·cases h4
  ·cases h2
 ·rename_i b q n c
  split at h2
  ·rename_i e ht
   obtain ⟨⟨i,d,z,hK⟩,h3⟩:=de hT h2
   clear h2
   have hu:=eD hT ht
   obtain ⟨_,g,hg,hv⟩:=hv
   rcases li h3 hw with ⟨k,hi,h4⟩|⟨kd,z',hi,h4⟩
   ·split at h4
    ·rename_i hk
     have:=aw h4
     subst this
     have hk':=lp hk
     exact .val hS.hpOk ⟨g,hg,rfl⟩ (cT ho (by rw [ak hv,hi,j0 hu (hK.sizeOf w) (by omega) (by omega),eY,Int.toNat_natCast]))
    ·cases h4
   ·split at h4
    ·rename_i hs
     have:=aZ h4
     subst this
     have hk:0≤z'∧z'<n:=hp
     exact .val hS.hpOk ⟨g,by unfold bu;rw [hg];rfl,rfl⟩ (cT ho (by rw [ak hv,hi,j0 hu (hK.sizeOf w) hk.1 hk.2,eY,aQ hs,Nat.mul_one]))
    ·cases h4
  ·cases h2
 ·rename_i b
  split at h2
  ·rename_i e ht
   obtain ⟨⟨i,d,z,hK⟩,h3⟩:=de hT h2
   clear h2
   have hu:=eD hT ht
   split at h3
   ·rename_i hs
    obtain ⟨_,h4⟩:=cg h3
    clear h3
    split at h4
    ·rename_i E k l hb
     obtain ⟨v,hv1,hv2,_⟩:=hv
     obtain ⟨v',cs,y1,y2,y3⟩:=hS.chunk b _ hb
     rw [hv1] at y1;cases y1
     have key:∀(j:Nat) (kd:IntKind) (z:Int),z=(j:Int)→j<l.length→(Instr.indexAt t (a.eval x) (.int kd z)).run Tryz.prog w= .ok (.pointer (some ⟨((bu η b).getD 0),0+j,none⟩)) w∧∃g,bu η b=some g:=fun j kd z hz hj=>by
      subst hz
      rcases jB y2 y3 with ⟨_,rfl⟩|⟨g',c,e1,_,_,_⟩
      ·simp at hj
      ·have hf:bu η b=some g':=by unfold bu;rw [hv1,e1];rfl
       refine ⟨?_,g',hf⟩
       rw [ak hv2,e1,j0 hu (hK.sizeOf w) (by omega) (by omega),eY,aQ hs,Nat.mul_one,hf,Int.toNat_natCast];rfl
     rcases li h4 hw with ⟨j,hi,h5⟩|⟨kd,z',hi,h5⟩
     ·have:=aZ h5
      subst this
      obtain ⟨r,g,hf⟩:=key j .i64 j rfl hp
      rw [hf] at r
      exact .val hS.hpOk ⟨g,hf,rfl⟩ (cT ho (by rw [hi];exact r))
     ·have:=aZ h5
      subst this
      have hk:0≤z'∧z'<l.length:=hp
      obtain ⟨r,g,hf⟩:=key z'.toNat kd z' (by omega) (by omega)
      rw [hf] at r
      exact .val hS.hpOk ⟨g,hf,rfl⟩ (cT ho (by rw [hi];exact r))
    ·cases h4
   ·cases h3
  ·cases h2
 ·rename_i b lo n
  split at h2
  ·rename_i e ht
   obtain ⟨⟨i,d,z,hK⟩,h3⟩:=de hT h2
   clear h2
   have hu:=eD hT ht
   split at h3
   ·rename_i hs
    obtain ⟨v,ad,c,y1,y2,_,_,_,y3⟩:=hv
    have key:∀(j:Nat) (kd:IntKind) (z:Int),z=(j:Int)→j<n→∃g,bu η b=some g∧(Instr.indexAt t (a.eval x) (.int kd z)).run Tryz.prog w= .ok (.pointer (some ⟨g,0+(lo+j),none⟩)) w:=fun j kd z hz hj=>by
     subst hz
     obtain ⟨g,N,C,e1,e2,_⟩:=y3 (by omega)
     refine ⟨g,by unfold bu;rw [y1,e1];rfl,?_⟩
     rw [ak y2,e2,j0 hu (hK.sizeOf w) (by omega) (by omega),eY,aQ hs,Nat.mul_one,Int.toNat_natCast,Nat.zero_add]
    rcases li h3 hw with ⟨j,hi,h5⟩|⟨kd,z',hi,h5⟩
    ·have:=aZ h5
     subst this
     obtain ⟨g,hf,r⟩:=key j .i64 j rfl hp
     exact .val hS.hpOk ⟨g,hf,rfl⟩ (cT ho (by rw [hi];exact r))
    ·have:=aZ h5
     subst this
     have hk:0≤z'∧z'<n:=hp
     obtain ⟨g,hf,r⟩:=key z'.toNat kd z' (by omega) (by omega)
     exact .val hS.hpOk ⟨g,hf,rfl⟩ (cT ho (by rw [hi];exact r))
   ·cases h3
  ·cases h2
 ·rename_i k l
  split at h2
  ·rename_i e ht
   obtain ⟨⟨i,d,z,hK⟩,h3⟩:=de hT h2
   clear h2
   have hu:=eD hT ht
   split at h3
   ·rename_i hs
    obtain ⟨v,y1,ad,c,y2,_,_,_,y3⟩:=hv
    have key:∀(j:Nat) (kd:IntKind) (z:Int),z=(j:Int)→j<l.length→∃v,(Instr.indexAt t (a.eval x) (.int kd z)).run Tryz.prog w= .ok v w∧(Cl.pro k (l.getD j k.df)).H η (ay H η) w [v]:=fun j kd z hz hj=>by
     subst hz
     obtain ⟨g,q,cs,e1,hA,hc,hr⟩:=y3 (by omega)
     refine ⟨.pointer (some ⟨g,q+j*k.n,none⟩),?_,?_⟩
     ·rw [ak y1,y2,e1,j0 hu (hK.sizeOf w) (by omega) (by omega),eY,aQ hs,Int.toNat_natCast]
     ·have hd:=(hc.drop j)
      rw [List.drop_eq_getElem_cons hj] at hd
      obtain ⟨us,r,hx,e2,_⟩:=hd
      refine ⟨g,q+j*k.n,us,rfl,hA,by rw [List.getD_eq_getElem?_getD,List.getElem?_eq_getElem hj];exact hx,fun m u hm=> ?_⟩
      have hmu:m<us.length:=(List.getElem?_eq_some_iff.1 hm).1
      have:=hr (k.rp.n*j+m) u (by
       have h9:(cs.drop (k.rp.n*j))[m]?=some u:=by rw [e2,List.getElem?_append_left hmu];exact hm
       rw [List.getElem?_drop] at h9;exact h9)
      rw [k.rp_n] at this
      rw [show q+j*k.n+m=q+(k.n*j+m) by rw [Nat.mul_comm];omega];exact this
    rcases li h3 hw with ⟨j,hi,h5⟩|⟨kd,z',hi,h5⟩
    ·have:=aZ h5
     subst this
     obtain ⟨v,r,hx⟩:=key j .i64 j rfl hp
     exact .val hS.hpOk hx (cT ho (by rw [hi];exact r))
    ·have:=aZ h5
     subst this
     have hk:0≤z'∧z'<l.length:=hp
     obtain ⟨v,r,hx⟩:=key z'.toNat kd z' (by omega) (by omega)
     exact .val hS.hpOk hx (cT ho (by rw [hi];exact r))
   ·cases h3
  ·cases h2
 ·rename_i l
  split at h2
  ·rename_i e ht
   obtain ⟨⟨i,d,z,hK⟩,h3⟩:=de hT h2
   clear h2
   have hu:=eD hT ht
   split at h3
   ·rename_i hs
    obtain ⟨ad,c,y1,_,_,_,y3⟩:=hv
    have key:∀(j:Nat) (kd:IntKind) (z:Int),z=(j:Int)→j<l.length→∃v,(Instr.indexAt t (a.eval x) (.int kd z)).run Tryz.prog w= .ok v w∧(Cl.pbb (l.getD j [])).H η (ay H η) w [v]:=fun j kd z hz hj=>by
     subst hz
     obtain ⟨g,q,us,e1,hA,hr,hlen,hall⟩:=y3 (by omega)
     refine ⟨.pointer (some ⟨g,q+j,none⟩),?_,g,q+j,us[j]'(by omega),rfl,hA,hr j _ (List.getElem?_eq_getElem (by omega)),?_⟩
     ·rw [ak y1,e1,j0 hu (hK.sizeOf w) (by omega) (by omega),eY,aQ hs,Nat.mul_one,Int.toNat_natCast]
     ·rw [List.getD_eq_getElem?_getD,List.getElem?_eq_getElem hj];exact hall j hj (by omega)
    rcases li h3 hw with ⟨j,hi,h5⟩|⟨kd,z',hi,h5⟩
    ·have:=aZ h5
     subst this
     obtain ⟨v,r,hx⟩:=key j .i64 j rfl hp
     exact .val hS.hpOk hx (cT ho (by rw [hi];exact r))
    ·have:=aZ h5
     subst this
     have hk:0≤z'∧z'<l.length:=hp
     obtain ⟨v,r,hx⟩:=key z'.toNat kd z' (by omega) (by omega)
     exact .val hS.hpOk hx (cT ho (by rw [hi];exact r))
   ·cases h3
  ·cases h2
 ·cases h2
end
section
variable {ty:Nat→TE} {sl:Nat→List AV} {H:Nat→Option Ch} {η:bx} {w:World} {nx N:Nat} {a:Act} {o:Oper} {ds:List Bool} {res:aU} {rd:List dZ} {qs:List (Bool×Bool)}
theorem G3 {ev:Sem Value} {v:Value} (hop:execOp a.eval o=(do let x←ev;pure (.value x):Sem Next)) (h:ev.run Tryz.prog w= .ok v w):(execOp a.eval o).run Tryz.prog w= .ok (.value v) w:=by
 rw [hop,Sem.run_bind,h];simp
theorem BR {t:Nat} {fs:List (Nat×Nat)} (hT:bk ty) (h:(ty t).ti= .st fs):∃fl,Tryz.prog.underlying t=some (.struct fl)∧fl.toList.map (fun f=>(f.offset,f.type))=fs:=by
 rcases hT t with h1|⟨i,d,z,hK⟩
 ·rw [h] at h1;cases h1
 ·have:=hK.desc;rw [h] at this
  obtain ⟨fl,e,e2⟩:=this
  exact ⟨fl,by rw [hK.und,e],e2⟩
theorem yf {fl:Array Field} {fs:List (Nat×Nat)} (h:fl.toList.map (fun f=>(f.offset,f.type))=fs) {f off u:Nat} (hf:fs[f]?=some (off,u)):∃x,fl[f]?=some x∧x.offset=off∧x.type=u:=by
 rw [←h,List.getElem?_map] at hf
 cases e:fl.toList[f]? with
 |none=>rw [e] at hf;cases hf
 |some x=>
  rw [e] at hf
  simp only [Option.map_some,Option.some.injEq,Prod.mk.injEq] at hf
  exact ⟨x,by simpa using e,hf.1,hf.2⟩
theorem zk {t f:Nat} {x:Operand} (hT:bk ty) (ho:o.op= .fieldAddr t x f) (hS:gR sl H N η a w) (h:(eK x fun a=>match a,(ty t).ti with
  | .one (.ptr b o),.st fs=>kn ty t (match fs[f]? with
   |some (off,u)=>kn ty u (match Nat.blt 0 (ty u).size with |true=>aA (.ptr b (o+off))|false=> .fail)
   |none=> .fail)
  |_,_=> .fail:R aU).run sl H ds= .ok res rd qs):OpDone H η w nx res o a:=by
 obtain ⟨av,rd1,h1,hv⟩:=bt h hS.slot
 clear h
 split at h1
 ·rename_i b q fs ht
  obtain ⟨_,h2⟩:=de hT h1
  clear h1
  obtain ⟨fl,hu,hfl⟩:=BR hT ht
  split at h2
  ·rename_i off u hf
   obtain ⟨⟨i,d,z,hK⟩,h3⟩:=de hT h2
   clear h2
   split at h3
   ·rename_i hs
    have:=aw h3
    subst this
    obtain ⟨g,hg,hv⟩:=hv
    obtain ⟨fd,e1,e2,e3⟩:=yf hfl hf
    have hs':=lp hs
    refine .val hS.hpOk ⟨g,hg,rfl⟩ (G3 (ev:=Instr.fieldAt t (a.eval x) f) (by unfold execOp;simp only [ho]) ?_)
    rw [ak hv]
    have hsz:=hK.sizeOf w
    rw [←e3] at hsz
    unfold Instr.fieldAt
    rw [Sem.run_bind,run_underlying hu]
    simp only [Result.andThen_ok,e1]
    simp only [Instr.sureAddr,Sem.run_bind,Sem.run_pure,Result.andThen_ok,fieldPlace,hsz]
    rw [if_neg (by rw [e3];omega)]
    simp [eY,e2]
   ·cases h3
  ·cases h2
 ·cases h1
theorem UL {x:Operand} (ho:o.op= .nilCheck x) (hS:gR sl H N η a w) (h:(eK x fun a=>match a with
  | .one (.ptr b o)=>aA (.ptr b o)
  |_=> .fail:R aU).run sl H ds= .ok res rd qs):OpDone H η w nx res o a:=by
 obtain ⟨av,rd1,h1,hv⟩:=bt h hS.slot
 split at h1
 ·rename_i b q
  have:=aw h1
  subst this
  have hx:=hv
  obtain ⟨g,hg,hv⟩:=hv
  refine .val hS.hpOk hx ?_
  unfold execOp
  simp only [ho,ak hv]
  rfl
 ·cases h1
theorem E6 {b:Bool} {l:List Cl} (h:(yj b l).run sl H ds= .ok res rd qs):(b=true∧res=⟨[.agg l],[],none,none⟩)∨(b=false∧∃x,l= [x]∧x.n=1∧res=⟨[.one x],[],none,none⟩):=by
 unfold yj at h
 cases b with
 |true=>exact .inl ⟨rfl,aE h⟩
 |false=>
  simp only at h
  split at h
  ·rename_i x
   split at h
   ·rename_i hn;exact .inr ⟨rfl,x,rfl,aQ hn,aw h⟩
   ·cases h
  ·cases h
theorem yX {u:Nat} {i:TypeInfo} {d:TypeDesc} {z:Value} (hK:wq ty u i d z) (hn:(ty u).ti≠ .oth) {cs:List Value} {off:Nat} (hl:off+(ty u).size≤cs.length):
  ((ty u).isAgg=true→(part u cs.toArray off).run Tryz.prog w= .ok (.agg ((cs.drop off).take (ty u).size).toArray) w)∧((ty u).isAgg=false→∀v,cs[off]?=some v→(part u cs.toArray off).run Tryz.prog w= .ok v w):=by
 obtain ⟨h1,h2⟩:=hK.isAgg hn w
 refine ⟨fun ha=> ?_,fun ha v hv=> ?_⟩
 ·rw [ha] at h1
  unfold part
  rw [Sem.run_bind,h1]
  simp only [Result.andThen_ok,if_true]
  rw [Sem.run_bind,hK.sizeOf]
  simp [List.take_drop]
 ·rw [ha] at h1
  unfold part
  rw [Sem.run_bind,h1]
  simp [hv]
theorem Mb {t f:Nat} {x:Operand} (hT:bk ty) (ho:o.op= .field t x f) (hS:gR sl H N η a w) (h:(eK x fun a=>match a,(ty t).ti with
  | .agg l,.st fs=>match fs[f]? with
   |some (off,u)=>kn ty u (match fX l off with
    |some r=>match iS r (ty u).size with
     |some q=>yj (ty u).isAgg q
     |none=> .fail
    |none=> .fail)
   |none=> .fail
  |_,_=> .fail:R aU).run sl H ds= .ok res rd qs):OpDone H η w nx res o a:=by
 obtain ⟨av,rd1,h1,hv⟩:=bt h hS.slot
 clear h
 split at h1
 ·rename_i l fs ht
  obtain ⟨fl,hu,hfl⟩:=BR hT ht
  split at h1
  ·rename_i off u hf
   have hn:=Bh h1
   obtain ⟨⟨i,d,z,hK⟩,h3⟩:=de hT h1
   clear h1
   obtain ⟨fd,e1,e2,e3⟩:=yf hfl hf
   obtain ⟨cs,hv,hc,hone⟩:=hv
   split at h3
   ·rename_i r y1
    split at h3
    ·rename_i q y2
     obtain ⟨z1,z2⟩:=ix y1 hc
     obtain ⟨z3,z4⟩:=j3 y2 z2
     rw [List.length_drop] at z3
     obtain ⟨p1,p2⟩:=yX (w:=w) hK hn (cs:=cs) (off:=off) (by omega)
     have hex:∀v,(part u cs.toArray off).run Tryz.prog w= .ok v w→(execOp a.eval o).run Tryz.prog w= .ok (.value v) w:=fun v hv'=>by
      refine G3 (ev:=Instr.field t (a.eval x) f) (by unfold execOp;simp only [ho]) ?_
      rw [hv]
      unfold Instr.field
      rw [Sem.run_bind,run_underlying hu]
      simp only [Result.andThen_ok,e1]
      simp only [asAgg,Sem.run_bind,Sem.run_pure,Result.andThen_ok,e2,e3,hv']
     rcases E6 h3 with ⟨ha,rfl⟩|⟨ha,y,rfl,hy1,rfl⟩
     ·exact .inl ⟨_,_,w,η,hex _ (p1 ha),.inl rfl,.pure (out:= [.agg q]) hS.hpOk ⟨_,rfl,z4,fun v hv=>hone v (List.mem_of_mem_drop (List.mem_of_mem_take hv))⟩ trivial⟩
     ·obtain ⟨h9,t9,e9,hy,hr⟩:=z4
      cases hr
      rw [List.append_nil] at e9
      have hlen:=hy.len
      rw [hy1] at hlen
      obtain ⟨v,rfl⟩:=List.length_eq_one_iff.1 hlen
      refine .val hS.hpOk hy (hex v (p2 ha v ?_))
      have:((cs.drop off).take (ty u).size)[0]?=some v:=by rw [e9];rfl
      rw [List.getElem?_take] at this
      split at this
      ·rw [List.getElem?_drop] at this;exact this
      ·cases this
    ·cases h3
   ·cases h3
  ·cases h1
 ·cases h1
theorem Fp {t j:Nat} (ho:o.op= .extract (.tmp t) j) (hS:gR sl H N η a w) (h:(R.slot t fun l=>match l with
  |_::_::_=>(match l[j]? with
   |some a=> .pure ⟨[a],[],none,none⟩
   |none=> .fail)
  |_=> .fail:R aU).run sl H ds= .ok res rd qs):OpDone H η w nx res o a:=by
 obtain ⟨_,h1⟩:=jQ h
 have hs:=hS.slot t
 split at h1
 ·rename_i x y r e
  rw [e] at hs
  split at h1
  ·rename_i av e2
   have:=aE h1
   subst this
   rw [e] at e2
   obtain ⟨vs,e3,hv⟩:=hs
   have key:∀(l:List AV) (vs:List Value) (j:Nat),bQ η (ay H η) w l vs→l[j]?=some av→∃v,vs[j]?=some v∧av.H η (ay H η) w v:=by
    intro l
    induction l with
    |nil=>intro vs j _ h;simp at h
    |cons x r ih=>
     rintro _ j ⟨v,tl,rfl,k1,h2⟩ h
     cases j with
     |zero=>simp at h;subst h;exact ⟨v,rfl,k1⟩
     |succ j=>
      obtain ⟨u,g1,g2⟩:=ih tl j h2 (by simpa using h)
      exact ⟨u,by simpa using g1,g2⟩
   obtain ⟨v,g1,g2⟩:=key _ vs j hv e2
   refine .inl ⟨_,v,w,η,G3 (ev:=Instr.extract (a.eval (.tmp t)) j) (by unfold execOp;simp only [ho]) ?_,.inl rfl,.pure (out:= [av]) hS.hpOk g2 trivial⟩
   show (Instr.extract (a.tmps.getD t undef) j).run Tryz.prog w=_
   rw [e3]
   unfold Instr.extract
   simp [g1]
  ·cases h1
 ·cases h1
end
section
variable {ty:Nat→TE} {sl:Nat→List AV} {H:Nat→Option Ch} {η:bx} {w:World} {nx N:Nat} {a:Act} {o:Oper} {ds:List Bool} {res:aU} {rd:List dZ} {qs:List (Bool×Bool)}
theorem wh {α:Type} {x:Option Operand} {k:Option AV→R α} {r:α} (h:(Cv x k).run sl H ds= .ok r rd qs) (hs:∀t,bz η (ay H η) w (sl t) (a.tmps.getD t undef)):
  ∃av rd',(k av).run sl H ds= .ok r rd' qs∧((x=none∧av=none)∨∃y b,x=some y∧av=some b∧b.H η (ay H η) w (a.eval y)):=by
 cases x with
 |none=>exact ⟨none,rd,h,.inl ⟨rfl,rfl⟩⟩
 |some y=>
  obtain ⟨b,rd',h,hb⟩:=bt (show (eK y fun a=>k (some a)).run sl H ds=_ from h) hs
  exact ⟨some b,rd',h,.inr ⟨y,b,rfl,rfl,hb⟩⟩
theorem El {x:Option Operand} {av:Option AV} {k:Option Nm→R aU} (h:(O_ av k).run sl H ds= .ok res rd qs) (hx:(x=none∧av=none)∨∃y b,x=some y∧av=some b∧b.H η (ay H η) w (a.eval y)):
  ∃n,(k n).run sl H ds= .ok res rd qs∧x.map a.eval=n.map ma:=by
 rcases hx with ⟨rfl,rfl⟩|⟨y,b,rfl,rfl,hb⟩
 ·exact ⟨none,h,rfl⟩
 ·unfold O_ at h
  simp only at h
  split at h
  ·rename_i n e;exact ⟨some n,h,by simp [dL (bg e hb)]⟩
  ·cases h
def AX:Option Nm→Nat→Nat|none,n=>n|some h,_=>h.toInt.toNat
def WV (lo:Option Nm) (n c:Nat):Option Nm→Prop|none=>DC lo n|some h=>DC (some h) c∧DC lo h.toInt.toNat
theorem lR {t e s:Nat} (hu:Tryz.prog.underlying t=some (.slice e)) (hs:(sizeOf e).run Tryz.prog w= .ok s w) {ad:Option Addr} {n c:Nat} (hnc:n≤c) {lo hi:Option Nm} (h:WV lo n c hi):
  (Instr.sliceAt t (.slice ad n c) (lo.map ma) (hi.map ma) none).run Tryz.prog w= .ok (sliced ad (mf lo) (AX hi n) c s) w:=by
 obtain ⟨e1,e2⟩:=xh hu
 rw [run_sliceAt_slice w t _ _ _ _ e2]
 have hs':(sizeOf (Tryz.prog.elem t)).run Tryz.prog w= .ok s w:=by rw [e1];exact hs
 have hh:=h
 clear h
 cases lo with
 |none=>
  cases hi with
  |none=>
   simp only [Option.map_none]
   rw [run_slice_all w t ad n c e2,hs'];rfl
  |some u=>
   obtain ⟨k,hk⟩:=eN u
   obtain ⟨h1,h2⟩:=hh.1
   simp only [Option.map_none,Option.map_some,hk]
   rw [run_slice_h w t ad n c e2 k _ h1 h2,hs'];rfl
 |some l=>
  obtain ⟨k,hk⟩:=eN l
  cases hi with
  |none=>
   obtain ⟨h1,h2⟩:=hh
   simp only [Option.map_none,Option.map_some,hk]
   rw [run_slice_l w t ad n c e2 k _ h1 h2,hs'];rfl
  |some u=>
   obtain ⟨k',hk'⟩:=eN u
   obtain ⟨⟨h1,h2⟩,h3,h4⟩:=hh
   simp only [Option.map_some,hk,hk']
   rw [run_slice_lh w t ad n c e2 k k' _ _ h3 (by omega) h2,hs'];rfl
theorem dU.part {k:Kd} {l:List k.T} {n c:Nat} {ad:Option Addr} {A:Nat→Prop} (h:dU A w k l (.slice ad n c)) {x y:Nat} (hy:y≤n) (hx:x≤y):dU A w k ((l.take y).drop x) (sliced ad x y c k.n):=by
 obtain ⟨ad',c',h1,h2,h3,h4,h5⟩:=h
 cases h1
 have hlen:((l.take y).drop x).length=y-x:=by rw [List.length_drop,List.length_take];omega
 unfold sliced
 refine ⟨_,_,by rw [hlen],by omega,by omega,fun he=> ?_,fun hn=> ?_⟩
 ·split at he
  ·rename_i e;omega
  ·cases ad with
   |none=>have:=h4 rfl;omega
   |some _=>cases he
 ·obtain ⟨g,q,cs,e,hA,hc,hr⟩:=h5 (by omega)
  have hcx:¬c=x:=by omega
  refine ⟨g,q+x*k.n,(cs.take (k.n*y)).drop (k.n*x),?_,hA,?_,fun j v hv=> ?_⟩
  ·rw [if_neg hcx,e];simp [eY]
  ·have:=(hc.take y).drop x
   rw [k.rp_n] at this;exact this
  ·rw [List.getElem?_drop,List.getElem?_take] at hv
   split at hv
   ·have:=hr _ v hv
    rw [show q+x*k.n+j=q+(k.n*x+j) by rw [Nat.mul_comm];omega];exact this
   ·cases hv
theorem OU {t:Nat} {x:Operand} {lo hi mx:Option Operand} (hT:bk ty) (ho:o.op= .slice t x lo hi mx) (hS:gR sl H N η a w) (h:(eK x fun a=>Cv lo fun lo=>Cv hi fun hi=>Cv mx fun mx=>vM ty t a lo hi mx:R aU).run sl H ds= .ok res rd qs) (hp:bn res.pre):OpDone H η w nx res o a:=by
 obtain ⟨av,rd1,h1,hv⟩:=bt h hS.slot
 obtain ⟨lv,rd2,h2,hlo⟩:=wh h1 hS.slot
 obtain ⟨hv',rd3,h3,hhi⟩:=wh h2 hS.slot
 obtain ⟨mv,rd4,h4,hmx⟩:=wh h3 hS.slot
 clear h h1 h2 h3
 unfold vM at h4
 obtain ⟨l,h5,el⟩:=El h4 hlo
 obtain ⟨u,h6,eu⟩:=El h5 hhi
 clear h4 h5
 have hex:∀v,(Instr.sliceAt t (a.eval x) (l.map ma) (u.map ma) (mx.map a.eval)).run Tryz.prog w= .ok v w→(execOp a.eval o).run Tryz.prog w= .ok (.value v) w:=fun v hv=>by
  refine G3 (ev:=Instr.sliceAt t (a.eval x) (lo.map a.eval) (hi.map a.eval) (mx.map a.eval)) (by unfold execOp;simp only [ho]) ?_
  rw [el,eu];exact hv
 have hmn:mv=none→mx=none:=fun e=>by rcases hmx with ⟨h,_⟩|⟨_,_,_,h,_⟩<;>first |exact h|(rw [e] at h;cases h)
 split at h6
 ·rename_i b q
  split at h6
  ·rename_i n e ht
   obtain ⟨⟨i,d,z,hK⟩,h7⟩:=de hT h6
   clear h6
   have hu:=lU hT ht
   obtain ⟨g,hg,hv⟩:=hv
   have e1:Tryz.prog.arrayLen t=n:=by simp [Program.arrayLen,hu]
   have e2:Tryz.prog.elem t=e:=by simp [Program.elem,hu]
   have hu':Tryz.prog.underlying t=some (.array (Tryz.prog.arrayLen t) (Tryz.prog.elem t)):=by rw [e1,e2];exact hu
   split at h7
   ·have:=aw h7
    subst this
    refine .val hS.hpOk (v:= .slice (some ⟨g,q,none⟩) n n) ⟨Nat.le_refl _,g,hg,rfl⟩ (hex _ ?_)
    rw [hmn rfl,ak hv]
    show (Instr.sliceAt t (.pointer (some ⟨g,q,none⟩)) none none none).run Tryz.prog w=_
    rw [run_sliceAt_array_all w t ⟨g,q,none⟩ hu',e1,e2,hK.sizeOf]
    simp [slicedAt,Result.andThen,Addr.add]
   ·rename_i j
    split at h7
    ·rename_i hj hs
     have:=aw h7
     subst this
     have hj':=lp hj
     refine .val hS.hpOk (v:= .slice (some ⟨g,q+j,none⟩) (n-j) (n-j)) ⟨Nat.le_refl _,g,hg,rfl⟩ (hex _ ?_)
     rw [hmn rfl,ak hv]
     show (Instr.sliceAt t (.pointer (some ⟨g,q,none⟩)) (some (.int .i64 (j:Int))) none none).run Tryz.prog w=_
     rw [run_sliceAt_array_l w t ⟨g,q,none⟩ hu' _ _ (by omega) (by rw [e1];omega),e1,e2,hK.sizeOf,aQ hs]
     simp only [slicedAt,Result.andThen,Int.toNat_natCast,Nat.mul_one,eY]
     rw [if_neg (by omega)]
    ·cases h7
   ·cases h7
  ·cases h6
 ·rename_i b
  split at h6
  ·rename_i e ht
   obtain ⟨⟨i,d,z,hK⟩,h7⟩:=de hT h6
   clear h6
   have hu:=eD hT ht
   split at h7
   ·rename_i hs
    have hs1:=hK.sizeOf w
    rw [aQ hs] at hs1
    obtain ⟨_,h8⟩:=cg h7
    clear h7
    split at h8
    ·rename_i E k q hb
     obtain ⟨v,y1,y2,_⟩:=hv
     obtain ⟨v',cs,z1,z2,z3⟩:=hS.chunk b _ hb
     rw [y1] at z1;cases z1
     have key:∀(hi':Nat),WV l q.length q.length u→hi'=AX u q.length→∃v,(Instr.sliceAt t (a.eval x) (l.map ma) (u.map ma) none).run Tryz.prog w= .ok v w∧(Cl.sub b (mf l) (hi'-mf l)).H η (ay H η) w [v]:=fun hi' hpre hh=>by
      subst hh
      have hle:AX u q.length≤q.length∧mf l≤AX u q.length:=by
       cases u with
       |none=>
        refine ⟨Nat.le_refl _,?_⟩
        cases l with
        |none=>exact Nat.zero_le _
        |some l=>obtain ⟨g1,g2⟩:=hpre;simp only [mf,AX];omega
       |some u=>
        obtain ⟨⟨g1,g2⟩,g3⟩:=hpre
        refine ⟨by simp only [AX];omega,?_⟩
        cases l with
        |none=>exact Nat.zero_le _
        |some l=>obtain ⟨g4,g5⟩:=g3;simp only [mf,AX];omega
      rcases jB z2 z3 with ⟨rfl,rfl⟩|⟨g,c,rfl,c1,c2,hr⟩
      ·refine ⟨sliced none (mf l) (AX u 0) 0 1,by rw [ak y2];exact lR (n:=0) (c:=0) hu hs1 (Nat.le_refl 0) hpre,_,_,_,y1,rfl,?_⟩
       simp only [List.length_nil] at hle ⊢
       refine ⟨by omega,by simp,fun _=>by omega,fun h=>by omega⟩
      ·refine ⟨_,by rw [ak y2];exact lR hu hs1 c1 (by
        cases u with
        |none=>exact hpre
        |some u=>exact ⟨⟨hpre.1.1,by have:=hpre.1.2;omega⟩,hpre.2⟩),_,_,_,y1,rfl,?_⟩
       refine ⟨by omega,by omega,fun he=> ?_,fun hn=>⟨g,_,_,rfl,?_,by omega⟩⟩
       ·split at he
        ·rename_i e;omega
        ·cases he
       ·rw [if_neg (by omega)]
        simp [eY]
     split at h8
     ·split at h8
      ·split at h8
       ·have:=aZ h8
        subst this
        obtain ⟨v,r,hx⟩:=key q.length hp rfl
        exact .val hS.hpOk hx (hex v (by rw [hmn rfl];exact r))
       ·cases h8
      ·rename_i h'
       split at h8
       ·have:=aZ h8
        subst this
        obtain ⟨v,r,hx⟩:=key h'.toInt.toNat hp rfl
        exact .val hS.hpOk hx (hex v (by rw [hmn rfl];exact r))
       ·cases h8
     ·cases h8
    ·cases h8
   ·cases h7
  ·cases h6
 ·rename_i b s n
  split at h6
  ·rename_i e ht
   obtain ⟨⟨i,d,z,hK⟩,h7⟩:=de hT h6
   clear h6
   have hu:=eD hT ht
   split at h7
   ·rename_i hs
    have hs1:=hK.sizeOf w
    rw [aQ hs] at hs1
    obtain ⟨v,ad,c,y1,y2,c1,c2,c3,c4⟩:=hv
    have key:∀(hi':Nat),WV l n n u→hi'=AX u n→∃v,(Instr.sliceAt t (a.eval x) (l.map ma) (u.map ma) none).run Tryz.prog w= .ok v w∧(Cl.sub b (s+mf l) (hi'-mf l)).H η (ay H η) w [v]:=fun hi' hpre hh=>by
     subst hh
     have hle:AX u n≤n∧mf l≤AX u n:=by
      cases u with
      |none=>
       refine ⟨Nat.le_refl _,?_⟩
       cases l with
       |none=>exact Nat.zero_le _
       |some l=>obtain ⟨g1,g2⟩:=hpre;simp only [mf,AX];omega
      |some u=>
       obtain ⟨⟨g1,g2⟩,g3⟩:=hpre
       refine ⟨by simp only [AX];omega,?_⟩
       cases l with
       |none=>exact Nat.zero_le _
       |some l=>obtain ⟨g4,g5⟩:=g3;simp only [mf,AX];omega
     refine ⟨_,by rw [ak y2];exact lR hu hs1 c1 (by
       cases u with
       |none=>exact hpre
       |some u=>exact ⟨⟨hpre.1.1,by have:=hpre.1.2;omega⟩,hpre.2⟩),_,_,_,y1,rfl,?_⟩
     refine ⟨by omega,by omega,fun he=> ?_,fun hn=> ?_⟩
     ·split at he
      ·rename_i e;omega
      ·cases ad with
       |none=>have:=c3 rfl;omega
       |some _=>cases he
     ·obtain ⟨g,N',C,e1,e2,e3⟩:=c4 (by omega)
      refine ⟨g,N',C,e1,?_,by omega⟩
      rw [if_neg (by omega),e2]
      simp [eY]
    split at h7
    ·split at h7
     ·have:=aZ h7
      subst this
      obtain ⟨v,r,hx⟩:=key n hp rfl
      exact .val hS.hpOk hx (hex v (by rw [hmn rfl];exact r))
     ·cases h7
    ·rename_i h'
     split at h7
     ·have:=aZ h7
      subst this
      obtain ⟨v,r,hx⟩:=key h'.toInt.toNat hp rfl
      exact .val hS.hpOk hx (hex v (by rw [hmn rfl];exact r))
     ·cases h7
   ·cases h7
  ·cases h6
 ·rename_i k q
  split at h6
  ·rename_i e ht
   obtain ⟨⟨i,d,z,hK⟩,h7⟩:=de hT h6
   clear h6
   have hu:=eD hT ht
   split at h7
   ·rename_i hs
    have hs1:=hK.sizeOf w
    rw [aQ hs] at hs1
    obtain ⟨v,y1,hr⟩:=hv
    obtain ⟨ad,c,y2,c1,c2,c3,c4⟩:=hr
    have hr:dU (ay H η) w k q (.slice ad q.length c):=⟨ad,c,rfl,c1,c2,c3,c4⟩
    split at h7
    ·split at h7
     ·have:=aZ h7
      subst this
      have hl:mf l≤q.length:=by
       cases l with
       |none=>exact Nat.zero_le _
       |some l=>obtain ⟨g1,g2⟩:=hp;simp only [mf];omega
      refine .val hS.hpOk (v:=sliced ad (mf l) q.length c k.n) ⟨_,rfl,?_⟩ (hex _ (by rw [hmn rfl,ak y1,y2];exact lR hu hs1 c1 (hi:=none) hp))
      have:=hr.part (x:=mf l) (Nat.le_refl _) hl
      rw [List.take_length] at this;exact this
     ·cases h7
    ·rename_i h'
     split at h7
     ·have:=aZ h7
      subst this
      obtain ⟨⟨g1,g2⟩,g3⟩:=hp
      have hl:mf l≤h'.toInt.toNat:=by
       cases l with
       |none=>exact Nat.zero_le _
       |some l=>obtain ⟨g4,g5⟩:=g3;simp only [mf,AX];omega
      exact .val hS.hpOk (v:=sliced ad (mf l) h'.toInt.toNat c k.n) ⟨_,rfl,hr.part (by omega) hl⟩ (hex _ (by rw [hmn rfl,ak y1,y2];exact lR hu hs1 c1 (hi:=some h') ⟨⟨g1,by omega⟩,g3⟩))
     ·cases h7
   ·cases h7
  ·cases h6
 ·cases h6
end
section
variable {ty:Nat→TE} {sl:Nat→List AV} {H:Nat→Option Ch} {η:bx} {w:World} {nx N:Nat} {a:Act} {o:Oper} {ds:List Bool} {res:aU} {rd:List dZ} {qs:List (Bool×Bool)}
theorem OpDone.valF (hH:dh H η w) {x:Cl} {v:Value} {pre:Option Prop} {p:Prop} (hp:p) (hx:x.H η (ay H η) w [v]) (hex:(execOp a.eval o).run Tryz.prog w= .ok (.value v) w):OpDone H η w nx ⟨[.one x],[],pre,some p⟩ o a:=
 .inl ⟨_,v,w,η,hex,.inl rfl,.pure (out:= [.one x]) (v:=v) hH hx hp⟩
theorem dU.slice {k:Kd} {l:List k.T} {v:Value} {A:Nat→Prop} (h:dU A w k l v):∃ad c,v= .slice ad l.length c∧l.length≤maxLen:=by
 obtain ⟨ad,c,h1,h2,h3,_⟩:=h
 exact ⟨ad,c,h1,by omega⟩
theorem rM {E:Nat} {k:Kd} {l:List k.T} {b:Nat} {v:Value} (hH:dh H η w) (hb:H b=some (.row E k l)) (hv:η b=some v):∃ad c,v= .slice ad l.length c∧l.length≤maxLen:=by
 obtain ⟨v',cs,y1,y2,y3⟩:=hH.chunk b _ hb
 rw [hv] at y1;cases y1
 rcases jB y2 y3 with ⟨rfl,rfl⟩|⟨g,c,rfl,c1,c2,_⟩
 ·exact ⟨none,0,rfl,by simp⟩
 ·exact ⟨_,c,rfl,by omega⟩
theorem Sq {t:Nat} {x:AV} {v:Value} (hT:bk ty) (hH:dh H η w) (hx:x.H η (ay H η) w v) (hex:∀u,(Builtin.len_ #[t] o.type #[v]).run Tryz.prog w= .ok u w→(execOp a.eval o).run Tryz.prog w= .ok (.value u) w) (h:(J5 ty t x).run sl H ds= .ok res rd qs):OpDone H η w nx res o a:=by
 unfold J5 at h
 split at h
 ·rename_i e ht
  have hu:=eD hT ht
  have hrun:∀ad n c,(Builtin.len_ #[t] o.type #[.slice ad n c]).run Tryz.prog w= .ok (.int .i64 (n:Int)) w:=fun ad n c=>by
   simp [Builtin.len_,run_underlying hu,goInt]
  split at h
  ·have:=aw h
   subst this
   obtain ⟨_,g,_,hv⟩:=hx
   exact .val hH ⟨rfl,rfl⟩ (hex _ (by rw [ak hv];exact hrun _ _ _))
  ·have:=aw h
   subst this
   exact .val hH ⟨rfl,rfl⟩ (hex _ (by rw [ak hx.1];exact hrun _ _ _))
  ·obtain ⟨_,h1⟩:=cg h
   split at h1
   ·rename_i E k l hb
    have:=aE h1
    subst this
    obtain ⟨u,hu1,hu2,_⟩:=hx
    obtain ⟨ad,c,e1,e2⟩:=rM hH hb hu1
    exact .valF hH e2 rfl (hex _ (by rw [ak hu2,e1];exact hrun _ _ _))
   ·cases h1
  ·have:=aE h
   subst this
   obtain ⟨u,ad,c,_,hv,h1,h2,_⟩:=hx
   exact .valF hH (by omega) rfl (hex _ (by rw [ak hv];exact hrun _ _ _))
  ·have:=aE h
   subst this
   obtain ⟨u,hv,hr⟩:=hx
   obtain ⟨ad,c,e1,e2⟩:=hr.slice
   exact .valF hH e2 rfl (hex _ (by rw [ak hv,e1];exact hrun _ _ _))
  ·have:=aE h
   subst this
   obtain ⟨ad,c,hv,h1,h2,_⟩:=hx
   exact .valF hH (by omega) rfl (hex _ (by rw [ak hv];exact hrun _ _ _))
  ·have:=aE h
   subst this
   obtain ⟨hv,⟨ad,c,e⟩,h1⟩:=hx
   exact .valF hH h1 rfl (hex _ (by rw [ak hv,e];exact hrun _ _ _))
  ·cases h
 ·rename_i ht
  have hu:Tryz.prog.underlying t=some .string:=by
   rcases hT t with h1|⟨i,d,z,hK⟩
   ·rw [ht] at h1;cases h1
   ·have:=hK.desc;rw [ht] at this;rw [hK.und,this]
  split at h
  ·rename_i s
   have:=aw h
   subst this
   have hv: [v]= [Value.string s]:=hx
   exact .val hH (v:= .int .i64 (s.size:Int)) rfl (hex _ (by rw [ak hv];simp [Builtin.len_,run_underlying hu,goInt]))
  ·cases h
 ·rename_i n e ht
  have hu:=lU hT ht
  have:=aw h
  subst this
  refine .val hH ⟨rfl,rfl⟩ (hex _ ?_)
  unfold Builtin.len_
  simp only [List.getElem?_toArray,List.getElem?_cons_zero]
  rw [Sem.run_bind,run_underlying hu]
  cases v<;>rfl
 ·cases h
theorem nY {x:AV} {k:AV→R aU} (h:(q6 x k).run sl H ds= .ok res rd qs) (hH:dh H η w) {v:Value} (hx:x.H η (ay H η) w v):
  ∃y rd',(k y).run sl H ds= .ok res rd' qs∧(y=x∨∃q l,y= .one (.ro q l)∧dU (fun _=>True) w q l v):=by
 unfold q6 at h
 split at h
 ·exact ⟨_,_,h,.inr ⟨.u8,[],rfl,by rw [ak hx.1];exact zJ .u8⟩⟩
 ·obtain ⟨hv,a,c,q1,q2,q3,q4,q5⟩:=hx
  exact ⟨_,_,h,.inr ⟨.u8,_,rfl,by rw [ak hv];exact ⟨a,c,q1,q2,q3,q4,fun hn=>by obtain ⟨g,o,cs,e1,_,e2⟩:=q5 hn;exact ⟨g,o,cs,e1,trivial,e2⟩⟩⟩⟩
 ·rename_i b
  obtain ⟨rd',h1⟩:=cg h
  split at h1
  ·rename_i E q l hb
   obtain ⟨u,hu1,hu2,_⟩:=hx
   obtain ⟨u',e1,hr⟩:=uO (hH.chunk b _ hb) (A':=fun _=>True) (fun _ _=>trivial)
   rw [hu1] at e1;cases e1
   exact ⟨_,_,h1,.inr ⟨q,l,rfl,by rw [ak hu2];exact hr⟩⟩
  ·cases h1
 ·rename_i b lo n
  obtain ⟨rd',h1⟩:=cg h
  split at h1
  ·rename_i E q l hb
   split at h1
   ·rename_i g1
    obtain ⟨u,e1,hr⟩:=zH (aQ g1) (hH.chunk b _ hb) hx (A':=fun _=>True) (fun _ _=>trivial)
    exact ⟨_,_,h1,.inr ⟨q,_,rfl,by rw [ak e1];exact hr⟩⟩
   ·cases h1
  ·cases h1
 ·rename_i b p n c
  obtain ⟨rd',h1⟩:=cg h
  split at h1
  ·rename_i E l hb
   split at h1
   ·rename_i q m l' e1
    split at h1
    ·rename_i hn hc'
     have:=aQ hn
     subst this
     have hc':=cZ hc'
     obtain ⟨hnc,g,hg,hv⟩:=hx
     obtain ⟨cs,hB,hc,h1c⟩:=fQ hH hb hg
     obtain ⟨z1,z2,_⟩:=nO e1 hc
     obtain ⟨z3,z4⟩:l'.length=n∧bj q.rp l' ((cs.drop p).take (Cl.vec q n l').n):=z2
     subst z3
     refine ⟨_,_,h1,.inr ⟨q,l',rfl,some ⟨g,p,none⟩,c,ak hv,hnc,?_,fun h=>(by cases h),fun _=>⟨g,p,_,rfl,trivial,z4,hB.range⟩⟩⟩
     simp only [maxLen]
     omega
    ·cases h1
   ·split at h1
    ·rename_i q m l' hno
     split at h1
     ·rename_i e1 e2 e3
      have e1:=aQ e1
      have e2:=cZ e2
      have e3:=cZ e3
      obtain ⟨hnc,g,hg,hv⟩:=hx
      obtain ⟨cs,hB,hc,h1c⟩:=fQ hH hb hg
      obtain ⟨c1,c2,rfl,⟨z3,z4⟩,rfl⟩:=hc
      rw [List.append_nil] at hB
      have z5:=(z4.drop p).take n
      rw [Kd.rp_n,e1,Nat.one_mul,Nat.one_mul] at z5
      have hlen:((l'.drop p).take n).length=n:=by rw [List.length_take,List.length_drop];omega
      refine ⟨_,_,h1,.inr ⟨q,_,rfl,some ⟨g,p,none⟩,c,by rw [hlen];exact ak hv,by rw [hlen];exact hnc,?_,fun h=>(by cases h),fun _=>⟨g,p,_,rfl,trivial,z5,hB.range⟩⟩⟩
      simp only [maxLen]
      omega
     ·cases h1
    ·cases h1
  ·cases h1
 ·exact ⟨_,_,h,.inl rfl⟩
end
section
variable {ty:Nat→TE} {sl:Nat→List AV} {H:Nat→Option Ch} {η:bx} {w:World} {nx N:Nat} {a:Act} {o:Oper} {ds:List Bool} {res:aU} {rd:List dZ} {qs:List (Bool×Bool)}
theorem bE.re (hH:dh H η w) {b:Nat} {c0:Ch} (hb:H b=some c0) (hn:H nx=none) (hfree:∀b,nx≤b→b<nx+16→η b=none) {v:Value} (hv:η b=some v) {w':World} (hg:w.grownBy w' v.ownBlock) (hvo:v.ownBlock=xC v) {v':Value} (hr:∀g,xC v'=some g→xC v=some g∨w.heap.size≤g) {c:Ch} {out:List AV} {pre:Option Prop}
  (hc:∀η' A',η' nx=some v'→c.H η' A' w' nx∧bz η' A' w' out v'):
  ∃η',bE H η w nx ⟨out,[(b,none),(nx,some c)],pre,none⟩ v' w' η':=by
 have h0:η nx=none:=hfree nx (Nat.le_refl _) (by omega)
 have hbn:b≠nx:=by rintro rfl;rw [hb] at hn;cases hn
 let η':bx:=fun x=>if x=nx then some v' else η x
 have he:∀b u,η b=some u→η' b=some u:=fun b u hu=>by
  show (if b=nx then some v' else η b)=some u
  rw [if_neg (by rintro rfl;rw [h0] at hu;cases hu)];exact hu
 have hne:∀b,b≠nx→η' b=η b:=fun b hb=>by show (if b=nx then some v' else η b)=η b;rw [if_neg hb]
 have hnx:η' nx=some v':=by show (if nx=nx then some v' else η nx)=_;rw [if_pos rfl]
 have hupd:∀x,bF [(b,none),(nx,some c)] H x=if x=nx then some c else if x=b then none else H x:=fun x=>rfl
 have hfpb:bu η b=xC v:=by unfold bu;rw [hv];rfl
 have hfp:∀x g,H x≠none→bu η x=some g→g<w.heap.size:=fun x g hx hg=>by
  cases e:H x with
  |none=>exact absurd e hx
  |some cx=>
   have:=hH.chunk x cx e
   cases cx with
   |blk E l=>
    obtain ⟨g',cs,h1,h2,_⟩:=this
    unfold bu at hg;rw [h1] at hg;cases hg;exact h2.lt
   |row E k l=>
    obtain ⟨u,cs,h1,h2,h3⟩:=this
    rcases h3.2 with ⟨rfl,_⟩|⟨g',cap,cur,rfl,_,h4,_⟩
    ·unfold bu at hg;rw [h1] at hg;cases hg
    ·unfold bu at hg;rw [h1] at hg;cases hg;exact (Array.getElem?_eq_some_iff.1 h4).1
 have hA:∀g,g<w.heap.size→ay H η g→ay (bF [(b,none),(nx,some c)] H) η' g:=fun g hg ha x hx=>by
  rw [hupd] at hx
  by_cases e:x=nx
  ·subst e;unfold bu;rw [hnx]
   intro h
   rcases hr g h with h|h
   ·exact ha b (by rw [hb];simp) (by rw [hfpb];exact h)
   ·omega
  ·rw [if_neg e] at hx
   by_cases e2:x=b
   ·subst e2;simp at hx
   ·rw [if_neg e2] at hx
    unfold bu;rw [hne x e];exact ha x hx
 have hblk:∀g,g<w.heap.size→xC v≠some g→w'.heap[g]?=w.heap[g]?:=fun g h1 h2=>hg.block g h1 (by rw [hvo];exact fun h=>h2 h.symm)
 have hfw:Fw H η w (bF [(b,none),(nx,some c)] H) η' w':=⟨hg.os,hg.tape,hg.output,hg.size,he,fun g hgl ha=>⟨hblk g hgl (by rw [←hfpb];exact ha b (by rw [hb];simp)),hA g hgl ha⟩⟩
 obtain ⟨h1,h2⟩:=hc η' (ay (bF [(b,none),(nx,some c)] H) η') hnx
 have hold:∀x,x≠nx→bF [(b,none),(nx,some c)] H x≠none→x≠b∧H x≠none:=fun x e hx=>by
  rw [hupd,if_neg e] at hx
  by_cases e2:x=b
  ·subst e2;simp at hx
  ·rw [if_neg e2] at hx;exact ⟨e2,hx⟩
 have hnew:∀x g,x≠nx→bF [(b,none),(nx,some c)] H x≠none→bu η x=some g→xC v'≠some g:=fun x g e hx hgx h=>by
  obtain ⟨e2,hx2⟩:=hold x e hx
  rcases hr g h with h|h
  ·exact hH.apart x b g e2 hx2 (by rw [hb];simp) hgx (by rw [hfpb];exact h)
  ·have:=hfp x g hx2 hgx;omega
 refine ⟨η',h2,⟨fun x cx hx=> ?_,fun x y g hxy hx hy hgx=> ?_⟩,hfw,fun x hx=>hne x (by omega),trivial⟩
 ·by_cases e:x=nx
  ·subst e;rw [hupd,if_pos rfl] at hx;cases hx;exact h1
  ·obtain ⟨e2,_⟩:=hold x e (by rw [hx];simp)
   rw [hupd,if_neg e,if_neg e2] at hx
   exact (hH.chunk x cx hx).later hfw.lt fun g hgx=>hblk g (hfp x g (by rw [hx];simp) hgx) fun h=>hH.apart x b g e2 (by rw [hx];simp) (by rw [hb];simp) hgx (by rw [hfpb];exact h)
 ·unfold bu at hgx ⊢
  by_cases e:x=nx
  ·subst e
   rw [hnx] at hgx
   rw [hne y (Ne.symm hxy)]
   intro h
   exact hnew y g (Ne.symm hxy) hy h hgx
  ·rw [hne x e] at hgx
   by_cases e2:y=nx
   ·subst e2;rw [hnx];exact hnew x g e hx hgx
   ·rw [hne y e2]
    exact hH.apart x y g hxy (hold x e hx).2 (hold y e2 hy).2 hgx
theorem Ej {k q:Kd} {l r:List k.T} {m:List q.T} (h:NB k q l m=some r):k.n=1∧q.n=1∧r.length=l.length+m.length∧∀ {cs ds:List Value},bj k.rp l cs→bj q.rp m ds→bj k.rp r (cs++ds):=by
 cases k<;>cases q<;>simp only [NB,Option.some.injEq,reduceCtorEq] at h
 all_goals
  subst h
  exact ⟨rfl,rfl,List.length_append,fun h1 h2=>h1.app h2⟩
theorem um {e n:Nat} {v:Value} {m:Nat} {xs:List Value} (h:w.ownsRow 0 e n v m xs):v.oneCell'=true:=by
 rcases h.2 with ⟨rfl,_⟩|⟨g,cap,cur,rfl,_⟩<;>rfl
theorem Kt {e n:Nat} {v:Value} {m:Nat} {xs:List Value} (h:w.ownsRow 0 e n v m xs):v.ownBlock=xC v:=by
 rcases h.2 with ⟨rfl,_⟩|⟨g,cap,cur,rfl,_⟩<;>rfl
theorem DL {t e:Nat} {i:TypeInfo} {z:Value} (ht:Tryz.prog.underlying t=some (.slice e)) (hi:Tryz.prog.info? e=some i) (hz:i.zero=some z) (hs:i.size=1) (hzs:z.cells.size=1) (hby:i.bytes≤4096) {ty':Nat}
  {v:Value} {n:Nat} {xs:List Value} (hown:w.ownsRow 0 e 1 v n xs) {ad:Option Addr} {m c:Nat} {news:List Value} (hl:news.length=m) (hnone:ad=none→m=0∧c=0) (hnews:∀b,ad=some b→∀j u,news[j]?=some u→w.cell? (b.add j)=some u) (h1:∀u∈news,u.oneCell'=true) (hb:n+m≤16777216):
  ∃v' w',(Builtin.append_ #[t,t] ty' #[v,.slice ad m c]).run Tryz.prog w= .ok v' w'∧w'.ownsRow 0 e 1 v' (n+m) (xs++news)∧w.grownBy w' v.ownBlock∧∀g,xC v'=some g→xC v=some g∨w.heap.size≤g:=by
 have hbb:(n+m)*i.bytes≤140737488355328:=Nat.le_trans (Nat.mul_le_mul hb hby) (by decide)
 cases ad with
 |none=>
  obtain ⟨rfl,rfl⟩:=hnone rfl
  have:news= []:=List.eq_nil_of_length_eq_zero hl
  subst this
  refine ⟨v,w,run_append_owned_none w 0 t ty' e i 1 ht hi v n xs hown,by simpa using hown,⟨rfl,rfl,rfl,Nat.le_refl _,fun _ _ _=>rfl⟩,fun g hg=> .inl hg⟩
 |some ad=>
  have hl':news.length=m*1:=by omega
  have hmx:n+m≤maxLen:=by simp only [maxLen];omega
  rcases hown.2 with ⟨rfl,rfl⟩|⟨g,cap,cur,rfl,hbg,hg,hnc,hcm,hcs,htake⟩
  ·have hx:xs= []:=List.eq_nil_of_length_eq_zero (by simpa using hown.1)
   subst hx
   obtain ⟨v',w',r1,r2,r3,r4⟩:=run_append_own (P:=Tryz.prog) w w.heap.size t ty' e i z 1 i.bytes ht hi hz hs rfl hzs (by omega) (.slice none 0 0) 0 [] (World.ownsRow_nil w _ e 1) ad m c news hl' (hnews ad rfl) h1 hmx hbb (Nat.le_refl _)
   refine ⟨v',w',r1,⟨r2.1,?_⟩,r3,fun g hg=> .inr ?_⟩
   ·rcases r2.2 with h|⟨g,cap,cur,e1,e2,e3⟩
    ·exact .inl h
    ·exact .inr ⟨g,cap,cur,e1,Nat.zero_le _,e3⟩
   ·rcases r2.2 with ⟨h,_⟩|⟨g',cap,cur,e1,e2,e3⟩
    ·subst h;cases hg
    ·subst e1;cases hg;exact e2
  ·by_cases hroom:n+m≤cap
   ·have hlx:xs.length=n:=by have:=hown.1;omega
    have hr:=run_append_room (P:=Tryz.prog) w t ty' e i ht hi g n cap cur hg ad m c news (by rw [hs];exact hl') (hnews ad rfl) h1 hroom (by rw [hs,hl,hcs,Nat.mul_one,Nat.mul_one];exact hroom)
    refine ⟨_,_,hr,⟨by simp [hlx,hl],.inr ⟨g,cap,_,rfl,hbg,setRow_heap w g cur _ e _ hg,hroom,hcm,?_,?_⟩⟩,⟨rfl,rfl,rfl,by simp,fun k _ hk=>setRow_other w g k _ (fun e=>hk (by simp [Value.ownBlock,e]))⟩,fun g' hg'=> .inl hg'⟩
    ·simp only [hs,List.size_toArray,List.length_append,List.length_take,List.length_drop,Array.length_toList,hcs,hl]
     omega
    ·rw [hs,htake,show (n+m)*1=(xs++news).length by simp [hlx,hl]]
     exact List.take_left
   ·have holds:∀j u,xs[j]?=some u→w.cell? ((⟨g,0,none⟩:Addr).add j)=some u:=hown.cells (g:=g) rfl
    have hlx:xs.length=n:=by have:=hown.1;omega
    have hr:=run_append_grow (P:=Tryz.prog) w t ty' e i z ht hi hz ⟨g,0,none⟩ n cap xs (by rw [hs];exact hown.1) holds ad m c news (by rw [hs];exact hl') (hnews ad rfl) (by omega) (by simp only [maxLen] at hmx;omega) (growslice_fits (by omega) hbb)
    have hge:=grownCap_ge w (n+m) cap e
    have hcm':grownCap w (n+m) cap e≤maxLen:=grownCap_le_maxLen w (n+m) cap e hmx
    refine ⟨_,_,hr,⟨by simp [hlx,hl],.inr ⟨w.heap.size,_,_,rfl,Nat.zero_le _,heap_alloc_new w.drew _,hge,hcm',?_,?_⟩⟩,⟨rfl,rfl,rfl,by simp,fun k hk _=>heap_alloc_old w.drew _ hk⟩,fun g' hg'=> .inr (by cases hg';exact Nat.le_refl _)⟩
    ·simp only [Array.size_append,List.size_toArray,size_zeroCells,hzs,hlx,hl]
     omega
    ·simp only [Array.toList_append]
     rw [show (n+m)*1=(xs++news).length by simp [hlx,hl]]
     exact List.take_left
theorem QR {t:Nat} {s x:AV} {vs vx:Value} (hT:bk ty) (hH:dh H η w) (hfree:∀b,nx≤b→b<nx+16→η b=none) (hs:s.H η (ay H η) w vs) (hx:x.H η (ay H η) w vx)
  (hex:∀u w',(Builtin.append_ #[t,t] o.type #[vs,vx]).run Tryz.prog w= .ok u w'→(execOp a.eval o).run Tryz.prog w= .ok (.value u) w') (h:(qr ty nx t s x).run sl H ds= .ok res rd qs) (hp:bn res.pre):OpDone H η w nx res o a:=by
 unfold qr at h
 split at h
 ·rename_i e ht
  have hu:=eD hT ht
  obtain ⟨⟨i,d,z,hK⟩,h1⟩:=de hT h
  clear h
  split at h1
  ·cases h1
  ·rename_i h2
   have hs1:=aQ h2
   split at h1
   ·cases h1
   ·rename_i k hk
    have hti:(ty e).ti= .k k:=by
     unfold pz at hk
     split at hk
     ·rename_i k' e2;cases hk;exact e2
     ·cases hk
    have hkn:k.n=1:=by rw [←hK.ks k hti];exact hs1
    have hzs:z.cells.size=1:=by
     have:=k.rp.len _ _ (hK.kz k hti)
     rw [Kd.rp_n,hkn] at this
     simpa using this
    obtain ⟨y,rd',h3,hy⟩:=nY h1 hH hx
    clear h1
    split at h3
    ·rename_i q m
     have hro:dU (fun _=>True) w q m vx:=by
      rcases hy with rfl|⟨q',l',e1,e2⟩
      ·obtain ⟨u,hu1,hu2⟩:=hx
       rw [ak hu1]
       obtain ⟨ad,c,g1,g2,g3,g4,g5⟩:=hu2
       exact ⟨ad,c,g1,g2,g3,g4,fun hn=>by obtain ⟨g,o,cs,e1,_,e2⟩:=g5 hn;exact ⟨g,o,cs,e1,trivial,e2⟩⟩
      ·cases e1;exact e2
     obtain ⟨ad,c,rfl,g2,g3,g4,g5⟩:=hro
     obtain ⟨news,n1,n2⟩:∃news,bj q.rp m news∧∀b,ad=some b→∀j u,news[j]?=some u→w.cell? (b.add j)=some u:=by
      by_cases hm:0<m.length
      ·obtain ⟨g,p,cs,rfl,_,e1,e2⟩:=g5 hm
       refine ⟨cs,e1,fun b hb j u hu=> ?_⟩
       cases hb
       rw [Addr.add_lit]
       exact e2 j u hu
      ·have:m= []:=List.eq_nil_of_length_eq_zero (by omega)
       subst this
       exact ⟨[],rfl,fun b _ j u hu=>by simp at hu⟩
     have hnone:ad=none→m.length=0∧c=0:=fun h=>by have:=g4 h;omega
     split at h3
     ·split at h3
      ·rename_i r hr
       obtain ⟨_,h4⟩:=cg h3
       split at h4
       ·rename_i hnn
        have:=aE h4
        subst this
        obtain ⟨_,q1,hrl,hrL⟩:=Ej hr
        simp only [List.length_nil,Nat.zero_add] at hrl
        rw [ak hs.1] at hex
        have hp:r.length≤16777216:=hp
        obtain ⟨v',w',r1,r2,r3,r4⟩:=DL (v:= .slice none 0 0) (n:=0) (xs:= []) hu hK.info hK.zero (hK.size.trans hs1) hzs hK.bytes (ty':=o.type) (World.ownsRow_nil w 0 e 1) (cS q1 n1) hnone n2 n1.one (by omega)
        obtain ⟨η',hR⟩:=bE.new (nx:=nx) (ref:=v') (c:= .row e k r) (out:= [.one (.rw nx)]) (v:=v') (pre:=some (r.length≤16777216)) hH hnn hfree (w':=w') ⟨r3.os,r3.tape,r3.output,r3.size,fun g hg=>r3.block g hg (by simp [Value.ownBlock])⟩ (fun g hg=>(r4 g hg).elim (fun h=>by cases h) id)
         (fun η' A' he hA hnx=>⟨⟨v',_,hnx,hrL (cs:= []) rfl n1,by rw [hkn,hrl];simpa using r2⟩,v',hnx,rfl,um r2⟩)
        exact .inl ⟨_,_,_,η',hex _ _ r1,.inl rfl,hR⟩
       ·cases h4
      ·cases h3
     ·rename_i b
      obtain ⟨_,h4⟩:=cg h3
      split at h4
      ·rename_i f p l hb
       split at h4
       ·rename_i r hef hr
        have hef:=aQ hef
        subst hef
        obtain ⟨_,h5⟩:=cg h4
        split at h5
        ·rename_i hnn
         have:=aE h5
         subst this
         obtain ⟨q0,q1,hrl,hrL⟩:=Ej hr
         obtain ⟨u,hu1,hu2,_⟩:=hs
         rw [ak hu2] at hex
         obtain ⟨u',cs,y1,y2,y3⟩:=hH.chunk b _ hb
         rw [hu1] at y1;cases y1
         have hp:r.length≤16777216:=hp
         obtain ⟨v',w',r1,r2,r3,r4⟩:=DL (v:=u) (n:=l.length) (xs:=cs) hu hK.info hK.zero (hK.size.trans hs1) hzs hK.bytes (ty':=o.type) (by rw [q0] at y3;exact y3) (cS q1 n1) hnone n2 n1.one (by omega)
         obtain ⟨η',hR⟩:=bE.re (nx:=nx) (c:= .row e p r) (out:= [.one (.rw nx)]) (pre:=some (r.length≤16777216)) hH hb hnn hfree hu1 r3 (Kt y3) r4
          (fun η' A' hnx=>⟨⟨v',_,hnx,hrL y2 n1,by rw [q0,hrl];exact r2⟩,v',hnx,rfl,um r2⟩)
         exact .inl ⟨_,_,_,η',hex _ _ r1,.inl rfl,hR⟩
        ·cases h5
       ·cases h4
      ·cases h4
     ·cases h3
    ·cases h3
 ·cases h
end
theorem tw {t:Nat} {x y:Value} {w:World} {b:Bool} (h:(Op.equalIn (9999+1) t x y).run Tryz.prog w= .ok b w):(Op.equal t x y).run Tryz.prog w= .ok b w:=h
theorem Qw {t e:Nat} {p:Option Addr} {w:World} (hu:Tryz.prog.underlying t=some (.pointer e)):(Op.equal t (.pointer p) (.pointer none)).run Tryz.prog w= .ok p.isNone w:=by
 apply tw
 unfold Op.equalIn
 rw [Sem.run_bind,run_underlying hu]
 cases p<;>rfl
theorem Ly {t:Nat} {p q:Bool} {w:World} (hu:Tryz.prog.underlying t=some .bool):(Op.equal t (.bool p) (.bool q)).run Tryz.prog w= .ok (p ==q) w:=by
 apply tw
 unfold Op.equalIn
 rw [Sem.run_bind,run_underlying hu]
 rfl
theorem jR {t:Nat} {x y:Value} {w:World} {b:Bool} (h:(Op.equal t x y).run Tryz.prog w= .ok b w):((do pure (.bool (←Op.equal t x y)):Sem Value)).run Tryz.prog w= .ok (.bool b) w∧((do pure (.bool (!(←Op.equal t x y))):Sem Value)).run Tryz.prog w= .ok (.bool (!b)) w:=by
 constructor<;>simp [h]
theorem jS {l:List UInt8} {cs:List Value}:bj Kd.u8.rp l cs↔cs=l.map bV:=by
 induction l generalizing cs with
 |nil=>exact Iff.rfl
 |cons x l ih=>
  constructor
  ·rintro ⟨h,r,h1,rfl,h2⟩
   rw [show h= [_] from h1,ih.1 h2];rfl
  ·rintro rfl
   exact ⟨[bV x],_,rfl,rfl,ih.2 rfl⟩
@[reducible] def wn (x y:F):Bool:=decide (x=y)
def VZ (x:F):List Value:=(List.range 16).map fun i=> .int .u64 ((bG x.val i:Nat):Int)
theorem yG (x:F):VZ x=((List.range 16).map fun i=>((bG x.val i:Nat):Int)).map (Value.int .u64):=by
 rw [VZ,List.map_map];rfl
theorem OQ:(Tryz.prog.info? 111).map (·.size)=some 1:=by kernel_rfl
theorem Ka (w:World):(sizeOf 111).run Tryz.prog w= .ok 1 w:=by
 have h:=OQ
 cases hq:Tryz.prog.info? 111 with
 |none=>simp [hq] at h
 |some i=>
  simp [hq] at h
  simp [sizeOf,typeInfo,hq,h]
theorem M_ {x y:F} (h:∀i,i<16→bG x.val i=bG y.val i):x=y:=by
 apply F.ext'
 have hx:=l8 x.val 16
 have hy:=l8 y.val 16
 rw [Nat.mod_eq_of_lt (Nat.lt_trans x.isLt (by decide +kernel))] at hx
 rw [Nat.mod_eq_of_lt (Nat.lt_trans y.isLt (by decide +kernel))] at hy
 rw [←hx,←hy]
 exact ei 16 h
theorem J1 (x y:F) (w:World):(Op.equal 143 (.agg (VZ x).toArray) (.agg (VZ y).toArray)).run Tryz.prog w= .ok (decide (x=y)) w:=by
 rw [yG,yG]
 have h:=Qn (P:=Tryz.prog) w 9998 143 111 16 .u64 Tryz.underlying143 Tryz.underlying111 Ka ((List.range 16).map fun i=>((bG x.val i:Nat):Int)) ((List.range 16).map fun i=>((bG y.val i:Nat):Int)) (by simp) (by simp)
 refine Eq.trans h ?_
 congr 1
 rw [Bool.eq_iff_iff,beq_iff_eq,decide_eq_true_iff]
 constructor
 ·intro e
  apply M_
  intro i hi
  have:=congrArg (fun l=>l[i]?) e
  simp [hi] at this
  omega
 ·rintro rfl;rfl
theorem IE {η:bx} {A:Nat→Prop} {w:World} {x:F} {v:Value} (h:AV.H η A w (.agg [.ob (.x 1) x]) v):v= .agg (VZ x).toArray:=by
 obtain ⟨cs,e,⟨h1,t,e2,⟨_,h3⟩,rfl⟩,_⟩:=h
 rw [e,e2,List.append_nil,h3]
 rfl
section
variable {ty:Nat→TE} {sl:Nat→List AV} {H:Nat→Option Ch} {η:bx} {w:World} {nx N:Nat} {a:Act} {o:Oper} {ds:List Bool} {res:aU} {rd:List dZ} {qs:List (Bool×Bool)}
theorem zA {t:Nat} {k:Kd} (hT:bk ty) (h:(ty t).ti= .k k):∃i d z,wq ty t i d z:=by
 rcases hT t with h1|h1
 ·rw [h] at h1;cases h1
 ·exact h1
theorem Ug {op:BinOp} {t t':Nat} {x y:Operand} (hT:bk ty) (ho:o.op= .binOp op t x y t') (hS:gR sl H N η a w) (h:(eK x fun a=>eK y fun b=>Bf (ty t).ti t op a b:R aU).run sl H ds= .ok res rd qs) (hp:bn res.pre):OpDone H η w nx res o a:=by
 obtain ⟨av,rd1,h1,hv⟩:=bt h hS.slot
 obtain ⟨bv,rd2,h2,hw⟩:=bt h1 hS.slot
 clear h h1
 have hH:dh H η w:=⟨hS.chunk,hS.apart⟩
 have hex:∀v,(eqGuard op t x y (a.eval x) (a.eval y)).run Tryz.prog w= .ok () w→(binOp op t (a.eval x) (a.eval y)).run Tryz.prog w= .ok v w→(execOp a.eval o).run Tryz.prog w= .ok (.value v) w:=fun v h1 h2=>by
  unfold execOp
  simp only [ho]
  rw [Sem.run_bind,Sem.run_bind,h1]
  simp [h2]
 unfold Bf at h2
 split at h2
 ·split at h2
  ·split at h2
   ·rename_i x y ht
    have:=aQ ht
    subst this
    have r1:=IE hv
    have r2:=IE hw
    have hg:Tryz.prog.eqGuardType Tryz.prog.depth 143=false:=by kernel_rfl
    unfold Ym at h2
    split at h2
    ·have:=aw h2
     subst this
     refine .val (v:= .bool (wn x y)) hH rfl (hex _ (by rw [r1,r2];simp [eqGuard,hg]) ?_)
     rw [r1,r2]
     exact (jR (J1 _ _ w)).1
    ·have:=aw h2
     subst this
     refine .val (v:= .bool (!wn x y)) hH rfl (hex _ (by rw [r1,r2];simp [eqGuard,hg]) ?_)
     rw [r1,r2]
     exact (jR (J1 _ _ w)).2
    ·cases h2
   ·cases h2
  ·cases h2
 rename_i hno
 clear hno
 unfold Qk at h2
 cases e1:hZ av with
 |some n=>
  rw [e1] at h2
  simp only at h2
  cases e2:hZ bv with
  |none=>rw [e2] at h2;cases h2
  |some m=>
   rw [e2] at h2
   have g1:=dL (bg e1 hv)
   have g2:=dL (bg e2 hw)
   refine (Nk (t:=t) op n m).done h2 hp hH fun v hv'=>hex v ?_ (by rw [g1,g2];exact hv')
   rw [g1,g2]
   obtain ⟨k1,r1⟩:=eN n
   obtain ⟨k2,r2⟩:=eN m
   rw [r1,r2]
   unfold eqGuard
   cases op<;>rfl
 |none=>
  rw [e1] at h2
  simp only at h2
  have hb:∀(p q:Bool),(ty t).ti= .k .bool→a.eval x= .bool p→a.eval y= .bool q→(op= .eql→(execOp a.eval o).run Tryz.prog w= .ok (.value (.bool (p ==q))) w)∧(op= .neq→(execOp a.eval o).run Tryz.prog w= .ok (.value (.bool (p != q))) w):=fun p q ht e1 e2=>by
   obtain ⟨i,d,z,hK⟩:=zA hT ht
   have hd:=hK.desc
   rw [ht] at hd
   have hu:Tryz.prog.underlying t=some .bool:=by rw [hK.und,hd]
   refine ⟨fun h=> ?_,fun h=> ?_⟩
   ·subst h
    refine hex _ (by rw [e1,e2];rfl) ?_
    rw [e1,e2]
    exact (jR (Ly hu)).1
   ·subst h
    refine hex _ (by rw [e1,e2];rfl) ?_
    rw [e1,e2]
    exact (jR (Ly hu)).2
  have hq:∀(p q:Option Addr),(ty t).ti= .ptr→q=none→a.eval x= .pointer p→a.eval y= .pointer q→(op= .eql→(execOp a.eval o).run Tryz.prog w= .ok (.value (.bool p.isNone)) w)∧(op= .neq→(execOp a.eval o).run Tryz.prog w= .ok (.value (.bool (!p.isNone))) w):=fun p q ht eq e1 e2=>by
   subst eq
   obtain ⟨i,d,z,hK⟩|h0:(∃i d z,wq ty t i d z)∨(ty t).ti= .oth:=(hT t).symm
   ·have hd:=hK.desc
    rw [ht] at hd
    obtain ⟨e,hd⟩:=hd
    have hu:Tryz.prog.underlying t=some (.pointer e):=by rw [hK.und,hd]
    refine ⟨fun h=> ?_,fun h=> ?_⟩
    ·subst h
     refine hex _ (by rw [e1,e2];rfl) ?_
     rw [e1,e2]
     exact (jR (Qw hu)).1
    ·subst h
     refine hex _ (by rw [e1,e2];rfl) ?_
     rw [e1,e2]
     exact (jR (Qw hu)).2
   ·rw [ht] at h0;cases h0
  split at h2
  ·rename_i p
   split at h2
   ·rename_i q ht
    obtain ⟨b1,b2⟩:=hb p q (by assumption) (ak hv) (ak hw)
    split at h2
    ·have:=aw h2;subst this;exact .val hH rfl (b1 rfl)
    ·have:=aw h2;subst this;exact .val hH rfl (b2 rfl)
    ·cases h2
   ·rename_i q ht
    obtain ⟨b1,b2⟩:=hb p q (by assumption) (ak hv) (ak hw.1)
    split at h2
    ·have:=aw h2;subst this;exact .val hH rfl (b1 rfl)
    ·have:=aw h2;subst this;exact .val hH rfl (b2 rfl)
    ·cases h2
   ·cases h2
  ·rename_i p
   split at h2
   ·rename_i q
    have r1:a.eval x= .string p:=ak hv
    have r2:a.eval y= .string q:=ak hw
    split at h2
    ·have:=aw h2;subst this
     refine .val (v:= .bool (p.toList ==q.toList)) hH rfl (hex _ (by rw [r1,r2];rfl) ?_)
     rw [r1,r2];rfl
    ·have:=aw h2;subst this
     refine .val (v:= .bool (!(p.toList ==q.toList))) hH rfl (hex _ (by rw [r1,r2];rfl) ?_)
     rw [r1,r2];rfl
    ·cases h2
   ·cases h2
  ·split at h2
   ·obtain ⟨g,_,hv⟩:=hv
    obtain ⟨b1,b2⟩:=hq _ _ (by assumption) rfl (ak hv) (ak hw.1)
    split at h2
    ·have:=aw h2;subst this;exact .val hH ⟨rfl,rfl⟩ (b1 rfl)
    ·have:=aw h2;subst this;exact .val hH ⟨rfl,rfl⟩ (b2 rfl)
    ·cases h2
   ·cases h2
  ·split at h2
   ·obtain ⟨b1,b2⟩:=hq _ _ (by assumption) rfl (ak hv.1) (ak hw.1)
    split at h2
    ·have:=aw h2;subst this;exact .val hH ⟨rfl,rfl⟩ (b1 rfl)
    ·have:=aw h2;subst this;exact .val hH ⟨rfl,rfl⟩ (b2 rfl)
    ·cases h2
   ·cases h2
  ·cases h2
set_option maxRecDepth 10000 in
theorem zN {z:Int} (h:gH z):keyOf Tryz.prog 3 (.int .i64 z)=some (.int .i64 z):=Maps.keyOf_int_mk Tryz.underlying3 (WalkArith.wf_i64 (match h with |⟨a,b⟩=>⟨a,by omega⟩))
theorem jO {A:Nat→Prop} {w:World} {f:Int→Int} {v:Value} (h:xF A w f v) {z:Int} (hz:gH z):(Instr.lookup 66 v (.int .i64 z) false).run Tryz.prog w= .ok (.int .i64 (f z)) w:=by
 obtain ⟨g,m,D,rfl,_,ho,hD⟩:=h
 obtain ⟨c,hr,hc,_⟩:=ho.lookup_int (Maps.int_keyed Tryz.underlying3) Tryz.underlying66 Tryz.underlying3 (by kernel_rfl) (zN hz)
 rw [hD z hz] at hc
 rw [hr,(Lit.int.inj (DataW.lit.inj hc)).2]
theorem SY {t:Nat} {m x:Operand} (ho:o.op= .lookup t m x false) (hS:gR sl H N η a w) (h:(eK m fun m=>eK x fun x=>Ao t m x:R aU).run sl H ds= .ok res rd qs) (hp:bn res.pre):OpDone H η w nx res o a:=by
 obtain ⟨av,rd1,h1,hv⟩:=bt h hS.slot
 obtain ⟨bv,rd2,h2,hw⟩:=bt h1 hS.slot
 clear h h1
 have hH:dh H η w:=⟨hS.chunk,hS.apart⟩
 unfold Ao at h2
 split at h2
 ·rename_i ht
  have:=aQ ht
  subst this
  split at h2
  ·rename_i u f
   obtain ⟨e,hm⟩:=hv
   cases List.singleton_inj.1 e
   have key:∀z,a.eval x= .int .i64 z→gH z→(execOp a.eval o).run Tryz.prog w= .ok (.value (.int .i64 (f z))) w:=fun z hx hz=>by
    unfold execOp
    simp only [ho,hx]
    rw [Sem.run_bind,jO hm hz]
    rfl
   split at h2
   ·rename_i z hz
    have:=aZ h2
    subst this
    exact .val hH rfl (key z (bg hz hw) hp)
   ·rename_i z hz
    have:=aZ h2
    subst this
    exact .val hH rfl (key z (bg hz hw) hp)
   ·cases h2
  ·cases h2
 ·cases h2
end
def Wa:Kd→Option IntKind
 | .u8=>some .u8| .u16=>some .u16| .u32=>some .u32| .u64=>some .u64| .int=>some .i64
 |_=>none
theorem MV (k:Kd) (x:Nm) {ik:IntKind} (hk:Wa k=some ik):aG (Mc k x) fun w=>(Conv.intToInt ik x.toInt).run Tryz.prog w:=by
 have hnat:∀z:Int,0≤z→(z.toNat:Int)=z:=fun z h=>by omega
 unfold Mc
 cases k<;>simp only [Wa,Option.some.injEq,reduceCtorEq] at hk<;>subst hk
 case u8=>
  cases x
  case lit z=>exact .pre (.int .u8 ((UInt8.ofNat z.toNat).toNat:Int)) (fun h w=>by have e:=Sa z.toNat;rw [hnat z h] at e;exact congrArg (fun q=>Result.ok (Value.int .u8 q) w) e) fun _ _ _=>rfl
  case int z=>exact .pre (.int .u8 ((UInt8.ofNat z.toNat).toNat:Int)) (fun h w=>by have e:=Sa z.toNat;rw [hnat z h] at e;exact congrArg (fun q=>Result.ok (Value.int .u8 q) w) e) fun _ _ _=>rfl
  case u8 a=>exact .one (.int .u8 ((a).toNat:Int)) (fun w=>congrArg (fun q=>Result.ok (Value.int .u8 q) w) (by have e:=Sa a.toNat;rw [show UInt8.ofNat a.toNat=a from UInt8.ofNat_toNat] at e;exact e)) fun _ _ _=>rfl
  case u16 a=>exact .one (.int .u8 ((a.toUInt8).toNat:Int)) (fun w=>congrArg (fun q=>Result.ok (Value.int .u8 q) w) (by have e:=Sa a.toNat;rw [show UInt8.ofNat a.toNat=a.toUInt8 by apply UInt8.toNat_inj.1;simp] at e;exact e)) fun _ _ _=>rfl
  case u32 a=>exact .one (.int .u8 ((a.toUInt8).toNat:Int)) (fun w=>congrArg (fun q=>Result.ok (Value.int .u8 q) w) (by have e:=Sa a.toNat;rw [show UInt8.ofNat a.toNat=a.toUInt8 by apply UInt8.toNat_inj.1;simp] at e;exact e)) fun _ _ _=>rfl
  case u64 a=>exact .one (.int .u8 ((a.toUInt8).toNat:Int)) (fun w=>congrArg (fun q=>Result.ok (Value.int .u8 q) w) (by have e:=Sa a.toNat;rw [show UInt8.ofNat a.toNat=a.toUInt8 by apply UInt8.toNat_inj.1;simp] at e;exact e)) fun _ _ _=>rfl
 case u16=>
  cases x
  case lit z=>exact .pre (.int .u16 ((UInt16.ofNat z.toNat).toNat:Int)) (fun h w=>by have e:=Ay z.toNat;rw [hnat z h] at e;exact congrArg (fun q=>Result.ok (Value.int .u16 q) w) e) fun _ _ _=>rfl
  case int z=>exact .pre (.int .u16 ((UInt16.ofNat z.toNat).toNat:Int)) (fun h w=>by have e:=Ay z.toNat;rw [hnat z h] at e;exact congrArg (fun q=>Result.ok (Value.int .u16 q) w) e) fun _ _ _=>rfl
  case u8 a=>exact .one (.int .u16 ((a.toUInt16).toNat:Int)) (fun w=>congrArg (fun q=>Result.ok (Value.int .u16 q) w) (by have e:=Ay a.toNat;rw [show UInt16.ofNat a.toNat=a.toUInt16 by apply UInt16.toNat_inj.1;simp] at e;exact e)) fun _ _ _=>rfl
  case u16 a=>exact .one (.int .u16 ((a).toNat:Int)) (fun w=>congrArg (fun q=>Result.ok (Value.int .u16 q) w) (by have e:=Ay a.toNat;rw [show UInt16.ofNat a.toNat=a from UInt16.ofNat_toNat] at e;exact e)) fun _ _ _=>rfl
  case u32 a=>exact .one (.int .u16 ((a.toUInt16).toNat:Int)) (fun w=>congrArg (fun q=>Result.ok (Value.int .u16 q) w) (by have e:=Ay a.toNat;rw [show UInt16.ofNat a.toNat=a.toUInt16 by apply UInt16.toNat_inj.1;simp] at e;exact e)) fun _ _ _=>rfl
  case u64 a=>exact .one (.int .u16 ((a.toUInt16).toNat:Int)) (fun w=>congrArg (fun q=>Result.ok (Value.int .u16 q) w) (by have e:=Ay a.toNat;rw [show UInt16.ofNat a.toNat=a.toUInt16 by apply UInt16.toNat_inj.1;simp] at e;exact e)) fun _ _ _=>rfl
 case u32=>
  cases x
  case lit z=>exact .pre (.int .u32 ((UInt32.ofNat z.toNat).toNat:Int)) (fun h w=>by have e:=zP z.toNat;rw [hnat z h] at e;exact congrArg (fun q=>Result.ok (Value.int .u32 q) w) e) fun _ _ _=>rfl
  case int z=>exact .pre (.int .u32 ((UInt32.ofNat z.toNat).toNat:Int)) (fun h w=>by have e:=zP z.toNat;rw [hnat z h] at e;exact congrArg (fun q=>Result.ok (Value.int .u32 q) w) e) fun _ _ _=>rfl
  case u8 a=>exact .one (.int .u32 ((a.toUInt32).toNat:Int)) (fun w=>congrArg (fun q=>Result.ok (Value.int .u32 q) w) (by have e:=zP a.toNat;rw [show UInt32.ofNat a.toNat=a.toUInt32 by apply UInt32.toNat_inj.1;simp] at e;exact e)) fun _ _ _=>rfl
  case u16 a=>exact .one (.int .u32 ((a.toUInt32).toNat:Int)) (fun w=>congrArg (fun q=>Result.ok (Value.int .u32 q) w) (by have e:=zP a.toNat;rw [show UInt32.ofNat a.toNat=a.toUInt32 by apply UInt32.toNat_inj.1;simp] at e;exact e)) fun _ _ _=>rfl
  case u32 a=>exact .one (.int .u32 ((a).toNat:Int)) (fun w=>congrArg (fun q=>Result.ok (Value.int .u32 q) w) (by have e:=zP a.toNat;rw [show UInt32.ofNat a.toNat=a from UInt32.ofNat_toNat] at e;exact e)) fun _ _ _=>rfl
  case u64 a=>exact .one (.int .u32 ((a.toUInt32).toNat:Int)) (fun w=>congrArg (fun q=>Result.ok (Value.int .u32 q) w) (by have e:=zP a.toNat;rw [show UInt32.ofNat a.toNat=a.toUInt32 by apply UInt32.toNat_inj.1;simp] at e;exact e)) fun _ _ _=>rfl
 case u64=>
  cases x
  case lit z=>exact .pre (.int .u64 ((UInt64.ofNat z.toNat).toNat:Int)) (fun h w=>by have e:=BY z.toNat;rw [hnat z h] at e;exact congrArg (fun q=>Result.ok (Value.int .u64 q) w) e) fun _ _ _=>rfl
  case int z=>exact .pre (.int .u64 ((UInt64.ofNat z.toNat).toNat:Int)) (fun h w=>by have e:=BY z.toNat;rw [hnat z h] at e;exact congrArg (fun q=>Result.ok (Value.int .u64 q) w) e) fun _ _ _=>rfl
  case u8 a=>exact .one (.int .u64 ((a.toUInt64).toNat:Int)) (fun w=>congrArg (fun q=>Result.ok (Value.int .u64 q) w) (by have e:=BY a.toNat;rw [show UInt64.ofNat a.toNat=a.toUInt64 by apply UInt64.toNat_inj.1;simp] at e;exact e)) fun _ _ _=>rfl
  case u16 a=>exact .one (.int .u64 ((a.toUInt64).toNat:Int)) (fun w=>congrArg (fun q=>Result.ok (Value.int .u64 q) w) (by have e:=BY a.toNat;rw [show UInt64.ofNat a.toNat=a.toUInt64 by apply UInt64.toNat_inj.1;simp] at e;exact e)) fun _ _ _=>rfl
  case u32 a=>exact .one (.int .u64 ((a.toUInt64).toNat:Int)) (fun w=>congrArg (fun q=>Result.ok (Value.int .u64 q) w) (by have e:=BY a.toNat;rw [show UInt64.ofNat a.toNat=a.toUInt64 by apply UInt64.toNat_inj.1;simp] at e;exact e)) fun _ _ _=>rfl
  case u64 a=>exact .one (.int .u64 ((a).toNat:Int)) (fun w=>congrArg (fun q=>Result.ok (Value.int .u64 q) w) (by have e:=BY a.toNat;rw [show UInt64.ofNat a.toNat=a from UInt64.ofNat_toNat] at e;exact e)) fun _ _ _=>rfl
 case int=>
  have hr:∀(z:Int) w,gH z→(Conv.intToInt .i64 z).run Tryz.prog w= .ok (.int .i64 z) w:=fun z w h=>congrArg (fun q=>Result.ok (Value.int .i64 q) w) (gg h)
  cases x
  case lit z=>exact .lit fun h w=>hr z w h
  case int z=>exact .symI fun h w=>hr z w h
  case u8 a=>exact .one _ (fun w=>hr _ w ⟨by simp only [Nm.toInt];omega,by have:=a.toNat_lt;simp only [Nm.toInt];omega⟩) fun _ _ _=>rfl
  case u16 a=>exact .one _ (fun w=>hr _ w ⟨by simp only [Nm.toInt];omega,by have:=a.toNat_lt;simp only [Nm.toInt];omega⟩) fun _ _ _=>rfl
  case u32 a=>exact .one _ (fun w=>hr _ w ⟨by simp only [Nm.toInt];omega,by have:=a.toNat_lt;simp only [Nm.toInt];omega⟩) fun _ _ _=>rfl
  case u64 a=>exact .pre _ (fun h w=>hr _ w ⟨by simp only [Nm.toInt];omega,by simp only [Nm.toInt];omega⟩) fun _ _ _=>rfl
section
variable {ty:Nat→TE} {sl:Nat→List AV} {H:Nat→Option Ch} {η:bx} {w:World} {nx N:Nat} {a:Act} {o:Oper} {ds:List Bool} {res:aU} {rd:List dZ} {qs:List (Bool×Bool)}
theorem dU.rdb {A:Nat→Prop} {l:List UInt8} {v:Value} (h:dU A w .u8 l v):∃ad c,v= .slice ad l.length c∧kK w ad l.length c l:=by
 obtain ⟨ad,c,rfl,h1,h2,h3,h4⟩:=h
 refine ⟨ad,c,rfl,rfl,h1,h2,fun i hi=> ?_,h3⟩
 obtain ⟨g,q,cs,rfl,_,hl,hr⟩:=h4 (by omega)
 refine ⟨g,q,rfl,?_⟩
 have:=hr i (bV l[i]) (by rw [jS.1 hl,List.getElem?_map,List.getElem?_eq_getElem hi];rfl)
 exact this
theorem bE.drop (hH:dh H η w) {b g:Nat} {c:Ch} (hb:H b=some c) (hg:bu η b=some g) {w':World} (ho:w'.os=w.os) (ht:w'.tape=w.tape) (hu:w'.output=w.output) (hz:w'.heap.size=w.heap.size) (hw:∀x,x≠g→w'.heap[x]?=w.heap[x]?)
  {out:List AV} {v:Value} {pre:Option Prop} (hc:∀A':Nat→Prop,A' g→bz η A' w' out v):bE H η w nx ⟨out,[(b,none)],pre,none⟩ v w' η:=by
 have hupd:∀x,bF [(b,none)] H x=if x=b then none else H x:=fun b=>rfl
 have hA:∀g',ay H η g'→ay (bF [(b,none)] H) η g':=fun g' ha x hx=>by
  rw [hupd] at hx
  by_cases e:x=b
  ·rw [if_pos e] at hx;exact absurd rfl hx
  ·rw [if_neg e] at hx;exact ha x hx
 have hAg:ay (bF [(b,none)] H) η g:=fun x hx=>by
  rw [hupd] at hx
  by_cases e:x=b
  ·rw [if_pos e] at hx;exact absurd rfl hx
  ·rw [if_neg e] at hx;exact hH.apart b x g (Ne.symm e) (by rw [hb];simp) hx hg
 have hfw:Fw H η w (bF [(b,none)] H) η w':=⟨ho,ht,hu,by omega,fun _ _ h=>h,fun g' _ ha=>⟨hw g' fun e=>ha b (by rw [hb];simp) (by rw [hg,e]),hA g' ha⟩⟩
 refine ⟨hc _ hAg,⟨fun x cx hx=> ?_,fun x x' g' hxx hx1 hx2 hgx=> ?_⟩,hfw,fun _ _=>rfl,trivial⟩
 ·rw [hupd] at hx
  by_cases e:x=b
  ·rw [if_pos e] at hx;cases hx
  ·rw [if_neg e] at hx
   exact (hH.chunk x cx hx).later hfw.lt fun g' hg'=>hw g' fun e2=>by
    subst e2
    exact hH.apart x b g' e (by rw [hx];simp) (by rw [hb];simp) hg' hg
 ·rw [hupd] at hx1 hx2
  refine hH.apart x x' g' hxx ?_ ?_ hgx
  ·by_cases e:x=b
   ·rw [if_pos e] at hx1;exact absurd rfl hx1
   ·rw [if_neg e] at hx1;exact hx1
  ·by_cases e:x'=b
   ·rw [if_pos e] at hx2;exact absurd rfl hx2
   ·rw [if_neg e] at hx2;exact hx2
theorem FL {s d:Nat} {x:Operand} (hT:bk ty) (ho:o.op= .convert s d x) (hS:gR sl H N η a w) (h:(eK x fun a=>BE ty s d a:R aU).run sl H ds= .ok res rd qs) (hp:bn res.pre):OpDone H η w nx res o a:=by
 obtain ⟨av,rd1,h1,hv⟩:=bt h hS.slot
 clear h
 unfold BE at h1
 split at h1
 ·rename_i k0 hs0
  split at h1
  ·rename_i k hd0
   split at h1
   ·rename_i n hn
    obtain ⟨i1,d1,z1,hK1⟩:=zA hT hs0
    obtain ⟨i2,d2,z2,hK2⟩:=zA hT hd0
    have hd:=hK2.desc
    rw [hd0] at hd
    have g:=dL (bg hn hv)
    obtain ⟨ik,r⟩:=eN n
    cases hki:Wa k with
    |none=>unfold Mc at h1;cases k<;>first |(cases h1;done)|(cases hki;done)
    |some jk=>
     have hu:Tryz.prog.underlying d=some (.int jk):=by
      rw [hK2.und]
      cases k<;>simp only [Wa,Option.some.injEq,reduceCtorEq] at hki<;>subst hki<;>exact congrArg some hd
     refine (MV k n hki).done h1 hp hS.hpOk fun v hv'=> ?_
     unfold execOp
     simp only [ho]
     rw [Sem.run_bind]
     have:(convert s d (a.eval x)).run Tryz.prog w= .ok v w:=by
      unfold convert
      rw [Sem.run_bind,run_underlying hK1.und]
      simp only [Result.andThen_ok]
      rw [Sem.run_bind,run_underlying hu,g,r]
      simp only [Result.andThen_ok]
      exact hv'
     rw [this];rfl
   ·cases h1
  ·cases h1
 ·split at h1
  ·rename_i hs
   have:=aQ hs
   subst this
   split at h1
   ·rename_i hd
    have:=aQ hd
    subst this
    obtain ⟨y,rd2,h2,hy⟩:=nY h1 hS.hpOk hv
    replace hy:AV.H η (fun _=>True) w y (a.eval x):=by
     rcases hy with rfl|⟨q,m,rfl,hy⟩
     ·exact hv.later ⟨fun _ _ h=>h,fun _ _ _=>⟨rfl,trivial⟩⟩
     ·exact ⟨_,rfl,hy⟩
    split at h2
    ·rename_i l
     have:=aw h2
     subst this
     obtain ⟨u,e1,hr⟩:=hy
     refine .val (v:= .string (bs l)) hS.hpOk rfl ?_
     unfold execOp
     simp only [ho]
     rw [Sem.run_bind]
     have:(convert 30 9 (a.eval x)).run Tryz.prog w= .ok (.string (bs l)) w:=by
      rw [List.singleton_inj] at e1
      subst e1
      obtain ⟨ad,c,e2,hR⟩:=hr.rdb
      rw [e2]
      exact xM hR
     rw [this];rfl
    ·cases h2
   ·split at h1
    ·rename_i b hd
     have:=aQ hd
     subst this
     obtain ⟨rd2,h2⟩:=cg h1
     split at h2
     ·rename_i E x l hb
      have:=aE h2
      subst this
      obtain ⟨v,cs,e1,h3,h4⟩:=hS.chunk b _ hb
      obtain ⟨v',e1',e5,_⟩:=hv
      rw [e1] at e1'
      cases e1'
      have e5:=List.singleton_inj.1 e5
      rcases h4.2 with ⟨_,hz⟩|⟨g,cap,cur,e,_,h5,h6,h7,h8,h9⟩
      ·cases hz
      ·subst e
       have hg:bu η b=some g:=by unfold bu;rw [e1];rfl
       have hw':∀i,i≠g→(w.freeze ⟨g,cur.size,none⟩ 1).heap[i]?=w.heap[i]?:=fun i hi=>by
        simp [World.freeze,Array.getElem?_modify,Ne.symm hi]
       have hwg:(w.freeze ⟨g,cur.size,none⟩ 1).heap[g]?=some (.cells cur E (cur.size,cur.size+1)):=by
        simp [World.freeze,Array.getElem?_modify,h5]
       have hsz:(w.freeze ⟨g,cur.size,none⟩ 1).heap.size=w.heap.size:=by simp [World.freeze]
       have hex:(execOp a.eval o).run Tryz.prog w= .ok (.value (.slice (some ⟨g,0,none⟩) (x::l).length cap)) (w.freeze ⟨g,cur.size,none⟩ 1):=by
        unfold execOp
        simp only [ho]
        rw [Sem.run_bind,e5]
        have hsh:w.shape? g=some (E,cur.size):=by unfold World.shape?;rw [h5]
        simp [convert,run_underlying Tryz.underlying30,run_underlying Tryz.underlying5,markStringish,hsh]
       refine .inl ⟨_,_,_,η,hex,.inl rfl,?_⟩
       refine bE.drop (w':=w.freeze ⟨g,cur.size,none⟩ 1) hS.hpOk hb hg rfl rfl rfl hsz hw' fun A' hA=> ?_
       refine ⟨_,rfl,some ⟨g,0,none⟩,cap,rfl,h6,h7,fun h=>(by cases h),fun _=>⟨g,0,cs,rfl,hA,h3,fun j u hj=> ?_⟩⟩
       simp only [World.cell?,hwg]
       have hlt:=(List.getElem?_eq_some_iff.1 hj).1
       have h10:=h4.1
       rw [←h9,List.getElem?_take] at hj
       split at hj
       ·simpa using hj
       ·cases hj
     ·cases h2
    ·cases h1
  ·cases h1
 ·cases h1
theorem Tc (x:Nm):aG (match x with
  |(.lit a)=>i5 (0-a)
  |(.int a)=>symI (0-a)
  |(.u64 a)=>aA (.ob .u64 (0-a))
  |(.u32 a)=>aA (.ob .u32 (0-a))
  |_=> .fail) fun w=>(Op.unary .neg (ma x)).run Tryz.prog w:=by
 cases x
 case lit a=>exact .lit fun h w=>congrArg (fun q=>Result.ok (Value.int .i64 q) w) (gg h)
 case int a=>exact .symI fun h w=>congrArg (fun q=>Result.ok (Value.int .i64 q) w) (gg h)
 case u32 a=>exact oI (t:=0) .sub (by simp) (by simp) 0 a
 case u64 a=>exact pS (t:=0) .sub (by simp) (by simp) 0 a
 all_goals exact .fail
theorem Tg (x:Nm):aG (match x with
  |(.u8 a)=>aA (.ob .u8 (~~~a))
  |(.u16 a)=>aA (.ob .u16 (~~~a))
  |(.u32 a)=>aA (.ob .u32 (~~~a))
  |(.u64 a)=>aA (.ob .u64 (~~~a))
  |_=> .fail) fun w=>(Op.unary .xor (ma x)).run Tryz.prog w:=by
 cases x
 case u8 a=>show aG (aA (.ob .u8 (~~~a))) _;rw [show ~~~a=UInt8.ofNat (2^8-1)^^^a from UInt8.eq_of_toBitVec_eq (by show ~~~a.toBitVec=BitVec.allOnes 8^^^a.toBitVec;rw [BitVec.allOnes_xor])];exact Et (t:=0) .xor (by simp) (by simp) (UInt8.ofNat (2^8-1)) a
 case u16 a=>show aG (aA (.ob .u16 (~~~a))) _;rw [show ~~~a=UInt16.ofNat (2^16-1)^^^a from UInt16.eq_of_toBitVec_eq (by show ~~~a.toBitVec=BitVec.allOnes 16^^^a.toBitVec;rw [BitVec.allOnes_xor])];exact yp (t:=0) .xor (by simp) (by simp) (UInt16.ofNat (2^16-1)) a
 case u32 a=>show aG (aA (.ob .u32 (~~~a))) _;rw [show ~~~a=UInt32.ofNat (2^32-1)^^^a from UInt32.eq_of_toBitVec_eq (by show ~~~a.toBitVec=BitVec.allOnes 32^^^a.toBitVec;rw [BitVec.allOnes_xor])];exact oI (t:=0) .xor (by simp) (by simp) (UInt32.ofNat (2^32-1)) a
 case u64 a=>show aG (aA (.ob .u64 (~~~a))) _;rw [show ~~~a=UInt64.ofNat (2^64-1)^^^a from UInt64.eq_of_toBitVec_eq (by show ~~~a.toBitVec=BitVec.allOnes 64^^^a.toBitVec;rw [BitVec.allOnes_xor])];exact pS (t:=0) .xor (by simp) (by simp) (UInt64.ofNat (2^64-1)) a
 all_goals exact .fail
theorem RX {op:UnOp} {t:Nat} {x:Operand} (ho:o.op= .unOp op t x) (hS:gR sl H N η a w) (h:(eK x fun a=>Ta op a:R aU).run sl H ds= .ok res rd qs) (hp:bn res.pre):OpDone H η w nx res o a:=by
 obtain ⟨av,rd1,h1,hv⟩:=bt h hS.slot
 clear h
 have hex:∀v,(Op.unary op (a.eval x)).run Tryz.prog w= .ok v w→(execOp a.eval o).run Tryz.prog w= .ok (.value v) w:=fun v h=>by
  unfold execOp
  simp only [ho]
  rw [Sem.run_bind,h]
  rfl
 unfold Ta at h1
 split at h1
 ·split at h1
  ·rename_i b
   rw [DM] at h1
   have:=aw h1;subst this
   exact .val hS.hpOk ⟨rfl,rfl⟩ (hex _ (by rw [ak hv.1];rfl))
  ·rename_i b
   have:=aw h1;subst this
   exact .val (v:= .bool (!b)) hS.hpOk rfl (hex _ (by rw [show a.eval x= .bool b from ak hv];rfl))
  ·cases h1
 ·cases e:hZ av with
  |none=>rw [e] at h1;cases h1
  |some n=>
   rw [e] at h1
   have g:=dL (bg e hv)
   refine (Tc n).done (by cases n<;>exact h1) hp hS.hpOk fun v hv'=>hex v (by rw [g];exact hv')
 ·cases e:hZ av with
  |none=>rw [e] at h1;cases h1
  |some n=>
   rw [e] at h1
   have g:=dL (bg e hv)
   refine (Tg n).done (by cases n<;>exact h1) hp hS.hpOk fun v hv'=>hex v (by rw [g];exact hv')
 ·cases h1
end
section
variable {ty:Nat→TE} {sl:Nat→List AV} {H:Nat→Option Ch} {η:bx} {w:World} {nx N:Nat} {a:Act} {o:Oper} {ds:List Bool} {res:aU} {rd:List dZ} {qs:List (Bool×Bool)}
theorem RW {c x y:Operand} (ho:o.op= .pick c x y) (hS:gR sl H N η a w) (h:(eK c fun c=>match c with
  | .one (.cv (.bool true))=>eK x fun a=> .pure ⟨[a],[],none,none⟩
  | .one (.cv (.bool false))=>eK y fun b=> .pure ⟨[b],[],none,none⟩
  |_=> .fail:R aU).run sl H ds= .ok res rd qs):OpDone H η w nx res o a:=by
 obtain ⟨cv,rd1,h1,hv⟩:=bt h hS.slot
 clear h
 have hex:∀b,a.eval c= .bool b→(execOp a.eval o).run Tryz.prog w= .ok (.value (if b=true then a.eval x else a.eval y)) w:=fun b hb=>by
  unfold execOp
  simp only [ho,hb]
  cases b<;>rfl
 split at h1
 ·obtain ⟨av,rd2,h2,hw⟩:=bt h1 hS.slot
  have:=aE h2;subst this
  exact .inl ⟨_,a.eval x,w,η,hex true (ak hv.1),.inl rfl,.pure (out:= [av]) hS.hpOk hw trivial⟩
 ·obtain ⟨av,rd2,h2,hw⟩:=bt h1 hS.slot
  have:=aE h2;subst this
  exact .inl ⟨_,a.eval y,w,η,hex false (ak hv.1),.inl rfl,.pure (out:= [av]) hS.hpOk hw trivial⟩
 ·cases h1
theorem DN {e:Nat} {k:Kd} (hk:pz (ty e)=some k):(ty e).ti= .k k:=by
 unfold pz at hk
 split at hk
 ·rename_i k' e2;cases hk;exact e2
 ·cases hk
theorem Sx {e:Nat} {k:Kd} {i:TypeInfo} {d:TypeDesc} {z:Value} (hK:wq ty e i d z) (ht:(ty e).ti= .k k) (h1:k.n=1):∃u,z.cells= #[u]∧k.rp.rep k.df [u]∧u.oneCell'=true:=by
 have h2:=hK.kz k ht
 have:=k.rp.len _ _ h2
 rw [Kd.rp_n,h1] at this
 obtain ⟨u,hu⟩:=List.length_eq_one_iff.1 this
 rw [hu] at h2
 exact ⟨u,by rw [←Array.toArray_toList (xs:=z.cells),hu],h2,k.rp.one _ _ h2 u (by simp)⟩
theorem ao {k:Kd} {u:Value} (h:k.rp.rep k.df [u]):∀n,bj k.rp (List.replicate n k.df) (List.replicate n u)
 |0=>rfl
 |n+1=>⟨[u],List.replicate n u,h,rfl,ao h n⟩
theorem wA {t:Nat} {x y:Operand} (hT:bk ty) (ho:o.op= .makeSlice t x y) (hS:gR sl H N η a w) (hfree:∀b,nx≤b→b<nx+16→η b=none) (h:(eK x fun n=>eK y fun c=>jl ty nx t n c:R aU).run sl H ds= .ok res rd qs) (hp:bn res.pre):OpDone H η w nx res o a:=by
 obtain ⟨av,rd1,h1,hv⟩:=bt h hS.slot
 obtain ⟨bv,rd2,h2,hw⟩:=bt h1 hS.slot
 clear h h1
 unfold jl at h2
 split at h2
 ·rename_i e n c ht e1 e2
  split at h2
  ·rename_i k hk
   split at h2
   ·rename_i hk1
    have hkn:=aQ hk1
    obtain ⟨hn,rfl⟩:=gT h2
    have hti:=DN hk
    obtain ⟨i,d,z,hK⟩:=zA hT hti
    obtain ⟨u,hz,hrep,hu1⟩:=Sx hK hti hkn
    obtain ⟨p1,p2,p3⟩:0≤n.toInt∧n.toInt=c.toInt∧c.toInt≤16777216:=hp
    obtain ⟨k1,r1⟩:=eN n
    obtain ⟨k2,r2⟩:=eN c
    have g1:=dL (bg e1 hv)
    have g2:=dL (bg e2 hw)
    have hN:n.toInt=(n.toInt.toNat:Int):=by omega
    rw [r1,hN] at g1
    rw [r2,←p2,hN] at g2
    have hsz:i.size=1:=by rw [hK.size,hK.ks k hti,hkn]
    have hby:i.bytes*n.toInt.toNat≤281474976710656:=Nat.le_trans (Nat.mul_le_mul hK.bytes (show n.toInt.toNat≤16777216 by omega)) (by decide)
    obtain ⟨w',q1,q2,q3⟩:=run_make_full (P:=Tryz.prog) w w.heap.size t e i z 1 (eD hT ht) hK.info hK.zero hsz k1 k2 n.toInt.toNat hby (by simp only [maxLen];omega) (Nat.le_refl _)
    rw [hz,Nat.mul_one,toList_madeCells_one] at q2
    have q4:w'.ownsRow 0 e k.n (.slice (some ⟨w.heap.size,0,none⟩) n.toInt.toNat n.toInt.toNat) (List.replicate n.toInt.toNat k.df).length (List.replicate n.toInt.toNat u):=by
     rw [hkn,List.length_replicate]
     refine ⟨q2.1,?_⟩
     rcases q2.2 with h|⟨g,cap,cur,e1,e2,e3⟩
     ·exact .inl h
     ·exact .inr ⟨g,cap,cur,e1,Nat.zero_le _,e3⟩
    obtain ⟨η',hR⟩:=bE.new (nx:=nx) (ref:= .slice (some ⟨w.heap.size,0,none⟩) n.toInt.toNat n.toInt.toNat) (c:= .row e k (List.replicate n.toInt.toNat k.df)) (out:= [.one (.rw nx)]) (v:= .slice (some ⟨w.heap.size,0,none⟩) n.toInt.toNat n.toInt.toNat) (pre:=some (0≤n.toInt∧n.toInt=c.toInt∧c.toInt≤16777216)) hS.hpOk hn hfree (w':=w') ⟨q3.os,q3.tape,q3.output,q3.size,fun g hg=>q3.block g hg (by simp)⟩ (fun g hg=>by cases hg;exact Nat.le_refl _)
     (fun η' A' he hA hnx=>⟨⟨_,_,hnx,ao hrep _,q4⟩,_,hnx,rfl,rfl⟩)
    refine .inl ⟨_,_,_,η',?_,.inl rfl,hR⟩
    unfold execOp
    simp only [ho]
    rw [Sem.run_bind,g1,g2,q1]
    rfl
   ·cases h2
  ·cases h2
 ·cases h2
theorem Xn {t:Nat} {x y:Operand} (hT:bk ty) (ho:o.op= .index t x y) (hS:gR sl H N η a w) (h:(eK x fun a=>eK y fun i=>uu ty t a i:R aU).run sl H ds= .ok res rd qs) (hp:bn res.pre):OpDone H η w nx res o a:=by
 obtain ⟨av,rd1,h1,hv⟩:=bt h hS.slot
 obtain ⟨iv,rd2,h2,hw⟩:=bt h1 hS.slot
 clear h h1
 unfold uu at h2
 split at h2
 ·rename_i l
  split at h2
  ·rename_i n e ht
   have hu:=lU hT ht
   have hn:=Bh h2
   obtain ⟨⟨i,d,z,hK⟩,h3⟩:=de hT h2
   clear h2
   obtain ⟨cs,hv,hc,hone⟩:=hv
   have hex:∀(k:IntKind) (j:Nat) v,a.eval y= .int k (j:Int)→j<n→(part e cs.toArray (j*(ty e).size)).run Tryz.prog w= .ok v w→(execOp a.eval o).run Tryz.prog w= .ok (.value v) w:=fun k j v hi hj hv'=>by
    refine G3 (ev:=Instr.index t (a.eval x) (a.eval y)) (by unfold execOp;simp only [ho]) ?_
    rw [hv,hi]
    unfold Instr.index
    rw [Sem.run_bind,show (asIntOf (.int k (j:Int))).run Tryz.prog w= .ok (k,(j:Int)) w from rfl]
    simp only [Result.andThen_ok]
    rw [Sem.run_bind,run_underlying hu]
    simp only [Result.andThen_ok]
    rw [if_pos ⟨by omega,by omega⟩,Sem.run_bind,hK.sizeOf,Result.andThen_ok,Int.toNat_natCast]
    exact hv'
   rcases li h3 hw with ⟨j,hi,h4⟩|⟨kd,z',hi,h4⟩
   ·split at h4
    ·rename_i hj
     have hj:=lp hj
     split at h4
     ·rename_i ha
      split at h4
      ·rename_i r y1
       split at h4
       ·rename_i q y2
        have:=aE h4;subst this
        obtain ⟨z1,z2⟩:=ix y1 hc
        obtain ⟨z3,z4⟩:=j3 y2 z2
        rw [List.length_drop] at z3
        obtain ⟨p1,_⟩:=yX (w:=w) hK hn (cs:=cs) (off:=j*(ty e).size) (by omega)
        exact .inl ⟨_,_,w,η,hex _ j _ hi hj (p1 ha),.inl rfl,.pure (out:= [.agg q]) hS.hpOk ⟨_,rfl,z4,fun v hv=>hone v (List.mem_of_mem_drop (List.mem_of_mem_take hv))⟩ trivial⟩
       ·cases h4
      ·cases h4
     ·rename_i ha
      split at h4
      ·rename_i x' y1
       have:=aw h4;subst this
       obtain ⟨v,y2,y3⟩:=lV y1 hc
       refine .val hS.hpOk y3 (hex _ j v hi hj ?_)
       obtain ⟨h5,_⟩:=hK.isAgg hn w
       rw [ha] at h5
       unfold part
       rw [Sem.run_bind,h5]
       simp [y2]
      ·cases h4
    ·cases h4
   ·split at h4
    ·rename_i k m q
     split at h4
     ·rename_i hk ha h1 hm
      have:=aZ h4;subst this
      obtain ⟨p1,p2⟩:0≤z'∧z'<n:=hp
      have hm:=aQ hm
      subst hm
      obtain ⟨c1,c2,rfl,⟨hq,hl⟩,rfl⟩:=hc
      obtain ⟨v,y2,y3⟩:=jP (Kd.sc_n hk) hl (i:=z'.toNat) (by omega)
      refine .val hS.hpOk y3 (hex kd z'.toNat v (by rw [hi,Int.toNat_of_nonneg p1]) (by omega) ?_)
      obtain ⟨h5,_⟩:=hK.isAgg hn w
      rw [ha] at h5
      unfold part
      rw [Sem.run_bind,h5,aQ h1,Nat.mul_one]
      simp [y2]
     ·cases h4
    ·cases h4
  ·cases h2
 ·cases h2
end
theorem Cd (off:Nat) (us cs:List Value) (h:off+us.length≤cs.length):us.toArray.zipIdx.foldl (fun cs (x:Value×Nat)=>cs.setIfInBounds (off+x.2) x.1) cs.toArray=(cs.take off++us++cs.drop (off+us.length)).toArray:=by
 have e:us.toArray.zipIdx.foldl (fun cs (x:Value×Nat)=>cs.setIfInBounds (off+x.2) x.1) cs.toArray=(us.zipIdx 0).foldl (fun cs (x:Value×Nat)=>cs.setIfInBounds (off+x.2) x.1) cs.toArray:=by
  rw [←Array.foldl_toList,Array.toList_zipIdx]
 rw [e]
 obtain ⟨h1,h2⟩:=Great.foldl_set off us 0 cs.toArray
 apply Array.ext_getElem?
 intro k
 rw [h2 k]
 simp only [Nat.add_zero,List.size_toArray,List.getElem?_toArray]
 split
 ·rename_i hk
  rw [List.append_assoc,List.getElem?_append_right (by rw [List.length_take];omega),List.length_take,Nat.min_eq_left (by omega),List.getElem?_append_left (by omega)]
 ·rename_i hk
  by_cases hk1:k<off
  ·rw [List.append_assoc,List.getElem?_append_left (by rw [List.length_take];omega),List.getElem?_take,if_pos hk1]
  ·by_cases hk2:k<cs.length
   ·rw [List.getElem?_append_right (by rw [List.length_append,List.length_take];omega),List.length_append,List.length_take,Nat.min_eq_left (by omega),List.getElem?_drop]
    congr 1
    omega
   ·rw [List.getElem?_eq_none (by omega),List.getElem?_eq_none (by simp;omega)]
section
variable {ty:Nat→TE} {sl:Nat→List AV} {H:Nat→Option Ch} {η:bx} {w:World} {nx N:Nat} {a:Act} {o:Oper} {ds:List Bool} {res:aU} {rd:List dZ} {qs:List (Bool×Bool)}
def XG (η:bx) (A:Nat→Prop) (w:World):List (Nat×AV)→List (Nat×Value)→Prop
 | [],vs=>vs= []
 |p::r,vs=>∃v t,vs=(p.1,v)::t∧p.2.H η A w v∧XG η A w r t
theorem nT {pl:Nat→Option (Nat×Nat)} {A:Nat→Prop}:∀ {ps:List (Nat×AV)} {l m:List Cl} {cs:List Value} {vs:List (Nat×Value)},lj pl l ps=some m→aK η A w l cs→(∀v∈cs,v.oneCell'=true)→XG η A w ps vs→∃ds:List Value,Instr.fill pl cs.toArray vs=some ds.toArray∧aK η A w m ds∧ds.length=cs.length∧∀v∈ds,v.oneCell'=true
 | [],l,m,cs,vs,h,hc,h1,hp=>by
  cases hp
  simp only [lj,Option.some.injEq] at h
  subst h
  exact ⟨cs,rfl,hc,rfl,h1⟩
 |(i,x)::r,l,m,cs,vs,h,hc,h1,⟨v,t,hv,hx,hr⟩=>by
  subst hv
  unfold lj at h
  split at h
  ·rename_i off sz hpl
   split at h
   ·rename_i hu
    split at h
    ·rename_i l' e1
     obtain ⟨us,e2,e3,e4⟩:=AV.cells hx hu
     obtain ⟨⟨z1,z2⟩,z3⟩:=pL e1 hc e3
     have hlen:(cs.take off++us++cs.drop (off+sz)).length=cs.length:=by
      simp only [List.length_append,List.length_take,List.length_drop];omega
     obtain ⟨ds,g1,g2,g3,g4⟩:=nT h z3 (fun u hu=>by
      rcases List.mem_append.1 hu with hu|hu
      ·rcases List.mem_append.1 hu with hu|hu
       ·exact h1 u (List.mem_of_mem_take hu)
       ·exact e4 u hu
      ·exact h1 u (List.mem_of_mem_drop hu)) hr
     refine ⟨ds,?_,g2,g3.trans hlen,g4⟩
     unfold Instr.fill
     simp only [hpl,e2,List.size_toArray]
     rw [if_neg (by simp;omega)]
     have hf:=Cd off us cs (by omega)
     rw [z2] at hf
     rw [←g1,←hf]
    ·cases h
   ·cases h
  ·cases h
theorem uw {α:Type} (hs:∀t,bz η (ay H η) w (sl t) (a.tmps.getD t undef)):∀ {ps:List (Nat×Operand)} {k:List (Nat×AV)→R α} {r:α} {rd:List dZ},(AU ps k).run sl H ds= .ok r rd qs→∃l rd',(k l).run sl H ds= .ok r rd' qs∧XG η (ay H η) w l (ps.map fun p=>(p.1,a.eval p.2))
 | [],k,r,rd,h=>⟨[],rd,h,rfl⟩
 |(i,x)::ps,k,r,rd,h=>by
  unfold AU at h
  obtain ⟨av,rd1,h1,hv⟩:=bt h hs
  obtain ⟨l,rd2,h2,hl⟩:=uw hs h1
  exact ⟨_,rd2,h2,_,_,rfl,hv,hl⟩
theorem tS {α:Type} (hs:∀t,bz η (ay H η) w (sl t) (a.tmps.getD t undef)):∀ {ps:List Operand} {k:List AV→R α} {r:α} {rd:List dZ},(AG ps k).run sl H ds= .ok r rd qs→∃l rd',(k l).run sl H ds= .ok r rd' qs∧bQ η (ay H η) w l (ps.map a.eval)
 | [],k,r,rd,h=>⟨[],rd,h,rfl⟩
 |x::ps,k,r,rd,h=>by
  unfold AG at h
  obtain ⟨av,rd1,h1,hv⟩:=bt h hs
  obtain ⟨l,rd2,h2,hl⟩:=tS hs h1
  exact ⟨_,rd2,h2,_,_,rfl,hv,hl⟩
theorem v_ {A:Nat→Prop}:∀ {n:Nat} {cs:List Value},cs.length=n→(∀v∈cs,v.oneCell'=true)→aK η A w (JZ n) cs
 |0,cs,h,_=>by cases cs<;>first |rfl|cases h
 |n+1,v::cs,h,h1=>⟨[v],cs,rfl,⟨v,rfl,h1 v (by simp)⟩,v_ (by simpa using h) fun u hu=>h1 u (by simp [hu])⟩
theorem JO (hT:bk ty) {r:R aU}:∀ {fs:List (Nat×Nat)},(WC ty fs r).run sl H ds= .ok res rd qs→(∀p∈fs,∃i d z,wq ty p.2 i d z)∧r.run sl H ds= .ok res rd qs
 | [],h=>⟨fun p hp=>(by cases hp),h⟩
 |(o,t)::fs,h=>by
  unfold WC at h
  obtain ⟨h1,h2⟩:=de hT h
  obtain ⟨h3,h4⟩:=JO hT h2
  exact ⟨fun p hp=>by
   rcases List.mem_cons.1 hp with rfl|hp
   ·exact h1
   ·exact h3 p hp,h4⟩
theorem sP:∀ {fl:List Field} {fs:List (Nat×Nat)},fl.map (fun f=>(f.offset,f.type))=fs→(∀p∈fs,∃i d z,wq ty p.2 i d z)→fl.mapM (fun f=>(Tryz.prog.info? f.type).map fun i=>(f.offset,i.size))=some (fs.map fun p=>(p.1,(ty p.2).size))
 | [],fs,h,_=>by subst h;rfl
 |f::fl,fs,h,hK=>by
  subst h
  obtain ⟨i,d,z,h1⟩:=hK (f.offset,f.type) (by simp)
  have:=sP (fl:=fl) rfl (fun p hp=>hK p (by rw [List.map_cons];exact List.mem_cons_of_mem _ hp))
  rw [List.mapM_cons,h1.info,this]
  simp [h1.size]
theorem CQ {k:Kd} {x:Cl} {z:k.T} {m:List k.T} {A:Nat→Prop} {l:List Cl} {cs:List Value} (hx:∀c,x.H η A w c→k.rp.rep z c) (hc:aK η A w (x::l) cs) (ih:∀ {cs},aK η A w l cs→bj k.rp m cs∧m.length=l.length):bj k.rp (z::m) cs∧(z::m).length=(x::l).length:=by
 obtain ⟨h,t,rfl,h1,h2⟩:=hc
 obtain ⟨i1,i2⟩:=ih h2
 exact ⟨⟨h,t,hx h h1,rfl,i1⟩,by simp [i2]⟩
theorem uX {k:Kd} {A:Nat→Prop}:∀ {l:List Cl} {m:List k.T} {cs:List Value},qU k l=some m→aK η A w l cs→bj k.rp m cs∧m.length=l.length
 | [],m,cs,h,hc=>by
  simp only [qU,Option.some.injEq] at h
  subst h
  exact ⟨hc,rfl⟩
 |x::r,m,cs,h,hc=>by
  unfold qU at h
  cases e:qU k r with
  |none=>rw [e] at h;cases h
  |some l=>
   rw [e] at h
   simp only at h
   have ih:∀ {cs:List Value},aK η A w r cs→bj k.rp l cs∧l.length=r.length:=fun hc=>uX e hc
   split at h
   all_goals first
    |(cases h;done)
    |(cases h;exact CQ (fun c hc=>hc) hc ih)
    |(cases h;exact CQ (fun c hc=>hc.1) hc ih)
theorem MU {t:Nat} {ps:Array (Nat×Operand)} (hT:bk ty) (ho:o.op= .build t ps) (hS:gR sl H N η a w) (h:(AU ps.toList fun l=>vX ty t l:R aU).run sl H ds= .ok res rd qs):OpDone H η w nx res o a:=by
 obtain ⟨l,rd1,h1,hv⟩:=uw hS.slot h
 clear h
 unfold vX at h1
 obtain ⟨⟨i,d,z,hK⟩,h2⟩:=de hT h1
 clear h1
 have hex:∀cells,Tryz.prog.built t (ps.toList.map fun p=>(p.1,a.eval p.2))=some cells→(execOp a.eval o).run Tryz.prog w= .ok (.value (.agg cells)) w:=fun cells hb=>by
  unfold execOp
  simp only [ho]
  rw [Sem.run_bind,run_build w t _ cells (by rw [Array.toList_map];exact hb)]
  rfl
 have hz:=hK.cells η (ay H η) w
 split at h2
 ·rename_i fs ht
  obtain ⟨h3,h4⟩:=JO hT h2
  clear h2
  obtain ⟨fl,hu,hfl⟩:=BR hT ht
  split at h4
  ·rename_i m e1
   split at h4
   ·rename_i hn
    have:=aE h4;subst this
    obtain ⟨dsl,g1,g2,g3,g4⟩:=nT e1 hz hK.one hv
    refine .inl ⟨_,_,w,η,hex dsl.toArray ?_,.inl rfl,.pure (out:= [.agg m]) hS.hpOk ⟨dsl,rfl,g2,g4⟩ trivial⟩
    unfold Program.built
    rw [hK.info,hu]
    simp only [hK.zero,sP hfl h3]
    have e:(fun x=>(fs.map fun p=>(p.1,(ty p.2).size)).toArray[x]?)=SV ty fs:=by
     funext x
     unfold SV
     rw [List.getElem?_toArray,List.getElem?_map]
     cases fs[x]?<;>rfl
    rw [e]
    simpa using g1
   ·cases h4
  ·cases h4
 ·rename_i n e ht
  obtain ⟨⟨i2,d2,z2,hK2⟩,h4⟩:=de hT h2
  clear h2
  have hu:=lU hT ht
  split at h4
  ·rename_i m e1
   split at h4
   ·rename_i hn
    have hbase:aK η (ay H η) w (match (generalizing:=false) l with | []=>(ty t).zero|_=>JZ (uH (ty t).zero)) z.cells.toList:=by
     cases l with
     |nil=>exact hz
     |cons=>exact v_ hz.len hK.one
    obtain ⟨dsl,g1,g2,g3,g4⟩:=nT e1 hbase hK.one hv
    have hbl:Tryz.prog.built t (ps.toList.map fun p=>(p.1,a.eval p.2))=some dsl.toArray:=by
     unfold Program.built
     rw [hK.info,hu]
     simp only [hK.zero,hK2.info,hK2.size]
     simpa using g1
    have plain:(R.pure ⟨[.agg m],[],none,none⟩:R aU).run sl H ds= .ok res rd1 qs→OpDone H η w nx res o a:=fun h=>by
     have:=aE h;subst this
     exact .inl ⟨_,_,w,η,hex dsl.toArray hbl,.inl rfl,.pure (out:= [.agg m]) hS.hpOk ⟨dsl,rfl,g2,g4⟩ trivial⟩
    split at h4
    ·rename_i k hk
     split at h4
     ·rename_i ms e3
      have:=aE h4;subst this
      obtain ⟨r1,r2⟩:=uX e3 g2
      exact .inl ⟨_,_,w,η,hex dsl.toArray hbl,.inl rfl,.pure (out:= [.agg [.vec k ms.length ms]]) hS.hpOk ⟨dsl,rfl,⟨dsl,[],by simp,⟨rfl,r1⟩,rfl⟩,g4⟩ trivial⟩
     ·exact plain h4
    ·exact plain h4
   ·cases h4
  ·cases h4
 ·cases h2
theorem RL {k:Kd} {l:List Cl} {m:List k.T} (h:qU k l=some m) (hl:l≠ []):k.n=1:=by
 cases l with
 |nil=>exact absurd rfl hl
 |cons x r=>
  unfold qU at h
  cases e:qU k r with
  |none=>rw [e] at h;cases h
  |some l=>
   rw [e] at h
   simp only at h
   split at h<;>first |(cases h;done)|rfl
theorem uY {t len:Nat} {ps:Array (Nat×Operand)} (hT:bk ty) (ho:o.op= .buildSlice t len ps) (hS:gR sl H N η a w) (hfree:∀b,nx≤b→b<nx+16→η b=none) (h:(AU ps.toList fun l=>iD ty nx t len l:R aU).run sl H ds= .ok res rd qs):OpDone H η w nx res o a:=by
 obtain ⟨l,rd1,h1,hv⟩:=uw hS.slot h
 clear h
 unfold iD at h1
 split at h1
 ·rename_i e ht
  have hu:=eD hT ht
  obtain ⟨⟨i,d,z,hK⟩,h2⟩:=de hT h1
  clear h1
  split at h2
  ·rename_i hl0
   have hl0:=aQ hl0
   subst hl0
   split at h2
   ·rename_i k hk
    obtain ⟨hn,rfl⟩:=gT h2
    have hps:ps.toList= []:=by
     have:(ps.toList.map fun p=>(p.1,a.eval p.2))= []:=hv
     simpa using this
    have hps:ps= #[]:=by rw [←Array.toArray_toList (xs:=ps),hps]
    have hrun:(Instr.buildSlice t 0 (ps.map fun p=>(p.1,a.eval p.2))).run Tryz.prog w= .ok (.slice (some ⟨w.heap.size,0,none⟩) 0 0) (w.alloc (.cells #[] e)):=by
     subst hps
     have hz:∀f:Nat→Value,Array.map f (Array.range 0)= #[]:=fun f=>Array.eq_empty_of_size_eq_zero (by simp)
     simp [Instr.buildSlice,run_underlying hu,Go.sizeOf,typeInfo,hK.info,Instr.fill,newRow,hz]
    have hbel:Below w.heap.size w (w.alloc (.cells #[] e)):=(Below.refl _ _).alloc (Nat.le_refl _) _
    obtain ⟨η',hR⟩:=bE.new (nx:=nx) (ref:= .slice (some ⟨w.heap.size,0,none⟩) 0 0) (c:= .row e k []) (out:= [.one (.rw nx)]) (v:= .slice (some ⟨w.heap.size,0,none⟩) 0 0) (pre:=none) hS.hpOk hn hfree hbel (fun g hg=>by cases hg;exact Nat.le_refl _)
     (fun η' A' he hA hnx=>⟨⟨_,[],hnx,rfl,by simp,.inr ⟨w.heap.size,0,#[],rfl,Nat.zero_le _,heap_alloc_new w _,Nat.le_refl _,by simp,by simp,by simp⟩⟩,_,hnx,rfl,rfl⟩)
    refine .inl ⟨_,_,_,η',?_,.inl rfl,hR⟩
    unfold execOp
    simp only [ho]
    rw [Sem.run_bind,hrun]
    rfl
   ·cases h2
  split at h2
  ·rename_i m e1 g1 g2
   have g1:=cZ g1
   have g2:=cZ g2
   let base:List Value:=((Array.range (len*i.size)).map (z.cells[· %z.cells.size]!)).toList
   have hbl:base.length=len*(ty e).size:=by simp [base,hK.size]
   have hpos:0<z.cells.size:=by
    rw [hK.zs]
    rcases Nat.eq_zero_or_pos (ty e).size with h0|h0
    ·rw [h0] at g2;omega
    ·exact h0
   have hbo:∀v∈base,v.oneCell'=true:=fun v hv=>by
    simp only [base,Array.toList_map,List.mem_map] at hv
    obtain ⟨j,_,rfl⟩:=hv
    have hj:j%z.cells.size<z.cells.size:=Nat.mod_lt _ hpos
    rw [getElem!_pos z.cells _ hj]
    exact hK.one _ (Array.getElem_mem_toList hj)
   obtain ⟨dsl,q1,q2,q3,q4⟩:=nT e1 (v_ hbl hbo) hbo hv
   have hrun:=run_buildSlice (P:=Tryz.prog) w t e len (ps.map fun p=>(p.1,a.eval p.2)) dsl.toArray i z hu hK.info hK.zero (by rw [hK.size];omega) (by rw [hK.size];omega) (by rw [Array.toList_map,←q1,hK.size];simp only [base,hK.size,Array.toArray_toList])
   have hex:(execOp a.eval o).run Tryz.prog w= .ok (.value (.slice (some ⟨w.heap.size,0,none⟩) len len)) (w.alloc (.cells dsl.toArray e)):=by
    unfold execOp
    simp only [ho]
    rw [Sem.run_bind,hrun]
    rfl
   have hbel:Below w.heap.size w (w.alloc (.cells dsl.toArray e)):=(Below.refl _ _).alloc (Nat.le_refl _) _
   have hlt:∀(η':bx) (A':Nat→Prop),(∀b u,η b=some u→η' b=some u)→(∀g,g<w.heap.size→ay H η g→A' g)→Lt η (ay H η) w η' A' (w.alloc (.cells dsl.toArray e)):=fun η' A' he hA=>⟨he,fun g hg ha=>⟨Below.heap_alloc _ _ _ hg,hA g hg ha⟩⟩
   split at h2
   ·rename_i k hk
    split at h2
    ·rename_i ms e2
     obtain ⟨hn,rfl⟩:=gT h2
     have hti:=DN hk
     obtain ⟨r1,r2⟩:=uX e2 q2
     have hne:m≠ []:=by rintro rfl;have:=q2.len;simp only [uH] at this;omega
     have hkn:=RL e2 hne
     have hs1:(ty e).size=1:=by rw [hK.ks k hti,hkn]
     have hml:ms.length=len:=by have:=cS hkn r1;rw [hs1] at hbl;omega
     obtain ⟨η',hR⟩:=bE.new (nx:=nx) (ref:= .slice (some ⟨w.heap.size,0,none⟩) len len) (c:= .row e k ms) (out:= [.one (.rw nx)]) (v:= .slice (some ⟨w.heap.size,0,none⟩) len len) (pre:=none) hS.hpOk hn hfree hbel (fun g hg=>by cases hg;exact Nat.le_refl _)
      (fun η' A' he hA hnx=>⟨⟨_,_,hnx,r1,by
       rw [hkn,hml]
       exact ⟨by rw [hs1] at hbl;omega,.inr ⟨w.heap.size,len,dsl.toArray,rfl,Nat.zero_le _,heap_alloc_new w _,Nat.le_refl _,by rw [hs1] at g1;simp only [maxLen];omega,by rw [hs1] at hbl;simp;omega,List.take_of_length_le (by rw [hs1] at hbl;simp;omega)⟩⟩⟩,_,hnx,rfl,rfl⟩)
     exact .inl ⟨_,_,_,η',hex,.inl rfl,hR⟩
    ·cases h2
   ·split at h2
    ·obtain ⟨hn,rfl⟩:=gT h2
     obtain ⟨η',hR⟩:=bE.new (nx:=nx) (ref:= .pointer (some ⟨w.heap.size,0,none⟩)) (c:= .blk e m) (out:= [.one (.sl nx 0 len len)]) (v:= .slice (some ⟨w.heap.size,0,none⟩) len len) (pre:=none) hS.hpOk hn hfree hbel (fun g hg=>by cases hg;exact Nat.le_refl _)
      (fun η' A' he hA hnx=>⟨⟨_,dsl,hnx,tD e dsl,q2.later (hlt η' A' he hA),q4⟩,Nat.le_refl _,_,hnx,rfl⟩)
     exact .inl ⟨_,_,_,η',hex,.inl rfl,hR⟩
    ·cases h2
  ·cases h2
 ·cases h1
end
theorem pO {k q:Kd} {m:List q.T} {r:List k.T} (h:xO k q m=some r):k.n=1∧r.length=m.length∧∀ {cs:List Value},bj q.rp m cs→bj k.rp r cs:=by
 cases k<;>cases q<;>simp only [xO,Option.some.injEq,reduceCtorEq] at h
 all_goals
  subst h
  exact ⟨rfl,rfl,fun h=>h⟩
theorem xN {E g n cap:Nat}:∀(us:List Value) (o:Nat) (w:World) (cs:List Value),w.ownsRow 0 E 1 (.slice (some ⟨g,0,none⟩) n cap) n cs→o+us.length≤cs.length→(w.setCells g o us).ownsRow 0 E 1 (.slice (some ⟨g,0,none⟩) n cap) n (cs.take o++us++cs.drop (o+us.length))
 | [],o,w,cs,h,_=>by simpa [World.setCells] using h
 |v::r,o,w,cs,h,hl=>by
  simp only [List.length_cons] at hl
  have h2:=xN r (o+1) _ _ (h.stored o v).1 (by rw [List.length_set];omega)
  have e:(cs.set o v).take (o+1)++r++(cs.set o v).drop (o+1+r.length)=cs.take o++(v::r)++cs.drop (o+(v::r).length):=by
   rw [List.take_set,List.drop_set_of_lt (by omega),List.take_add_one,List.getElem?_eq_getElem (by omega)]
   simp only [Option.toList_some,List.length_cons]
   rw [List.set_append_right _ _ (by rw [List.length_take];omega),List.length_take,Nat.min_eq_left (by omega),Nat.sub_self]
   simp [Nat.add_assoc,Nat.add_comm 1]
  rw [e] at h2
  exact h2
section
variable {ty:Nat→TE} {sl:Nat→List AV} {H:Nat→Option Ch} {η:bx} {w:World} {nx N:Nat} {a:Act} {o:Oper} {ds:List Bool} {res:aU} {rd:List dZ} {qs:List (Bool×Bool)}
theorem bE.setV {b:Nat} {c':Ch} {w':World} (h:bE H η w nx ⟨[],[(b,some c')],none,none⟩ undef w' η) (k:Int):bE H η w nx ⟨[.one (.ob .int k)],[(b,some c')],none,none⟩ (.int .i64 k) w' η:=
 ⟨rfl,h.hp,h.fw,h.env,h.fact⟩
theorem yg {t e:Nat} {i:TypeInfo} (hu:Tryz.prog.underlying t=some (.slice e)) (hi:Tryz.prog.info? e=some i) (hs:i.size=1) (hH:dh H η w) {b f:Nat} {p:Kd} {l m:List p.T} (hp1:p.n=1) (hb:H b=some (.row f p l)) {v:Value} (hv:η b=some v)
  {da:Option Addr} {lo n c:Nat} (hd:0<n→∃g N C,v= .slice (some ⟨g,0,none⟩) N C∧da=some ⟨g,lo,none⟩∧lo+n≤N) {ad:Option Addr} {c2:Nat} {news:List Value} (hm:bj p.rp m news) (hsrc:0<m.length→∃x,ad=some x∧∀j u,news[j]?=some u→w.cell? (x.add j)=some u) {ty':Nat}
  (hex:∀u w',(Builtin.copy_ #[t,t] ty' #[.slice da n c,.slice ad m.length c2]).run Tryz.prog w= .ok u w'→(execOp a.eval o).run Tryz.prog w= .ok (.value u) w'):
  OpDone H η w nx ⟨[.one (.ob .int ((min n m.length:Nat):Int))],[(b,some (.row f p (l.take lo++m.take n++l.drop (lo+min n m.length))))],none,none⟩ o a:=by
 have hs':(Tryz.prog.info? e).map (·.size)=some 1:=by rw [hi];simp [hs]
 obtain ⟨v',cs,y1,y2,y3⟩:=hH.chunk b _ hb
 rw [hv] at y1;cases y1
 rcases Nat.eq_zero_or_pos (min n m.length) with hk|hk
 ·have hrun:=run_copy_none (P:=Tryz.prog) w t t ty' e da ad n c m.length c2 hu hs' (by rw [Nat.min_comm] at hk;exact hk)
  have hl:l.take lo++m.take n++l.drop (lo+min n m.length)=l:=by
   have:m.take n= []:=List.eq_nil_of_length_eq_zero (by rw [List.length_take];exact hk)
   rw [this,hk];simp
  rw [hl,hk]
  have hfp:∃g,True∧((bu η b=some g)∨bu η b=none):=by
   cases e:bu η b with
   |none=>exact ⟨0,trivial,.inr rfl⟩
   |some g=>exact ⟨g,trivial,.inl rfl⟩
  refine .inl ⟨_,_,w,η,hex _ _ hrun,.inl rfl,?_⟩
  have hupd:bF [(b,some (.row f p l))] H=H:=by
   funext x
   show (if x=b then some (Ch.row f p l) else H x)=H x
   split
   ·rename_i h;rw [h,hb]
   ·rfl
  refine ⟨rfl,?_,?_,fun _ _=>rfl,trivial⟩
  ·rw [hupd];exact hH
  ·rw [hupd];exact Fw.refl _ _ _
 ·obtain ⟨g,N,C,rfl,rfl,hN⟩:=hd (by omega)
  obtain ⟨x,rfl,hx⟩:=hsrc (by omega)
  rw [hp1] at y3
  have hNl:N=l.length:=by
   rcases y3.2 with ⟨h,_⟩|⟨g',cap,cur,h,_⟩
   ·cases h
   ·cases h;rfl
  subst hNl
  have hcl:cs.length=l.length:=cS hp1 y2
  have hnl:news.length=m.length:=cS hp1 hm
  let us:=news.take (min n m.length)
  have hus:us.length=min n m.length:=by simp only [us,List.length_take];omega
  have hrun:=run_copy_cells (P:=Tryz.prog) w t t ty' e g lo n c x m.length c2 us hu hs' (by rw [hus];exact Nat.min_comm _ _) (fun j u hj=>hx j u (by
    simp only [us,List.getElem?_take] at hj
    split at hj
    ·exact hj
    ·cases hj))
   (fun j hj=>by rw [y3.cellAt (lo+j) (by omega),List.getElem?_eq_getElem (by omega)];rfl) (fun j hj=>y3.frozenAt _) (fun u hu=>hm.one u (List.mem_of_mem_take hu))
  have hown:=xN us lo w cs y3 (by omega)
  have hlims:bj p.rp (l.take lo++m.take n++l.drop (lo+min n m.length)) (cs.take lo++us++cs.drop (lo+us.length)):=by
   have h1:=y2.take lo
   have h2:=hm.take n
   have h3:=y2.drop (lo+min n m.length)
   rw [Kd.rp_n,hp1,Nat.one_mul] at h1 h2 h3
   have:us=news.take n:=by
    simp only [us]
    rcases Nat.le_total n m.length with h|h
    ·rw [Nat.min_eq_left h]
    ·rw [Nat.min_eq_right h,List.take_of_length_le (by omega),List.take_of_length_le (by omega)]
   rw [hus,this]
   exact (h1.app h2).app h3
  have hfp:bu η b=some g:=by unfold bu;rw [hv];rfl
  have hlen:(l.take lo++m.take n++l.drop (lo+min n m.length)).length=l.length:=by
   simp only [List.length_append,List.length_take,List.length_drop];omega
  refine .inl ⟨_,_,_,η,hex _ _ hrun,.inl rfl,?_⟩
  have:=bE.setV (bE.set (nx:=nx) (pre:=none) (c':= .row f p (l.take lo++m.take n++l.drop (lo+min n m.length))) hH hb hfp (w':=w.setCells g lo us) (bf (Nat.zero_le _) _ _ _ (Below.refl 0 w)).os (bf (Nat.zero_le _) _ _ _ (Below.refl 0 w)).tape (bf (Nat.zero_le _) _ _ _ (Below.refl 0 w)).output (fg _ _ _ _).symm (fun x hx=>fe _ _ _ _ _ hx)
   fun A' hA hL=>⟨_,_,hv,hlims,by rw [hp1,hlen];exact hown⟩) ((min n m.length:Nat):Int)
  rw [←hus] at this ⊢
  exact this
theorem Lj {t e:Nat} {i:TypeInfo} (hu:Tryz.prog.underlying t=some (.slice e)) (hi:Tryz.prog.info? e=some i) (hs:i.size=1) (hH:dh H η w) {b E g N:Nat} {p:Kd} {l m:List p.T} (hp1:p.n=1) (hb:H b=some (.blk E [.vec p N l])) (hg:η b=some (.pointer (some ⟨g,0,none⟩)))
  {lo n c:Nat} (hle:lo+n≤N) {ad:Option Addr} {c2:Nat} {news:List Value} (hm:bj p.rp m news) (hsrc:0<m.length→∃x,ad=some x∧∀j u,news[j]?=some u→w.cell? (x.add j)=some u) {ty':Nat}
  (hex:∀u w',(Builtin.copy_ #[t,t] ty' #[.slice (some ⟨g,lo,none⟩) n c,.slice ad m.length c2]).run Tryz.prog w= .ok u w'→(execOp a.eval o).run Tryz.prog w= .ok (.value u) w'):
  OpDone H η w nx ⟨[.one (.ob .int ((min n m.length:Nat):Int))],[(b,some (.blk E [.vec p N (l.take lo++m.take n++l.drop (lo+min n m.length))]))],none,none⟩ o a:=by
 have hs':(Tryz.prog.info? e).map (·.size)=some 1:=by rw [hi];simp [hs]
 obtain ⟨cs0,hB,hc0,h1c⟩:=fQ hH hb hg
 obtain ⟨cs,c2',rfl,⟨z3,z4⟩,rfl⟩:=hc0
 rw [List.append_nil] at hB h1c
 have hcl:cs.length=l.length:=cS hp1 z4
 have hnl:news.length=m.length:=cS hp1 hm
 let us:=news.take (min n m.length)
 have hus:us.length=min n m.length:=by simp only [us,List.length_take];omega
 have hrun:(Builtin.copy_ #[t,t] ty' #[.slice (some ⟨g,lo,none⟩) n c,.slice ad m.length c2]).run Tryz.prog w= .ok (.int .i64 ((min n m.length:Nat):Int)) (w.setCells g lo us):=by
  rcases Nat.eq_zero_or_pos (min n m.length) with hk|hk
  ·have h0:us= []:=List.eq_nil_of_length_eq_zero (by omega)
   rw [h0,hk]
   exact run_copy_none (P:=Tryz.prog) w t t ty' e (some ⟨g,lo,none⟩) ad n c m.length c2 hu hs' (by rw [Nat.min_comm] at hk;exact hk)
  ·obtain ⟨x,rfl,hx⟩:=hsrc (by omega)
   have:=run_copy_cells (P:=Tryz.prog) w t t ty' e g lo n c x m.length c2 us hu hs' (by rw [hus];exact Nat.min_comm _ _) (fun j u hj=>hx j u (by
     simp only [us,List.getElem?_take] at hj
     split at hj
     ·exact hj
     ·cases hj))
    (fun j hj=>(hB.there (o:=lo) (n:=us.length) (by omega) j hj).1) (fun j hj=>(hB.there (o:=lo) (n:=us.length) (by omega) j hj).2) (fun u hu=>hm.one u (List.mem_of_mem_take hu))
   rw [hus] at this
   exact this
 have hBn:=oM us lo w cs hB (by omega)
 have hlims:bj p.rp (l.take lo++m.take n++l.drop (lo+min n m.length)) (cs.take lo++us++cs.drop (lo+us.length)):=by
  have h1:=z4.take lo
  have h2:=hm.take n
  have h3:=z4.drop (lo+min n m.length)
  rw [Kd.rp_n,hp1,Nat.one_mul] at h1 h2 h3
  have:us=news.take n:=by
   simp only [us]
   rcases Nat.le_total n m.length with h|h
   ·rw [Nat.min_eq_left h]
   ·rw [Nat.min_eq_right h,List.take_of_length_le (by omega),List.take_of_length_le (by omega)]
  rw [hus,this]
  exact (h1.app h2).app h3
 have hlen:(l.take lo++m.take n++l.drop (lo+min n m.length)).length=N:=by
  simp only [List.length_append,List.length_take,List.length_drop];omega
 have hfp:bu η b=some g:=by unfold bu;rw [hg];rfl
 refine .inl ⟨_,_,_,η,hex _ _ hrun,.inl rfl,?_⟩
 exact bE.setV (bE.set (nx:=nx) (pre:=none) (c':= .blk E [.vec p N (l.take lo++m.take n++l.drop (lo+min n m.length))]) hH hb hfp (w':=w.setCells g lo us) (bf (Nat.zero_le _) _ _ _ (Below.refl 0 w)).os (bf (Nat.zero_le _) _ _ _ (Below.refl 0 w)).tape (bf (Nat.zero_le _) _ _ _ (Below.refl 0 w)).output (fg _ _ _ _).symm (fun x hx=>fe _ _ _ _ _ hx)
  fun A' hA hL=>⟨g,_,hg,hBn,⟨_,[],(List.append_nil _).symm,⟨hlen,hlims⟩,rfl⟩,hlims.one⟩) ((min n m.length:Nat):Int)
theorem Oh {t:Nat} {d x:AV} {vd vx:Value} (hT:bk ty) (hH:dh H η w) (hd:d.H η (ay H η) w vd) (hx:x.H η (ay H η) w vx) {ty':Nat}
  (hex:∀u w',(Builtin.copy_ #[t,t] ty' #[vd,vx]).run Tryz.prog w= .ok u w'→(execOp a.eval o).run Tryz.prog w= .ok (.value u) w') (h:(B3 ty t d x).run sl H ds= .ok res rd qs):OpDone H η w nx res o a:=by
 unfold B3 at h
 split at h
 ·rename_i e ht
  have hu:=eD hT ht
  obtain ⟨⟨i,dd,z,hK⟩,h1⟩:=de hT h
  clear h
  split at h1
  ·cases h1
  ·rename_i h2
   have hs1:=aQ h2
   obtain ⟨y,rd',h3,hy⟩:=nY h1 hH hx
   clear h1
   split at h3
   ·rename_i q m
    have hro:dU (fun _=>True) w q m vx:=by
     rcases hy with rfl|⟨q',l',e1,e2⟩
     ·obtain ⟨u,hu1,hu2⟩:=hx
      rw [ak hu1]
      obtain ⟨ad,c,g1,g2,g3,g4,g5⟩:=hu2
      exact ⟨ad,c,g1,g2,g3,g4,fun hn=>by obtain ⟨g,o,cs,e1,_,e2⟩:=g5 hn;exact ⟨g,o,cs,e1,trivial,e2⟩⟩
     ·cases e1;exact e2
    obtain ⟨ad,c,rfl,g2,g3,g4,g5⟩:=hro
    obtain ⟨news,n1,n2⟩:∃news,bj q.rp m news∧(0<m.length→∃x,ad=some x∧∀j u,news[j]?=some u→w.cell? (x.add j)=some u):=by
     by_cases hm:0<m.length
     ·obtain ⟨g,p,cs,rfl,_,e1,e2⟩:=g5 hm
      refine ⟨cs,e1,fun _=>⟨_,rfl,fun j u hu=> ?_⟩⟩
      rw [Addr.add_lit]
      exact e2 j u hu
     ·have:m= []:=List.eq_nil_of_length_eq_zero (by omega)
      subst this
      exact ⟨[],rfl,fun h=>absurd h (by simp)⟩
    split at h3
    ·rename_i b
     obtain ⟨_,h4⟩:=cg h3
     split at h4
     ·rename_i f p l hb
      split at h4
      ·rename_i m' hc
       have:=aE h4
       subst this
       obtain ⟨c1,c2,c3⟩:=pO hc
       obtain ⟨u,hu1,hu2,_⟩:=hd
       rw [ak hu2] at hex
       obtain ⟨u',cs,y1,y2,y3⟩:=hH.chunk b _ hb
       rw [hu1] at y1;cases y1
       obtain ⟨da,C,e1,e2⟩:=rM hH hb hu1
       rw [e1,←c2] at hex
       have hcp:=yg (nx:=nx) (a:=a) (o:=o) hu hK.info (hK.size.trans hs1) hH c1 hb hu1 (da:=da) (lo:=0) (n:=l.length) (c:=C) (fun hn=>by
        rcases jB y2 y3 with ⟨r1,r2⟩|⟨g,cp,r1,r2,r3,_⟩
        ·subst r2;simp at hn
        ·rw [r1] at e1;cases e1;exact ⟨g,l.length,_,r1,rfl,by omega⟩) (c3 n1) (by rw [c2];exact n2) hex
       have e3:l.take 0++m'.take l.length++l.drop (0+min l.length m'.length)=m'.take l.length++l.drop m'.length:=by
        rw [List.take_zero,List.nil_append,Nat.zero_add]
        rcases Nat.le_total l.length m'.length with h|h
        ·rw [Nat.min_eq_left h,List.drop_of_length_le (Nat.le_refl _),List.drop_of_length_le h]
        ·rw [Nat.min_eq_right h]
       rw [e3] at hcp
       exact hcp
      ·cases h4
     ·cases h4
    ·rename_i b lo n
     obtain ⟨_,h4⟩:=cg h3
     split at h4
     ·rename_i f p l hb
      split at h4
      ·rename_i m' hc
       have:=aE h4
       subst this
       obtain ⟨c1,c2,c3⟩:=pO hc
       obtain ⟨v,da,C,hv,e1,_,_,_,hn⟩:=hd
       rw [ak e1,←c2] at hex
       exact yg hu hK.info (hK.size.trans hs1) hH c1 hb hv hn (c3 n1) (by rw [c2];exact n2) hex
      ·cases h4
     ·cases h4
    ·rename_i b lo n cp
     obtain ⟨_,h4⟩:=cg h3
     split at h4
     ·rename_i E l0 hb
      split at h4
      ·rename_i p N l
       split at h4
       ·rename_i m' hc hle
        have hle:=cZ hle
        have:=aE h4
        subst this
        obtain ⟨c1,c2,c3⟩:=pO hc
        obtain ⟨_,g,hg,e1⟩:=hd
        rw [ak e1,←c2] at hex
        exact Lj hu hK.info (hK.size.trans hs1) hH c1 hb hg hle (c3 n1) (by rw [c2];exact n2) hex
       ·cases h4
      ·cases h4
     ·cases h4
    ·cases h3
   ·cases h3
 ·cases h
end
theorem Iy {z:Value} (h:z.cells= #[.int .u8 0]) (k:Nat):Builtin.zeroCells z.cells k=((List.replicate k (0:UInt8)).map bV).toArray:=by
 rw [h]
 apply Array.ext
 ·simp [Builtin.zeroCells]
 ·intro i h1 h2
  simp [Builtin.zeroCells,bV,Nat.mod_one]
theorem Gc (l:List UInt8):∀u∈l.map bV,u.oneCell'=true:=fun u hu=>by
 rw [List.mem_map] at hu
 obtain ⟨c,_,rfl⟩:=hu
 rfl
section
variable {ty:Nat→TE} {sl:Nat→List AV} {H:Nat→Option Ch} {η:bx} {w:World} {nx N:Nat} {a:Act} {o:Oper} {ds:List Bool} {res:aU} {rd:List dZ} {qs:List (Bool×Bool)}
theorem ON {t tn e:Nat} {i:TypeInfo} {z:Value} (ht:Tryz.prog.underlying t=some (.slice e)) (htn:Tryz.prog.underlying tn=some (.int .i64)) (hi:Tryz.prog.info? e=some i) (hz:i.zero=some z) (hs:i.size=1) (hzc:z.cells= #[.int .u8 0]) (hby:i.bytes≤4096) {ty':Nat}
  {v:Value} {n k:Nat} {l:List UInt8} (hown:w.ownsRow 0 e 1 v n (l.map bV)) (hb:n+k≤16777216):
  ∃v' w',(Builtin.append_ #[t,tn] ty' #[v,.int .i64 (k:Int)]).run Tryz.prog w= .ok v' w'∧w'.ownsRow 0 e 1 v' (n+k) ((l++List.replicate k 0).map bV)∧w.grownBy w' v.ownBlock∧∀g,xC v'=some g→xC v=some g∨w.heap.size≤g:=by
 have hl:l.length=n:=by have:=hown.1;simpa using this
 have hw:IntKind.i64.wrap (k:Int)=k:=by rw [IntKind.wrap_i64];omega
 have hneg:¬((k:Int)<0):=by omega
 have hw0:IntKind.i64.wrap 0=0:=by rw [IntKind.wrap_i64];rfl
 have hbk:(n+k)*i.bytes≤140737488355328:=Nat.le_trans (Nat.mul_le_mul hb hby) (by decide)
 have hbk2:k*i.bytes≤(n+k)*i.bytes:=Nat.mul_le_mul_right _ (by omega)
 have h48i:¬(281474976710656<(k:Int)*(i.bytes:Int)):=by rw [←Int.natCast_mul];omega
 have hzs:z.cells.size=1:=by rw [hzc];rfl
 have grown:∀(old:Nat),old<n+k→
   (w.drew.alloc (.cells ((l.map bV).toArray++Builtin.zeroCells z.cells k++Builtin.zeroCells z.cells (grownCap w (n+k) old e-(n+k))) e)).ownsRow 0 e 1
    (.slice (some ⟨w.heap.size,0,none⟩) (n+k) (grownCap w (n+k) old e)) (n+k) ((l++List.replicate k 0).map bV)∧
   w.grownBy (w.drew.alloc (.cells ((l.map bV).toArray++Builtin.zeroCells z.cells k++Builtin.zeroCells z.cells (grownCap w (n+k) old e-(n+k))) e)) v.ownBlock:=by
  intro old ho
  have hge:=grownCap_ge w (n+k) old e
  have hcm:grownCap w (n+k) old e≤maxLen:=grownCap_le_maxLen w (n+k) old e (by unfold maxLen;omega)
  refine ⟨⟨by simp [hl],.inr ⟨w.heap.size,_,_,rfl,Nat.zero_le _,heap_alloc_new w.drew _,hge,hcm,?_,?_⟩⟩,⟨rfl,rfl,rfl,by simp,fun j hj _=>heap_alloc_old w.drew _ hj⟩⟩
  ·simp only [Array.size_append,List.size_toArray,size_zeroCells,List.length_map,hl,hzs]
   omega
  ·rw [Iy hzc,Iy hzc]
   simp only [Array.toList_append,List.map_append]
   rw [List.take_left' (by simp [hl])]
 have noroom:∀(bs:Option Addr) (c:Nat),v= .slice bs n c→0<k→c<n+k→(Builtin.firstCells i.size n (.slice bs n c)).run Tryz.prog w.drew= .ok (l.map bV).toArray w.drew→
   ∃v' w',(Builtin.append_ #[t,tn] ty' #[v,.int .i64 (k:Int)]).run Tryz.prog w= .ok v' w'∧w'.ownsRow 0 e 1 v' (n+k) ((l++List.replicate k 0).map bV)∧w.grownBy w' v.ownBlock∧∀g,xC v'=some g→xC v=some g∨w.heap.size≤g:=by
  intro bs c hv hk hc hf
  have hr:=Lib.run_append_grow_zeros w t tn ty' e i z .i64 .i64 ht htn hi hz bs n c (l.map bV) hf k hk (by omega) hc (by omega) (by omega) (growslice_fits (by omega) hbk)
  obtain ⟨g1,g2⟩:=grown c hc
  rw [hv] at g2 ⊢
  exact ⟨_,_,hr,g1,g2,fun g hg=> .inr (by cases hg;exact Nat.le_refl _)⟩
 rcases hown.2 with ⟨rfl,rfl⟩|⟨g,cap,cur,rfl,hbg,hg,hnc,hcm,hcs,htake⟩
 ·obtain rfl:l= []:=List.eq_nil_of_length_eq_zero hl
  by_cases hk:k=0
  ·subst hk
   refine ⟨.slice none 0 0,w,?_,World.ownsRow_nil _ _ _ _,⟨rfl,rfl,rfl,Nat.le_refl _,fun _ _ _=>rfl⟩,fun g hg=> .inl hg⟩
   simp [Builtin.append_,run_underlying ht,run_underlying htn,sizeOf,typeInfo,hi,hs,asInt,asIntOf,hw0]
  ·exact noroom none 0 rfl (by omega) (by omega) (run_firstCells_none _ _ _ _ _)
 ·by_cases hroom:n+k≤cap
  ·refine ⟨.slice (some ⟨g,0,none⟩) (n+k) cap,w.setRow g (cur.toList.take n++(List.replicate k (0:UInt8)).map bV++cur.toList.drop (n+k)).toArray,?_,⟨by simp [hl],.inr ⟨g,cap,_,rfl,hbg,setRow_heap w g cur _ e _ hg,hroom,hcm,?_,?_⟩⟩,⟨rfl,rfl,rfl,by simp,fun j _ hj=>setRow_other w g j _ (fun e=>hj (by simp [Value.ownBlock,e]))⟩,fun g' hg'=> .inl hg'⟩
   ·by_cases hk:k=0
    ·subst hk
     have:w.setRow g (cur.toList.take n++(List.replicate 0 (0:UInt8)).map bV++cur.toList.drop (n+0)).toArray=w:=by
      simp only [List.replicate_zero,List.map_nil,List.append_nil,Nat.add_zero,List.take_append_drop,Array.toArray_toList]
      exact setRow_self w g cur e (0,0) hg
     rw [this]
     simp [Builtin.append_,run_underlying ht,run_underlying htn,sizeOf,typeInfo,hi,hs,asInt,asIntOf,hw0,hnc,storeCells]
    ·have hst:=run_storeCells_at Tryz.prog g n e ((List.replicate k (0:UInt8)).map bV) 0 cur w hg (by simp;omega) (Gc _)
     simp only [Nat.add_zero,List.length_map,List.length_replicate] at hst
     have hns:¬(k=0):=hk
     simp [Builtin.append_,run_underlying ht,run_underlying htn,sizeOf,typeInfo,zeroValue,hi,hz,hs,asInt,asIntOf,hw,hneg,hns,h48i,hroom,Iy hzc]
     rw [Addr.add_lit,Nat.zero_add]
     simp only [List.map_replicate] at hst
     rw [hst]
     simp
   ·simp only [List.size_toArray,List.length_append,List.length_take,List.length_drop,Array.length_toList,List.length_map,List.length_replicate]
    omega
   ·rw [show (n*1)=n from Nat.mul_one n] at htake
    rw [htake,←List.map_append,List.take_left' (by simp [hl])]
  ·have holds:∀j u,(l.map bV)[j]?=some u→w.cell? ((⟨g,0,none⟩:Addr).add j)=some u:=hown.cells (g:=g) rfl
   exact noroom (some ⟨g,0,none⟩) cap rfl (by omega) (by omega) (run_firstCells_some _ _ _ _ _ _ _ (by rw [List.length_map,hl,hs];omega) holds)
theorem Nz {t tn:Nat} {s x:AV} {vs vx:Value} (hT:bk ty) (hH:dh H η w) (hfree:∀b,nx≤b→b<nx+16→η b=none) (hs:s.H η (ay H η) w vs) (hx:x.H η (ay H η) w vx)
  (hex:∀u w',(Builtin.append_ #[t,tn] o.type #[vs,vx]).run Tryz.prog w= .ok u w'→(execOp a.eval o).run Tryz.prog w= .ok (.value u) w') (h:(zI ty nx t tn s x).run sl H ds= .ok res rd qs) (hp:bn res.pre):OpDone H η w nx res o a:=by
 unfold zI at h
 split at h
 ·rename_i e ht htn
  have hu:=eD hT ht
  obtain ⟨i',d',z',hK'⟩:=zA hT htn
  have hd':=hK'.desc
  rw [htn] at hd'
  have hun:=hK'.und
  rw [show d'= .int .i64 from hd'] at hun
  obtain ⟨⟨i,d,z'',hK⟩,h1⟩:=de hT h
  clear h
  split at h1
  ·cases h1
  ·rename_i h2
   have hs1:=aQ h2
   have key:∀ {b n:Nat} {z:Option Int} {rd':List dZ},pz (ty e)=some .u8→(bn (match z with |none=>none|some z=>some (0≤z))→vx= .int .i64 (n:Int))→AV.H η (ay H η) w (.one (.rw b)) vs→(SP nx e b n z).run sl H ds= .ok res rd' qs→OpDone H η w nx res o a:=by
    intro b n z rd' hk hxv hs h1
    have hti:(ty e).ti= .k .u8:=by
     unfold pz at hk
     split at hk
     ·rename_i k' e2;cases hk;exact e2
     ·cases hk
    have hkz:z''.cells.toList= [bV 0]:=hK.kz .u8 hti
    have hzc:z''.cells= #[.int .u8 0]:=by
     apply Array.ext'
     rw [hkz];rfl
    obtain ⟨_,h4⟩:=cg h1
    split at h4
    ·rename_i f l hb
     split at h4
     ·rename_i hef
      have hef:=aQ hef
      subst hef
      obtain ⟨_,h5⟩:=cg h4
      split at h5
      ·rename_i hnn
       have:=aE h5
       subst this
       have hp2:(l++List.replicate n (0:UInt8)).length≤16777216∧vx= .int .i64 (n:Int):=by
        cases z with
        |none=>exact ⟨hp,hxv trivial⟩
        |some z=>exact ⟨And.right hp,hxv (And.left hp)⟩
       obtain ⟨hp2,hxv⟩:=hp2
       obtain ⟨u,hu1,hu2,_⟩:=hs
       rw [ak hu2,hxv] at hex
       obtain ⟨u',cs,y1,y2,y3⟩:=hH.chunk b _ hb
       rw [hu1] at y1;cases y1
       have hcs:=jS.1 y2
       subst hcs
       simp only [List.length_append,List.length_replicate] at hp2
       obtain ⟨v',w',r1,r2,r3,r4⟩:=ON (v:=u) (n:=l.length) (k:=n) (l:=l) hu hun hK.info hK.zero (hK.size.trans hs1) hzc hK.bytes (ty':=o.type) y3 (by omega)
       obtain ⟨η',hR⟩:=bE.re (nx:=nx) (c:= .row e .u8 (l++List.replicate n (0:UInt8))) (out:= [.one (.rw nx)]) (pre:=none) hH hb hnn hfree hu1 r3 (Kt y3) r4
        (fun η' A' hnx=>⟨⟨v',_,hnx,jS.2 rfl,by rw [List.length_append,List.length_replicate];exact r2⟩,v',hnx,rfl,um r2⟩)
       exact .inl ⟨_,_,_,η',hex _ _ r1,.inl rfl,⟨hR.out,hR.hp,hR.fw,hR.env,hR.fact⟩⟩
      ·cases h5
     ·cases h4
    ·cases h4
   split at h1
   ·rename_i n b hk
    exact key hk (fun _=>ak hx.1) hs h1
   ·rename_i z0 b hk
    refine key hk (fun h0=> ?_) hs h1
    have h0:0≤z0:=h0
    rw [show vx= .int .i64 z0 from ak hx,Int.toNat_of_nonneg h0]
   ·cases h1
 ·cases h
end
theorem Fn.callFunc {f : Nat} {fn : Func} {c : Code} (hf : Tryz.prog.funcs[f]? = some fn) (hname : (fn.name == "runtime.NumGoroutine") = false) (hb : fn.body = some c) (args : Array Value) (w : World) : (callFunc f args).run Tryz.prog w = .ok (.enter f args) w := by
 unfold Go.callFunc
 have hn : ¬ fn.name = "runtime.NumGoroutine" := by simpa using hname
 rw [Sem.run_bind]
 simp [hf,hn,hb]
structure af (f:Nat) (C:CF):Prop where
 fn : ∃ fn c, Tryz.prog.funcs[f]? = some fn ∧ (fn.name == "runtime.NumGoroutine") = false ∧ fn.body = some c
 call:∀(nx:Nat) (l:List AV) (sl:Nat→List AV) (H:Nat→Option Ch) (ds:List Bool) (res:aU) (rd:List dZ) (qs:List (Bool×Bool)),(C nx l).run sl H ds= .ok res rd qs→(∀q∈qs,q.1=q.2)→bn res.pre→
  ∀η w vs,dh H η w→bQ η (ay H η) w l vs→(∀b,nx≤b→b<nx+16→η b=none)→Calls Tryz.prog f vs.toArray w fun e w'=>∃v η',e= .returned v∧bE H η w nx res v w' η'
section
variable {ty:Nat→TE} {ct:Nat→Option CF} {sl:Nat→List AV} {H:Nat→Option Ch} {η:bx} {w:World} {nx N:Nat} {a:Act} {o:Oper} {ds:List Bool} {res:aU} {rd:List dZ} {qs:List (Bool×Bool)}
theorem MQ {c : Call} {f : Nat} (ho : o.op = .call c) (hc : c.callee = .value (.func f)) {fn : Func} {b : Code} (hf : Tryz.prog.funcs[f]? = some fn) (hname : (fn.name == "runtime.NumGoroutine") = false) (hb : fn.body = some b) : (execOp a.eval o).run Tryz.prog w = .ok (.enter f (c.args.toList.map a.eval).toArray) w := by
 unfold execOp
 simp only [ho]
 rw [Sem.run_bind]
 have:(resolve a.eval c o.type).run Tryz.prog w= .ok {target:= .fn (.func f) #[],args:= #[]++c.args.map a.eval} w:=by
  unfold resolve
  simp only [hc]
  rfl
 rw [this]
 simp only [Result.andThen_ok,invoke]
 have e: #[]++c.args.map a.eval++ #[]=(c.args.toList.map a.eval).toArray:=by rw [Array.append_empty,Array.empty_append,←Array.toList_map,Array.toArray_toList]
 rw [e]
 exact Fn.callFunc hf hname hb _ _
theorem AP {c:Call} {b:Builtin} (ho:o.op= .call c) (hc:c.callee= .builtin b):∃consts,(execOp a.eval o).run Tryz.prog w=(builtin b c.argTypes o.type consts (c.args.toList.map a.eval).toArray).run Tryz.prog w:=by
 refine ⟨c.args.map fun| .const _=>true|_=>false,?_⟩
 unfold execOp
 simp only [ho]
 rw [Sem.run_bind]
 have:(resolve a.eval c o.type).run Tryz.prog w= .ok {target:= .builtin b c.argTypes o.type (c.args.map fun| .const _=>true|_=>false),args:=c.args.map a.eval} w:=by
  unfold resolve
  simp only [hc]
  rfl
 rw [this]
 simp only [Result.andThen_ok,invoke]
 have e:c.args.map a.eval=(c.args.toList.map a.eval).toArray:=by rw [←Array.toList_map,Array.toArray_toList]
 rw [e]
theorem QY {c:Call} {f:Nat} {C:CF} (hC:af f C) (ho:o.op= .call c) (hc:c.callee= .value (.func f)) (hS:gR sl H N η a w) (hfree:∀b,nx≤b→b<nx+16→η b=none) (h:(AG c.args.toList fun l=>C nx l:R aU).run sl H ds= .ok res rd qs) (hq:∀q∈qs,q.1=q.2) (hp:bn res.pre):OpDone H η w nx res o a:=by
 obtain ⟨l,rd1,h1,hv⟩:=tS hS.slot h
 obtain ⟨fn,b,f1,f2,f3⟩:=hC.fn
 exact .inr ⟨f,_,MQ ho hc f1 f2 f3,hC.call nx l sl H ds res rd1 qs h1 hq hp η w _ hS.hpOk hv hfree⟩
theorem qc {k k':IntKind} {x y:Int}:(Builtin.min2 (.int k x) (.int k' y)).run Tryz.prog w= .ok (.int k (if y<x then y else x)) w:=rfl
theorem pa {k k':IntKind} {x y:Int}:(Builtin.max2 (.int k x) (.int k' y)).run Tryz.prog w= .ok (.int k (if y>x then y else x)) w:=rfl
theorem Uo (x y:Int):(if y<x then y else x)=min x y:=by split<;>omega
theorem Uq (x y:Int):(if y>x then y else x)=max x y:=by split<;>omega
theorem X1 (x y:Int):(if y<x then y else x)=(match jx y x with |true=>y|false=>x):=by
 cases e:jx y x with
 |true=>rw [if_pos (gG.1 e)]
 |false=>rw [if_neg (by have:=fc.1 e;omega)]
theorem WZ (x y:Int):(if y>x then y else x)=(match jx y x with |true=>x|false=>y):=by
 cases e:jx y x with
 |true=>have:=gG.1 e;rw [if_neg (by omega)]
 |false=>have:=fc.1 e;show (if y>x then y else x)=y;split<;>omega
theorem FG {c:Call} {b:Builtin} (hT:bk ty) (ho:o.op= .call c) (hc:c.callee= .builtin b) (hS:gR sl H N η a w) (hfree:∀b,nx≤b→b<nx+16→η b=none) (h:(AG c.args.toList fun l=>m7 ty nx b c.argTypes l:R aU).run sl H ds= .ok res rd qs) (hp:bn res.pre):OpDone H η w nx res o a:=by
 obtain ⟨l,rd1,h1,hv⟩:=tS hS.slot h
 clear h
 obtain ⟨consts,hex⟩:=AP (a:=a) (w:=w) ho hc
 unfold m7 at h1
 split at h1
 ·rename_i x
  obtain ⟨v,_,hl,hx,rfl⟩:=hv
  rw [hl] at hex
  split at h1
  ·rename_i t htl
   have ht:c.argTypes= #[t]:=by rw [←Array.toArray_toList (xs:=c.argTypes),htl]
   exact Sq hT hS.hpOk hx (fun u hu=>by rw [hex,ht];show (builtin .len _ _ _ _).run _ _=_;unfold builtin;simp only;rw [Sem.run_bind,hu];rfl) h1
  ·cases h1
 ·rename_i x y
  obtain ⟨v,_,hl,hx,u,_,rfl,hy,rfl⟩:=hv
  rw [hl] at hex
  split at h1
  ·rename_i t t' htl
   split at h1
   ·rename_i e
    have e:=aQ e
    subst e
    have ht:c.argTypes= #[t,t]:=by rw [←Array.toArray_toList (xs:=c.argTypes),htl]
    exact QR hT hS.hpOk hfree hx hy (fun u w' hu=>by rw [hex,ht];show (builtin .append _ _ _ _).run _ _=_;unfold builtin;simp only;rw [Sem.run_bind,hu];rfl) h1 hp
   ·have ht:c.argTypes= #[t,t']:=by rw [←Array.toArray_toList (xs:=c.argTypes),htl]
    exact Nz hT hS.hpOk hfree hx hy (fun u w' hu=>by rw [hex,ht];show (builtin .append _ _ _ _).run _ _=_;unfold builtin;simp only;rw [Sem.run_bind,hu];rfl) h1 hp
  ·cases h1
 ·rename_i x y
  obtain ⟨v,_,hl,hx,u,_,rfl,hy,rfl⟩:=hv
  rw [hl] at hex
  split at h1
  ·rename_i t t' htl
   split at h1
   ·rename_i e
    have e:=aQ e
    subst e
    have ht:c.argTypes= #[t,t]:=by rw [←Array.toArray_toList (xs:=c.argTypes),htl]
    exact Oh (ty':=o.type) hT hS.hpOk hx hy (fun u w' hu=>by rw [hex,ht];show (builtin .copy _ _ _ _).run _ _=_;unfold builtin;simp only;rw [Sem.run_bind,hu];rfl) h1
   ·cases h1
  ·cases h1
 ·rename_i x y
  obtain ⟨v,_,hl,hx,u,_,rfl,hy,rfl⟩:=hv
  rw [hl] at hex
  have hr:∀r,(Builtin.min2 v u).run Tryz.prog w= .ok r w→(execOp a.eval o).run Tryz.prog w= .ok (.value r) w:=fun r hr=>by
   rw [hex];show (builtin .min _ _ _ _).run _ _=_;unfold builtin;simp only;rw [Sem.run_bind]
   show ((List.foldlM Builtin.min2 v [u]).run Tryz.prog w).andThen _=_
   simp [List.foldlM,hr]
  split at h1
  ·rename_i p q e1 e2
   have g1:=dL (bg e1 hx);have g2:=dL (bg e2 hy)
   refine aG.done (ev:=fun w=>(Builtin.min2 v u).run Tryz.prog w) (.lit fun _ w=> ?_) h1 hp hS.hpOk hr
   rw [g1,g2,ma,ma,qc,X1];cases jx q p<;>rfl
  ·rename_i p q e1 e2
   have g1:=dL (bg e1 hx);have g2:=dL (bg e2 hy)
   obtain ⟨k,r⟩:=eN q
   have:=aw h1;subst this
   exact .val hS.hpOk rfl (hr _ (by rw [g1,g2,r,ma,qc,Uo]))
  ·rename_i p q e1 e2
   have g1:=dL (bg e1 hx);have g2:=dL (bg e2 hy)
   have:=aw h1;subst this
   exact .val hS.hpOk rfl (hr _ (by rw [g1,g2,ma,ma,qc,Uo]))
  ·cases h1
 ·rename_i x y
  obtain ⟨v,_,hl,hx,u,_,rfl,hy,rfl⟩:=hv
  rw [hl] at hex
  have hr:∀r,(Builtin.max2 v u).run Tryz.prog w= .ok r w→(execOp a.eval o).run Tryz.prog w= .ok (.value r) w:=fun r hr=>by
   rw [hex];show (builtin .max _ _ _ _).run _ _=_;unfold builtin;simp only;rw [Sem.run_bind]
   show ((List.foldlM Builtin.max2 v [u]).run Tryz.prog w).andThen _=_
   simp [List.foldlM,hr]
  split at h1
  ·rename_i p q e1 e2
   have g1:=dL (bg e1 hx);have g2:=dL (bg e2 hy)
   refine aG.done (ev:=fun w=>(Builtin.max2 v u).run Tryz.prog w) (.lit fun _ w=> ?_) h1 hp hS.hpOk hr
   rw [g1,g2,ma,ma,pa,WZ];cases jx q p<;>rfl
  ·rename_i p q e1 e2
   have g1:=dL (bg e1 hx);have g2:=dL (bg e2 hy)
   obtain ⟨k,r⟩:=eN q
   have:=aw h1;subst this
   exact .val hS.hpOk rfl (hr _ (by rw [g1,g2,r,ma,pa,Uq]))
  ·rename_i p q e1 e2
   have g1:=dL (bg e1 hx);have g2:=dL (bg e2 hy)
   have:=aw h1;subst this
   exact .val hS.hpOk rfl (hr _ (by rw [g1,g2,ma,ma,pa,Uq]))
  ·cases h1
 ·cases h1
theorem F8 (hT:bk ty) (hC:∀f C,ct f=some C→af f C) (hS:gR sl H N η a w) (hfree:∀b,nx≤b→b<nx+16→η b=none) (h:(pm ty ct nx o.op).run sl H ds= .ok res rd qs) (hq:∀q∈qs,q.1=q.2) (hp:bn res.pre):OpDone H η w nx res o a:=by
 cases e:o.op<;>rw [e] at h<;>(try (unfold pm at h;cases h;done))<;>unfold pm at h<;>simp only at h
 case move x=>
  split at h
  ·exact NF e hS h
  ·exact Il (.inl e) hS h
 case assign x=>exact Il (.inr e) hS h
 case pick c x y=>exact RW e hS h
 case alloc t=>exact Pk hT e hS hfree h
 case box t x=>exact UG e hS hfree h
 case build t ps=>exact MU hT e hS h
 case buildSlice t n ps=>exact uY hT e hS hfree h
 case load t x=>exact QQ hT e hS h hp
 case store t x y=>exact Nv hT e hS h hp
 case nilCheck x=>exact UL e hS h
 case binOp op t x y t'=>exact Ug hT e hS h hp
 case unOp op t x=>exact RX e hS h hp
 case convert s d x=>exact FL hT e hS h hp
 case makeSlice t x y=>exact wA hT e hS hfree h hp
 case slice t x lo hi mx=>exact OU hT e hS h hp
 case fieldAddr t x f=>exact zk hT e hS h
 case field t x f=>exact Mb hT e hS h
 case lookup t m x c=>
  cases c with
  |false=>exact SY e hS h hp
  |true=>cases h
 case indexAddr t x y=>exact LR hT e hS h hp
 case index t x y=>exact Xn hT e hS h hp
 case extract x j=>
  split at h
  ·exact Fp e hS h
  ·cases h
 case call c=>
  split at h
  ·rename_i b hc
   exact FG hT e hc hS hfree h hp
  ·rename_i f hc
   split at h
   ·rename_i C hf
    exact QY (hC f C hf) e hc hS hfree h hq hp
   ·cases h
  ·cases h
end
section
variable {ty:Nat→TE} {ct:Nat→Option CF} {sl:Nat→List AV} {H:Nat→Option Ch} {η:bx} {w:World} {nx N:Nat} {a:Act} {o:Oper} {res:aU}
theorem zU {g:Bool}:∀ {r:R aU} {ds:List Bool} {res:aU} {rd:List dZ} {qs:List (Bool×Bool)},(jr g r).run sl H ds= .ok res rd qs→∃ds0 res0 rd0 qs0,r.run sl H ds0= .ok res0 rd0 qs0∧(∀q∈qs0,q∈qs)∧res0.upd=res.upd∧res0.pre=res.pre∧res0.fact=res.fact∧(res0.out=res.out∨∃p v,(p,v)∈qs∧res0.out= [.one (.ob .bool p)]∧res.out= [.one (.cv (.bool v))]):=by
 cases g with
 |false=>exact fun h=>⟨_,_,_,_,h,fun _ h=>h,rfl,rfl,rfl,.inl rfl⟩
 |true=>
  intro r
  show ∀ {ds:List Bool} {res:aU} {rd:List dZ} {qs:List (Bool×Bool)},(jr.go r).run sl H ds= .ok res rd qs→_
  induction r with
  |pure x=>
   intro ds res rd qs h
   unfold jr.go at h
   split at h
   ·rename_i p u q f
    obtain ⟨d,ds',qs',e1,e2⟩:=Eb h
    have:=aE e2
    subst this
    refine ⟨[],_,[],[],rfl,fun q hq=>(by cases hq),rfl,rfl,rfl,.inr ⟨p,d,by rw [e1];simp,rfl,rfl⟩⟩
   ·have:=aE h
    subst this
    exact ⟨[],_,[],[],rfl,fun q hq=>(by cases hq),rfl,rfl,rfl,.inl rfl⟩
  |fail=>intro ds res rd qs h;cases h
  |slot t k ih=>
   intro ds res rd qs h
   unfold jr.go at h
   obtain ⟨rd',h1⟩:=jQ h
   obtain ⟨ds0,res0,rd0,qs0,g1,g2⟩:=ih (sl t) h1
   exact ⟨ds0,res0,_,qs0,by simp only [R.run,g1];rfl,g2⟩
  |hp b k ih=>
   intro ds res rd qs h
   unfold jr.go at h
   obtain ⟨rd',h1⟩:=cg h
   obtain ⟨ds0,res0,rd0,qs0,g1,g2⟩:=ih (H b) h1
   exact ⟨ds0,res0,_,qs0,by simp only [R.run,g1];rfl,g2⟩
  |dec p k ih=>
   intro ds res rd qs h
   unfold jr.go at h
   obtain ⟨d,ds',qs',e1,h1⟩:=Eb h
   obtain ⟨ds0,res0,rd0,qs0,g1,g2,g3,g4,g5,g6⟩:=ih d h1
   refine ⟨d::ds0,res0,rd0,(p,d)::qs0,by simp only [R.run,g1];rfl,fun q hq=> ?_,g3,g4,g5,?_⟩
   ·rw [e1]
    rcases List.mem_cons.1 hq with rfl|hq
    ·simp
    ·exact List.mem_cons_of_mem _ (g2 q hq)
   ·rcases g6 with g6|⟨p',v,m,m'⟩
    ·exact .inl g6
    ·exact .inr ⟨p',v,by rw [e1];exact List.mem_cons_of_mem _ m,m'⟩
theorem bE.cast {res0:aU} {v:Value} {w':World} {η':bx} (h:bE H η w nx res0 v w' η') (h1:res0.upd=res.upd) (h2:res0.fact=res.fact) (h3:res0.out=res.out∨∃p:Bool,res0.out= [.one (.ob .bool p)]∧res.out= [.one (.cv (.bool p))]):bE H η w nx res v w' η':=by
 obtain ⟨o1,o2,o3,o4,o5⟩:=h
 rw [h1] at o1 o2 o3
 rw [h2] at o5
 refine ⟨?_,o2,o3,o4,o5⟩
 rcases h3 with h3|⟨p,h3,h4⟩
 ·rw [←h3];exact o1
 ·rw [h3] at o1
  rw [h4]
  have:v= .bool p:=ak o1
  subst this
  exact ⟨rfl,rfl⟩
theorem OpDone.cast {res0:aU} (h:OpDone H η w nx res0 o a) (h1:res0.upd=res.upd) (h2:res0.fact=res.fact) (h3:res0.out=res.out∨∃p:Bool,res0.out= [.one (.ob .bool p)]∧res.out= [.one (.cv (.bool p))]):OpDone H η w nx res o a:=by
 rcases h with ⟨nv,v,w',η',e1,e2,e3⟩|⟨f,args,e1,e2⟩
 ·exact .inl ⟨nv,v,w',η',e1,e2,e3.cast h1 h2 h3⟩
 ·exact .inr ⟨f,args,e1,e2.mono fun e w' ⟨v,η',q1,q2⟩=>⟨v,η',q1,q2.cast h1 h2 h3⟩⟩
theorem wd {S:Nat→List AV} (hS:gR S H N η a w) {v:Value} {w':World} {η':bx} (h:bE H η w nx res v w' η') (hd:∀t,o.dst=some t→t<N):gR (fun t=>if o.dst=some t then res.out else S t) (bF res.upd H) N η' (a.put o.dst v) w':=by
 have hsz:(a.put o.dst v).tmps.size=N:=by
  unfold Act.put
  cases o.dst<;>simp [hS.sz]
 refine ⟨?_,hsz,fun t=> ?_,h.hp.chunk,h.hp.apart⟩
 ·unfold Act.put
  cases o.dst<;>exact hS.df
 ·by_cases e:o.dst=some t
  ·show bz _ _ _ (if o.dst=some t then res.out else S t) _
   rw [if_pos e]
   have ht:=hd t e
   have:(a.put o.dst v).tmps.getD t undef=v:=by
    unfold Act.put
    rw [e]
    simp [Array.getD,hS.sz,ht]
   rw [this]
   exact h.out
  ·show bz _ _ _ (if o.dst=some t then res.out else S t) _
   rw [if_neg e]
   have:(a.put o.dst v).tmps.getD t undef=a.tmps.getD t undef:=by
    unfold Act.put
    cases e2:o.dst with
    |none=>rfl
    |some d=>
     have hne:d≠t:=fun h=>e (by rw [e2,h])
     simp [Array.getD_eq_getD_getElem?,hne]
   rw [this]
   exact (hS.slot t).later h.fw.lt
theorem OpDone.step {S:Nat→List AV} (h:OpDone H η w nx res o a) (hS:gR S H N η a w) (hd:∀t,o.dst=some t→t<N) {Q:Exit→Act→World→Prop} {K:Act→World→Prop}
  (hK:∀a' w' η',gR (fun t=>if o.dst=some t then res.out else S t) (bF res.upd H) N η' a' w'→Fw H η w (bF res.upd H) η' w'→(∀b,b<nx∨nx+16≤b→η' b=η b)→bn res.fact→K a' w'):Oper.wp Tryz.prog o a w K Q:=by
 unfold Oper.wp
 rcases h with ⟨nv,v,w',η',e1,e2,e3⟩|⟨f,args,e1,e2⟩
 ·rw [e1]
  have:=hK _ w' η' (wd hS e3 hd) e3.fw e3.env e3.fact
  rcases e2 with rfl|⟨rfl,rfl⟩
  ·exact this
  ·exact this
 ·rw [e1,Oper.upon_enter]
  refine e2.mono fun e w' ⟨v,η',q1,q2⟩=> ?_
  subst q1
  exact hK _ w' η' (wd hS q2 hd) q2.fw q2.env q2.fact
theorem aD (hT:bk ty) (hC:∀f C,ct f=some C→af f C):az ty ct:=by
 intro all N Q i o ho nx F ds res rd qs h hq hp η a w hS hfree hd K hK
 unfold iK at h
 have main:∀ {ds:List Bool} {rd:List dZ},(jr (uU i all) (pm ty ct nx o.op)).run F.s F.h ds= .ok res rd qs→Oper.wp Tryz.prog o a w K Q:=fun h=>by
  obtain ⟨ds0,res0,rd0,qs0,g1,g2,g3,g4,g5,g6⟩:=zU h
  have:=F8 (o:=o) hT hC hS hfree g1 (fun q hq'=>hq q (g2 q hq')) (by rw [g4];exact hp)
  refine (this.cast (res:=res) g3 g5 ?_).step hS hd hK
  rcases g6 with g6|⟨p,v,m,m1,m2⟩
  ·exact .inl g6
  ·have:p=v:=hq _ m
   subst this
   exact .inr ⟨p,m1,m2⟩
 have skip:res=⟨[.one .un],[],none,none⟩→K (a.put o.dst undef) w:=fun e=>by
  subst e
  have hR:bE F.h η w nx ⟨[.one .un],[],none,none⟩ undef w η:= .pure (out:= [.one .un]) (v:=undef) hS.hpOk rfl trivial
  exact hK _ w η (wd hS hR hd) hR.fw hR.env trivial
 cases hg:o.guard with
 |none=>
  rw [hg] at h
  have hw:Region.wanted o (yielded all.toArray a.tmps)=true:=by unfold Region.wanted;rw [hg]
  rw [if_pos hw]
  exact main h
 |some jw=>
  obtain ⟨j,want⟩:=jw
  rw [hg] at h
  unfold DH at h
  simp only at h
  split at h
  ·rename_i o' ho'
   split at h
   ·rename_i t ht
    obtain ⟨rd',h1⟩:=jQ h
    clear h
    have hs:=hS.slot t
    have hy:∀v,a.tmps.getD t undef=v→v≠undef∨t<a.tmps.size→yielded all.toArray a.tmps j=match v with | .bool b=>some b|_=>none:=fun v hv hh=>by
     unfold yielded
     rw [List.getElem?_toArray,ho']
     simp only [Option.bind_some,ht]
     have:a.tmps[t]?=some v:=by
      by_cases hlt:t<a.tmps.size
      ·rw [Array.getElem?_eq_getElem hlt]
       rw [Array.getD_eq_getD_getElem?,Array.getElem?_eq_getElem hlt] at hv
       exact congrArg some hv
      ·rcases hh with hh|hh
       ·rw [Array.getD_eq_getD_getElem?,Array.getElem?_eq_none (Nat.le_of_not_lt hlt)] at hv
        exact absurd hv.symm hh
       ·exact absurd hh hlt
     rw [this]
     cases v<;>rfl
    have hno:∀v,a.tmps.getD t undef=v→(∀b,v≠ .bool b)→yielded all.toArray a.tmps j=none:=fun v hv hb=>by
     by_cases hlt:t<a.tmps.size
     ·rw [hy v hv (.inr hlt)]
      split
      ·rename_i b;exact absurd rfl (hb b)
      ·rfl
     ·unfold yielded
      rw [List.getElem?_toArray,ho']
      simp only [Option.bind_some,ht]
      rw [Array.getElem?_eq_none (Nat.le_of_not_lt hlt)]
    have hwant:Region.wanted o (yielded all.toArray a.tmps)=(yielded all.toArray a.tmps j ==some want):=by unfold Region.wanted;rw [hg]
    split at h1
    ·rename_i b e1
     rw [e1] at hs
     have hv:a.tmps.getD t undef= .bool b:=ak hs.1
     have hyb:=hy _ hv (.inl (by unfold undef;simp))
     rw [hyb] at hwant
     split at h1
     ·rename_i e2
      rw [if_pos (by rw [hwant];rfl)]
      exact main h1
     ·rename_i e2
      rw [if_pos (by rw [hwant];rfl)]
      exact main h1
     ·rename_i x1 x2
      have hne:b≠want:=fun e=>by subst e;cases b with |true=>exact x1 rfl rfl|false=>exact x2 rfl rfl
      rw [if_neg (by rw [hwant];simpa using hne)]
      exact skip (aw h1)
    ·rename_i e1
     rw [e1] at hs
     have hv:a.tmps.getD t undef=undef:=ak hs
     rw [hno _ hv (fun b=>by unfold undef;simp)] at hwant
     rw [if_neg (by rw [hwant];simp)]
     exact skip (aw h1)
    ·cases h1
   ·cases h
  ·cases h
end
theorem Cl.lt_mono {n m:Nat} (h:n≤m) {x:Cl} (hx:x.lt n=true):x.lt m=true:=by
 cases x<;>first |rfl|(simp [Cl.lt] at hx ⊢;omega)
theorem kP {n m:Nat} (h:n≤m):∀ {l:List Cl},dw n l=true→dw m l=true
 | [],_=>rfl
 |x::r,hl=>by
  obtain ⟨h1,h2⟩:=kH hl
  unfold dw
  rw [Cl.lt_mono h h1]
  exact kP h h2
theorem sA {n m:Nat} (h:n≤m):∀ {l:List (Nat×AV)},yy n l=true→yy m l=true
 | [],_=>rfl
 |(t,y)::r,hl=>by
  unfold yy at hl ⊢
  cases e:y.lt n with
  |false=>rw [e] at hl;cases hl
  |true=>
   rw [e] at hl
   have:y.lt m=true:=by
    cases y with
    |one x=>exact Cl.lt_mono h e
    |agg l=>exact kP h e
   rw [this]
   exact sA h hl
theorem oU {n m:Nat} (h:n≤m):∀ {l:List (Nat×Ch)},Fd n l=true→Fd m l=true
 | [],_=>rfl
 |(b,c)::r,hl=>by
  unfold Fd at hl ⊢
  cases e:Nat.blt b n with
  |false=>rw [e] at hl;cases hl
  |true=>
   rw [e] at hl
   have e2:Nat.blt b m=true:=by simp at e ⊢;omega
   rw [e2]
   cases c with
   |blk E l=>
    simp only at hl ⊢
    cases e3:dw n l with
    |false=>rw [e3] at hl;cases hl
    |true=>rw [e3] at hl;rw [kP h e3];exact oU h hl
   |row E k l=>exact oU h hl
theorem oS {S:AS} {n m:Nat} (h:n≤m) {W:List Nat} {I:Inv} {hp0:List (Nat×Nat×Ch)} {k:ew→Prop} (hm:g_ S n W I hp0 k):g_ S m W I hp0 k:=by
 unfold g_ at hm ⊢
 split at hm
 ·rename_i e1 e2 e3
  rw [sA h e1,oU h e2,e3]
  exact hm
 ·exact hm.elim
def aq:Nat→List AV→List (Nat×Nat×List AV)
 |_,[]=> []
 |i,x::r=>(i,1,[x])::aq (i+1) r
theorem jV {η:bx} {A:Nat→Prop} {w:World}:∀ {l:List AV} {vs:List Value} {i:Nat},bQ η A w l vs→vs.length=l.length∧∀t,bY (aq i l) t= []∨∃x v,bY (aq i l) t= [x]∧i≤t∧vs[t-i]?=some v∧x.H η A w v
 | [],vs,i,h=>by subst h;exact ⟨rfl,fun t=> .inl rfl⟩
 |x::r,vs,i,⟨v,t,e,hx,hr⟩=>by
  subst e
  obtain ⟨h1,h2⟩:=jV (i:=i+1) hr
  refine ⟨by simp [h1],fun u=> ?_⟩
  simp only [aq,bY]
  cases e:Nat.beq i u with
  |true=>
   have e:=aQ e
   subst e
   exact .inr ⟨x,v,rfl,Nat.le_refl _,by simp,hx⟩
  |false=>
   rcases h2 u with h3|⟨y,z,h3,h4,h5,h6⟩
   ·exact .inl h3
   ·exact .inr ⟨y,z,h3,by omega,by rw [show u-i=(u-(i+1))+1 by omega];exact h5,h6⟩
def nS (fn:Func) (rs:List Nat):Prop:=fn.results=(rs.map ResultVar.tmp).toArray
theorem jt {fn:Func} {rs:List Nat} (h:nS fn rs) (tmps:Array Value) (w:World):(results fn tmps).run Tryz.prog w= .ok (match rs.map fun t=>tmps.getD t undef with | [v]=>v|l=> .tuple l.toArray) w:=by
 unfold results
 rw [h,Array.mapM_eq_mapM_toList]
 have:∀rs:List Nat,((rs.map ResultVar.tmp).mapM (fun| .tmp t=>pure (tmps.getD t undef)| .cell a t=>do loadVar t (←asAddr (tmps.getD a undef)):ResultVar→Sem Value)).run Tryz.prog w= .ok (rs.map fun t=>tmps.getD t undef) w:=by
  intro rs
  induction rs with
  |nil=>rfl
  |cons r rs ih=>
   rw [List.map_cons,List.mapM_cons,Sem.run_bind]
   change ((List.mapM _ (rs.map ResultVar.tmp) >>= fun bs=>pure (tmps.getD r undef::bs):Sem (List Value))).run Tryz.prog w=_
   rw [Sem.run_bind,ih]
   rfl
 rw [Sem.run_bind,Sem.run_map]
 refine Eq.trans (congrArg (fun z:Result (List Value)=>(z.andThen fun a w=>Result.ok a.toArray w).andThen fun vs w'=>(pure (if h:vs.size=1 then vs[0] else .tuple vs):Sem Value).run Tryz.prog w') (this rs)) ?_
 clear this h
 rcases rs with _|⟨r,_|⟨q,rs⟩⟩<;>simp
def eH (rs:List Nat) (outs:List AV) (hp:List (Nat×Ch)):KK:=fun e S'=>match e with
 | .exit _=>False
 |_=>g_ S' 1000 rs ⟨rs.zip outs,hp⟩ [] fun _=>True
section
variable {ty:Nat→TE} {ct:Nat→Option CF}
def Fv:Cl→Bool
 | .ptr b _=>Nat.blt b 16| .sl b _ _ _=>Nat.blt b 16| .rw b=>Nat.blt b 16| .sub b _ _=>Nat.blt b 16
 | .pix _ _ _=>false| .pro _ _=>false| .ro _ _=>false| .bb _=>false| .pbb _=>false| .mp _ _=>false| .rv _ _=>false
 |_=>true
def jA:List Cl→Bool
 | []=>true
 |x::r=>match Fv x with |true=>jA r|false=>false
def eC:List AV→Bool
 | []=>true
 | .one x::r=>match Fv x with |true=>eC r|false=>false
 | .agg l::r=>match jA l with |true=>eC r|false=>false
def gB:List (Nat×Ch)→Bool
 | []=>true
 |(b,c)::r=>match Nat.blt b 16 with
  |true=>match c with
   | .blk _ l=>match jA l with |true=>gB r|false=>false
   | .row _ _ _=>gB r
  |false=>false
variable {nx:Nat} {η η':bx} {A A':Nat→Prop} {w:World}
theorem Ov {b:Nat} (h:Nat.blt b 16=true):eL nx b=nx+b∧b<16:=by
 have h:b<16:=by simpa using h
 refine ⟨?_,h⟩
 unfold eL cX
 rw [show Nat.blt b 1000=true by simp;omega]
theorem Cl.H.ren (he:∀b,b<16→η' (nx+b)=η (nx+b)) {x:Cl} (hx:Fv x=true) {cs:List Value} (h:(x.rn nx).H η A w cs):(x.rn nx).H η' A' w cs:=by
 cases x
 case any=>exact h
 case un=>exact h
 case cv=>exact h
 case ob=>exact h
 case vec=>exact h
 case ptr b j=>
  obtain ⟨e1,e2⟩:=Ov (nx:=nx) hx
  obtain ⟨g,h1,h2⟩:=h
  exact ⟨g,by rw [e1,he b e2,←e1];exact h1,h2⟩
 case pix b j i=>cases hx
 case pro k x=>cases hx
 case sl b j m c=>
  obtain ⟨e1,e2⟩:=Ov (nx:=nx) hx
  obtain ⟨hn,g,h1,h2⟩:=h
  exact ⟨hn,g,by rw [e1,he b e2,←e1];exact h1,h2⟩
 case rw b=>
  obtain ⟨e1,e2⟩:=Ov (nx:=nx) hx
  obtain ⟨v,h1,h2⟩:=h
  exact ⟨v,by rw [e1,he b e2,←e1];exact h1,h2⟩
 case sub b j m=>
  obtain ⟨e1,e2⟩:=Ov (nx:=nx) hx
  obtain ⟨v,a,c,h1,h2⟩:=h
  exact ⟨v,a,c,by rw [e1,he b e2,←e1];exact h1,h2⟩
 case ro k l=>cases hx
 case bb l=>cases hx
 case pbb l=>cases hx
 case ln=>exact h
 case mp v f=>cases hx
 case rv v l=>cases hx
theorem aK.ren (he:∀b,b<16→η' (nx+b)=η (nx+b)):∀ {l:List Cl},jA l=true→∀ {cs:List Value},aK η A w (l.map (Cl.rn nx)) cs→aK η' A' w (l.map (Cl.rn nx)) cs
 | [],_,_,h=>h
 |x::r,hl,cs,⟨h,t,e,hx,hr⟩=>by
  unfold jA at hl
  cases e1:Fv x with
  |false=>rw [e1] at hl;cases hl
  |true=>rw [e1] at hl;exact ⟨h,t,e,hx.ren he e1,aK.ren he hl hr⟩
theorem Bt {x:AV} {l:List AV} (h:eC (x::l)=true):eC [x]=true∧eC l=true:=by
 cases x with
 |one x=>
  simp only [eC] at h ⊢
  cases e:Fv x with
  |false=>rw [e] at h;cases h
  |true=>rw [e] at h;exact ⟨rfl,h⟩
 |agg q=>
  simp only [eC] at h ⊢
  cases e:jA q with
  |false=>rw [e] at h;cases h
  |true=>rw [e] at h;exact ⟨rfl,h⟩
theorem AV.H.ren (he:∀b,b<16→η' (nx+b)=η (nx+b)) {x:AV} (hx:eC [x]=true) {v:Value} (h:(x.rn nx).H η A w v):(x.rn nx).H η' A' w v:=by
 cases x with
 |one x=>
  simp only [eC] at hx
  cases e:Fv x with
  |false=>rw [e] at hx;cases hx
  |true=>exact Cl.H.ren (x:=x) he e h
 |agg l=>
  simp only [eC] at hx
  cases e:jA l with
  |false=>rw [e] at hx;cases hx
  |true=>
   obtain ⟨cs,e1,h1,h2⟩:=h
   exact ⟨cs,e1,h1.ren he e,h2⟩
theorem bQ.ren (he:∀b,b<16→η' (nx+b)=η (nx+b)):∀ {l:List AV},eC l=true→∀ {vs:List Value},bQ η A w (l.map (AV.rn nx)) vs→bQ η' A' w (l.map (AV.rn nx)) vs
 | [],_,_,h=>h
 |x::r,hl,vs,⟨v,t,e,hx,hr⟩=>by
  obtain ⟨h1,h2⟩:=Bt hl
  exact ⟨v,t,e,hx.ren he h1,hr.ren he h2⟩
theorem Ch.H.ren (he:∀b,b<16→η' (nx+b)=η (nx+b)) {b:Nat} (hb:b<16) {c:Ch} (hc:∀E l,c= .blk E l→jA l=true) (h:(c.rn nx).H η A w (nx+b)):(c.rn nx).H η' A' w (nx+b):=by
 cases c with
 |blk E l=>
  obtain ⟨g,cs,h1,h2,h3,h4⟩:=h
  exact ⟨g,cs,by rw [he b hb];exact h1,h2,h3.ren he (hc E l rfl),h4⟩
 |row E k l=>
  obtain ⟨v,cs,h1,h2⟩:=h
  exact ⟨v,cs,by rw [he b hb];exact h1,h2⟩
end
section
variable {H:Nat→Option Ch} {η ηc:bx} {w w':World} {nx:Nat}
def iY (nx:Nat) (us:List (Nat×Ch)):List (Nat×Option Ch):=us.map fun p=>(nx+p.1,some (p.2.rn nx))
theorem iP:∀ {us:List (Nat×Ch)} {H:Nat→Option Ch} {b:Nat} {c:Ch},bF (iY nx us) H b=some c→(∃p∈us,b=nx+p.1∧c=p.2.rn nx)∨(H b=some c∧∀p∈us,b≠nx+p.1)
 | [],_,_,_,h=> .inr ⟨h,fun p hp=>(by cases hp)⟩
 |p::us,H,b,c,h=>by
  rcases iP (us:=us) (H:=fun x=>if x=nx+p.1 then some (p.2.rn nx) else H x) h with ⟨q,hq,e⟩|⟨h1,h2⟩
  ·exact .inl ⟨q,List.mem_cons_of_mem _ hq,e⟩
  ·by_cases e:b=nx+p.1
   ·rw [if_pos e] at h1
    cases h1
    exact .inl ⟨p,by simp,e,rfl⟩
   ·rw [if_neg e] at h1
    exact .inr ⟨h1,fun q hq=>by
     rcases List.mem_cons.1 hq with rfl|hq
     ·exact e
     ·exact h2 q hq⟩
theorem mr:∀ {us:List (Nat×Ch)},gB us=true→∀p∈us,p.1<16
 | [],_,p,hp=>(by cases hp)
 |(b,c)::r,h,p,hp=>by
  unfold gB at h
  cases e:Nat.blt b 16 with
  |false=>rw [e] at h;cases h
  |true=>
   rw [e] at h
   have h2:gB r=true:=by
    cases c with
    |blk E l=>
     simp only at h
     cases e2:jA l with
     |false=>rw [e2] at h;cases h
     |true=>rw [e2] at h;exact h
    |row E k l=>exact h
   rcases List.mem_cons.1 hp with rfl|hp
   ·simpa using e
   ·exact mr h2 p hp
theorem bE.many (hH:dh H η w) (hfree:∀b,nx≤b→b<nx+16→η b=none) {us:List (Nat×Ch)} (h16:gB us=true) (hb:Below w.heap.size w w') {Ac:Nat→Prop}
  (hch:∀p∈us,(p.2.rn nx).H ηc Ac w' (nx+p.1)) (hap:∀p∈us,∀q∈us,p.1≠q.1→∀g,bu ηc (nx+p.1)=some g→bu ηc (nx+q.1)≠some g) (hfr:∀p∈us,∀g,bu ηc (nx+p.1)=some g→w.heap.size≤g)
  {outs:List AV} (ho:eC outs=true) {v:Value} (hout:bz ηc Ac w' (outs.map (AV.rn nx)) v) {pre:Option Prop}:
  ∃η',bE H η w nx ⟨outs.map (AV.rn nx),iY nx us,pre,none⟩ v w' η':=by
 let η':bx:=fun b=>if nx≤b∧b<nx+16 then ηc b else η b
 have he:∀b u,η b=some u→η' b=some u:=fun b u hu=>by
  show (if nx≤b∧b<nx+16 then ηc b else η b)=some u
  rw [if_neg (fun h=>by rw [hfree b h.1 h.2] at hu;cases hu)];exact hu
 have hne:∀b,b<nx∨nx+16≤b→η' b=η b:=fun b hb=>by show (if nx≤b∧b<nx+16 then ηc b else η b)=η b;rw [if_neg (by omega)]
 have hnw:∀b,b<16→η' (nx+b)=ηc (nx+b):=fun b hb=>by show (if nx≤nx+b∧nx+b<nx+16 then ηc (nx+b) else η (nx+b))=_;rw [if_pos (by omega)]
 have hlt:∀p∈us,p.1<16∧∀E l,p.2= .blk E l→jA l=true:=by
  clear hch hap hfr
  induction us with
  |nil=>exact fun p hp=>(by cases hp)
  |cons x r ih=>
   obtain ⟨b,c⟩:=x
   unfold gB at h16
   cases e:Nat.blt b 16 with
   |false=>rw [e] at h16;cases h16
   |true=>
    rw [e] at h16
    cases c with
    |blk E l=>
     simp only at h16
     cases e2:jA l with
     |false=>rw [e2] at h16;cases h16
     |true=>
      rw [e2] at h16
      intro p hp
      rcases List.mem_cons.1 hp with rfl|hp
      ·exact ⟨by simpa using e,fun E' l' h=>by cases h;exact e2⟩
      ·exact ih h16 p hp
    |row E k l=>
     intro p hp
     rcases List.mem_cons.1 hp with rfl|hp
     ·exact ⟨by simpa using e,fun E' l' h=>by cases h⟩
     ·exact ih h16 p hp
 have hold:∀b c,bF (iY nx us) H b=some c→(∀p∈us,b≠nx+p.1)→η' b=η b∧H b=some c:=fun b c hb hn=>by
  rcases iP hb with ⟨p,hp,e,_⟩|⟨h1,_⟩
  ·exact absurd e (hn p hp)
  ·refine ⟨?_,h1⟩
   by_cases hi:nx≤b∧b<nx+16
   ·have:=hfree b hi.1 hi.2
    have h2:=hH.chunk b c h1
    cases c with
    |blk E l=>obtain ⟨g,cs,q1,_⟩:=h2;rw [this] at q1;cases q1
    |row E k l=>obtain ⟨u,cs,q1,_⟩:=h2;rw [this] at q1;cases q1
   ·exact hne b (by omega)
 have hfp:∀b g,H b≠none→bu η b=some g→g<w.heap.size:=fun x g hx hg=>by
  cases e:H x with
  |none=>exact absurd e hx
  |some cx=>
   have:=hH.chunk x cx e
   cases cx with
   |blk E l=>
    obtain ⟨g',cs,h1,h2,_⟩:=this
    unfold bu at hg;rw [h1] at hg;cases hg;exact h2.lt
   |row E k l=>
    obtain ⟨u,cs,h1,h2,h3⟩:=this
    rcases h3.2 with ⟨rfl,_⟩|⟨g',cap,cur,rfl,_,h4,_⟩
    ·unfold bu at hg;rw [h1] at hg;cases hg
    ·unfold bu at hg;rw [h1] at hg;cases hg;exact (Array.getElem?_eq_some_iff.1 h4).1
 have hcase:∀b,bF (iY nx us) H b≠none→(∃p∈us,b=nx+p.1∧bu η' b=bu ηc (nx+p.1))∨(H b≠none∧bu η' b=bu η b∧∀p∈us,b≠nx+p.1):=fun b hb=>by
  cases e:bF (iY nx us) H b with
  |none=>exact absurd e hb
  |some c=>
   by_cases hn:∀p∈us,b≠nx+p.1
   ·obtain ⟨h1,h2⟩:=hold b c e hn
    exact .inr ⟨by rw [h2];simp,by unfold bu;rw [h1],hn⟩
   ·rcases iP e with ⟨p,hp,e1,_⟩|⟨_,h2⟩
    ·refine .inl ⟨p,hp,e1,?_⟩
     subst e1
     unfold bu;rw [hnw _ (hlt p hp).1]
    ·exact absurd h2 hn
 have hA:∀g,g<w.heap.size→ay H η g→ay (bF (iY nx us) H) η' g:=fun g hg ha b hb=>by
  rcases hcase b hb with ⟨p,hp,_,e⟩|⟨h1,e,_⟩
  ·rw [e];intro h;have:=hfr p hp g h;omega
  ·rw [e];exact ha b h1
 have hfw:Fw H η w (bF (iY nx us) H) η' w':=⟨hb.os,hb.tape,hb.output,hb.size,he,fun g hg ha=>⟨hb.block g hg,hA g hg ha⟩⟩
 refine ⟨η',?_,⟨fun b c hbc=> ?_,fun b b' g hbb h1 h2 hg=> ?_⟩,hfw,hne,trivial⟩
 ·cases outs with
  |nil=>trivial
  |cons x r=>
   cases r with
   |nil=>exact AV.H.ren hnw ho hout
   |cons y r=>
    obtain ⟨vs,e,h⟩:=hout
    exact ⟨vs,e,bQ.ren (l:=x::y::r) hnw ho h⟩
 ·rcases iP hbc with ⟨p,hp,rfl,rfl⟩|⟨h1,h2⟩
  ·exact Ch.H.ren hnw (hlt p hp).1 (hlt p hp).2 (hch p hp)
  ·exact (hH.chunk b c h1).later hfw.lt fun g hg=>hb.block g (hfp b g (by rw [h1];simp) hg)
 ·rcases hcase b h1 with ⟨p,hp,e1,e2⟩|⟨q1,e1,q2⟩
  ·rw [e2] at hg
   rcases hcase b' h2 with ⟨q,hq,e3,e4⟩|⟨q1,e3,q2⟩
   ·rw [e4];exact hap p hp q hq (fun e=>hbb (by rw [e1,e3,e])) g hg
   ·rw [e3];intro h;have:=hfr p hp g hg;have:=hfp b' g q1 h;omega
  ·rw [e1] at hg
   rcases hcase b' h2 with ⟨q,hq,e3,e4⟩|⟨q3,e3,q4⟩
   ·rw [e4];intro h;have:=hfr q hq g h;have:=hfp b g q1 hg;omega
   ·rw [e3];exact hH.apart b b' g hbb q1 q3 hg
end
section
variable {ty:Nat→TE} {ct:Nat→Option CF} {H:Nat→Option Ch} {η:bx} {w:World} {nx:Nat}
theorem xm {A:Nat→Prop} {w:World} {val:Nat→Value} {ηc:bx}:∀ {rs:List Nat} {outs:List AV},outs.length=rs.length→(∀p∈rs.zip outs,bz ηc A w [p.2.rn nx] (val p.1))→bQ ηc A w (outs.map (AV.rn nx)) (rs.map val)
 | [],[],_,_=>rfl
 |r::rs,x::outs,hl,h=>⟨_,_,rfl,h (r,x) (by simp),xm (by simpa using hl) fun p hp=>h p (by simp [hp])⟩
theorem Oi (hm:Tryz.prog.follows .mixedOrders=true) (hO:az ty ct) {f:Nat} {fn:Func} {c:Code} {rs:List Nat} (hf:Tryz.prog.funcs[f]?=some fn) (hb:fn.body=some c) (hr:nS fn rs) {l:List AV} (hl:fI 0 l=true) (hlen:l.length≤fn.ntmps)
  {outs:List AV} {us:List (Nat×Ch)} (ho:outs.length=rs.length) (h16:eC outs=true) (hh16:gB us=true) (hvc:vc ty ct fn.ntmps c ⟨aq 0 l,[],2000⟩ (eH rs outs us))
  (hnx:1000≤nx) (hH:dh H η w) (hfree:∀b,nx≤b→b<nx+16→η b=none) {A:Nat→Prop} {vs:List Value} (hv:bQ η A w l vs) {pre:Option Prop}:
  Calls Tryz.prog f vs.toArray w fun e w'=>∃v η',e= .returned v∧bE H η w nx ⟨outs.map (AV.rn nx),iY nx us,pre,none⟩ v w' η':=by
 refine calls_of_wp hf hb ?_
 have hv0:bQ (fun _=>none) (ay (aF []) (fun _=>none)) w l vs:=hv.names (n:=0) (fun b hb=>by omega) (fun g _ b hb=>absurd rfl hb) hl
 obtain ⟨hvl,hsl⟩:=jV (i:=0) hv0
 have hS:pM fn.ntmps ⟨aq 0 l,[],2000⟩ (fun _=>none) {tmps:=vs.toArray++Array.replicate (fn.ntmps-vs.toArray.size) undef,defers:= []} w:=by
  refine ⟨⟨rfl,?_,fun t=> ?_,fun b c h=>(by cases h),fun b b' g _ h=>absurd rfl h⟩,fun _ _=>rfl⟩
  ·simp;omega
  ·rcases hsl t with h|⟨x,v,h1,h2,h3,h4⟩
   ·show bz _ _ _ (bY (aq 0 l) t) _
    rw [h];trivial
   ·show bz _ _ _ (bY (aq 0 l) t) _
    rw [h1]
    have e:(vs.toArray++Array.replicate (fn.ntmps-vs.toArray.size) undef).getD t undef=v:=by
     rw [Array.getD_eq_getD_getElem?,Array.getElem?_append_left (by simp;exact (List.getElem?_eq_some_iff.1 h3).1)]
     simp only [Nat.sub_zero] at h3
     rw [List.getElem?_toArray,h3];rfl
    show bz _ _ _ [x] (Array.getD _ t undef)
    rw [e]
    exact h4
 refine wp_mono (js hm hO c _ _ hvc _ _ _ hS) fun e a' w' hP=> ?_
 obtain ⟨e',S',η',h1,h2,⟨hS',_⟩,hF,_⟩:=hP
 have key:g_ S' 1000 rs ⟨rs.zip outs,us⟩ [] (fun _=>True)→a'.defers= []∧∃v,(results fn a'.tmps).run Tryz.prog w'= .ok v w'∧∃v' η'',Ending.returned v= .returned v'∧bE H η w nx ⟨outs.map (AV.rn nx),iY nx us,pre,none⟩ v' w' η'':=fun hmt=>by
  refine ⟨hS'.df,_,jt hr a'.tmps w',?_⟩
  obtain ⟨τ,hτ,_,_,_,hX⟩:=jN hS' (oS hnx hmt)
  have hlt:∀p∈us,cX p.1=true∧eL nx p.1=nx+p.1:=fun p hp=>by
   have:p.1<1000:=by
    have:=mr hh16 p hp;omega
   have hbn:cX p.1=true:=by simpa [cX] using this
   exact ⟨hbn,by unfold eL;rw [hbn]⟩
  have hM:jF nx (jC us []) η' (ay (aF S'.hp) η') τ (cB nx τ η') (fun _=>True):=
   ⟨fun b _ hlt v hv=>by rw [dK hlt];exact hv,fun b c hb hs=>by rw [co (eI hb),hs],fun b hb hs=>by rw [co (eI hb),hs],fun _ _=>trivial,fun _ _ _ _=>trivial⟩
  obtain ⟨x1,x2⟩:=hX _ _ hM
  have hfp:∀p∈us,∀g,bu (cB nx τ η') (nx+p.1)=some g→∃a,bH τ.m p.1=some (some a)∧aF S'.hp a≠none∧bu η' a=some g:=fun p hp g hg=>by
   obtain ⟨q1,q2⟩:=hlt p hp
   obtain ⟨d,d1,d2⟩:=(x2 p hp).2.2 q1
   have eh:=co (nx:=nx) (τ:=τ) (η:=η') (eI q1)
   rw [d1] at eh
   unfold bu at hg
   cases d with
   |none=>rw [eh] at hg;cases hg
   |some a=>rw [eh] at hg;exact ⟨a,d1,d2 a rfl,hg⟩
  have hall:=xm (val:=fun t=>a'.tmps.getD t undef) ho x1
  obtain ⟨η'',hR⟩:=bE.many (ηc:=cB nx τ η') (Ac:=fun _=>True) (pre:=pre) hH hfree hh16 (w':=w') ⟨hF.os,hF.tape,hF.output,hF.size,fun g hg=>(hF.anon g hg fun b hb=>absurd rfl hb).1⟩
   (fun p hp=>by have:=(x2 p hp).1;rw [(hlt p hp).2] at this;exact this)
   (fun p hp q hq hne g hg hg'=>by
    obtain ⟨a,a1,a2,a3⟩:=hfp p hp g hg
    obtain ⟨b,b1,b2,b3⟩:=hfp q hq g hg'
    refine hS'.apart a b g ?_ a2 b2 a3 b3
    rintro rfl
    exact hne (hτ.inj _ _ _ a1 b1))
   (fun p hp g hg=>by
    obtain ⟨a,a1,a2,a3⟩:=hfp p hp g hg
    rcases Nat.lt_or_ge g w.heap.size with h|h
    ·exact absurd a3 ((hF.anon g h fun b hb=>absurd rfl hb).2 a a2)
    ·exact h)
   h16 (outs:=outs) (v:=match rs.map fun t=>a'.tmps.getD t undef with | [v]=>v|l=> .tuple l.toArray) (by
    rcases outs with _|⟨x,_|⟨y,outs⟩⟩
    ·trivial
    ·obtain ⟨v,t,e,h1,h2⟩:=hall
     cases h2
     rw [e]
     exact h1
    ·obtain ⟨v,t,e,h1,v2,t2,e2,h3,h4⟩:=hall
     subst e2
     rw [e]
     exact ⟨_,rfl,_,_,rfl,h1,_,_,rfl,h3,h4⟩)
  exact ⟨_,η'',rfl,hR⟩
 cases e with
 |normal=>cases h1;exact key h2
 |ret=>cases h1;exact key h2
 |exit id=>cases h1;exact h2.elim
 |panic c=>cases h1
 |outgrown=>cases h1
 |goto l=>cases h1
end
def V5 (p:Option Prop) (k:Prop):Prop:=match p with |none=>k|some p=>p∧k
theorem NY {p:Option Prop} {k:Prop} (h:V5 p k):bn p∧k:=by cases p<;>first |exact ⟨trivial,h⟩|exact h
def my (ty:Nat→TE):List ResultVar→Nat→AS→(List (Nat×Nat×List AV)→Prop)→Prop
 | [],_,_,k=>k []
 | .tmp t::r,i,S,k=>my ty r (i+1) S fun l=>k ((i,1,bY S.sl t)::l)
 | .cell a t::r,i,S,k=>match bY S.sl a with
  | [av]=>match (pT ty t av).run (bY S.sl) (aF S.hp) [] with
   | .ok res _ _=>V5 res.pre (my ty r (i+1) S fun l=>k ((i,1,res.out)::l))
   |_=>False
  |_=>False
def KH:Nat→List AV→List Nat
 |_,[]=> []
 |i,_::r=>i::KH (i+1) r
def xv:Nat→List AV→List (Nat×AV)
 |_,[]=> []
 |i,x::r=>(i,x)::xv (i+1) r
def aI (ty:Nat→TE) (N:Nat) (rs:List ResultVar) (outs:List AV) (us:List (Nat×Ch)):KK:=fun e S'=>match e with
 | .exit _=>False
 |_=>my ty rs N S' fun l=>g_ ⟨l,S'.hp,S'.nx⟩ 1000 (KH N outs) ⟨xv N outs,us⟩ [] fun _=>True
def Lu (tmps:Array Value):ResultVar→Sem Value
 | .tmp t=>pure (tmps.getD t undef)
 | .cell a t=>do loadVar t (←asAddr (tmps.getD a undef))
section
variable {ty:Nat→TE} {ct:Nat→Option CF} {H:Nat→Option Ch} {η:bx} {w:World} {nx N:Nat}
theorem ph (hT:bk ty) {S:AS} {a:Act} (hS:gR (bY S.sl) (aF S.hp) N η a w):∀ {rs:List ResultVar} {i:Nat} {k:List (Nat×Nat×List AV)→Prop},my ty rs i S k→∃l vs,k l∧(rs.mapM (Lu a.tmps)).run Tryz.prog w= .ok vs w∧vs.length=rs.length∧∀t,bY l t= []∨∃j v,t=i+j∧vs[j]?=some v∧bz η (ay (aF S.hp) η) w (bY l t) v
 | [],i,k,h=>⟨[],[],h,rfl,rfl,fun t=> .inl rfl⟩
 |r::rs,i,k,h=>by
  have key:∀(out:List AV) (v:Value),(Lu a.tmps r).run Tryz.prog w= .ok v w→bz η (ay (aF S.hp) η) w out v→(my ty rs (i+1) S fun l=>k ((i,1,out)::l))→∃l vs,k l∧((r::rs).mapM (Lu a.tmps)).run Tryz.prog w= .ok vs w∧vs.length=(r::rs).length∧∀t,bY l t= []∨∃j v,t=i+j∧vs[j]?=some v∧bz η (ay (aF S.hp) η) w (bY l t) v:=fun out v hv ho hr=>by
   obtain ⟨l,vs,h1,h2,h3,h4⟩:=ph hT hS hr
   refine ⟨_,v::vs,h1,?_,by simp [h3],fun t=> ?_⟩
   ·rw [List.mapM_cons,Sem.run_bind,hv,Result.andThen_ok,Sem.run_bind,h2];rfl
   ·simp only [bY]
    cases e:Nat.beq i t with
    |true=>exact .inr ⟨0,v,by rw [aQ e];rfl,rfl,ho⟩
    |false=>
     rcases h4 t with h5|⟨j,u,h5,h6,h7⟩
     ·exact .inl h5
     ·exact .inr ⟨j+1,u,by omega,by simpa using h6,h7⟩
  cases r with
  |tmp t=>exact key _ _ rfl (hS.slot t) h
  |cell x t=>
   unfold my at h
   split at h
   ·rename_i av e1
    split at h
    ·rename_i res rd qs e2
     obtain ⟨hp,h5⟩:=NY h
     have hx:=hS.slot x
     rw [e1] at hx
     obtain ⟨out,pre,v,rfl,h6,h7⟩:=DO hT hS.hpOk e2 hp hx
     refine key _ v ?_ h7 h5
     unfold Lu
     unfold Instr.loadAt at h6
     rw [Sem.run_bind] at h6 ⊢
     cases e3:a.tmps.getD x undef with
     |pointer ad=>
      rw [e3] at h6
      cases ad with
      |some ad=>exact h6
      |none=>cases h6
     |_=>rw [e3] at h6;cases h6
    ·exact h.elim
   ·exact h.elim
def DI (vs:List Value):Value:=match vs with | [v]=>v|l=> .tuple l.toArray
theorem lL {fn:Func} {rs:List ResultVar} (h:fn.results=rs.toArray) {tmps:Array Value} {w:World} {vs:List Value} (hv:(rs.mapM (Lu tmps)).run Tryz.prog w= .ok vs w):(results fn tmps).run Tryz.prog w= .ok (DI vs) w:=by
 unfold results
 rw [h,Array.mapM_eq_mapM_toList,Sem.run_bind,Sem.run_map]
 refine Eq.trans (congrArg (fun z:Result (List Value)=>(z.andThen fun a w=>Result.ok a.toArray w).andThen fun vs w'=>(pure (if h:vs.size=1 then vs[0] else .tuple vs):Sem Value).run Tryz.prog w') hv) ?_
 rcases vs with _|⟨r,_|⟨q,vs⟩⟩<;>simp [DI]
theorem m6 {A:Nat→Prop} {w:World} {ηc:bx} {val:Nat→Value}:∀ {outs:List AV} {vs:List Value} {i:Nat},outs.length=vs.length→(∀j v,vs[j]?=some v→val (i+j)=v)→(∀p∈xv i outs,bz ηc A w [p.2.rn nx] (val p.1))→bQ ηc A w (outs.map (AV.rn nx)) vs
 | [],[],_,_,_,_=>rfl
 |x::outs,v::vs,i,hl,hv,h=>⟨v,vs,rfl,by
   have:=h (i,x) (by simp [xv])
   rw [show val (i,x).1=v from hv 0 v rfl] at this
   exact this,m6 (i:=i+1) (by simpa using hl) (fun j u hu=>by rw [show i+1+j=i+(j+1) by omega];exact hv (j+1) u (by simpa using hu)) fun p hp=>h p (by simp [xv,hp])⟩
theorem tF (hm:Tryz.prog.follows .mixedOrders=true) (hT:bk ty) (hO:az ty ct) {f:Nat} {fn:Func} {c:Code} {rs:List ResultVar} (hf:Tryz.prog.funcs[f]?=some fn) (hb:fn.body=some c) (hr:fn.results=rs.toArray) {l:List AV} (hl:fI 0 l=true) (hlen:l.length≤fn.ntmps)
  {outs:List AV} {us:List (Nat×Ch)} (ho:outs.length=rs.length) (h16:eC outs=true) (hh16:gB us=true) (hvc:vc ty ct fn.ntmps c ⟨aq 0 l,[],2000⟩ (aI ty fn.ntmps rs outs us))
  (hnx:1000≤nx) (hH:dh H η w) (hfree:∀b,nx≤b→b<nx+16→η b=none) {A:Nat→Prop} {vs:List Value} (hv:bQ η A w l vs) {pre:Option Prop}:
  Calls Tryz.prog f vs.toArray w fun e w'=>∃v η',e= .returned v∧bE H η w nx ⟨outs.map (AV.rn nx),iY nx us,pre,none⟩ v w' η':=by
 refine calls_of_wp hf hb ?_
 have hv0:bQ (fun _=>none) (ay (aF []) (fun _=>none)) w l vs:=hv.names (n:=0) (fun b hb=>by omega) (fun g _ b hb=>absurd rfl hb) hl
 obtain ⟨hvl,hsl⟩:=jV (i:=0) hv0
 have hS:pM fn.ntmps ⟨aq 0 l,[],2000⟩ (fun _=>none) {tmps:=vs.toArray++Array.replicate (fn.ntmps-vs.toArray.size) undef,defers:= []} w:=by
  refine ⟨⟨rfl,?_,fun t=> ?_,fun b c h=>(by cases h),fun b b' g _ h=>absurd rfl h⟩,fun _ _=>rfl⟩
  ·simp;omega
  ·rcases hsl t with h|⟨x,v,h1,h2,h3,h4⟩
   ·show bz _ _ _ (bY (aq 0 l) t) _
    rw [h];trivial
   ·show bz _ _ _ (bY (aq 0 l) t) _
    rw [h1]
    have e:(vs.toArray++Array.replicate (fn.ntmps-vs.toArray.size) undef).getD t undef=v:=by
     rw [Array.getD_eq_getD_getElem?,Array.getElem?_append_left (by simp;exact (List.getElem?_eq_some_iff.1 h3).1)]
     simp only [Nat.sub_zero] at h3
     rw [List.getElem?_toArray,h3];rfl
    show bz _ _ _ [x] (Array.getD _ t undef)
    rw [e]
    exact h4
 refine wp_mono (js hm hO c _ _ hvc _ _ _ hS) fun e a' w' hP=> ?_
 obtain ⟨e',S',η',h1,h2,⟨hS',_⟩,hF,_⟩:=hP
 have key:(my ty rs fn.ntmps S' fun l=>g_ ⟨l,S'.hp,S'.nx⟩ 1000 (KH fn.ntmps outs) ⟨xv fn.ntmps outs,us⟩ [] fun _=>True)→a'.defers= []∧∃v,(results fn a'.tmps).run Tryz.prog w'= .ok v w'∧∃v' η'',Ending.returned v= .returned v'∧bE H η w nx ⟨outs.map (AV.rn nx),iY nx us,pre,none⟩ v' w' η'':=fun hrd=>by
  obtain ⟨l2,vals,hmt,hres,hvl2,hsl2⟩:=ph hT hS' hrd
  refine ⟨hS'.df,_,lL hr hres,?_⟩
  have hget:∀j v,vals[j]?=some v→(a'.tmps++vals.toArray).getD (fn.ntmps+j) undef=v:=fun j v hj=>by
   rw [Array.getD_eq_getD_getElem?,Array.getElem?_append_right (by rw [hS'.sz];omega),hS'.sz,show fn.ntmps+j-fn.ntmps=j by omega,List.getElem?_toArray,hj];rfl
  have hS2:gR (bY l2) (aF S'.hp) (fn.ntmps+vals.length) η' {tmps:=a'.tmps++vals.toArray,defers:= []} w':=by
   refine ⟨rfl,by simp [hS'.sz],fun t=> ?_,hS'.chunk,hS'.apart⟩
   rcases hsl2 t with h|⟨j,v,rfl,h3,h4⟩
   ·rw [h];trivial
   ·show bz _ _ _ _ (Array.getD _ _ undef)
    rw [hget j v h3]
    exact h4
  obtain ⟨τ,hτ,_,_,_,hX⟩:=jN (S:=⟨l2,S'.hp,S'.nx⟩) hS2 (oS hnx hmt)
  have hlt:∀p∈us,cX p.1=true∧eL nx p.1=nx+p.1:=fun p hp=>by
   have:p.1<1000:=by
    have:=mr hh16 p hp;omega
   have hbn:cX p.1=true:=by simpa [cX] using this
   exact ⟨hbn,by unfold eL;rw [hbn]⟩
  have hM:jF nx (jC us []) η' (ay (aF S'.hp) η') τ (cB nx τ η') (fun _=>True):=
   ⟨fun b _ hlt v hv=>by rw [dK hlt];exact hv,fun b c hb hs=>by rw [co (eI hb),hs],fun b hb hs=>by rw [co (eI hb),hs],fun _ _=>trivial,fun _ _ _ _=>trivial⟩
  obtain ⟨x1,x2⟩:=hX _ _ hM
  have hfp:∀p∈us,∀g,bu (cB nx τ η') (nx+p.1)=some g→∃a,bH τ.m p.1=some (some a)∧aF S'.hp a≠none∧bu η' a=some g:=fun p hp g hg=>by
   obtain ⟨q1,q2⟩:=hlt p hp
   obtain ⟨d,d1,d2⟩:=(x2 p hp).2.2 q1
   have eh:=co (nx:=nx) (τ:=τ) (η:=η') (eI q1)
   rw [d1] at eh
   unfold bu at hg
   cases d with
   |none=>rw [eh] at hg;cases hg
   |some a=>rw [eh] at hg;exact ⟨a,d1,d2 a rfl,hg⟩
  have hall:=m6 (val:=fun t=>(a'.tmps++vals.toArray).getD t undef) (ho.trans hvl2.symm) hget x1
  obtain ⟨η'',hR⟩:=bE.many (ηc:=cB nx τ η') (Ac:=fun _=>True) (pre:=pre) hH hfree hh16 (w':=w') ⟨hF.os,hF.tape,hF.output,hF.size,fun g hg=>(hF.anon g hg fun b hb=>absurd rfl hb).1⟩
   (fun p hp=>by have:=(x2 p hp).1;rw [(hlt p hp).2] at this;exact this)
   (fun p hp q hq hne g hg hg'=>by
    obtain ⟨a,a1,a2,a3⟩:=hfp p hp g hg
    obtain ⟨b,b1,b2,b3⟩:=hfp q hq g hg'
    refine hS'.apart a b g ?_ a2 b2 a3 b3
    rintro rfl
    exact hne (hτ.inj _ _ _ a1 b1))
   (fun p hp g hg=>by
    obtain ⟨a,a1,a2,a3⟩:=hfp p hp g hg
    rcases Nat.lt_or_ge g w.heap.size with h|h
    ·exact absurd a3 ((hF.anon g h fun b hb=>absurd rfl hb).2 a a2)
    ·exact h)
   h16 (outs:=outs) (v:=DI vals) (by
    rcases outs with _|⟨x,_|⟨y,outs⟩⟩
    ·trivial
    ·obtain ⟨v,t,e,h1,h2⟩:=hall
     cases h2
     rw [e]
     exact h1
    ·obtain ⟨v,t,e,h1,v2,t2,e2,h3,h4⟩:=hall
     subst e2
     rw [e]
     exact ⟨_,rfl,_,_,rfl,h1,_,_,rfl,h3,h4⟩)
  exact ⟨_,η'',rfl,hR⟩
 cases e with
 |normal=>cases h1;exact key h2
 |ret=>cases h1;exact key h2
 |exit id=>cases h1;exact h2.elim
 |panic c=>cases h1
 |outgrown=>cases h1
 |goto l=>cases h1
end
def oV:List (Nat×TE)→Nat→TE
 | [],_=>⟨.oth,0,[]⟩
 |(u,e)::r,t=>match Nat.beq u t with |true=>e|false=>oV r t
def Tu (p:Nat×TE):Prop:=∃i d z,wq (fun _=>p.2) p.1 i d z
theorem xt:∀ {l:List (Nat×TE)},(∀p∈l,Tu p)→bk (oV l)
 | [],_,t=> .inl rfl
 |(u,e)::r,h,t=>by
  cases eq:Nat.beq u t with
  |true=>
   have e1:=aQ eq
   subst e1
   obtain ⟨i,d,z,hK⟩:=h (u,e) (by simp)
   have:oV ((u,e)::r) u=e:=by simp only [oV,eq]
   refine .inr ⟨i,d,z,hK.info,hK.und,?_,?_,hK.zero,?_,hK.one,?_,?_,?_,hK.bytes⟩
   all_goals rw [this]
   ·exact hK.desc
   ·exact hK.size
   ·exact hK.cells
   ·exact hK.kz
   ·exact hK.zs
   ·exact hK.ks
  |false=>
   have:oV ((u,e)::r) t=oV r t:=by simp only [oV,eq]
   rcases xt (l:=r) (fun p hp=>h p (List.mem_cons_of_mem _ hp)) t with h1|⟨i,d,z,hK⟩
   ·exact .inl (by rw [this];exact h1)
   ·refine .inr ⟨i,d,z,hK.info,hK.und,?_,?_,hK.zero,?_,hK.one,?_,?_,?_,hK.bytes⟩
    all_goals rw [this]
    ·exact hK.desc
    ·exact hK.size
    ·exact hK.cells
    ·exact hK.kz
    ·exact hK.zs
    ·exact hK.ks
theorem Wb {t:Nat} {e:TE} {d:TypeDesc} {cells:List Value} {bytes:Nat} (hi:(Tryz.prog.info? t).map (fun i=>(i.zero.map fun z=>z.cells.toList,i.size,i.bytes))=some (some cells,e.size,bytes)) (hu:Tryz.prog.underlying t=some d) (hd:u_ d e.ti)
  (hc:∀η A w,aK η A w e.zero cells) (h1:∀v∈cells,v.oneCell'=true) (hk:∀k,e.ti= .k k→k.rp.rep k.df cells∧e.size=k.n) (hl:cells.length=e.size) (hb:bytes≤4096):Tu (t,e):=by
 obtain ⟨i,h2,h3⟩:=Option.map_eq_some_iff.1 hi
 simp only [Prod.mk.injEq] at h3
 obtain ⟨h4,h5,h6⟩:=h3
 obtain ⟨z,h7,h8⟩:=Option.map_eq_some_iff.1 h4
 exact ⟨i,d,z,h2,hu,hd,h5,h7,by rw [h8];exact hc,by rw [h8];exact h1,by rw [h8];exact fun k hk'=>(hk k hk').1,by rw [←Array.length_toList,h8,hl],fun k hk'=>(hk k hk').2,by rw [h6];exact hb⟩
theorem eo {t:Nat} {k:Kd} {d:TypeDesc} {v:Value} {bytes:Nat} (hv:k.rp.rep k.df [v]) (hn:k.n=1) (hd:u_ d (.k k)) (hi:(Tryz.prog.info? t).map (fun i=>(i.zero.map fun z=>z.cells.toList,i.size,i.bytes))=some (some [v],1,bytes)) (hu:Tryz.prog.underlying t=some d) (hb:bytes≤4096):Tu (t,⟨.k k,1,[.ob k k.df]⟩):=
 Wb hi hu hd (fun η A w=>⟨[v],[],rfl,hv,rfl⟩) (fun u hu=>k.rp.one _ _ hv u hu) (fun q hq=>by cases hq;exact ⟨hv,hn.symm⟩) rfl hb
theorem gW {t e bytes:Nat} (hi:(Tryz.prog.info? t).map (fun i=>(i.zero.map fun z=>z.cells.toList,i.size,i.bytes))=some (some [.slice none 0 0],1,bytes)) (hu:Tryz.prog.underlying t=some (.slice e)) (hb:bytes≤4096):Tu (t,⟨.sl e,1,[.cv (.slice none 0 0)]⟩):=
 Wb hi hu rfl (fun η A w=>⟨[_],[],rfl,⟨rfl,rfl⟩,rfl⟩) (fun u hu=>by simp at hu;rw [hu];rfl) (fun q hq=>by cases hq) rfl hb
theorem nl {t e bytes:Nat} (hi:(Tryz.prog.info? t).map (fun i=>(i.zero.map fun z=>z.cells.toList,i.size,i.bytes))=some (some [.pointer none],1,bytes)) (hu:Tryz.prog.underlying t=some (.pointer e)) (hb:bytes≤4096):Tu (t,⟨.ptr,1,[.cv (.pointer none)]⟩):=
 Wb hi hu ⟨e,rfl⟩ (fun η A w=>⟨[_],[],rfl,⟨rfl,rfl⟩,rfl⟩) (fun u hu=>by simp at hu;rw [hu];rfl) (fun q hq=>by cases hq) rfl hb
theorem fN {t:Nat} {e:TE} {d:TypeDesc} {cells:List Value} {bytes:Nat} (hi:(Tryz.prog.info? t).map (fun i=>(i.zero.map fun z=>z.cells.toList,i.size,i.bytes))=some (some cells,e.size,bytes)) (hu:Tryz.prog.underlying t=some d) (hd:u_ d e.ti)
  (hc:∀η A w,aK η A w e.zero cells) (hn:nN e.zero=true) (hk:∀k,e.ti≠ .k k) (hl:uH e.zero=e.size) (hb:bytes≤4096):Tu (t,e):=
 Wb hi hu hd hc (j6 hn (hc (fun _=>none) (fun _=>True) default)) (fun k h=>absurd h (hk k)) ((hc (fun _=>none) (fun _=>True) default).len.trans hl) hb
def ah (fn:Func):Code:=match fn.body with |some c=>c|none=> .skip
theorem cP:Tryz.prog.follows .mixedOrders=true:=by kernel_rfl
def xU (x:AV):AV:=match x with
 | .one (.cv (.int .i64 z))=> .one (.ob .int z)
 | .one (.cv (.bool b))=> .one (.ob .bool b)
 |x=>x
def iW:List AV→List AV
 | []=> []
 |x::r=>xU x::iW r
structure GR where
 outs:List AV
 us:List (Nat×Ch)
 pre:Option Prop
abbrev GF:Type:=List AV→Option GR
def oe:List Cl→(List (List UInt8)→R aU)→R aU
 | [],k=>k []
 |x::r,k=>q6 (.one x) fun y=>match y with
  | .one (.ro .u8 l)=>oe r fun q=>k (l::q)
  |_=> .fail
def TN (x:Option Cl):Bool:=match x with |some (.vec _ _ _)=>true|_=>false
def lu:List Cl→(List Cl→R aU)→R aU
 | [],k=>k []
 |x::r,k=>match (match x with | .rw _=>true| .sub _ _ _=>true| .cv (.slice none 0 0)=>true|_=>false) with
  |true=>q6 (.one x) fun y=>match y with
   | .one y=>lu r fun l=>k (y::l)
   |_=> .fail
  |false=>lu r fun l=>k (x::l)
def I9 (a:AV) (k:AV→R aU):R aU:=match a with
 | .agg l=>lu l fun m=>k (.agg m)
 | .one (.sl b o n c)=> .hp b fun h=>match h with
  |some (.blk _ l)=>match TN (Ae l o) with
   |true=>q6 (.one (.sl b o n c)) k
   |false=>match o,Nat.beq l.length n,Nat.ble c 16777216,Nat.ble n c with
    |0,true,true,true=>oe l fun q=>k (.one (.bb q))
    |_,_,_,_=> .fail
  |_=> .fail
 |a=>q6 a k
def tQ:List AV→(List AV→R aU)→R aU
 | [],k=>k []
 |a::r,k=>I9 a fun a=>tQ r fun l=>k (a::l)
def Tq {α:Type} (g:Nat→Nat) (x:Cl) (k:Cl→α):α:=match x with
 | .ptr b o=>iJ (g b) fun b=>k (.ptr b o)
 | .rw b=>iJ (g b) fun b=>k (.rw b)
 | .sl b o m c=>iJ (g b) fun b=>k (.sl b o m c)
 | .sub b o m=>iJ (g b) fun b=>k (.sub b o m)
 |x=>k x
def BX {α:Type} (g:Nat→Nat):List Cl→(List Cl→α)→α
 | [],k=>k []
 |x::r,k=>Tq g x fun x=>BX g r fun r=>k (x::r)
def GU {α:Type} (g:Nat→Nat):List AV→(List AV→α)→α
 | [],k=>k []
 |x::r,k=>match x with
  | .one x=>Tq g x fun x=>GU g r fun r=>k (.one x::r)
  | .agg l=>BX g l fun l=>GU g r fun r=>k (.agg l::r)
def GM {α:Type} (g:Nat→Nat):List (Nat×Ch)→(List (Nat×Option Ch)→α)→α
 | [],k=>k []
 |(b,c)::r,k=>iJ (g b) fun b=>match c with
  | .blk E l=>BX g l fun l=>GM g r fun r=>k ((b,some (.blk E l))::r)
  | .row E q l=>GM g r fun r=>k ((b,some (.row E q l))::r)
theorem LF {α:Type} (n:Nat) (x:Cl) (k:Cl→α):Tq (eL n) x k=k (x.rn n):=by
 cases x<;>first |rfl|(dsimp only [Tq];rw [ck];rfl)
theorem vQ {α:Type} (n:Nat):∀(l:List Cl) (k:List Cl→α),BX (eL n) l k=k (l.map (Cl.rn n))
 | [],_=>rfl
 |x::r,k=>by rw [BX,LF,vQ n r];rfl
theorem Ck {α:Type} (n:Nat):∀(l:List AV) (k:List AV→α),GU (eL n) l k=k (l.map (AV.rn n))
 | [],_=>rfl
 | .one x::r,k=>by rw [GU,LF,Ck n r];rfl
 | .agg l::r,k=>by rw [GU,vQ,Ck n r];rfl
def Js (n:Nat) (l:List (Nat×Ch)):List (Nat×Option Ch):=l.map fun p=>(eL n p.1,some (p.2.rn n))
theorem A5 {α:Type} (n:Nat):∀(l:List (Nat×Ch)) (k:List (Nat×Option Ch)→α),GM (eL n) l k=k (Js n l)
 | [],_=>rfl
 |(b,.blk E l)::r,k=>by rw [GM,ck];simp only [vQ,A5 n r];rfl
 |(b,.row E q l)::r,k=>by rw [GM,ck];simp only [A5 n r];rfl
theorem me {n:Nat} {l:List (Nat×Ch)} (h:gB l=true):Js n l=iY n l:=by
 refine List.map_congr_left fun p hp=> ?_
 have:=mr h p hp
 rw [show eL n p.1=n+p.1 by unfold eL;rw [show cX p.1=true by simpa [cX] using (show p.1<1000 by omega)]]
theorem j5 {nx:Nat} {outs:List AV} {us:List (Nat×Ch)} {p:Option Prop} {sl:Nat→List AV} {H:Nat→Option Ch} {ds:List Bool} {res:aU} {rd:List dZ} {qs:List (Bool×Bool)} (h:(GU (eL nx) outs fun o=>GM (eL nx) us fun u=>R.pure ⟨o,u,p,none⟩:R aU).run sl H ds= .ok res rd qs):res=⟨outs.map (AV.rn nx),Js nx us,p,none⟩:=by
 rw [Ck,A5] at h
 simp only [R.run,RR.ok.injEq] at h
 exact h.1.symm
def ar (G:GF):CF:=fun nx args=>tQ args fun l=>match fI 0 (iW l),Nat.ble 1000 nx with
 |true,true=>match G (iW l) with
  |some ⟨outs,us,p⟩=>GU (eL nx) outs fun o=>GM (eL nx) us fun u=> .pure ⟨o,u,p,none⟩
  |none=> .fail
 |_,_=> .fail
section
variable {ty:Nat→TE} {ct:Nat→Option CF} {H:Nat→Option Ch} {η:bx} {w:World} {nx:Nat} {sl:Nat→List AV} {ds:List Bool} {res:aU} {qs:List (Bool×Bool)}
theorem DT (η:bx) (A:Nat→Prop) (w:World):Lt η A w η (fun _=>True) w:=⟨fun _ _ h=>h,fun _ _ _=>⟨rfl,trivial⟩⟩
theorem lE (hH:dh H η w) {x:AV} {k:AV→R aU} {rd:List dZ} (h:(q6 x k).run sl H ds= .ok res rd qs) {v:Value} (hx:x.H η (ay H η) w v):∃y rd',(k y).run sl H ds= .ok res rd' qs∧y.H η (fun _=>True) w v:=by
 obtain ⟨y,rd1,h1,hy⟩:=nY h hH hx
 refine ⟨y,rd1,h1,?_⟩
 rcases hy with rfl|⟨q,m,rfl,hy⟩
 ·exact hx.later (DT _ _ _)
 ·exact ⟨v,rfl,hy⟩
theorem qv (hH:dh H η w):∀ {l:List Cl} {k:List (List UInt8)→R aU} {rd:List dZ} {cs:List Value},(oe l k).run sl H ds= .ok res rd qs→aK η (ay H η) w l cs→∃q rd',(k q).run sl H ds= .ok res rd' qs∧cs.length=l.length∧q.length=l.length∧∀i (h:i<q.length) (h':i<cs.length),dU (fun _=>True) w .u8 q[i] cs[i]
 | [],k,rd,cs,h,hc=>by cases hc;exact ⟨[],rd,h,rfl,rfl,fun i h=>(by cases h)⟩
 |x::r,k,rd,cs,h,⟨c1,t,e,hx,hr⟩=>by
  unfold oe at h
  have h1:∃v,c1= [v]∧AV.H η (ay H η) w (.one x) v:=by
   cases x
   case ob q z=>cases h
   case vec q n z=>cases h
   case any=>obtain ⟨v,rfl,_⟩:=hx;cases h
   case un=>cases h
   case cv u=>obtain ⟨rfl,h2⟩:=hx;exact ⟨_,rfl,rfl,h2⟩
   case ptr b o=>cases h
   case pix b o i=>cases h
   case pro q z=>cases h
   case sl b o n c=>obtain ⟨hn,g,h2,rfl⟩:=hx;exact ⟨_,rfl,hn,g,h2,rfl⟩
   case rw b=>obtain ⟨v,h2,rfl,h3⟩:=hx;exact ⟨_,rfl,v,h2,rfl,h3⟩
   case sub b lo n=>obtain ⟨v,a,c,h2,rfl,h3⟩:=hx;exact ⟨_,rfl,v,a,c,h2,rfl,h3⟩
   case ro q z=>obtain ⟨v,rfl,h2⟩:=hx;exact ⟨_,rfl,v,rfl,h2⟩
   case bb z=>cases h
   case pbb z=>cases h
   case ln=>cases h
   case mp v f=>cases h
   case rv v l=>obtain ⟨rfl,h2⟩:=hx;exact ⟨_,rfl,rfl,h2⟩
  obtain ⟨v,rfl,hv⟩:=h1
  obtain ⟨y,rd1,h2,hy⟩:=lE hH h hv
  split at h2
  ·rename_i z
   obtain ⟨q,rd2,h3,h4,h5,h6⟩:=qv hH h2 hr
   obtain ⟨v',e',hz⟩:=hy
   cases e'
   refine ⟨z::q,rd2,h3,by rw [e];simp [h4],by simp [h5],fun i hi hi'=> ?_⟩
   subst e
   cases i with
   |zero=>exact hz
   |succ i=>exact h6 i (by simpa using hi) (by simpa using hi')
  ·cases h2
theorem kR (hH:dh H η w):∀ {l:List Cl} {k:List Cl→R aU} {rd:List dZ} {cs:List Value},(lu l k).run sl H ds= .ok res rd qs→aK η (ay H η) w l cs→∃m rd',(k m).run sl H ds= .ok res rd' qs∧aK η (fun _=>True) w m cs
 | [],k,rd,cs,h,hc=>⟨[],rd,h,hc⟩
 |x::r,k,rd,cs,h,⟨c1,t,e,hx,hr⟩=>by
  unfold lu at h
  split at h
  ·rename_i hk
   have h1:∃v,c1= [v]:=by
    split at hk
    ·obtain ⟨v,_,rfl,_⟩:=hx;exact ⟨_,rfl⟩
    ·obtain ⟨v,a,c,_,rfl,_⟩:=hx;exact ⟨_,rfl⟩
    ·exact ⟨_,hx.1⟩
    ·cases hk
   obtain ⟨v,rfl⟩:=h1
   obtain ⟨y,rd1,h2,hy⟩:=lE hH h (show AV.H η (ay H η) w (.one x) v from hx)
   split at h2
   ·rename_i y
    obtain ⟨m,rd2,h3,h4⟩:=kR hH h2 hr
    exact ⟨y::m,rd2,h3,[v],t,e,hy,h4⟩
   ·cases h2
  ·obtain ⟨m,rd2,h3,h4⟩:=kR hH h hr
   exact ⟨x::m,rd2,h3,c1,t,e,hx.later (DT _ _ _),h4⟩
theorem Jf (hH:dh H η w) {x:AV} {k:AV→R aU} {rd:List dZ} (h:(I9 x k).run sl H ds= .ok res rd qs) {v:Value} (hx:x.H η (ay H η) w v):∃y rd',(k y).run sl H ds= .ok res rd' qs∧y.H η (fun _=>True) w v:=by
 unfold I9 at h
 split at h
 ·obtain ⟨cs,rfl,hc,h1c⟩:=hx
  obtain ⟨m,rd2,h3,h4⟩:=kR hH h hc
  exact ⟨_,rd2,h3,cs,rfl,h4,h1c⟩
 ·rename_i b o n c
  obtain ⟨rd',h1⟩:=cg h
  split at h1
  ·rename_i E l hb
   split at h1
   ·exact lE hH h1 hx
   ·split at h1
    ·rename_i e1 e2 e3
     obtain ⟨hnc,g,hg,hv⟩:=hx
     obtain ⟨cs,hB,hc,h1c⟩:=fQ hH hb hg
     obtain ⟨q,rd2,h2,h3,h4,h5⟩:=qv hH h1 hc
     have g1:=aQ ‹Nat.beq l.length n=true›
     have g2:=cZ ‹Nat.ble c 16777216=true›
     have g3:=hB.range (q:=0) (n:=cs.length)
     rw [List.drop_zero,List.take_length] at g3
     refine ⟨_,rd2,h2,some ⟨g,0,none⟩,c,by rw [hv,h4,g1],by omega,?_,fun h=>(by cases h),fun _=>⟨g,0,cs,rfl,trivial,g3,by omega,fun i hi hi'=>h5 i hi hi'⟩⟩
     simp only [maxLen]
     omega
    ·cases h1
  ·cases h1
 ·exact lE hH h hx
theorem eV (hH:dh H η w):∀ {args:List AV} {k:List AV→R aU} {rd:List dZ} {vs:List Value},(tQ args k).run sl H ds= .ok res rd qs→bQ η (ay H η) w args vs→∃l rd',(k l).run sl H ds= .ok res rd' qs∧bQ η (fun _=>True) w l vs
 | [],k,rd,vs,h,hv=>⟨[],rd,h,hv⟩
 |x::r,k,rd,vs,h,⟨v,t,e,hx,hr⟩=>by
  unfold tQ at h
  obtain ⟨y,rd1,h1,hy⟩:=Jf hH h hx
  obtain ⟨l,rd2,h2,hl⟩:=eV hH h1 hr
  exact ⟨_,rd2,h2,v,t,e,hy,hl⟩
theorem IS {A:Nat→Prop} {x:AV} {v:Value} (h:x.H η A w v):(xU x).H η A w v:=by
 unfold xU
 split
 ·exact h.1
 ·exact h.1
 ·exact h
theorem en {A:Nat→Prop}:∀ {l:List AV} {vs:List Value},bQ η A w l vs→bQ η A w (iW l) vs
 | [],_,h=>h
 |_::_,_,⟨v,t,e,hx,hr⟩=>⟨v,t,e,IS hx,en hr⟩
theorem aB (hO : az ty ct) {f : Nat} {fn : Func} {c : Code} {rs : List Nat} (hf : Tryz.prog.funcs[f]? = some fn) (hn : (fn.name == "runtime.NumGoroutine") = false) (hb : fn.body = some c) (hr : nS fn rs) {G : GF}
  (hG:∀l g,G l=some g→bn g.pre→l.length≤fn.ntmps∧g.outs.length=rs.length∧eC g.outs=true∧gB g.us=true∧vc ty ct fn.ntmps c ⟨aq 0 l,[],2000⟩ (eH rs g.outs g.us)):af f (ar G):=by
 refine ⟨⟨fn,c,hf,hn,hb⟩,fun nx args sl H ds res rd qs h hq hp η w vs hH hv hfree=> ?_⟩
 obtain ⟨l,rd1,h1,hl⟩:=eV hH h hv
 split at h1
 ·rename_i e1 e2
  split at h1
  ·rename_i outs us p e3
   have:=j5 h1
   subst this
   obtain ⟨g1,g2,g3,g4,g5⟩:=hG _ _ e3 hp
   rw [me g4]
   exact Oi cP hO hf hb hr e1 g1 g2 g3 g4 g5 (cZ e2) hH hfree (en hl)
  ·cases h1
 ·cases h1
theorem ai (hT : bk ty) (hO : az ty ct) {f : Nat} {fn : Func} {c : Code} {rs : List ResultVar} (hf : Tryz.prog.funcs[f]? = some fn) (hn : (fn.name == "runtime.NumGoroutine") = false) (hb : fn.body = some c) (hr : fn.results = rs.toArray) {G : GF}
  (hG:∀l g,G l=some g→bn g.pre→l.length≤fn.ntmps∧g.outs.length=rs.length∧eC g.outs=true∧gB g.us=true∧vc ty ct fn.ntmps c ⟨aq 0 l,[],2000⟩ (aI ty fn.ntmps rs g.outs g.us)):af f (ar G):=by
 refine ⟨⟨fn,c,hf,hn,hb⟩,fun nx args sl H ds res rd qs h hq hp η w vs hH hv hfree=> ?_⟩
 obtain ⟨l,rd1,h1,hl⟩:=eV hH h hv
 split at h1
 ·rename_i e1 e2
  split at h1
  ·rename_i outs us p e3
   have:=j5 h1
   subst this
   obtain ⟨g1,g2,g3,g4,g5⟩:=hG _ _ e3 hp
   rw [me g4]
   exact tF cP hT hO hf hb hr e1 g1 g2 g3 g4 g5 (cZ e2) hH hfree (en hl)
  ·cases h1
 ·cases h1
end
def ap:List (Nat×CF)→Nat→Option CF
 | [],_=>none
 |(g,C)::r,f=>match Nat.beq g f with |true=>some C|false=>ap r f
theorem br:∀ {l:List (Nat×CF)},(∀p∈l,af p.1 p.2)→∀f C,ap l f=some C→af f C
 | [],_,f,C,h=>by cases h
 |(g,D)::r,hl,f,C,h=>by
  unfold ap at h
  cases e:Nat.beq g f with
  |true=>
   rw [e] at h
   have:=aQ e
   subst this
   cases h
   exact hl (g,D) (by simp)
  |false=>
   rw [e] at h
   exact br (fun p hp=>hl p (List.mem_cons_of_mem _ hp)) f C h
def GS:Nat→TE:=oV [(3,⟨.k .int,1,[.ob .int (Kd.df .int)]⟩),(4,⟨.k .bool,1,[.ob .bool (Kd.df .bool)]⟩),(5,⟨.k .u8,1,[.ob .u8 (Kd.df .u8)]⟩),(9,⟨.k .str,1,[.ob .str (Kd.df .str)]⟩),(30,⟨.sl 5,1,[.cv (.slice none 0 0)]⟩),(91,⟨.sl 30,1,[.cv (.slice none 0 0)]⟩),(111,⟨.k .u64,1,[.ob .u64 (Kd.df .u64)]⟩),(131,⟨.k .u32,1,[.ob .u32 (Kd.df .u32)]⟩),(133,⟨.k .u16,1,[.ob .u16 (Kd.df .u16)]⟩),(186,⟨.arr 80 111,80,[.vec .u64 80 (List.replicate 80 (Kd.df .u64))]⟩),(188,⟨.arr 8 111,8,[.vec .u64 8 (List.replicate 8 (Kd.df .u64))]⟩),(258,⟨.arr 8 131,8,[.vec .u32 8 (List.replicate 8 (Kd.df .u32))]⟩)]
theorem JE:bk GS:=xt fun p hp=>by
 rcases List.mem_cons.1 hp with rfl|hp
 ·exact eo (k:= .int) rfl rfl rfl (by kernel_rfl) Tryz.underlying3 (bytes:=8) (by decide)
 rcases List.mem_cons.1 hp with rfl|hp
 ·exact eo (k:= .bool) rfl rfl rfl (by kernel_rfl) Tryz.underlying4 (bytes:=1) (by decide)
 rcases List.mem_cons.1 hp with rfl|hp
 ·exact eo (k:= .u8) rfl rfl rfl (by kernel_rfl) Tryz.underlying5 (bytes:=1) (by decide)
 rcases List.mem_cons.1 hp with rfl|hp
 ·exact eo (k:= .str) rfl rfl rfl (by kernel_rfl) Tryz.underlying9 (bytes:=16) (by decide)
 rcases List.mem_cons.1 hp with rfl|hp
 ·exact gW (by kernel_rfl) Tryz.underlying30 (bytes:=24) (by decide)
 rcases List.mem_cons.1 hp with rfl|hp
 ·exact gW (by kernel_rfl) Tryz.underlying91 (bytes:=24) (by decide)
 rcases List.mem_cons.1 hp with rfl|hp
 ·exact eo (k:= .u64) rfl rfl rfl (by kernel_rfl) Tryz.underlying111 (bytes:=8) (by decide)
 rcases List.mem_cons.1 hp with rfl|hp
 ·exact eo (k:= .u32) rfl rfl rfl (by kernel_rfl) Tryz.underlying131 (bytes:=4) (by decide)
 rcases List.mem_cons.1 hp with rfl|hp
 ·exact eo (k:= .u16) rfl rfl rfl (by kernel_rfl) Tryz.underlying133 (bytes:=2) (by decide)
 rcases List.mem_cons.1 hp with rfl|hp
 ·exact fN (cells:=List.replicate 80 (.int .u64 0)++([]:List Value)) (bytes:=640) (by kernel_rfl) Tryz.underlying186 rfl (fun η A w=>⟨List.replicate 80 (.int .u64 0),_,rfl,⟨List.length_replicate,ao (k:= .u64) rfl 80⟩,rfl⟩) rfl (fun k h=>by cases h) rfl (by decide)
 rcases List.mem_cons.1 hp with rfl|hp
 ·exact fN (cells:=List.replicate 8 (.int .u64 0)++([]:List Value)) (bytes:=64) (by kernel_rfl) Tryz.underlying188 rfl (fun η A w=>⟨List.replicate 8 (.int .u64 0),_,rfl,⟨List.length_replicate,ao (k:= .u64) rfl 8⟩,rfl⟩) rfl (fun k h=>by cases h) rfl (by decide)
 rcases List.mem_cons.1 hp with rfl|hp
 ·exact fN (cells:=List.replicate 8 (.int .u32 0)++([]:List Value)) (bytes:=32) (by kernel_rfl) Tryz.underlying258 rfl (fun η A w=>⟨List.replicate 8 (.int .u32 0),_,rfl,⟨List.length_replicate,ao (k:= .u32) rfl 8⟩,rfl⟩) rfl (fun k h=>by cases h) rfl (by decide)
 cases hp
def MY:Nat→Option CF:=fun _=>none
theorem yd:az GS MY:=aD JE fun f C h=>by cases h
theorem RE (k:List UInt8) (n:Int) (hn:0≤n∧n≤16777216):vc GS MY Tryz.f143.ntmps (ah Tryz.f143) ⟨aq 0 [.one (.ro .u8 k),.one (.ob .int n)],[],2000⟩ (eH [4] [.one (.rw 0)] [(0,.row 5 .u8 (k.take n.toNat++List.replicate (n.toNat-k.length) 0))]):=by
 refine ⟨⟨hn.1,rfl,hn.2⟩,?_,trivial⟩
 show _=k.take (List.replicate n.toNat (0:UInt8)).length++(List.replicate n.toNat (0:UInt8)).drop k.length
 simp
theorem US (x:UInt32) (n:Int) (hn:0≤n∧n≤32):vc GS MY Tryz.f219.ntmps (ah Tryz.f219) ⟨aq 0 [.one (.ob .u32 x),.one (.ob .int n)],[],2000⟩ (eH [4] [.one (.ob .u32 (mO x n.toNat))] []):=by
 refine ⟨hn.1,⟨by omega,by omega⟩,by omega,?_,trivial⟩
 show [mO x n.toNat]= [PO x n.toNat|||Tv x (32-n).toNat]
 rw [show (32-n).toNat=32-n.toNat by omega];rfl
theorem NN (x:UInt64) (n:Int) (hn:0≤n∧n≤64):vc GS MY Tryz.f140.ntmps (ah Tryz.f140) ⟨aq 0 [.one (.ob .u64 x),.one (.ob .int n)],[],2000⟩ (eH [4] [.one (.ob .u64 (i7 x n.toNat))] []):=by
 refine ⟨hn.1,⟨by omega,by omega⟩,by omega,?_,trivial⟩
 show [i7 x n.toNat]= [iz x n.toNat|||kA x (64-n).toNat]
 rw [show (64-n).toNat=64-n.toNat by omega];rfl
def gb (b:List UInt8):Nat→UInt64
 |0=>0
 |i+1=>if i<b.length then kA (gb b i) 8|||(b.getD i 0).toUInt64 else kA (gb b i) 8
theorem Lz (b:List UInt8) (n:Int) (hn:0≤n∧n≤65536):vc GS MY Tryz.f139.ntmps (ah Tryz.f139) ⟨aq 0 [.one (.ro .u8 b),.one (.ob .int n)],[],2000⟩ (eH [4] [.one (.ob .u64 (gb b n.toNat))] []):=by
 refine Or.inr ⟨{i:Nat // i≤n.toNat},fun i=>⟨[(6,.one (.ob .int (i.val:Int))),(5,.one (.ob .u64 (gb b i.val)))],[]⟩,fun i=>65537-i.val,⟨0,Nat.zero_le _⟩,?_⟩
 refine ⟨rfl,rfl,fun i=>⟨fun h1=> ?_,fun h1=> ?_⟩⟩
 ·have h1:=of_decide_eq_true h1
  have hi:=i.2
  refine fun _=>⟨fun h2=> ?_,fun h2=> ?_⟩
  ·have h2:=of_decide_eq_true h2
   refine ⟨⟨by omega,h2⟩,⟨by omega,by omega⟩,⟨i.val+1,by omega⟩,?_,?_,?_,trivial⟩
   ·show 65537-(i.val+1)<65537-i.val;omega
   ·show [((i.val+1:Nat):Int)]= [(i.val:Int)+1];simp
   ·show [gb b (i.val+1)]= [kA (gb b i.val) 8|||(b.getD i.val 0).toUInt64]
    rw [gb,if_pos (by omega)]
  ·have h2:=of_decide_eq_false h2
   refine ⟨⟨by omega,by omega⟩,⟨i.val+1,by omega⟩,?_,?_,?_,trivial⟩
   ·show 65537-(i.val+1)<65537-i.val;omega
   ·show [((i.val+1:Nat):Int)]= [(i.val:Int)+1];simp
   ·show [gb b (i.val+1)]= [kA (gb b i.val) 8]
    rw [gb,if_neg (by omega)]
 ·have h1:=of_decide_eq_false h1
  have hi:=i.2
  refine ⟨?_,trivial⟩
  show [gb b n.toNat]= [gb b i.val]
  exact congrArg (fun z=> [gb b z]) (show n.toNat=i.val by omega)
def dC (x:UInt64) (n i:Nat):List UInt8:=(List.range n).map fun j=>if n-1-j<i then (iz x (8*(n-1-j))).toUInt8 else 0
theorem iw (x:UInt64) (n i:Nat):(dC x n i).length=n:=by simp [dC]
theorem Q9 (x:UInt64) (n:Nat):dC x n 0=List.replicate n 0:=by
 apply List.ext_getElem (by simp [dC])
 intro j h1 h2
 simp [dC]
theorem G5 (x:UInt64) {n i:Nat} (h:i<n):dC x n (i+1)=(dC x n i).set (n-1-i) (iz x (8*i)).toUInt8:=by
 apply List.ext_getElem (by simp [dC])
 intro j h1 h2
 simp only [iw] at h1
 rw [List.getElem_set]
 simp only [dC,List.getElem_map,List.getElem_range]
 by_cases e:n-1-i=j
 ·rw [if_pos e,if_pos (by omega),show n-1-j=i by omega]
 ·rw [if_neg e]
  by_cases e2:n-1-j<i
  ·rw [if_pos e2,if_pos (by omega)]
  ·rw [if_neg e2,if_neg (by omega)]
theorem IV (x:UInt64) {n i:Nat} (h:n≤i):dC x n n=dC x n i:=by
 apply List.map_congr_left
 intro j hj
 rw [List.mem_range] at hj
 rw [if_pos (by omega),if_pos (by omega)]
theorem TK (x:UInt64) (n:Int) (hn:0≤n∧n≤8):vc GS MY Tryz.f95.ntmps (ah Tryz.f95) ⟨aq 0 [.one (.ob .u64 x),.one (.ob .int n)],[],2000⟩ (eH [4] [.one (.rw 0)] [(0,.row 5 .u8 (dC x n.toNat n.toNat))]):=by
 refine ⟨⟨hn.1,rfl,by show n≤_;omega⟩,?_⟩
 refine Or.inr ⟨Nat,fun i=>⟨[(6,.one (.ob .int (i:Int)))],[(2032,.row 5 .u8 (dC x n.toNat i))]⟩,fun i=>16-i,0,?_⟩
 refine ⟨rfl,Q9 x n.toNat,fun i=>⟨fun h1=> ?_,fun h1=> ?_⟩⟩
 ·have h1:=of_decide_eq_true h1
  have e:(n-1-(i:Int)).toNat=n.toNat-1-i:=by omega
  have e2:(8*(i:Int)).toNat=8*i:=by omega
  have hl:=iw x n.toNat i
  refine ⟨⟨by omega,by omega⟩,⟨by omega,by omega⟩,⟨by omega,by omega⟩,by omega,⟨by omega,by rw [hl];omega⟩,by rw [hl];omega,⟨by omega,by omega⟩,i+1,?_,?_,?_,trivial⟩
  ·show 16-(i+1)<16-i;omega
  ·show [((i+1:Nat):Int)]= [(i:Int)+1];simp
  ·show dC x n.toNat (i+1)=(dC x n.toNat i).set (n-1-(i:Int)).toNat (iz x (8*(i:Int)).toNat).toUInt8
   rw [e,e2]
   exact G5 x (by omega)
 ·have h1:=of_decide_eq_false h1
  refine ⟨?_,trivial⟩
  show dC x n.toNat n.toNat=dC x n.toNat i
  exact IV x (by omega)
theorem GD {l:List (List UInt8)} {i:Nat} (h:i<l.length):(l.take (i+1)).flatten=(l.take i).flatten++l.getD i []:=by
 rw [List.take_add_one,List.flatten_append,List.getD_eq_getElem?_getD,List.getElem?_eq_getElem h];simp
theorem uy (l:List (List UInt8)) (i:Nat):(l.take i).flatten.length≤l.flatten.length:=by
 have:=congrArg (fun q=>q.flatten.length) (List.take_append_drop i l)
 simp only [List.flatten_append,List.length_append] at this
 omega
theorem VG (l:List (List UInt8)) (hl:l.length≤1000∧l.flatten.length≤16777216):vc GS MY Tryz.f90.ntmps (ah Tryz.f90) ⟨aq 0 [.one (.bb l)],[],2000⟩ (eH [2] [.one (.rw 0)] [(0,.row 5 .u8 l.flatten)]):=by
 refine Or.inr ⟨Nat,fun i=>⟨[(4,.one (.ob .int (i:Int))),(3,.one (.rw 0))],[(0,.row 5 .u8 (l.take i).flatten)]⟩,fun i=>2000-i,0,?_⟩
 refine ⟨rfl,rfl,fun i _=>⟨fun h1=> ?_,fun h1=> ?_⟩⟩
 ·have h1:=of_decide_eq_true h1
  have h2:i<l.length:=by omega
  have e:=GD h2
  refine ⟨⟨by omega,h1⟩,?_,⟨by omega,by omega⟩,i+1,?_,?_,?_,trivial⟩
  ·show ((l.take i).flatten++l.getD i []).length≤_
   rw [←e]
   exact Nat.le_trans (uy l _) hl.2
  ·show 2000-(i+1)<2000-i;omega
  ·show [((i+1:Nat):Int)]= [(i:Int)+1];simp
  ·exact e
 ·have h1:=of_decide_eq_false h1
  refine ⟨?_,trivial⟩
  show l.flatten=(l.take i).flatten
  rw [List.take_of_length_le (by omega)]
abbrev Dj (lo n hi:Int):Prop:=lo≤n∧n≤hi
def Jx:GF:=fun l=>match l with
 | [.one (.ob .u64 x),.one (.ob .int n)]=>some ⟨[.one (.rw 0)],[(0,.row 5 .u8 (dC x n.toNat n.toNat))],some (Dj 0 n 8)⟩
 |_=>none
theorem m0:af 95 (ar Jx):=aB yd Tryz.func95 (by kernel_rfl) rfl (rs:= [4]) Tryz.results95 fun l g h hp=>by
 unfold Jx at h
 split at h
 ·cases h;exact ⟨Nat.le_of_ble_eq_true rfl,rfl,rfl,rfl,TK _ _ hp⟩
 ·cases h
def Iq:GF:=fun l=>match l with
 | [.one (.bb l)]=>some ⟨[.one (.rw 0)],[(0,.row 5 .u8 l.flatten)],some (l.length≤1000∧l.flatten.length≤16777216)⟩
 |_=>none
theorem nd:af 90 (ar Iq):=aB yd Tryz.func90 (by kernel_rfl) rfl (rs:= [2]) Tryz.results90 fun l g h hp=>by
 unfold Iq at h
 split at h
 ·cases h;exact ⟨Nat.le_of_ble_eq_true rfl,rfl,rfl,rfl,VG _ hp⟩
 ·cases h
def D5:GF:=fun l=>match l with
 | [.one (.ro .u8 k),.one (.ob .int n)]=>some ⟨[.one (.rw 0)],[(0,.row 5 .u8 (k.take n.toNat++List.replicate (n.toNat-k.length) 0))],some (Dj 0 n 16777216)⟩
 |_=>none
theorem oK:af 143 (ar D5):=aB yd Tryz.func143 (by kernel_rfl) rfl (rs:= [4]) Tryz.results143 fun l g h hp=>by
 unfold D5 at h
 split at h
 ·cases h;exact ⟨Nat.le_of_ble_eq_true rfl,rfl,rfl,rfl,RE _ _ hp⟩
 ·cases h
def Pl:GF:=fun l=>match l with
 | [.one (.ob .u32 x),.one (.ob .int n)]=>some ⟨[.one (.ob .u32 (mO x n.toNat))],[],some (Dj 0 n 32)⟩
 |_=>none
theorem sw:af 219 (ar Pl):=aB yd Tryz.func219 (by kernel_rfl) rfl (rs:= [4]) Tryz.results219 fun l g h hp=>by
 unfold Pl at h
 split at h
 ·cases h;exact ⟨Nat.le_of_ble_eq_true rfl,rfl,rfl,rfl,US _ _ hp⟩
 ·cases h
def tM:GF:=fun l=>match l with
 | [.one (.ob .u64 x),.one (.ob .int n)]=>some ⟨[.one (.ob .u64 (i7 x n.toNat))],[],some (Dj 0 n 64)⟩
 |_=>none
theorem nF:af 140 (ar tM):=aB yd Tryz.func140 (by kernel_rfl) rfl (rs:= [4]) Tryz.results140 fun l g h hp=>by
 unfold tM at h
 split at h
 ·cases h;exact ⟨Nat.le_of_ble_eq_true rfl,rfl,rfl,rfl,NN _ _ hp⟩
 ·cases h
def nQ:GF:=fun l=>match l with
 | [.one (.ro .u8 b),.one (.ob .int n)]=>some ⟨[.one (.ob .u64 (gb b n.toNat))],[],some (Dj 0 n 65536)⟩
 |_=>none
theorem lz:af 139 (ar nQ):=aB yd Tryz.func139 (by kernel_rfl) rfl (rs:= [4]) Tryz.results139 fun l g h hp=>by
 unfold nQ at h
 split at h
 ·cases h;exact ⟨Nat.le_of_ble_eq_true rfl,rfl,rfl,rfl,Lz _ _ hp⟩
 ·cases h
end Go.Proofs.YtknlbpjcjdenbaaGreat
namespace Go.Proofs.YtknlbpjcjdenbaaGreat
def zR:List UInt64:= [4794697086780616226,8158064640168781261,13096744586834688815,16840607885511220156,4131703408338449720,6480981068601479193,10538285296894168987,12329834152419229976,15566598209576043074,1334009975649890238,2608012711638119052,6128411473006802146,8268148722764581231,9286055187155687089,11230858885718282805,13951009754708518548,16472876342353939154,17275323862435702243,1135362057144423861,2597628984639134821,3308224258029322869,5365058923640841347,6679025012923562964,8573033837759648693,10970295158949994411,12119686244451234320,12683024718118986047,13788192230050041572,14330467153632333762,15395433587784984357,489312712824947311,1452737877330783856,2861767655752347644,3322285676063803686,5560940570517711597,5996557281743188959,7280758554555802590,8532644243296465576,9350256976987008742,10552545826968843579,11727347734174303076,12113106623233404929,14000437183269869457,14369950271660146224,15101387698204529176,15463397548674623760,17586052441742319658,1182934255886127544,1847814050463011016,2177327727835720531,2830643537854262169,3796741975233480872,4115178125766777443,5681478168544905931,6601373596472566643,7507060721942968483,8399075790359081724,8693463985226723168,9568029438360202098,10144078919501101548,10430055236837252648,11840083180663258601,13761210420658862357,14299343276471374635,14566680578165727644,15097957966210449927,16922976911328602910,17689382322260857208,500013540394364858,748580250866718886,1242879168328830382,1977374033974150939,2944078676154940804,3659926193048069267,4368137639120453308,4836135668995329356,5532061633213252278,6448918945643986474,6902733635092675308,7801388544844847127]
def BD:List UInt64:= [7640891576956012808,13503953896175478587,4354685564936845355,11912009170470909681,5840696475078001361,11170449401992604703,2270897969802886507,6620516959819538809]
theorem Ir:zR.length=80:=by decide +kernel
def cD (l:List UInt64) (i:Nat):UInt64:=l.getD i 0
def Yp (x:UInt64):UInt64:=ux (ux (i7 x 1) (i7 x 8)) (iz x 7)
def Yd (x:UInt64):UInt64:=ux (ux (i7 x 19) (i7 x 61)) (iz x 6)
def YQ (x:UInt64):UInt64:=ux (ux (i7 x 28) (i7 x 34)) (i7 x 39)
def Yl (x:UInt64):UInt64:=ux (ux (i7 x 14) (i7 x 18)) (i7 x 41)
def Yj (e f g:UInt64):UInt64:=ux (ua e f) (ua (un e) g)
def Yv (a b c:UInt64):UInt64:=ux (ux (ua a b) (ua a c)) (ua b c)
def Hu (l:List UInt64) (t:Nat):UInt64:=up (up (up (cD l (t-16)) (Yp (cD l (t-15)))) (cD l (t-7))) (Yd (cD l (t-2)))
def wL (b:List UInt64):Nat→List UInt64
 |0=> []
 |t+1=>wL b t++ [if t<16 then cD b t else Hu (wL b t) t]
theorem mR (b:List UInt64):∀t,(wL b t).length=t
 |0=>rfl
 |t+1=>by rw [wL,List.length_append,mR b t];rfl
def Ys (v:List UInt64) (k w:UInt64):List UInt64:=
 [up (up (up (up (up (cD v 7) (Yl (cD v 4))) (Yj (cD v 4) (cD v 5) (cD v 6))) k) w) (up (YQ (cD v 0)) (Yv (cD v 0) (cD v 1) (cD v 2))),cD v 0,cD v 1,cD v 2,up (cD v 3) (up (up (up (up (cD v 7) (Yl (cD v 4))) (Yj (cD v 4) (cD v 5) (cD v 6))) k) w),cD v 4,cD v 5,cD v 6]
def rL (h w:List UInt64):Nat→List UInt64
 |0=>h
 |t+1=>Ys (rL h w t) (cD zR t) (cD w t)
def turn (h b:List UInt64):List UInt64:=(List.range 8).map fun i=>up (cD h i) (cD (rL h (wL b 80) 80) i)
theorem JA (h b:List UInt64):(turn h b).length=8:=by simp [turn]
def ou (x:UInt64):List UInt8:=(bq 8 x.toNat).reverse
def Va (l:List UInt8):UInt64:=UInt64.ofNat (bm l.reverse)
def ie (l:List UInt8):List UInt64:=(List.range 16).map fun i=>Va ((l.drop (8*i)).take 8)
def bZ (l:List UInt8):List UInt8:=l++(128::List.replicate ((240-(l.length+1)%128)%128) 0)++List.replicate 8 0++ou (UInt64.ofNat (8*l.length))
def ww (m:List UInt8):Nat→List UInt64
 |0=>BD
 |i+1=>turn (ww m i) (ie (m.drop (128*i)))
theorem Dn (m:List UInt8):∀i,(ww m i).length=8
 |0=>rfl
 |_+1=>JA _ _
def bh (l:List UInt8):List UInt8:=((List.range 8).map fun i=>ou (cD (ww (bZ l) ((bZ l).length/128)) i)).flatten
def fB (l:List UInt32) (i:Nat):UInt32:=l.getD i 0
def Wh:List UInt32:=(zR.take 64).map kL
def Yk:List UInt32:=BD.map kL
def V4 (x:UInt32):UInt32:=vx (vx (mO x 7) (mO x 18)) (PO x 3)
def Vw (x:UInt32):UInt32:=vx (vx (mO x 17) (mO x 19)) (PO x 10)
def WT (x:UInt32):UInt32:=vx (vx (mO x 2) (mO x 13)) (mO x 22)
def Xq (x:UInt32):UInt32:=vx (vx (mO x 6) (mO x 11)) (mO x 25)
def YM (e f g:UInt32):UInt32:=vx (va e f) (va (vn e) g)
def YR (a b c:UInt32):UInt32:=vx (vx (va a b) (va a c)) (va b c)
def XZ (l:List UInt32) (t:Nat):UInt32:=vp (vp (vp (fB l (t-16)) (V4 (fB l (t-15)))) (fB l (t-7))) (Vw (fB l (t-2)))
def xj (b:List UInt32):Nat→List UInt32
 |0=> []
 |t+1=>xj b t++ [if t<16 then fB b t else XZ (xj b t) t]
theorem l_ (b:List UInt32):∀t,(xj b t).length=t
 |0=>rfl
 |t+1=>by rw [xj,List.length_append,l_ b t];rfl
theorem Ns {l r:List UInt32} {j:Nat} (h:j<l.length):fB (l++r) j=fB l j:=by
 unfold fB
 rw [List.getD_eq_getElem?_getD,List.getD_eq_getElem?_getD,List.getElem?_append_left h]
theorem mh (b:List UInt32) {j:Nat}:∀ {t:Nat},j<t→fB (xj b t) j=if j<16 then fB b j else XZ (xj b j) j
 |0,h=>by omega
 |t+1,h=>by
  rw [xj]
  by_cases hj:j<t
  ·rw [Ns (by rw [l_];exact hj),mh b hj]
  ·obtain rfl:j=t:=by omega
   unfold fB
   rw [List.getD_eq_getElem?_getD,List.getElem?_append_right (by rw [l_];omega),l_,Nat.sub_self]
   rfl
theorem S8 (b:List UInt32) {j:Nat} (h:j<16):fB (xj b 64) j=fB b j:=by rw [mh b (by omega),if_pos h]
theorem SX (b:List UInt32) {j t:Nat} (h:j<t) (ht:t≤64):fB (xj b t) j=fB (xj b 64) j:=by rw [mh b h,mh b (Nat.lt_of_lt_of_le h ht)]
theorem Tk (b:List UInt32) {j:Nat} (h:16≤j) (h2:j<64):fB (xj b 64) j=vp (vp (vp (fB (xj b 64) (j-16)) (V4 (fB (xj b 64) (j-15)))) (fB (xj b 64) (j-7))) (Vw (fB (xj b 64) (j-2))):=by
 rw [mh b h2,if_neg (by omega)]
 unfold XZ
 have k:=fun m (h1:0<m)=>SX b (j:=j-m) (t:=j) (by omega) (by omega)
 rw [k 16 (by omega),k 15 (by omega),k 7 (by omega),k 2 (by omega)]
def Yg (v:List UInt32) (k w:UInt32):UInt32:=vp (vp (vp (vp (fB v 7) (Xq (fB v 4))) (YM (fB v 4) (fB v 5) (fB v 6))) k) w
def XT (v:List UInt32):UInt32:=vp (WT (fB v 0)) (YR (fB v 0) (fB v 1) (fB v 2))
def UD (v:List UInt32) (k w:UInt32):List UInt32:= [vp (Yg v k w) (XT v),fB v 0,fB v 1,fB v 2,vp (fB v 3) (Yg v k w),fB v 4,fB v 5,fB v 6]
def VI (h w:List UInt32):Nat→List UInt32
 |0=>h
 |t+1=>UD (VI h w t) (fB Wh t) (fB w t)
def Jl (h b:List UInt32):List UInt32:=(List.range 8).map fun i=>vp (fB h i) (fB (VI h (xj b 64) 64) i)
theorem F5 (h b:List UInt32):(Jl h b).length=8:=by simp [Jl]
def Tt (x:UInt32):List UInt8:=(bq 4 x.toNat).reverse
def Xs (l:List UInt8):UInt32:=UInt32.ofNat (bm l.reverse)
def zM (l:List UInt8):List UInt32:=(List.range 16).map fun i=>Xs ((l.drop (4*i)).take 4)
def eP (l:List UInt8):List UInt8:=l++(128::List.replicate ((119-l.length%64)%64) 0)++ou (UInt64.ofNat (8*l.length))
def Ak (m:List UInt8):Nat→List UInt32
 |0=>Yk
 |i+1=>Jl (Ak m i) (zM (m.drop (64*i)))
theorem M6 (m:List UInt8):∀i,(Ak m i).length=8
 |0=>rfl
 |_+1=>F5 _ _
def fW (l:List UInt8):List UInt8:=((List.range 8).map fun i=>Tt (fB (Ak (eP l) ((eP l).length/64)) i)).flatten
theorem Lm (x:UInt64):(ou x).length=8:=by unfold ou;rw [List.length_reverse,au]
theorem MD (x:UInt32):(Tt x).length=4:=by unfold Tt;rw [List.length_reverse,au]
theorem G1 (l:List UInt8):(eP l).length=l.length+1+(119-l.length%64)%64+8:=by
 unfold eP
 rw [List.length_append,List.length_append,Lm,List.length_cons,List.length_replicate];omega
def JJ (k:List UInt8):List UInt8:=(if 64<k.length then fW k else k)
def gt (n:Nat) (l:List UInt8):List UInt8:=l++List.replicate (n-l.length) 0
def pD (k m:List UInt8):List UInt8:=fW ((gt 64 (JJ k)).map (· ^^^0x5c)++fW ((gt 64 (JJ k)).map (· ^^^0x36)++m))
def Hr (prk info:List UInt8):Nat→List UInt8
 |0=> []
 |i+1=>pD prk (Hr prk info i++info++ [UInt8.ofNat (i+1)])
def GA (prk info:List UInt8):Nat→List UInt8
 |0=> []
 |i+1=>GA prk info i++Hr prk info (i+1)
end Go.Proofs.YtknlbpjcjdenbaaGreat
