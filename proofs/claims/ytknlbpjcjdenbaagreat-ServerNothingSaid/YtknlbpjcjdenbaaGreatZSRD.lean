/- What SR rests on, part 4 of 6: my own texts, put together (merge.py). -/
import Derived.Test.YtknlbpjcjdenbaaGreatRows
import Derived.WalkKit
import Derived.ProofKit
import Derived.Lib.Hide
import Derived.OpenShut
import Derived.WalkSpells
import Derived.StillTactics
import Derived.Laws.Pointers
import Derived.Laws.CopyOwn
import Derived.Laws.AppendOwnNone
import Derived.Deep.RegionHeld3
import Derived.RowKit3
import Derived.BigQuiet
import Derived.Deep.QuietTactic
import Derived.Deep.LoopGhost
import Derived.Deep.DeepFit
import Derived.WalkLawsBesides
import Derived.Shelf.Spec.BitsCarry
import Derived.Maps.RangeWalk
import Derived.Deep.MidRow
import Derived.Laws.IdiomStrings
import Derived.Great.BuildSlice
import Derived.Lib.AppendZerosOnto
import Derived.Deep.DeepCutAuto
import Derived.Lib.SliceRun
import Derived.Laws.ResultCell
import Derived.Laws.CopyRow
import Derived.Deep.Cut
import Derived.Deep.RegionLaw
import Derived.Laws.Tables
import Derived.StillTailTactics
import Derived.Shelf.SlIter.Nil
import Derived.Shelf.SlLaysM
import Derived.Shelf.SortM.Plain
import Derived.Shelf.SortM.SortNone
import Derived.ShutString
import Derived.ChangeOld
import Derived.ChangeMaps5
import Derived.Test.YtknlbpjcjdenbaaGreatZSRC
set_option maxRecDepth 100000
namespace Go.Proofs.YtknlbpjcjdenbaaGreat
open Go Go.RowKit
set_option maxRecDepth 10000
structure Q3 where
 x:F
 y:F
 z:F
def yV:Q3:=⟨0,fn 1,fn 1⟩
def tB (d:F) (a b:Q3):Q3:=
 let z:=aO a.z b.z
 let zz:=aO z z
 let x:=aO a.x b.x
 let y:=aO a.y b.y
 let e:=aO d (aO x y)
 let f:=nM zz e
 let g:=mX zz e
 let h:=mX (aO a.x b.y) (aO b.x a.y)
 ⟨aO (aO z f) h,aO (aO z g) (mX y x),aO f g⟩
def gO (d:F) (a:Q3) (n:Nat):Nat→Q3
 |0=>yV
 |j+1=>if tY n (255-(j:Int))=1 then tB d (tB d (gO d a n j) (gO d a n j)) a else tB d (gO d a n j) (gO d a n j)
@[reducible] def Q3.av (q:Q3):AV:= .agg [.ob (.x 1) q.x,.ob (.x 1) q.y,.ob (.x 1) q.z]
theorem NL:vc gp (ap Qh) Tryz.f144.ntmps (ah Tryz.f144) ⟨aq 0 [],[],2000⟩ (aI gp Tryz.f144.ntmps [.cell 0 143] [.agg [.ob (.x 1) dE]] []):=by
 refine ⟨⟨rfl,?_⟩,trivial⟩
 show [dE]= [aO (lM (fn 121665)) (aY (fn 121666))]
 have h1:=PP
 have h2:fn 121666*aY (fn 121666)=1:=dn (by decide +kernel)
 have h3:(fn 121665+1:F)=fn 121666:=by decide +kernel
 rw [h3] at h1
 unfold aO lM
 rw [←h1]
 generalize aY (fn 121666)=i at h2 ⊢
 generalize (fn 121666:F)=w at h2 ⊢
 generalize dE=d
 refine congrArg (fun z=> [z]) ?_
 grind
theorem Ph:vc gp (ap Qh) Tryz.f145.ntmps (ah Tryz.f145) ⟨aq 0 [],[],2000⟩ (aI gp Tryz.f145.ntmps [.cell 0 145] [yV.av] []):=⟨⟨rfl,rfl⟩,⟨rfl,rfl⟩,⟨rfl,rfl⟩,trivial⟩
theorem Ti (a b:Q3) (d:F):vc gp (ap Qh) Tryz.f146.ntmps (ah Tryz.f146) ⟨aq 0 [a.av,b.av,.agg [.ob (.x 1) d]],[],2000⟩ (aI gp Tryz.f146.ntmps [.cell 6 145] [(tB d a b).av] []):=⟨⟨rfl,rfl⟩,⟨rfl,rfl⟩,⟨rfl,rfl⟩,trivial⟩
def Aw:GF:=fun l=>match l with
 | []=>some ⟨[.agg [.ob (.x 1) dE]],[],none⟩
 |_=>none
theorem wD:af 144 (ar Aw):=ai dc Ip Tryz.func144 (by kernel_rfl) rfl (rs:= [.cell 0 143]) Tryz.results144 fun l g h hp=>by
 unfold Aw at h
 split at h
 ·cases h;exact ⟨Nat.le_of_ble_eq_true rfl,rfl,rfl,rfl,NL⟩
 ·cases h
def BW:GF:=fun l=>match l with
 | []=>some ⟨[yV.av],[],none⟩
 |_=>none
theorem wT:af 145 (ar BW):=ai dc Ip Tryz.func145 (by kernel_rfl) rfl (rs:= [.cell 0 145]) Tryz.results145 fun l g h hp=>by
 unfold BW at h
 split at h
 ·cases h;exact ⟨Nat.le_of_ble_eq_true rfl,rfl,rfl,rfl,Ph⟩
 ·cases h
def JB:GF:=fun l=>match l with
 | [.agg [.ob (.x 1) x,.ob (.x 1) y,.ob (.x 1) z],.agg [.ob (.x 1) u,.ob (.x 1) v,.ob (.x 1) w],.agg [.ob (.x 1) d]]=>some ⟨[(tB d ⟨x,y,z⟩ ⟨u,v,w⟩).av],[],none⟩
 |_=>none
theorem B4:af 146 (ar JB):=ai dc Ip Tryz.func146 (by kernel_rfl) rfl (rs:= [.cell 6 145]) Tryz.results146 fun l g h hp=>by
 unfold JB at h
 split at h
 ·cases h;exact ⟨Nat.le_of_ble_eq_true rfl,rfl,rfl,rfl,Ti ⟨_,_,_⟩ ⟨_,_,_⟩ _⟩
 ·cases h
def UT:List (Nat×CF):=(144,ar Aw)::(145,ar BW)::(146,ar JB)::Qh
theorem Pp:∀p∈UT,af p.1 p.2:=ag wD<|ag wT<|ag B4 Pn
theorem Ua:az gp (ap UT):=aD dc (br Pp)
theorem Se (a:Q3) (n:Nat):vc gp (ap UT) Tryz.f88.ntmps (ah Tryz.f88) ⟨aq 0 [a.av,.agg [.ob (.x 3) n]],[],2000⟩ (aI gp Tryz.f88.ntmps [.cell 4 145] [(gO dE a n 256).av] []):=by
 refine Or.inr ⟨{j:Nat // j≤256},fun j=>⟨[(7,.one (.ob .int (255-(j.val:Int))))],[(2112,.blk 145 [.ob (.x 1) (gO dE a n j.val).x,.ob (.x 1) (gO dE a n j.val).y,.ob (.x 1) (gO dE a n j.val).z])]⟩,fun j=>256-j.val,⟨0,by omega⟩,?_⟩
 refine ⟨rfl,⟨rfl,rfl⟩,⟨rfl,rfl⟩,⟨rfl,rfl⟩,fun j=>⟨fun h2=> ?_,fun h2=> ?_⟩⟩
 ·have h2:=of_decide_eq_true h2
  have hj:=j.2
  refine ⟨fun h3=> ?_,fun h3=> ?_⟩
  ·have h3:=of_decide_eq_true h3
   refine sd<|sj ⟨j.val+1,by omega⟩ ?_
   have e:gO dE a n (j.val+1)=tB dE (tB dE (gO dE a n j.val) (gO dE a n j.val)) a:=by rw [gO,if_pos h3]
   exact sr (hp:=congrArg (fun z:Int=> [z]) (show (255:Int)-((j.val+1:Nat):Int)=255-(j.val:Int)-1 by omega)) ⟨⟨rfl,congrArg (fun q:Q3=> [q.x]) e⟩,⟨rfl,congrArg (fun q:Q3=> [q.y]) e⟩,⟨rfl,congrArg (fun q:Q3=> [q.z]) e⟩,trivial⟩
  ·have h3:=of_decide_eq_false h3
   refine sd<|sj ⟨j.val+1,by omega⟩ ?_
   have e:gO dE a n (j.val+1)=tB dE (gO dE a n j.val) (gO dE a n j.val):=by rw [gO,if_neg h3]
   exact sr (hp:=congrArg (fun z:Int=> [z]) (show (255:Int)-((j.val+1:Nat):Int)=255-(j.val:Int)-1 by omega)) ⟨⟨rfl,congrArg (fun q:Q3=> [q.x]) e⟩,⟨rfl,congrArg (fun q:Q3=> [q.y]) e⟩,⟨rfl,congrArg (fun q:Q3=> [q.z]) e⟩,trivial⟩
 ·have h2:=of_decide_eq_false h2
  have hj:=j.2
  rw [show j.val=256 by omega]
  exact ⟨⟨rfl,rfl⟩,⟨rfl,rfl⟩,⟨rfl,rfl⟩,trivial⟩
def KW:GF:=fun l=>match l with
 | [.agg [.ob (.x 1) x,.ob (.x 1) y,.ob (.x 1) z],.agg [.ob (.x 3) n]]=>some ⟨[(gO dE ⟨x,y,z⟩ n 256).av],[],none⟩
 |_=>none
theorem Cg:af 88 (ar KW):=ai dc Ua Tryz.func88 (by kernel_rfl) rfl (rs:= [.cell 4 145]) Tryz.results88 fun l g h hp=>by
 unfold KW at h
 split at h
 ·cases h;exact ⟨Nat.le_of_ble_eq_true rfl,rfl,rfl,rfl,Se ⟨_,_,_⟩ _⟩
 ·cases h
def rh (x y:F):List UInt8:=if x.val%2=1 then (bq 32 y.val).set 31 ((bq 32 y.val).getD 31 0|||128) else bq 32 y.val
theorem Tl (x y:F):rh x y=(bq 32 y.val).set 31 ((bq 32 y.val).getD 31 0|||s8 (UInt64.ofNat (bG x.val 0)&&&UInt64.ofNat 1).toUInt8 7):=by
 have h:=di x.val 0
 have e:(UInt64.ofNat (bG x.val 0)&&&UInt64.ofNat 1).toUInt8=UInt8.ofNat (x.val%2):=by
  refine UInt8.toNat_inj.1 ?_
  rw [UInt64.toNat_toUInt8,UInt64.toNat_and,kq (by omega),kq (by omega),show (1:Nat)=2^1-1 from rfl,Nat.and_two_pow_sub_one_eq_mod,UInt8.toNat_ofNat']
  have:=D1 x
  omega
 rw [e]
 unfold rh
 split
 ·rename_i h1
  rw [h1]
  rfl
 ·rename_i h1
  rw [show x.val%2=0 by omega,show s8 (UInt8.ofNat 0) 7=0 from rfl,UInt8.or_zero]
  apply List.ext_getElem (by simp)
  intro i h2 h3
  rw [List.getElem_set]
  split
  ·rename_i h4
   subst h4
   rw [List.getD_eq_getElem?_getD,List.getElem?_eq_getElem h2]
   rfl
  ·rfl
theorem St (a:Q3):vc gp (ap UT) Tryz.f89.ntmps (ah Tryz.f89) ⟨aq 0 [a.av],[],2000⟩ (aI gp Tryz.f89.ntmps [.tmp 2] [.one (.rw 0)] [(0,.row 5 .u8 (rh (aO a.x (aY a.z)) (aO a.y (aY a.z))))]):=by
 have hl:31<(bq 32 (aO a.y (aY a.z)).val).length:=by rw [au];omega
 exact ⟨hl,hl,hl,hl,Tl _ _,trivial⟩
def JH:GF:=fun l=>match l with
 | [.agg [.ob (.x 1) x,.ob (.x 1) y,.ob (.x 1) z]]=>some ⟨[.one (.rw 0)],[(0,.row 5 .u8 (rh (aO x (aY z)) (aO y (aY z))))],none⟩
 |_=>none
theorem AT:af 89 (ar JH):=ai dc Ua Tryz.func89 (by kernel_rfl) rfl (rs:= [.tmp 2]) Tryz.results89 fun l g h hp=>by
 unfold JH at h
 split at h
 ·cases h;exact ⟨Nat.le_of_ble_eq_true rfl,rfl,rfl,rfl,St ⟨_,_,_⟩⟩
 ·cases h
def Wg:List (Nat×CF):=(155,ar pJ)::(156,ar Be)::UT
theorem Qz:∀p∈Wg,af p.1 p.2:=ag qW<|ag xb Pp
theorem WF:az gp (ap Wg):=aD dc (br Qz)
def qZ (b:List UInt8):Q3:=⟨(dV b).x,(dV b).y,fn 1⟩
def Rr:Nat→TE:=oV [(3,⟨.k .int,1,[.ob .int (Kd.df .int)]⟩),(4,⟨.k .bool,1,[.ob .bool (Kd.df .bool)]⟩),(5,⟨.k .u8,1,[.ob .u8 (Kd.df .u8)]⟩),(9,⟨.k .str,1,[.ob .str (Kd.df .str)]⟩),(23,⟨.ptr,1,[.cv (.pointer none)]⟩),(25,⟨.sl 3,1,[.cv (.slice none 0 0)]⟩),(27,⟨.st [(0,3),(1,9),(2,3),(3,3),(4,25),(5,3)],6,[.ob .int (Kd.df .int),.ob .str (Kd.df .str),.ob .int (Kd.df .int),.ob .int (Kd.df .int),.cv (.slice none 0 0),.ob .int (Kd.df .int)]⟩),(28,⟨.k .int,1,[.ob .int (Kd.df .int)]⟩),(30,⟨.sl 5,1,[.cv (.slice none 0 0)]⟩),(32,⟨.st [(0,30),(1,30),(2,30),(3,30),(4,3),(5,30),(6,3),(7,30),(8,30),(9,4),(10,3)],11,[.cv (.slice none 0 0),.cv (.slice none 0 0),.cv (.slice none 0 0),.cv (.slice none 0 0),.ob .int (Kd.df .int),.cv (.slice none 0 0),.ob .int (Kd.df .int),.cv (.slice none 0 0),.cv (.slice none 0 0),.ob .bool (Kd.df .bool),.ob .int (Kd.df .int)]⟩),(44,⟨.ptr,1,[.cv (.pointer none)]⟩),(45,⟨.sl 84,1,[.cv (.slice none 0 0)]⟩),(47,⟨.st [(0,45)],1,[.cv (.slice none 0 0)]⟩),(49,⟨.sl 32,1,[.cv (.slice none 0 0)]⟩),(64,⟨.ptr,1,[.cv (.pointer none)]⟩),(72,⟨.ptr,1,[.cv (.pointer none)]⟩),(84,⟨.st [(0,9),(1,32),(12,49),(13,25),(14,25)],15,[.ob .str (Kd.df .str),.cv (.slice none 0 0),.cv (.slice none 0 0),.cv (.slice none 0 0),.cv (.slice none 0 0),.ob .int (Kd.df .int),.cv (.slice none 0 0),.ob .int (Kd.df .int),.cv (.slice none 0 0),.cv (.slice none 0 0),.ob .bool (Kd.df .bool),.ob .int (Kd.df .int),.cv (.slice none 0 0),.cv (.slice none 0 0),.cv (.slice none 0 0)]⟩),(91,⟨.sl 30,1,[.cv (.slice none 0 0)]⟩),(94,⟨.ptr,1,[.cv (.pointer none)]⟩),(95,⟨.sl 94,1,[.cv (.slice none 0 0)]⟩),(99,⟨.st [(0,30),(1,3),(2,25),(3,25)],4,[.cv (.slice none 0 0),.ob .int (Kd.df .int),.cv (.slice none 0 0),.cv (.slice none 0 0)]⟩),(111,⟨.k .u64,1,[.ob .u64 (Kd.df .u64)]⟩),(112,⟨.arr 5 111,5,[.vec .u64 5 (List.replicate 5 (Kd.df .u64))]⟩),(114,⟨.st [(0,112)],5,[.vec .u64 5 (List.replicate 5 (Kd.df .u64))]⟩),(116,⟨.st [(0,114),(5,114),(10,114),(15,114)],20,[.vec .u64 5 (List.replicate 5 (Kd.df .u64)),.vec .u64 5 (List.replicate 5 (Kd.df .u64)),.vec .u64 5 (List.replicate 5 (Kd.df .u64)),.vec .u64 5 (List.replicate 5 (Kd.df .u64))]⟩),(119,⟨.arr 4 111,4,[.vec .u64 4 (List.replicate 4 (Kd.df .u64))]⟩),(121,⟨.st [(0,119)],4,[.vec .u64 4 (List.replicate 4 (Kd.df .u64))]⟩),(131,⟨.k .u32,1,[.ob .u32 (Kd.df .u32)]⟩),(133,⟨.k .u16,1,[.ob .u16 (Kd.df .u16)]⟩),(134,⟨.arr 256 133,256,[.vec .u16 256 (List.replicate 256 (Kd.df .u16))]⟩),(135,⟨.arr 256 133,256,[.vec .u16 256 (List.replicate 256 (Kd.df .u16))]⟩),(136,⟨.arr 3 135,768,[.vec .u16 768 (List.replicate 768 (Kd.df .u16))]⟩),(137,⟨.arr 3 135,768,[.vec .u16 768 (List.replicate 768 (Kd.df .u16))]⟩),(139,⟨.arr 32 5,32,[.vec .u8 32 (List.replicate 32 (Kd.df .u8))]⟩),(165,⟨.k .u64,1,[.ob .u64 (Kd.df .u64)]⟩),(186,⟨.arr 80 111,80,[.vec .u64 80 (List.replicate 80 (Kd.df .u64))]⟩),(188,⟨.arr 8 111,8,[.vec .u64 8 (List.replicate 8 (Kd.df .u64))]⟩)]
theorem vR:bk Rr:=xt fun p hp=>by
 rcases List.mem_cons.1 hp with rfl|hp
 ·exact eo (k:= .int) rfl rfl rfl (by kernel_rfl) Tryz.underlying3 (bytes:=8) (by decide)
 rcases List.mem_cons.1 hp with rfl|hp
 ·exact eo (k:= .bool) rfl rfl rfl (by kernel_rfl) Tryz.underlying4 (bytes:=1) (by decide)
 rcases List.mem_cons.1 hp with rfl|hp
 ·exact eo (k:= .u8) rfl rfl rfl (by kernel_rfl) Tryz.underlying5 (bytes:=1) (by decide)
 rcases List.mem_cons.1 hp with rfl|hp
 ·exact eo (k:= .str) rfl rfl rfl (by kernel_rfl) Tryz.underlying9 (bytes:=16) (by decide)
 rcases List.mem_cons.1 hp with rfl|hp
 ·exact nl (by kernel_rfl) Tryz.underlying23 (bytes:=8) (by decide)
 rcases List.mem_cons.1 hp with rfl|hp
 ·exact gW (by kernel_rfl) Tryz.underlying25 (bytes:=24) (by decide)
 rcases List.mem_cons.1 hp with rfl|hp
 ·exact fN (cells:= [.int .i64 0]++([.string ByteArray.empty]++([.int .i64 0]++([.int .i64 0]++([.slice none 0 0]++([.int .i64 0]++([]:List Value))))))) (bytes:=72) (by kernel_rfl) Tryz.underlying27 ⟨_,rfl,rfl⟩ (fun η A w=>⟨[.int .i64 0],_,rfl,rfl,⟨[.string ByteArray.empty],_,rfl,rfl,⟨[.int .i64 0],_,rfl,rfl,⟨[.int .i64 0],_,rfl,rfl,⟨[.slice none 0 0],_,rfl,⟨rfl,rfl⟩,⟨[.int .i64 0],_,rfl,rfl,rfl⟩⟩⟩⟩⟩⟩) rfl (fun k h=>by cases h) rfl (by decide)
 rcases List.mem_cons.1 hp with rfl|hp
 ·exact eo (k:= .int) rfl rfl rfl (by kernel_rfl) Tryz.underlying28 (bytes:=8) (by decide)
 rcases List.mem_cons.1 hp with rfl|hp
 ·exact gW (by kernel_rfl) Tryz.underlying30 (bytes:=24) (by decide)
 rcases List.mem_cons.1 hp with rfl|hp
 ·exact fN (cells:= [.slice none 0 0]++([.slice none 0 0]++([.slice none 0 0]++([.slice none 0 0]++([.int .i64 0]++([.slice none 0 0]++([.int .i64 0]++([.slice none 0 0]++([.slice none 0 0]++([.bool false]++([.int .i64 0]++([]:List Value)))))))))))) (bytes:=200) (by kernel_rfl) Tryz.underlying32 ⟨_,rfl,rfl⟩ (fun η A w=>⟨[.slice none 0 0],_,rfl,⟨rfl,rfl⟩,⟨[.slice none 0 0],_,rfl,⟨rfl,rfl⟩,⟨[.slice none 0 0],_,rfl,⟨rfl,rfl⟩,⟨[.slice none 0 0],_,rfl,⟨rfl,rfl⟩,⟨[.int .i64 0],_,rfl,rfl,⟨[.slice none 0 0],_,rfl,⟨rfl,rfl⟩,⟨[.int .i64 0],_,rfl,rfl,⟨[.slice none 0 0],_,rfl,⟨rfl,rfl⟩,⟨[.slice none 0 0],_,rfl,⟨rfl,rfl⟩,⟨[.bool false],_,rfl,rfl,⟨[.int .i64 0],_,rfl,rfl,rfl⟩⟩⟩⟩⟩⟩⟩⟩⟩⟩⟩) rfl (fun k h=>by cases h) rfl (by decide)
 rcases List.mem_cons.1 hp with rfl|hp
 ·exact nl (by kernel_rfl) Tryz.underlying44 (bytes:=8) (by decide)
 rcases List.mem_cons.1 hp with rfl|hp
 ·exact gW (by kernel_rfl) Tryz.underlying45 (bytes:=24) (by decide)
 rcases List.mem_cons.1 hp with rfl|hp
 ·exact fN (cells:= [.slice none 0 0]++([]:List Value)) (bytes:=24) (by kernel_rfl) Tryz.underlying47 ⟨_,rfl,rfl⟩ (fun η A w=>⟨[.slice none 0 0],_,rfl,⟨rfl,rfl⟩,rfl⟩) rfl (fun k h=>by cases h) rfl (by decide)
 rcases List.mem_cons.1 hp with rfl|hp
 ·exact gW (by kernel_rfl) Tryz.underlying49 (bytes:=24) (by decide)
 rcases List.mem_cons.1 hp with rfl|hp
 ·exact nl (by kernel_rfl) Tryz.underlying64 (bytes:=8) (by decide)
 rcases List.mem_cons.1 hp with rfl|hp
 ·exact nl (by kernel_rfl) Tryz.underlying72 (bytes:=8) (by decide)
 rcases List.mem_cons.1 hp with rfl|hp
 ·exact fN (cells:= [.string ByteArray.empty]++([.slice none 0 0]++([.slice none 0 0]++([.slice none 0 0]++([.slice none 0 0]++([.int .i64 0]++([.slice none 0 0]++([.int .i64 0]++([.slice none 0 0]++([.slice none 0 0]++([.bool false]++([.int .i64 0]++([.slice none 0 0]++([.slice none 0 0]++([.slice none 0 0]++([]:List Value)))))))))))))))) (bytes:=288) (by kernel_rfl) Tryz.underlying84 ⟨_,rfl,rfl⟩ (fun η A w=>⟨[.string ByteArray.empty],_,rfl,rfl,⟨[.slice none 0 0],_,rfl,⟨rfl,rfl⟩,⟨[.slice none 0 0],_,rfl,⟨rfl,rfl⟩,⟨[.slice none 0 0],_,rfl,⟨rfl,rfl⟩,⟨[.slice none 0 0],_,rfl,⟨rfl,rfl⟩,⟨[.int .i64 0],_,rfl,rfl,⟨[.slice none 0 0],_,rfl,⟨rfl,rfl⟩,⟨[.int .i64 0],_,rfl,rfl,⟨[.slice none 0 0],_,rfl,⟨rfl,rfl⟩,⟨[.slice none 0 0],_,rfl,⟨rfl,rfl⟩,⟨[.bool false],_,rfl,rfl,⟨[.int .i64 0],_,rfl,rfl,⟨[.slice none 0 0],_,rfl,⟨rfl,rfl⟩,⟨[.slice none 0 0],_,rfl,⟨rfl,rfl⟩,⟨[.slice none 0 0],_,rfl,⟨rfl,rfl⟩,rfl⟩⟩⟩⟩⟩⟩⟩⟩⟩⟩⟩⟩⟩⟩⟩) rfl (fun k h=>by cases h) rfl (by decide)
 rcases List.mem_cons.1 hp with rfl|hp
 ·exact gW (by kernel_rfl) Tryz.underlying91 (bytes:=24) (by decide)
 rcases List.mem_cons.1 hp with rfl|hp
 ·exact nl (by kernel_rfl) Tryz.underlying94 (bytes:=8) (by decide)
 rcases List.mem_cons.1 hp with rfl|hp
 ·exact gW (by kernel_rfl) Tryz.underlying95 (bytes:=24) (by decide)
 rcases List.mem_cons.1 hp with rfl|hp
 ·exact fN (cells:= [.slice none 0 0]++([.int .i64 0]++([.slice none 0 0]++([.slice none 0 0]++([]:List Value))))) (bytes:=80) (by kernel_rfl) Tryz.underlying99 ⟨_,rfl,rfl⟩ (fun η A w=>⟨[.slice none 0 0],_,rfl,⟨rfl,rfl⟩,⟨[.int .i64 0],_,rfl,rfl,⟨[.slice none 0 0],_,rfl,⟨rfl,rfl⟩,⟨[.slice none 0 0],_,rfl,⟨rfl,rfl⟩,rfl⟩⟩⟩⟩) rfl (fun k h=>by cases h) rfl (by decide)
 rcases List.mem_cons.1 hp with rfl|hp
 ·exact eo (k:= .u64) rfl rfl rfl (by kernel_rfl) Tryz.underlying111 (bytes:=8) (by decide)
 rcases List.mem_cons.1 hp with rfl|hp
 ·exact fN (cells:=List.replicate 5 (.int .u64 0)++([]:List Value)) (bytes:=40) (by kernel_rfl) Tryz.underlying112 rfl (fun η A w=>⟨List.replicate 5 (.int .u64 0),_,rfl,⟨List.length_replicate,ao (k:= .u64) rfl 5⟩,rfl⟩) rfl (fun k h=>by cases h) rfl (by decide)
 rcases List.mem_cons.1 hp with rfl|hp
 ·exact fN (cells:=List.replicate 5 (.int .u64 0)++([]:List Value)) (bytes:=40) (by kernel_rfl) Tryz.underlying114 ⟨_,rfl,rfl⟩ (fun η A w=>⟨List.replicate 5 (.int .u64 0),_,rfl,⟨List.length_replicate,ao (k:= .u64) rfl 5⟩,rfl⟩) rfl (fun k h=>by cases h) rfl (by decide)
 rcases List.mem_cons.1 hp with rfl|hp
 ·exact fN (cells:=List.replicate 5 (.int .u64 0)++(List.replicate 5 (.int .u64 0)++(List.replicate 5 (.int .u64 0)++(List.replicate 5 (.int .u64 0)++([]:List Value))))) (bytes:=160) (by kernel_rfl) Tryz.underlying116 ⟨_,rfl,rfl⟩ (fun η A w=>⟨List.replicate 5 (.int .u64 0),_,rfl,⟨List.length_replicate,ao (k:= .u64) rfl 5⟩,⟨List.replicate 5 (.int .u64 0),_,rfl,⟨List.length_replicate,ao (k:= .u64) rfl 5⟩,⟨List.replicate 5 (.int .u64 0),_,rfl,⟨List.length_replicate,ao (k:= .u64) rfl 5⟩,⟨List.replicate 5 (.int .u64 0),_,rfl,⟨List.length_replicate,ao (k:= .u64) rfl 5⟩,rfl⟩⟩⟩⟩) rfl (fun k h=>by cases h) rfl (by decide)
 rcases List.mem_cons.1 hp with rfl|hp
 ·exact fN (cells:=List.replicate 4 (.int .u64 0)++([]:List Value)) (bytes:=32) (by kernel_rfl) Tryz.underlying119 rfl (fun η A w=>⟨List.replicate 4 (.int .u64 0),_,rfl,⟨List.length_replicate,ao (k:= .u64) rfl 4⟩,rfl⟩) rfl (fun k h=>by cases h) rfl (by decide)
 rcases List.mem_cons.1 hp with rfl|hp
 ·exact fN (cells:=List.replicate 4 (.int .u64 0)++([]:List Value)) (bytes:=32) (by kernel_rfl) Tryz.underlying121 ⟨_,rfl,rfl⟩ (fun η A w=>⟨List.replicate 4 (.int .u64 0),_,rfl,⟨List.length_replicate,ao (k:= .u64) rfl 4⟩,rfl⟩) rfl (fun k h=>by cases h) rfl (by decide)
 rcases List.mem_cons.1 hp with rfl|hp
 ·exact eo (k:= .u32) rfl rfl rfl (by kernel_rfl) Tryz.underlying131 (bytes:=4) (by decide)
 rcases List.mem_cons.1 hp with rfl|hp
 ·exact eo (k:= .u16) rfl rfl rfl (by kernel_rfl) Tryz.underlying133 (bytes:=2) (by decide)
 rcases List.mem_cons.1 hp with rfl|hp
 ·exact fN (cells:=List.replicate 256 (.int .u16 0)++([]:List Value)) (bytes:=512) (by kernel_rfl) Tryz.underlying134 rfl (fun η A w=>⟨List.replicate 256 (.int .u16 0),_,rfl,⟨List.length_replicate,ao (k:= .u16) rfl 256⟩,rfl⟩) rfl (fun k h=>by cases h) rfl (by decide)
 rcases List.mem_cons.1 hp with rfl|hp
 ·exact fN (cells:=List.replicate 256 (.int .u16 0)++([]:List Value)) (bytes:=512) (by kernel_rfl) Tryz.underlying135 rfl (fun η A w=>⟨List.replicate 256 (.int .u16 0),_,rfl,⟨List.length_replicate,ao (k:= .u16) rfl 256⟩,rfl⟩) rfl (fun k h=>by cases h) rfl (by decide)
 rcases List.mem_cons.1 hp with rfl|hp
 ·exact fN (cells:=List.replicate 768 (.int .u16 0)++([]:List Value)) (bytes:=1536) (by kernel_rfl) Tryz.underlying136 rfl (fun η A w=>⟨List.replicate 768 (.int .u16 0),_,rfl,⟨List.length_replicate,ao (k:= .u16) rfl 768⟩,rfl⟩) rfl (fun k h=>by cases h) rfl (by decide)
 rcases List.mem_cons.1 hp with rfl|hp
 ·exact fN (cells:=List.replicate 768 (.int .u16 0)++([]:List Value)) (bytes:=1536) (by kernel_rfl) Tryz.underlying137 rfl (fun η A w=>⟨List.replicate 768 (.int .u16 0),_,rfl,⟨List.length_replicate,ao (k:= .u16) rfl 768⟩,rfl⟩) rfl (fun k h=>by cases h) rfl (by decide)
 rcases List.mem_cons.1 hp with rfl|hp
 ·exact fN (cells:=List.replicate 32 (.int .u8 0)++([]:List Value)) (bytes:=32) (by kernel_rfl) Tryz.underlying139 rfl (fun η A w=>⟨List.replicate 32 (.int .u8 0),_,rfl,⟨List.length_replicate,ao (k:= .u8) rfl 32⟩,rfl⟩) rfl (fun k h=>by cases h) rfl (by decide)
 rcases List.mem_cons.1 hp with rfl|hp
 ·exact eo (k:= .u64) rfl rfl rfl (by kernel_rfl) Tryz.underlying165 (bytes:=8) (by decide)
 rcases List.mem_cons.1 hp with rfl|hp
 ·exact fN (cells:=List.replicate 80 (.int .u64 0)++([]:List Value)) (bytes:=640) (by kernel_rfl) Tryz.underlying186 rfl (fun η A w=>⟨List.replicate 80 (.int .u64 0),_,rfl,⟨List.length_replicate,ao (k:= .u64) rfl 80⟩,rfl⟩) rfl (fun k h=>by cases h) rfl (by decide)
 rcases List.mem_cons.1 hp with rfl|hp
 ·exact fN (cells:=List.replicate 8 (.int .u64 0)++([]:List Value)) (bytes:=64) (by kernel_rfl) Tryz.underlying188 rfl (fun η A w=>⟨List.replicate 8 (.int .u64 0),_,rfl,⟨List.length_replicate,ao (k:= .u64) rfl 8⟩,rfl⟩) rfl (fun k h=>by cases h) rfl (by decide)
 cases hp
def e4:Cl:= .ob (.x 4) (0:F)
def bi (t:Nat):TE:=match Nat.beq t 114 with
 |true=>⟨.st [(0,112)],5,[e4]⟩
 |false=>match Nat.beq t 116 with
  |true=>⟨.st [(0,114),(5,114),(10,114),(15,114)],20,[e4,e4,e4,e4]⟩
  |false=>match Nat.beq t 121 with
   |true=>⟨.st [(0,119)],4,[.ob (.x 2) (0:Nat)]⟩
   |false=>Rr t
theorem rK {η:bx} {A:Nat→Prop} {w:World} {cs z:List Value} {x:Cl} (h:x.H η A w cs) (e:z=cs):aK η A w [x] z:=by
 subst e
 exact ⟨z,[],(List.append_nil _).symm,h,rfl⟩
theorem G4 {η:bx} {A:Nat→Prop} {w:World}:e4.H η A w (List.replicate 5 (.int .u64 0)):=⟨fun _=>0,⟨by decide,by decide,by decide,by decide,by decide⟩,rfl,rfl⟩
theorem MS:(0:Nat)<Lq:=by unfold Lq;omega
theorem ax:bk bi:=fun t=>by
 have lim:∀ {n:Nat} {cs:List Value},bj Kd.u64.rp (List.replicate n (0:UInt64)) cs→cs=List.replicate n (.int .u64 0):=fun {n cs} h=>by
  rw [ql.1 h,List.map_replicate];rfl
 by_cases e1:t=114
 ·subst e1
  rcases vR 114 with h|⟨i,d,z,h⟩
  ·cases h
  ·refine .inr ⟨i,d,z,f_ h rfl rfl fun η A w=> ?_⟩
   obtain ⟨h1,r,e,⟨_,h2⟩,rfl⟩:=h.cells η A w
   exact rK G4 (by rw [e,List.append_nil];exact lim h2)
 ·by_cases e2:t=116
  ·subst e2
   rcases vR 116 with h|⟨i,d,z,h⟩
   ·cases h
   ·refine .inr ⟨i,d,z,f_ h rfl rfl fun η A w=> ?_⟩
    obtain ⟨h1,r1,e1,⟨_,k1⟩,h2,r2,e2,⟨_,k2⟩,h3,r3,e3,⟨_,k3⟩,h4,r4,e4,⟨_,k4⟩,rfl⟩:=h.cells η A w
    have k1:=lim k1;have k2:=lim k2;have k3:=lim k3;have k4:=lim k4
    subst k1 k2 k3 k4 e4 e3 e2
    exact ⟨_,_,e1,G4,_,_,rfl,G4,_,_,rfl,G4,_,_,rfl,G4,rfl⟩
  ·by_cases e3:t=121
   ·subst e3
    rcases vR 121 with h|⟨i,d,z,h⟩
    ·cases h
    ·refine .inr ⟨i,d,z,f_ h rfl rfl fun η A w=> ?_⟩
     obtain ⟨h1,r,e,⟨_,h2⟩,rfl⟩:=h.cells η A w
     refine rK (cs:=List.replicate 4 (.int .u64 0)) ⟨MS,rfl⟩ (by rw [e,List.append_nil];exact lim h2)
   ·have e:bi t=Rr t:=by
     unfold bi
     rw [show Nat.beq t 114=false from by rw [←Bool.not_eq_true,Nat.beq_eq];exact e1,show Nat.beq t 116=false from by rw [←Bool.not_eq_true,Nat.beq_eq];exact e2,show Nat.beq t 121=false from by rw [←Bool.not_eq_true,Nat.beq_eq];exact e3]
    rcases vR t with h|⟨i,d,z,h⟩
    ·exact .inl (by rw [e];exact h)
    ·exact .inr ⟨i,d,z,f_ h (by rw [e]) (by rw [e]) (by rw [e];exact h.cells)⟩
end Go.Proofs.YtknlbpjcjdenbaaGreat
namespace Go.Proofs.YtknlbpjcjdenbaaGreat
open Go.RowKit
def fV (f:Nat→Nat) (i:Nat):Value:= .int .u64 (f i:Nat)
theorem Nl (f:Nat→Value):row 5 f= [f 0,f 1,f 2,f 3,f 4]:=rfl
def mJ (f:Nat→Nat) (c0 k i:Nat):Value:=if i<k then fV (cE f c0) i else fV f i
theorem vS (f:Nat→Nat) (c0 k:Nat):mJ f c0 k k= .int .u64 (f k:Nat):=by unfold mJ;rw [if_neg (by omega)];rfl
theorem pp (f:Nat→Nat) (c0 k:Nat):(row 5 (mJ f c0 k)).set k (.int .u64 (cE f c0 k:Nat))=row 5 (mJ f c0 (k+1)):=
 gw k _ (by unfold mJ;rw [if_pos (by omega)];rfl) (fun i _ h=>by unfold mJ;by_cases h1:i<k;rw [if_pos h1,if_pos (by omega)];rw [if_neg h1,if_neg (by omega)])
theorem mG (f:Nat→Nat) (c0:Nat):row 5 (mJ f c0 0)=row 5 (fV f):=l7 fun i _=>by unfold mJ;rw [if_neg (by omega)]
theorem mQ (f:Nat→Nat) (c0:Nat):row 5 (mJ f c0 5)=row 5 (fV (cE f c0)):=l7 fun i h=>by unfold mJ;rw [if_pos h]
theorem rV (x:Nat) (h:x<18446744073709551616):bits BinOp.and IntKind.u64 (x:Int) 2251799813685247=((x%2251799813685248:Nat):Int):=by
 rw [show (2251799813685247:Int)=((2251799813685247:Nat):Int) from rfl,u64_and_nat x 2251799813685247 h (by omega)]
 rw [show x&&&2251799813685247=x%2251799813685248 from Nat.and_two_pow_sub_one_eq_mod x 51]
theorem j1 (f:Nat→Nat) (c0 k:Nat) (h:f k+cr f c0 k<18446744073709551616):
  ∃s:Int,IntKind.u64.wrap ((f k:Nat)+(cr f c0 k:Nat):Int)=s∧0≤s∧s<18446744073709551616∧bits BinOp.and IntKind.u64 s 2251799813685247=(cE f c0 k:Nat)∧s/2251799813685248=(cr f c0 (k+1):Nat):=by
 refine ⟨((f k+cr f c0 k:Nat):Int),by rw [fp];omega,by omega,by omega,rV _ h,?_⟩
 show _=(((f k+cr f c0 k)/2251799813685248:Nat):Int)
 omega
set_option maxHeartbeats 1000000 in
theorem fz (f:Nat→Nat) (hf:∀i,i<5→f i≤9223372036854775808) (w:World):
  Calls Tryz.prog 173 #[.agg #[.int .u64 (f 0:Nat),.int .u64 (f 1:Nat),.int .u64 (f 2:Nat),.int .u64 (f 3:Nat),.int .u64 (f 4:Nat)]] w fun e w'=>e= .returned (.agg #[.int .u64 (cF f 0:Nat),.int .u64 (cF f 1:Nat),.int .u64 (cF f 2:Nat),.int .u64 (cF f 3:Nat),.int .u64 (cF f 4:Nat)])∧Below w.heap.size w w':=by
 have HF:=Lib.hid hf
 clear hf
 go_enter Tryz.func173,Tryz.ntmps173
 go_wp2
 refine dt (fun W=>aj W w.heap.size (row 5 (fV f)) 112∧aj W (w.heap.size+1) (row 5 (fV fun _=>0)) 114∧Below w.heap.size w W) ?_ (fun W hW=> ?_)
 ·exact ⟨(aj.new w _ _).alloc _,aj.new' (by simp),(by repeat (first|(with_reducible refine Below.alloc' ?_ _)|(with_reducible refine Below.drew ?_)|(with_reducible refine below_drewN ?_ _)|((with_reducible refine Below.setCell ?_ ?_ _);rotate_left;(focus (first|exact Nat.le_refl _|(simp;done)|(simp;omega))))|(with_reducible assumption)|(with_reducible exact Below.refl _ _)))⟩
 obtain ⟨hA,hO,hbel⟩:=hW
 refine wp_loop_rounds 3 ?_
 rw [rounds_succ]
 go_wp2
 go_loopw [3,7] (fun c i wr=>∃k:Nat,k≤5∧i= .int .i64 k∧c= .int .u64 (cr f 0 k:Nat)∧aj wr w.heap.size (row 5 (mJ f 0 k)) 112∧aj wr (w.heap.size+1) (row 5 (fV fun _=>0)) 114∧Below w.heap.size w wr) (fun _ i _=>5-(intOf i).toNat)
 case atStart=>exact ⟨0,by omega,rfl,rfl,by rw [mG];exact hA,hO,hbel⟩
 clear hA hO hbel
 have hb1:∀k,k<5→f k+cr f 0 k<18446744073709551616:=fun k hk=>by
  have:=HF.out k hk;have:=sS f 0 HF.out (by omega) k (by omega);omega
 have HB1:=Lib.hid hb1
 clear hb1
 case round=>
  obtain ⟨k,hk,rfl,rfl,hA,hO,hbel⟩:=hrel
  by_cases hlt:k<5
  ·obtain ⟨s,hs,hs0,hs1,ha,hd⟩:=j1 f 0 k (HB1.out k hlt)
   have hcell:=hA.at hlt
   rw [vS] at hcell
   have hfr:=hA.frozen k
   have HD:=Lib.hid hd
   have HA:=Lib.hid ((hA.set k (.int .u64 s)).set k (.int .u64 (cE f 0 k:Nat)))
   have HO:=Lib.hid ((hO.other ⟨w.heap.size,k,none⟩ (by simp) (.int .u64 s)).other ⟨w.heap.size,k,none⟩ (by simp) (.int .u64 (cE f 0 k:Nat)))
   clear hA hO hd
   go_wp2
   go_roundw
   case rel=>exact ⟨k+1,by omega,by go_num,by rw [HD.out],by have:=HA.out;rw [List.set_set,pp] at this;exact this,HO.out,(by repeat (first|(with_reducible refine Below.alloc' ?_ _)|(with_reducible refine Below.drew ?_)|(with_reducible refine below_drewN ?_ _)|((with_reducible refine Below.setCell ?_ ?_ _);rotate_left;(focus (first|exact Nat.le_refl _|(simp;done)|(simp;omega))))|(with_reducible assumption)|(with_reducible exact Below.refl _ _)))⟩
   case measure=>simp [intOf];omega
  ·obtain rfl:k=5:=by omega
   rw [mQ] at hA
   have hm:IntKind.u64.wrap (((cr f 0 5:Nat):Int)*19)=((cr f 0 5*19:Nat):Int):=by
    have:=WI f HF.out;rw [fp];omega
   have HC1:Hid (cr f 0 5*19≤77843):=Lib.hid (by have:=WI f HF.out;omega)
   clear hlt hk HB1
   generalize hc1:cr f 0 5*19=c1 at*
   have HC:=Lib.hid hc1
   clear hc1
   go_wp2
   rw [rounds_succ]
   go_wp2
   clear hm
   go_loopw [3,7] (fun c i wr=>∃k:Nat,k≤5∧i= .int .i64 k∧c= .int .u64 (cr (cE f 0) c1 k:Nat)∧aj wr w.heap.size (row 5 (mJ (cE f 0) c1 k)) 112∧aj wr (w.heap.size+1) (row 5 (fV fun _=>0)) 114∧Below w.heap.size w wr) (fun _ i _=>5-(intOf i).toNat)
   case atStart=>exact ⟨0,by omega,rfl,rfl,by rw [mG];exact hA,hO,hbel⟩
   clear hA hO hbel
   have hb2:∀k,k<5→cE f 0 k+cr (cE f 0) c1 k<18446744073709551616:=fun k hk=>by
    have:=eZ f 0 k;have:=sS (cE f 0) c1 (fun i _=>by have:=eZ f 0 i;omega) (by have:=HC1.out;omega) k (by omega);omega
   have HB2:=Lib.hid hb2
   clear hb2
   case round=>
    obtain ⟨k,hk,rfl,rfl,hA,hO,hbel⟩:=hrel
    by_cases hlt:k<5
    ·obtain ⟨s,hs,hs0,hs1,ha,hd⟩:=j1 (cE f 0) c1 k (HB2.out k hlt)
     have hcell:=hA.at hlt
     rw [vS] at hcell
     have hfr:=hA.frozen k
     have HD:=Lib.hid hd
     have HA:=Lib.hid ((hA.set k (.int .u64 s)).set k (.int .u64 (cE (cE f 0) c1 k:Nat)))
     have HO:=Lib.hid ((hO.other ⟨w.heap.size,k,none⟩ (by simp) (.int .u64 s)).other ⟨w.heap.size,k,none⟩ (by simp) (.int .u64 (cE (cE f 0) c1 k:Nat)))
     clear hA hO hd
     go_wp2
     go_roundw
     case rel=>exact ⟨k+1,by omega,by go_num,by rw [HD.out],by have:=HA.out;rw [List.set_set,pp] at this;exact this,HO.out,(by repeat (first|(with_reducible refine Below.alloc' ?_ _)|(with_reducible refine Below.drew ?_)|(with_reducible refine below_drewN ?_ _)|((with_reducible refine Below.setCell ?_ ?_ _);rotate_left;(focus (first|exact Nat.le_refl _|(simp;done)|(simp;omega))))|(with_reducible assumption)|(with_reducible exact Below.refl _ _)))⟩
     case measure=>simp [intOf];omega
    ·obtain rfl:k=5:=by omega
     rw [mQ] at hA
     have h5:=CC (cE f 0) c1 (eZ f 0) (by have:=HC1.out;omega) 5 (by omega)
     have h0:=eZ (cE f 0) c1 0
     have hm:IntKind.u64.wrap (((cr (cE f 0) c1 5:Nat):Int)*19)=((cr (cE f 0) c1 5*19:Nat):Int):=by rw [fp];omega
     have hs:IntKind.u64.wrap (((cE (cE f 0) c1 0:Nat):Int)+((cr (cE f 0) c1 5*19:Nat):Int))=((cF f 0:Nat):Int):=by
      rw [fp];show _=((cE (cE f 0) (cr f 0 5*19) 0+cr (cE f 0) (cr f 0 5*19) 5*19:Nat):Int)
      rw [HC.out];omega
     rw [Nl] at hA hO
     have hAc:=hA.cell;have hAf:=hA.frozen;have hOc:=hO.cell;have hOf:=hO.frozen
     unfold fV at hAc hOc
     rw [show cE (cE f 0) c1 1=cF f 1 from by rw [←HC.out];rfl,show cE (cE f 0) c1 2=cF f 2 from by rw [←HC.out];rfl,show cE (cE f 0) c1 3=cF f 3 from by rw [←HC.out];rfl,show cE (cE f 0) c1 4=cF f 4 from by rw [←HC.out];rfl] at hAc
     generalize cr (cE f 0) c1 5*19=c2 at*
     generalize cr (cE f 0) c1 5=c3 at*
     generalize cE (cE f 0) c1 0=p0 at*
     clear h5 h0 hA hO hlt hk HB2
     go_wp2
     rw [rounds_succ]
     go_wp2
     exact bodyPost_ret (v:= .agg #[.int .u64 (cF f 0:Nat),.int .u64 (cF f 1:Nat),.int .u64 (cF f 2:Nat),.int .u64 (cF f 3:Nat),.int .u64 (cF f 4:Nat)]) (by simp [results,Tryz.results173,go_sem,hOc]) rfl ⟨rfl,(by repeat (first|(with_reducible refine Below.alloc' ?_ _)|(with_reducible refine Below.drew ?_)|(with_reducible refine below_drewN ?_ _)|((with_reducible refine Below.setCell ?_ ?_ _);rotate_left;(focus (first|exact Nat.le_refl _|(simp;done)|(simp;omega))))|(with_reducible assumption)|(with_reducible exact Below.refl _ _)))⟩
structure FE (f:Nat→Nat) (n:Nat):Prop where
 lim:sI f
 num:val f%Pq=n
theorem FE.lt {f:Nat→Nat} {n:Nat} (h:FE f n):n<Pq:=by rw [←h.num];exact Nat.mod_lt _ pf
theorem sI.lt {f:Nat→Nat} (h:sI f):∀i,i<5→f i<2251799813685268:=by
 intro i hi
 have hh:i=0∨i=1∨i=2∨i=3∨i=4:=by omega
 rcases hh with rfl|rfl|rfl|rfl|rfl
 ·exact h.l0
 ·have:=h.l1;omega
 ·have:=h.l2;omega
 ·have:=h.l3;omega
 ·have:=h.l4;omega
def mZ (f g:Nat→Nat) (i:Nat):Nat:=f i+g i
theorem I1 (f g:Nat→Nat):val (mZ f g)=val f+val g:=by simp only [val,mZ];omega
theorem lG {f g:Nat→Nat} (hf:sI f) (hg:sI g) (i:Nat) (hi:i<5):IntKind.u64.wrap ((f i:Nat)+(g i:Nat):Int)=(mZ f g i:Nat):=by
 have:=hf.lt i hi;have:=hg.lt i hi
 unfold mZ;rw [fp];omega
set_option maxHeartbeats 1000000 in
theorem EM {f g:Nat→Nat} {x y:Nat} (hf:FE f x) (hg:FE g y) (w:World):
  Calls Tryz.prog 110 #[.agg #[.int .u64 (f 0:Nat),.int .u64 (f 1:Nat),.int .u64 (f 2:Nat),.int .u64 (f 3:Nat),.int .u64 (f 4:Nat)],.agg #[.int .u64 (g 0:Nat),.int .u64 (g 1:Nat),.int .u64 (g 2:Nat),.int .u64 (g 3:Nat),.int .u64 (g 4:Nat)]] w fun e w'=>∃h,e= .returned (.agg #[.int .u64 (h 0:Nat),.int .u64 (h 1:Nat),.int .u64 (h 2:Nat),.int .u64 (h 3:Nat),.int .u64 (h 4:Nat)])∧FE h ((x+y)%Pq)∧Below w.heap.size w w':=by
 have s0:=lG hf.lim hg.lim 0 (by omega)
 have s1:=lG hf.lim hg.lim 1 (by omega)
 have s2:=lG hf.lim hg.lim 2 (by omega)
 have s3:=lG hf.lim hg.lim 3 (by omega)
 have s4:=lG hf.lim hg.lim 4 (by omega)
 have hb:∀i,i<5→mZ f g i≤9223372036854775808:=fun i hi=>by
  have:=hf.lim.lt i hi;have:=hg.lim.lt i hi;unfold mZ;omega
 have HB:=Lib.hid hb
 have HR:Hid (FE (cF (mZ f g)) ((x+y)%Pq)):=Lib.hid ⟨wl _ hb,by rw [tC,I1,Nat.add_mod,hf.num,hg.num]⟩
 clear hb hf hg
 go_enter Tryz.func110,Tryz.ntmps110
 go_wp2
 refine wp_loop_rounds 6 ?_
 iterate 5 (rw [rounds_succ];go_wp2;go_region;go_wp2)
 rw [rounds_succ]
 go_wp2_with (go_at_call 173;go_must (refine (fz (mZ f g) HB.out _).mono ?_;rintro e w1 ⟨rfl,hb⟩;have hO:=(show aj _ (w.heap.size+1+1) [.int .u64 0,.int .u64 0,.int .u64 0,.int .u64 0,.int .u64 0] 114 from (by repeat (first|(with_reducible refine aj.drew ?_)|exact aj.new' (by simp)|(with_reducible refine aj.alloc ?_ _)))).below' hb;have hOc:=hO.cell;have hOf:=hO.frozen;have hbel:Below w.heap.size w w1:=Below.call (by repeat (first|(with_reducible refine Below.alloc' ?_ _)|(with_reducible refine Below.drew ?_)|(with_reducible refine below_drewN ?_ _)|((with_reducible refine Below.setCell ?_ ?_ _);rotate_left;(focus (first|exact Nat.le_refl _|(simp;done)|(simp;omega))))|(with_reducible assumption)|(with_reducible exact Below.refl _ _))) hb;clear hb hO))
 exact bodyPost_ret (v:= .agg #[.int .u64 (cF (mZ f g) 0:Nat),.int .u64 (cF (mZ f g) 1:Nat),.int .u64 (cF (mZ f g) 2:Nat),.int .u64 (cF (mZ f g) 3:Nat),.int .u64 (cF (mZ f g) 4:Nat)]) (by simp [results,Tryz.results110,go_sem,hOc]) rfl ⟨_,rfl,HR.out,(by repeat (first|(with_reducible refine Below.alloc' ?_ _)|(with_reducible refine Below.drew ?_)|(with_reducible refine below_drewN ?_ _)|((with_reducible refine Below.setCell ?_ ?_ _);rotate_left;(focus (first|exact Nat.le_refl _|(simp;done)|(simp;omega))))|(with_reducible assumption)|(with_reducible exact Below.refl _ _)))⟩
def nA (i:Nat):Nat:=if i=0 then 9007199254740916 else 9007199254740988
def i9 (f g:Nat→Nat) (i:Nat):Nat:=f i+(nA i-g i)
theorem KM {f g:Nat→Nat} (hg:sI g):val (i9 f g)+val g=val f+4*Pq:=by
 have h0:=hg.l0;have h1:=hg.l1;have h2:=hg.l2;have h3:=hg.l3;have h4:=hg.l4
 simp only [val,i9,nA,if_true,if_neg (show ¬(1=0) by omega),if_neg (show ¬(2=0) by omega),if_neg (show ¬(3=0) by omega),if_neg (show ¬(4=0) by omega),Pq]
 omega
theorem lH {f g:Nat→Nat} (hf:sI f) (hg:sI g) (i:Nat) (hi:i<5):IntKind.u64.wrap ((f i:Nat)+IntKind.u64.wrap ((nA i:Nat)-(g i:Nat)):Int)=(i9 f g i:Nat):=by
 have:=hf.lt i hi;have:=hg.lt i hi
 have hk:9007199254740916≤nA i∧nA i≤9007199254740988:=by unfold nA;split<;>omega
 unfold i9;rw [fp,fp];omega
theorem Nx {a b x y:Nat} (h:a+b=x+4*Pq) (hy:b%Pq=y):a%Pq=(x%Pq+(Pq-y))%Pq:=by
 unfold Pq at *;omega
set_option maxHeartbeats 1000000 in
theorem rY {f g:Nat→Nat} {x y:Nat} (hf:FE f x) (hg:FE g y) (w:World):
  Calls Tryz.prog 108 #[.agg #[.int .u64 (f 0:Nat),.int .u64 (f 1:Nat),.int .u64 (f 2:Nat),.int .u64 (f 3:Nat),.int .u64 (f 4:Nat)],.agg #[.int .u64 (g 0:Nat),.int .u64 (g 1:Nat),.int .u64 (g 2:Nat),.int .u64 (g 3:Nat),.int .u64 (g 4:Nat)]] w fun e w'=>∃h,e= .returned (.agg #[.int .u64 (h 0:Nat),.int .u64 (h 1:Nat),.int .u64 (h 2:Nat),.int .u64 (h 3:Nat),.int .u64 (h 4:Nat)])∧FE h ((x+(Pq-y))%Pq)∧Below w.heap.size w w':=by
 have s0:IntKind.u64.wrap ((f 0:Nat)+IntKind.u64.wrap (9007199254740916-(g 0:Nat)):Int)=(i9 f g 0:Nat):=lH hf.lim hg.lim 0 (by omega)
 have s1:IntKind.u64.wrap ((f 1:Nat)+IntKind.u64.wrap (9007199254740988-(g 1:Nat)):Int)=(i9 f g 1:Nat):=lH hf.lim hg.lim 1 (by omega)
 have s2:IntKind.u64.wrap ((f 2:Nat)+IntKind.u64.wrap (9007199254740988-(g 2:Nat)):Int)=(i9 f g 2:Nat):=lH hf.lim hg.lim 2 (by omega)
 have s3:IntKind.u64.wrap ((f 3:Nat)+IntKind.u64.wrap (9007199254740988-(g 3:Nat)):Int)=(i9 f g 3:Nat):=lH hf.lim hg.lim 3 (by omega)
 have s4:IntKind.u64.wrap ((f 4:Nat)+IntKind.u64.wrap (9007199254740988-(g 4:Nat)):Int)=(i9 f g 4:Nat):=lH hf.lim hg.lim 4 (by omega)
 have hb:∀i,i<5→i9 f g i≤9223372036854775808:=fun i hi=>by
  have:=hf.lim.lt i hi
  have hk:nA i≤9007199254740988:=by unfold nA;split<;>omega
  unfold i9;omega
 have HB:=Lib.hid hb
 have HR:Hid (FE (cF (i9 f g)) ((x+(Pq-y))%Pq)):=Lib.hid ⟨wl _ hb,by rw [tC,Nx (KM hg.lim) hg.num,hf.num]⟩
 clear hb hf hg
 go_enter Tryz.func108,Tryz.ntmps108
 go_wp2
 refine wp_loop_rounds 6 ?_
 iterate 5 (rw [rounds_succ];go_wp2;(try go_region);go_wp2)
 rw [rounds_succ]
 go_wp2_with (go_at_call 173;go_must (refine (fz (i9 f g) HB.out _).mono ?_;rintro e w1 ⟨rfl,hb⟩;have hO:=(show aj _ (w.heap.size+1+1) [.int .u64 0,.int .u64 0,.int .u64 0,.int .u64 0,.int .u64 0] 114 from (by repeat (first|(with_reducible refine aj.drew ?_)|exact aj.new' (by simp)|(with_reducible refine aj.alloc ?_ _)))).below' hb;have hOc:=hO.cell;have hOf:=hO.frozen;have hbel:Below w.heap.size w w1:=Below.call (by repeat (first|(with_reducible refine Below.alloc' ?_ _)|(with_reducible refine Below.drew ?_)|(with_reducible refine below_drewN ?_ _)|((with_reducible refine Below.setCell ?_ ?_ _);rotate_left;(focus (first|exact Nat.le_refl _|(simp;done)|(simp;omega))))|(with_reducible assumption)|(with_reducible exact Below.refl _ _))) hb;clear hb hO))
 exact bodyPost_ret (v:= .agg #[.int .u64 (cF (i9 f g) 0:Nat),.int .u64 (cF (i9 f g) 1:Nat),.int .u64 (cF (i9 f g) 2:Nat),.int .u64 (cF (i9 f g) 3:Nat),.int .u64 (cF (i9 f g) 4:Nat)]) (by simp [results,Tryz.results108,go_sem,hOc]) rfl ⟨_,rfl,HR.out,(by repeat (first|(with_reducible refine Below.alloc' ?_ _)|(with_reducible refine Below.drew ?_)|(with_reducible refine below_drewN ?_ _)|((with_reducible refine Below.setCell ?_ ?_ _);rotate_left;(focus (first|exact Nat.le_refl _|(simp;done)|(simp;omega))))|(with_reducible assumption)|(with_reducible exact Below.refl _ _)))⟩
theorem FE.zero:FE (fun _=>0) 0:=⟨⟨by omega,by omega,by omega,by omega,by omega⟩,by decide +kernel⟩
theorem K5 (w:World):(Instr.build 114 #[]).run Tryz.prog w= .ok (.agg #[.int .u64 0,.int .u64 0,.int .u64 0,.int .u64 0,.int .u64 0]) w:=by kernel_rfl
theorem Ap {g:Nat→Nat} {y:Nat} (hg:FE g y) (w:World):
  Calls Tryz.prog 108 #[.agg #[.int .u64 0,.int .u64 0,.int .u64 0,.int .u64 0,.int .u64 0],.agg #[.int .u64 (g 0:Nat),.int .u64 (g 1:Nat),.int .u64 (g 2:Nat),.int .u64 (g 3:Nat),.int .u64 (g 4:Nat)]] w fun e w'=>∃h,e= .returned (.agg #[.int .u64 (h 0:Nat),.int .u64 (h 1:Nat),.int .u64 (h 2:Nat),.int .u64 (h 3:Nat),.int .u64 (h 4:Nat)])∧FE h ((Pq-y)%Pq)∧Below w.heap.size w w':=by
 have:=rY FE.zero hg w
 rw [Nat.zero_add] at this;exact this
set_option maxHeartbeats 1000000 in
theorem sm {f:Nat→Nat} {x:Nat} (hf:FE f x) (w:World):
  Calls Tryz.prog 116 #[.agg #[.int .u64 (f 0:Nat),.int .u64 (f 1:Nat),.int .u64 (f 2:Nat),.int .u64 (f 3:Nat),.int .u64 (f 4:Nat)]] w fun e w'=>∃h,e= .returned (.agg #[.int .u64 (h 0:Nat),.int .u64 (h 1:Nat),.int .u64 (h 2:Nat),.int .u64 (h 3:Nat),.int .u64 (h 4:Nat)])∧FE h ((Pq-x)%Pq)∧Below w.heap.size w w':=by
 have hbE:=K5
 go_enter Tryz.func116,Tryz.ntmps116
 go_wp2_with (go_at_call 108;go_must (refine (Ap hf _).mono ?_;rintro e w1 ⟨h,rfl,hr,hb⟩;have hO:=(show aj _ (w.heap.size+1) [.int .u64 0,.int .u64 0,.int .u64 0,.int .u64 0,.int .u64 0] 114 from (by repeat (first|(with_reducible refine aj.drew ?_)|exact aj.new' (by simp)|(with_reducible refine aj.alloc ?_ _)))).below' hb;have hOc:=hO.cell;have hOf:=hO.frozen;have hbel:Below w.heap.size w w1:=Below.call (by repeat (first|(with_reducible refine Below.alloc' ?_ _)|(with_reducible refine Below.drew ?_)|(with_reducible refine below_drewN ?_ _)|((with_reducible refine Below.setCell ?_ ?_ _);rotate_left;(focus (first|exact Nat.le_refl _|(simp;done)|(simp;omega))))|(with_reducible assumption)|(with_reducible exact Below.refl _ _))) hb;clear hb hO))
 exact bodyPost_ret (v:= .agg #[.int .u64 (h 0:Nat),.int .u64 (h 1:Nat),.int .u64 (h 2:Nat),.int .u64 (h 3:Nat),.int .u64 (h 4:Nat)]) (by simp [results,Tryz.results116,go_sem,hOc]) rfl ⟨_,rfl,hr,(by repeat (first|(with_reducible refine Below.alloc' ?_ _)|(with_reducible refine Below.drew ?_)|(with_reducible refine below_drewN ?_ _)|((with_reducible refine Below.setCell ?_ ?_ _);rotate_left;(focus (first|exact Nat.le_refl _|(simp;done)|(simp;omega))))|(with_reducible assumption)|(with_reducible exact Below.refl _ _)))⟩
def cQ (n i:Nat):Nat:=if i=0 then n%2251799813685248 else if i=1 then n/2251799813685248 else 0
theorem Cm (n:Nat):val (cQ n)=n:=by
 simp only [val,cQ,if_true,if_neg (show ¬(1=0) by omega),if_neg (show ¬(2=0) by omega),if_neg (show ¬(3=0) by omega),if_neg (show ¬(4=0) by omega),if_neg (show ¬(2=1) by omega),if_neg (show ¬(3=1) by omega),if_neg (show ¬(4=1) by omega)]
 omega
theorem FE.small {n:Nat} (hn:n<18446744073709551616):FE (cQ n) n:=
 ⟨⟨by simp only [cQ,if_true];omega,by simp [cQ];omega,by simp [cQ],by simp [cQ],by simp [cQ]⟩,by rw [Cm,Nat.mod_eq_of_lt (by unfold Pq;omega)]⟩
set_option maxHeartbeats 1000000 in
theorem nJ {n:Nat} (hn:n<18446744073709551616) (w:World):
  Calls Tryz.prog 106 #[.int .u64 n] w fun e w'=>e= .returned (.agg #[.int .u64 (cQ n 0:Nat),.int .u64 (cQ n 1:Nat),.int .u64 (cQ n 2:Nat),.int .u64 (cQ n 3:Nat),.int .u64 (cQ n 4:Nat)])∧Below w.heap.size w w':=by
 have ha:=rV n hn
 have HD:Hid ((n:Int)/2251799813685248=(cQ n 1:Nat)):=Lib.hid (by simp [cQ])
 have HE:Hid (((n%2251799813685248:Nat):Int)=(cQ n 0:Nat)):=Lib.hid (by simp [cQ])
 rw [HE.out] at ha
 clear hn
 go_enter Tryz.func106,Tryz.ntmps106
 go_wp2
 exact bodyPost_ret (v:= .agg #[.int .u64 (cQ n 0:Nat),.int .u64 ((n:Int)/2251799813685248),.int .u64 0,.int .u64 0,.int .u64 0]) (by simp [results,Tryz.results106,go_sem]) rfl ⟨by rw [HD.out];rfl,(by repeat (first|(with_reducible refine Below.alloc' ?_ _)|(with_reducible refine Below.drew ?_)|(with_reducible refine below_drewN ?_ _)|((with_reducible refine Below.setCell ?_ ?_ _);rotate_left;(focus (first|exact Nat.le_refl _|(simp;done)|(simp;omega))))|(with_reducible assumption)|(with_reducible exact Below.refl _ _)))⟩
set_option maxHeartbeats 1000000 in
theorem AA (b:Bool) (f g:Nat→Nat) (w:World):
  Calls Tryz.prog 115 #[.bool b,.agg #[.int .u64 (f 0:Nat),.int .u64 (f 1:Nat),.int .u64 (f 2:Nat),.int .u64 (f 3:Nat),.int .u64 (f 4:Nat)],.agg #[.int .u64 (g 0:Nat),.int .u64 (g 1:Nat),.int .u64 (g 2:Nat),.int .u64 (g 3:Nat),.int .u64 (g 4:Nat)]] w fun e w'=>e= .returned (.agg #[.int .u64 ((if b then f else g) 0:Nat),.int .u64 ((if b then f else g) 1:Nat),.int .u64 ((if b then f else g) 2:Nat),.int .u64 ((if b then f else g) 3:Nat),.int .u64 ((if b then f else g) 4:Nat)])∧Below w.heap.size w w':=by
 cases b
 ·go_enter Tryz.func115,Tryz.ntmps115
  go_wp2
  exact bodyPost_ret (v:= .agg #[.int .u64 (g 0:Nat),.int .u64 (g 1:Nat),.int .u64 (g 2:Nat),.int .u64 (g 3:Nat),.int .u64 (g 4:Nat)]) (by simp [results,Tryz.results115,go_sem]) rfl ⟨rfl,(by repeat (first|(with_reducible refine Below.alloc' ?_ _)|(with_reducible refine Below.drew ?_)|(with_reducible refine below_drewN ?_ _)|((with_reducible refine Below.setCell ?_ ?_ _);rotate_left;(focus (first|exact Nat.le_refl _|(simp;done)|(simp;omega))))|(with_reducible assumption)|(with_reducible exact Below.refl _ _)))⟩
 ·go_enter Tryz.func115,Tryz.ntmps115
  go_wp2
  exact bodyPost_ret (v:= .agg #[.int .u64 (f 0:Nat),.int .u64 (f 1:Nat),.int .u64 (f 2:Nat),.int .u64 (f 3:Nat),.int .u64 (f 4:Nat)]) (by simp [results,Tryz.results115,go_sem]) rfl ⟨rfl,(by repeat (first|(with_reducible refine Below.alloc' ?_ _)|(with_reducible refine Below.drew ?_)|(with_reducible refine below_drewN ?_ _)|((with_reducible refine Below.setCell ?_ ?_ _);rotate_left;(focus (first|exact Nat.le_refl _|(simp;done)|(simp;omega))))|(with_reducible assumption)|(with_reducible exact Below.refl _ _)))⟩
def gJ (n:Nat):Nat:=n/18446744073709551616
def gq (n:Nat):Nat:=n%18446744073709551616
theorem J6 (n a b:Nat) (_ha:a<18446744073709551616) (_hb:b<18446744073709551616) (h:n+a*b<340282366920938463463374607431768211456):
  adds (Ty a b) (gq n:Nat) 0=(gq (n+a*b):Nat)∧adds (TM a b) (gJ n:Nat) (BN (Ty a b) (gq n:Nat) 0)=(gJ (n+a*b):Nat):=by
 unfold adds BN Ty TM gq gJ
 rw [show (a:Int)*(b:Int)=((a*b:Nat):Int) from by simp]
 generalize a*b=p at*
 constructor
 ·omega
 ·omega
theorem R9 (a b:Nat) (ha:a<18446744073709551616) (hb:b<18446744073709551616):Wd (TM a b):=by
 have h5:a*b≤18446744073709551615*18446744073709551615:=Nat.mul_le_mul (by omega) (by omega)
 unfold TM
 rw [show (a:Int)*(b:Int)=((a*b:Nat):Int) from by simp]
 generalize a*b=p at*
 exact ⟨by omega,by omega⟩
theorem J_ (n:Nat):Wd (gq n:Nat):=by unfold gq;exact ⟨by omega,by omega⟩
theorem RN {n:Nat} (h:n<340282366920938463463374607431768211456):Wd (gJ n:Nat):=by unfold gJ;exact ⟨by omega,by omega⟩
set_option maxHeartbeats 1000000 in
theorem iT (n a b:Nat) (ha:a<18446744073709551616) (hb:b<18446744073709551616) (h:n+a*b<340282366920938463463374607431768211456) (w:World):
  Calls Tryz.prog 172 #[.agg #[.int .u64 (gJ n:Nat),.int .u64 (gq n:Nat)],.int .u64 a,.int .u64 b] w fun e w'=>e= .returned (.agg #[.int .u64 (gJ (n+a*b):Nat),.int .u64 (gq (n+a*b):Nat)])∧Below w.heap.size w w':=by
 have hn:=J6 n a b ha hb h
 have h1:=fun w=>Kr (LE a b) (J_ n) Cy.zero w
 have h2:=fun w=>Kr (R9 a b ha hb) (RN (n:=n) (by omega)) (Nc (LE a b) (J_ n) Cy.zero) w
 rw [hn.1] at h1
 rw [hn.2] at h2
 have HM:=Lib.hid (fun w=>ML (x:=a) (y:=b) ⟨by omega,by omega⟩ ⟨by omega,by omega⟩ w)
 clear hn h ha hb
 go_enter Tryz.func172,Tryz.ntmps172
 go_wp2_with (go_at_call 206;go_must (refine (HM.out _).mono ?_;rintro e w1 ⟨rfl,rfl⟩))
 exact bodyPost_ret (v:= .agg #[.int .u64 (gJ (n+a*b):Nat),.int .u64 (gq (n+a*b):Nat)]) (by simp [results,Tryz.results172,go_sem]) rfl ⟨rfl,(by repeat (first|(with_reducible refine Below.alloc' ?_ _)|(with_reducible refine Below.drew ?_)|(with_reducible refine below_drewN ?_ _)|((with_reducible refine Below.setCell ?_ ?_ _);rotate_left;(focus (first|exact Nat.le_refl _|(simp;done)|(simp;omega))))|(with_reducible assumption)|(with_reducible exact Below.refl _ _)))⟩
theorem Qb (x0 x1 x2 x3 x4:Value) (w:World):(Instr.index 112 (.agg #[x0,x1,x2,x3,x4]) (.int .i64 0)).run Tryz.prog w= .ok x0 w:=by kernel_rfl
theorem Ve (x0 x1 x2 x3 x4:Value) (w:World):(Instr.index 112 (.agg #[x0,x1,x2,x3,x4]) (.int .i64 1)).run Tryz.prog w= .ok x1 w:=by kernel_rfl
theorem VY (x0 x1 x2 x3 x4:Value) (w:World):(Instr.index 112 (.agg #[x0,x1,x2,x3,x4]) (.int .i64 2)).run Tryz.prog w= .ok x2 w:=by kernel_rfl
theorem Vy (x0 x1 x2 x3 x4:Value) (w:World):(Instr.index 112 (.agg #[x0,x1,x2,x3,x4]) (.int .i64 3)).run Tryz.prog w= .ok x3 w:=by kernel_rfl
theorem U2 (x0 x1 x2 x3 x4:Value) (w:World):(Instr.index 112 (.agg #[x0,x1,x2,x3,x4]) (.int .i64 4)).run Tryz.prog w= .ok x4 w:=by kernel_rfl
theorem Yi (f:Nat→Nat) (k:Nat) (hk:k<5) (w:World):(Instr.index 112 (.agg #[.int .u64 (f 0:Nat),.int .u64 (f 1:Nat),.int .u64 (f 2:Nat),.int .u64 (f 3:Nat),.int .u64 (f 4:Nat)]) (.int .i64 (k:Nat))).run Tryz.prog w= .ok (.int .u64 (f k:Nat)) w:=by
 have h:k=0∨k=1∨k=2∨k=3∨k=4:=by omega
 rcases h with rfl|rfl|rfl|rfl|rfl
 ·exact Qb _ _ _ _ _ _
 ·exact Ve _ _ _ _ _ _
 ·exact VY _ _ _ _ _ _
 ·exact Vy _ _ _ _ _ _
 ·exact U2 _ _ _ _ _ _
def gE (f g:Nat→Nat) (i j:Nat) (R:Nat→Nat) (k:Nat):Nat:=
 if k=(i+j)%5 then R k+(if 5≤i+j then f i*19 else f i)*g j else R k
def tz (f g:Nat→Nat) (i:Nat) (R:Nat→Nat):Nat→Nat→Nat
 |0=>R
 |j+1=>gE f g i j (tz f g i R j)
def Bj (f g:Nat→Nat):Nat→Nat→Nat
 |0=>fun _=>0
 |i+1=>tz f g i (Bj f g i) 5
def na (f g:Nat→Nat) (i j:Nat):Nat→Nat:=tz f g i (Bj f g i) j
def ge (R:Nat→Nat) (q:Nat):Value:=if q%2=0 then .int .u64 (gJ (R (q/2)):Nat) else .int .u64 (gq (R (q/2)):Nat)
theorem xD (f g:Nat→Nat) (i j:Nat):na f g i (j+1)=gE f g i j (na f g i j):=rfl
theorem Ca {f g R:Nat→Nat} {i j B:Nat} (hf:sI f) (hg:sI g) (hi:i<5) (hj:j<5) (h:∀k,R k≤B) (k:Nat):gE f g i j R k≤B+96342400000000000000000000000000:=by
 have h1:=hf.lt i hi
 have h2:=hg.lt j hj
 have h3:(if 5≤i+j then f i*19 else f i)≤42784196460020092:=by split<;>omega
 have h4:(if 5≤i+j then f i*19 else f i)*g j≤96342400000000000000000000000000:=Nat.le_trans (Nat.mul_le_mul h3 (show g j≤2251799813685268 by omega)) (by decide)
 have:=h k
 unfold gE
 generalize (if 5≤i+j then f i*19 else f i)*g j=z at*
 split<;>omega
theorem uh {f g R:Nat→Nat} {i B:Nat} (hf:sI f) (hg:sI g) (hi:i<5) (h:∀k,R k≤B):∀j,j≤5→∀k,tz f g i R j k≤B+j*96342400000000000000000000000000
 |0,_,k=>by have:=h k;simpa [tz] using this
 |j+1,hj,k=>by
  have:=Ca (j:=j) hf hg hi (by omega) (uh hf hg hi h j (by omega)) k
  show gE f g i j (tz f g i R j) k≤_
  omega
theorem Eo {f g:Nat→Nat} (hf:sI f) (hg:sI g):∀i,i≤5→∀k,Bj f g i k≤5*i*96342400000000000000000000000000
 |0,_,k=>by simp [Bj]
 |i+1,hi,k=>by
  have:=uh hf hg (show i<5 by omega) (Eo hf hg i (by omega)) 5 (by omega) k
  show tz f g i (Bj f g i) 5 k≤_
  omega
theorem BH {f g:Nat→Nat} (hf:sI f) (hg:sI g) (i j:Nat) (hi:i<5) (hj:j≤5) (k:Nat):na f g i j k≤25*96342400000000000000000000000000:=by
 have:=uh hf hg hi (Eo hf hg i (by omega)) j hj k
 unfold na
 have h2:5*i*96342400000000000000000000000000≤20*96342400000000000000000000000000:=Nat.mul_le_mul_right _ (by omega)
 have h3:j*96342400000000000000000000000000≤5*96342400000000000000000000000000:=Nat.mul_le_mul_right _ (by omega)
 omega
theorem tN (R:Nat→Nat) (m:Nat):ge R (m*2)= .int .u64 (gJ (R m):Nat):=by
 unfold ge;rw [if_pos (by omega),show m*2/2=m from by omega]
theorem vZ (R:Nat→Nat) (m:Nat):ge R (m*2+1)= .int .u64 (gq (R m):Nat):=by
 unfold ge;rw [if_neg (by omega),show (m*2+1)/2=m from by omega]
theorem yT (R:Nat→Nat) (m v:Nat):((row 10 (ge R)).set (m*2) (.int .u64 (gJ v:Nat))).set (m*2+1) (.int .u64 (gq v:Nat))=row 10 (ge fun k=>if k=m then v else R k):=by
 rw [gw (g:=fun q=>if q=m*2 then .int .u64 (gJ v:Nat) else ge R q) (m*2) _ (by simp) (fun i _ h=>by simp [h])]
 refine gw _ _ ?_ (fun i _ h=> ?_)
 ·rw [vZ,if_pos rfl]
 ·by_cases h1:i=m*2
  ·subst h1;rw [if_pos rfl,tN,if_pos rfl]
  ·rw [if_neg h1]
   unfold ge
   simp only [if_neg (show ¬i/2=m by omega)]
theorem Dg (f g:Nat→Nat) (i j:Nat) (h:5≤i+j) (hi:i<5) (hj:j<5):na f g i (j+1)=fun k=>if k=i+j-5 then na f g i j (i+j-5)+f i*19*g j else na f g i j k:=by
 rw [xD];funext k;unfold gE
 rw [show (i+j)%5=i+j-5 from by omega]
 by_cases hk:k=i+j-5
 ·subst hk;rw [if_pos rfl,if_pos rfl,if_pos h]
 ·rw [if_neg hk,if_neg hk]
theorem DX (f g:Nat→Nat) (i j:Nat) (h:¬5≤i+j):na f g i (j+1)=fun k=>if k=i+j then na f g i j (i+j)+f i*g j else na f g i j k:=by
 rw [xD];funext k;unfold gE
 rw [show (i+j)%5=i+j from by omega]
 by_cases hk:k=i+j
 ·subst hk;rw [if_pos rfl,if_pos rfl,if_neg h]
 ·rw [if_neg hk,if_neg hk]
theorem Vp (f:Nat→Value):row 10 f= [f 0,f 1,f 2,f 3,f 4,f 5,f 6,f 7,f 8,f 9]:=rfl
theorem Sy (R:Nat→Nat):ge R 0= .int .u64 (gJ (R 0):Nat):=rfl
theorem RA (R:Nat→Nat):ge R 1= .int .u64 (gq (R 0):Nat):=rfl
theorem Sz (R:Nat→Nat):ge R 2= .int .u64 (gJ (R 1):Nat):=rfl
theorem SG (R:Nat→Nat):ge R 3= .int .u64 (gq (R 1):Nat):=rfl
theorem RM (R:Nat→Nat):ge R 4= .int .u64 (gJ (R 2):Nat):=rfl
theorem Rx (R:Nat→Nat):ge R 5= .int .u64 (gq (R 2):Nat):=rfl
theorem R7 (R:Nat→Nat):ge R 6= .int .u64 (gJ (R 3):Nat):=rfl
theorem S6 (R:Nat→Nat):ge R 7= .int .u64 (gq (R 3):Nat):=rfl
theorem RF (R:Nat→Nat):ge R 8= .int .u64 (gJ (R 4):Nat):=rfl
theorem R8 (R:Nat→Nat):ge R 9= .int .u64 (gq (R 4):Nat):=rfl
theorem Nq (f g:Nat→Nat):val (na f g 5 0)%Pq=val f*val g%Pq:=by
 have e:val f*val g=(f 0*g 0+2251799813685248*((f 0*g 1+f 1*g 0)+2251799813685248*((f 0*g 2+f 1*g 1+f 2*g 0)+2251799813685248*((f 0*g 3+f 1*g 2+f 2*g 1+f 3*g 0)+2251799813685248*(f 0*g 4+f 1*g 3+f 2*g 2+f 3*g 1+f 4*g 0)))))+
   57896044618658097711785492504343953926634992332820282019728792003956564819968*((f 1*g 4+f 2*g 3+f 3*g 2+f 4*g 1)+2251799813685248*((f 2*g 4+f 3*g 3+f 4*g 2)+2251799813685248*((f 3*g 4+f 4*g 3)+2251799813685248*(f 4*g 4)))):=by
  unfold val;grind
 rw [e,fi]
 congr 1
 simp [val,na,tz,Bj,gE]
 grind
theorem UK (x0 x1 x2 x3 x4 x5 x6 x7 x8 x9:Value) (w:World):(Instr.index 218 (.agg #[x0,x1,x2,x3,x4,x5,x6,x7,x8,x9]) (.int .i64 0)).run Tryz.prog w= .ok (.agg #[x0,x1]) w:=by kernel_rfl
theorem UV (x0 x1 x2 x3 x4 x5 x6 x7 x8 x9:Value) (w:World):(Instr.index 218 (.agg #[x0,x1,x2,x3,x4,x5,x6,x7,x8,x9]) (.int .i64 1)).run Tryz.prog w= .ok (.agg #[x2,x3]) w:=by kernel_rfl
theorem VU (x0 x1 x2 x3 x4 x5 x6 x7 x8 x9:Value) (w:World):(Instr.index 218 (.agg #[x0,x1,x2,x3,x4,x5,x6,x7,x8,x9]) (.int .i64 2)).run Tryz.prog w= .ok (.agg #[x4,x5]) w:=by kernel_rfl
theorem V8 (x0 x1 x2 x3 x4 x5 x6 x7 x8 x9:Value) (w:World):(Instr.index 218 (.agg #[x0,x1,x2,x3,x4,x5,x6,x7,x8,x9]) (.int .i64 3)).run Tryz.prog w= .ok (.agg #[x6,x7]) w:=by kernel_rfl
theorem Vv (x0 x1 x2 x3 x4 x5 x6 x7 x8 x9:Value) (w:World):(Instr.index 218 (.agg #[x0,x1,x2,x3,x4,x5,x6,x7,x8,x9]) (.int .i64 4)).run Tryz.prog w= .ok (.agg #[x8,x9]) w:=by kernel_rfl
theorem YX (R:Nat→Nat) (k:Nat) (hk:k<5) (w:World):(Instr.index 218 (.agg #[.int .u64 (gJ (R 0):Nat),.int .u64 (gq (R 0):Nat),.int .u64 (gJ (R 1):Nat),.int .u64 (gq (R 1):Nat),.int .u64 (gJ (R 2):Nat),.int .u64 (gq (R 2):Nat),.int .u64 (gJ (R 3):Nat),.int .u64 (gq (R 3):Nat),.int .u64 (gJ (R 4):Nat),.int .u64 (gq (R 4):Nat)]) (.int .i64 (k:Nat))).run Tryz.prog w= .ok (.agg #[.int .u64 (gJ (R k):Nat),.int .u64 (gq (R k):Nat)]) w:=by
 have h:k=0∨k=1∨k=2∨k=3∨k=4:=by omega
 rcases h with rfl|rfl|rfl|rfl|rfl
 ·exact UK _ _ _ _ _ _ _ _ _ _ _
 ·exact UV _ _ _ _ _ _ _ _ _ _ _
 ·exact VU _ _ _ _ _ _ _ _ _ _ _
 ·exact V8 _ _ _ _ _ _ _ _ _ _ _
 ·exact Vv _ _ _ _ _ _ _ _ _ _ _
theorem V7 (n:Nat):bits BinOp.and IntKind.u64 (gq n:Nat) 2251799813685247=((n%2251799813685248:Nat):Int):=by
 rw [rV _ (by unfold gq;omega)];unfold gq;omega
theorem TX (n:Nat) (h:n<41538374868278621028243970633760768):bits BinOp.or IntKind.u64 (IntKind.u64.wrap ((gJ n:Nat)*8192:Int)) ((gq n:Nat)/2251799813685248:Int)=((n/2251799813685248:Nat):Int):=by
 have h1:gJ n<2251799813685248:=by unfold gJ;omega
 have h2:gq n/2251799813685248<2^13:=by unfold gq;omega
 rw [fp,show ((gJ n:Nat)*8192:Int)%18446744073709551616=((gJ n*8192:Nat):Int) from by omega,show ((gq n:Nat):Int)/2251799813685248=((gq n/2251799813685248:Nat):Int) from by omega,u64_or_nat _ _ (by omega) (by omega)]
 have h3:=Nat.shiftLeft_add_eq_or_of_lt h2 (gJ n)
 rw [Nat.shiftLeft_eq] at h3
 rw [show gJ n*8192=gJ n*2^13 from rfl,←h3]
 unfold gJ gq;omega
theorem zY (n a:Nat) (ha:a<18446744073709551616) (h:n+a<340282366920938463463374607431768211456) (w:World):
  Calls Tryz.prog 172 #[.agg #[.int .u64 (gJ n:Nat),.int .u64 (gq n:Nat)],.int .u64 a,.int .u64 1] w fun e w'=>e= .returned (.agg #[.int .u64 (gJ (n+a):Nat),.int .u64 (gq (n+a):Nat)])∧Below w.heap.size w w':=by
 have:=iT n a 1 ha (by omega) (by omega) w
 rw [Nat.mul_one] at this;exact this
theorem B9 (n a b:Nat) (hn:n<18446744073709551616) (ha:a<18446744073709551616) (hb:b<18446744073709551616) (h:n+a*b<340282366920938463463374607431768211456) (w:World):
  Calls Tryz.prog 172 #[.agg #[.int .u64 0,.int .u64 n],.int .u64 a,.int .u64 b] w fun e w'=>e= .returned (.agg #[.int .u64 (gJ (n+a*b):Nat),.int .u64 (gq (n+a*b):Nat)])∧Below w.heap.size w w':=by
 have:=iT n a b ha hb h w
 rw [show gJ n=0 from Nat.div_eq_of_lt hn,show gq n=n from Nat.mod_eq_of_lt hn] at this;exact this
def i4 (R:Nat→Nat) (i:Nat):Nat:=
 if i=0 then (cE R 0 0+cr R 0 5*19)%2251799813685248 else if i=1 then cE R 0 1+(cE R 0 0+cr R 0 5*19)/2251799813685248 else cE R 0 i
theorem Ig (R:Nat→Nat):val (i4 R)%Pq=val R%Pq:=by
 have h:=oo R 0
 rw [Nat.add_zero] at h
 rw [←h,fi]
 congr 1
 simp only [val,i4,if_true,if_neg (show ¬(1=0) by omega),if_neg (show ¬(2=0) by omega),if_neg (show ¬(3=0) by omega),if_neg (show ¬(4=0) by omega),if_neg (show ¬(2=1) by omega),if_neg (show ¬(3=1) by omega),if_neg (show ¬(4=1) by omega)]
 omega
theorem W3 (R:Nat→Nat) (h:∀k,R k≤25*96342400000000000000000000000000):∀k,cr R 0 k≤1100000000000000000
 |0=>by simp [cr]
 |k+1=>by have h1:=W3 R h k;have h2:=h k;rw [cr];omega
def xz (R:Nat→Nat) (k i:Nat):Value:=if i<k then .int .u64 (cE R 0 i:Nat) else .int .u64 0
theorem Lv (R:Nat→Nat) (k:Nat):(row 5 (xz R k)).set k (.int .u64 (cE R 0 k:Nat))=row 5 (xz R (k+1)):=
 gw k _ (by unfold xz;rw [if_pos (by omega)]) (fun i _ h=>by unfold xz;by_cases h1:i<k;rw [if_pos h1,if_pos (by omega)];rw [if_neg h1,if_neg (by omega)])
set_option maxHeartbeats 2000000 in
theorem gS {f g:Nat→Nat} {x y:Nat} (hf:FE f x) (hg:FE g y) (w:World):
  Calls Tryz.prog 107 #[.agg #[.int .u64 (f 0:Nat),.int .u64 (f 1:Nat),.int .u64 (f 2:Nat),.int .u64 (f 3:Nat),.int .u64 (f 4:Nat)],.agg #[.int .u64 (g 0:Nat),.int .u64 (g 1:Nat),.int .u64 (g 2:Nat),.int .u64 (g 3:Nat),.int .u64 (g 4:Nat)]] w fun e w'=>∃h,e= .returned (.agg #[.int .u64 (h 0:Nat),.int .u64 (h 1:Nat),.int .u64 (h 2:Nat),.int .u64 (h 3:Nat),.int .u64 (h 4:Nat)])∧FE h (x*y%Pq)∧Below w.heap.size w w':=by
 go_enter Tryz.func107,Tryz.ntmps107
 go_wp2
 refine dt (fun W=>aj W (w.heap.size+1) (row 5 (fV g)) 114∧aj W (w.heap.size+1+1+1) (row 10 (ge (na f g 0 0))) 218∧aj W (w.heap.size+1+1) (row 5 (fV fun _=>0)) 114∧Below w.heap.size w W) ?_ (fun W hW=> ?_)
 ·exact ⟨((aj.new' (by simp)).alloc _).alloc _,(by rw [show row 10 (ge (na f g 0 0))= [.int .u64 0,.int .u64 0,.int .u64 0,.int .u64 0,.int .u64 0,.int .u64 0,.int .u64 0,.int .u64 0,.int .u64 0,.int .u64 0] from by simp [row,List.range,List.range.loop,ge,na,tz,Bj,gJ,gq]];exact aj.new' (by simp)),(by rw [show row 5 (fV fun _=>0)= [.int .u64 0,.int .u64 0,.int .u64 0,.int .u64 0,.int .u64 0] from rfl];exact (aj.new' (by simp)).alloc _),(by repeat (first|(with_reducible refine Below.alloc' ?_ _)|(with_reducible refine Below.drew ?_)|(with_reducible refine below_drewN ?_ _)|((with_reducible refine Below.setCell ?_ ?_ _);rotate_left;(focus (first|exact Nat.le_refl _|(simp;done)|(simp;omega))))|(with_reducible assumption)|(with_reducible exact Below.refl _ _)))⟩
 obtain ⟨hb1,hw1,ho1,hbl1⟩:=hW
 go_loopw [17] (fun i wr=>∃k:Nat,k≤5∧i= .int .i64 k∧aj wr (w.heap.size+1) (row 5 (fV g)) 114∧aj wr (w.heap.size+1+1+1) (row 10 (ge (na f g k 0))) 218∧aj wr (w.heap.size+1+1) (row 5 (fV fun _=>0)) 114∧Below w.heap.size w wr) (fun i _=>5-(intOf i).toNat)
 case atStart=>exact ⟨0,by omega,rfl,hb1,hw1,ho1,hbl1⟩
 case round=>
  clear hb1 hw1 ho1 hbl1 W
  obtain ⟨i,hi,rfl,hbB,hwB,hoB,hbl⟩:=hrel
  obtain ⟨wo,hwo⟩:∃wo:World,wo=wr:=⟨_,rfl⟩
  by_cases hlt:i<5
  ·have hx:=Yi f i hlt
   have hdd:decide ((i:Int)<5)=true:=by simp;omega
   have hbc:=hbB.cell
   rw [Nl] at hbc
   unfold fV at hbc
   go_wp2
   clear hx hbc
   go_loopw [23] (fun j wr=>∃k:Nat,k≤5∧j= .int .i64 k∧aj wr (w.heap.size+1) (row 5 (fV g)) 114∧aj wr (w.heap.size+1+1+1) (row 10 (ge (na f g i k))) 218∧aj wr (w.heap.size+1+1) (row 5 (fV fun _=>0)) 114∧Below w.heap.size w wr) (fun j _=>5-(intOf j).toNat)
   case atStart=>exact ⟨0,by omega,rfl,hbB,hwB,hoB,hbl⟩
   case round=>
    subst hwo
    clear hbB hwB hoB hbl
    obtain ⟨j,hj,rfl,hbB,hwB,hoB,hbl⟩:=hrel
    by_cases hlt':j<5
    ·have hy:=Yi g j hlt'
     by_cases h5:5≤i+j
     ·have d5:decide ((5:Int)≤(i:Int)+(j:Int))=true:=by simp;omega
      have hm:i+j-5<5:=by omega
      have c1:wr.cell? ⟨w.heap.size+1+1+1,(i+j-5)*2,none⟩=some (.int .u64 (gJ (na f g i j (i+j-5)):Nat)):=by rw [hwB.at (by omega),tN]
      have c2:wr.cell? ⟨w.heap.size+1+1+1,(i+j-5)*2+1,none⟩=some (.int .u64 (gq (na f g i j (i+j-5)):Nat)):=by rw [hwB.at (by omega),vZ]
      have h19:IntKind.u64.wrap ((f i:Nat)*19:Int)=((f i*19:Nat):Int):=by have:=hf.lim.lt i hlt;rw [fp];omega
      have hP:=fun W=>iT (na f g i j (i+j-5)) (f i*19) (g j) (by have:=hf.lim.lt i hlt;omega) (by have:=hg.lim.lt j hlt';omega) (by
       have h1:=BH hf.lim hg.lim i (j+1) (by omega) (by omega) (i+j-5)
       rw [Dg f g i j h5 hlt hlt'] at h1
       simp only [if_true] at h1
       omega) W
      have HP:=Lib.hid hP
      have HC:=Lib.hid (Dg f g i j h5 hlt hlt')
      have HB:=Lib.hid hbB;have HW:=Lib.hid hwB;have HO:=Lib.hid hoB
      clear hP hbB hwB hoB
      generalize hn:na f g i j (i+j-5)+f i*19*g j=n at*
      clear hn
      generalize f i*19=a19 at*
      go_wp2_with (go_at_call 172;go_must (refine (HP.out _).mono ?_;rintro e w1 ⟨rfl,hb⟩;have hB1:=HB.out.below' hb;have hW1:=HW.out.below' hb;have hO1:=HO.out.below' hb;have hbl1:=Below.call hbl hb;have e1:=hW1.cell ((i+j-5)*2);have e2:=hW1.cell ((i+j-5)*2+1);rw [uZ (by omega)] at e1 e2;have ef:=hW1.frozen;clear hb hbl c1 c2))
      go_roundw
      case rel=>exact ⟨j+1,by omega,by go_num,(hB1.other _ (by simp;omega) _).other _ (by simp;omega) _,by rw [HC.out,←yT];exact (hW1.set _ _).set _ _,(hO1.other _ (by simp) _).other _ (by simp) _,(by repeat (first|(with_reducible refine Below.alloc' ?_ _)|(with_reducible refine Below.drew ?_)|(with_reducible refine below_drewN ?_ _)|((with_reducible refine Below.setCell ?_ ?_ _);rotate_left;(focus (first|exact Nat.le_refl _|(simp;done)|(simp;omega))))|(with_reducible assumption)|(with_reducible exact Below.refl _ _)))⟩
      case measure=>simp [intOf];omega
     ·have d5:decide ((5:Int)≤(i:Int)+(j:Int))=false:=by simp;omega
      have hm:i+j<5:=by omega
      have c1:wr.cell? ⟨w.heap.size+1+1+1,(i+j)*2,none⟩=some (.int .u64 (gJ (na f g i j (i+j)):Nat)):=by rw [hwB.at (by omega),tN]
      have c2:wr.cell? ⟨w.heap.size+1+1+1,(i+j)*2+1,none⟩=some (.int .u64 (gq (na f g i j (i+j)):Nat)):=by rw [hwB.at (by omega),vZ]
      have hP:=fun W=>iT (na f g i j (i+j)) (f i) (g j) (by have:=hf.lim.lt i hlt;omega) (by have:=hg.lim.lt j hlt';omega) (by
       have h1:=BH hf.lim hg.lim i (j+1) (by omega) (by omega) (i+j)
       rw [DX f g i j h5] at h1
       simp only [if_true] at h1
       omega) W
      have HP:=Lib.hid hP
      have HC:=Lib.hid (DX f g i j h5)
      have HB:=Lib.hid hbB;have HW:=Lib.hid hwB;have HO:=Lib.hid hoB
      clear hP hbB hwB hoB
      generalize hn:na f g i j (i+j)+f i*g j=n at*
      clear hn
      go_wp2_with (go_at_call 172;go_must (refine (HP.out _).mono ?_;rintro e w1 ⟨rfl,hb⟩;have hB1:=HB.out.below' hb;have hW1:=HW.out.below' hb;have hO1:=HO.out.below' hb;have hbl1:=Below.call hbl hb;have e1:=hW1.cell ((i+j)*2);have e2:=hW1.cell ((i+j)*2+1);rw [uZ (by omega)] at e1 e2;have ef:=hW1.frozen;clear hb hbl c1 c2))
      go_roundw
      case rel=>exact ⟨j+1,by omega,by go_num,(hB1.other _ (by simp;omega) _).other _ (by simp;omega) _,by rw [HC.out,←yT];exact (hW1.set _ _).set _ _,(hO1.other _ (by simp) _).other _ (by simp) _,(by repeat (first|(with_reducible refine Below.alloc' ?_ _)|(with_reducible refine Below.drew ?_)|(with_reducible refine below_drewN ?_ _)|((with_reducible refine Below.setCell ?_ ?_ _);rotate_left;(focus (first|exact Nat.le_refl _|(simp;done)|(simp;omega))))|(with_reducible assumption)|(with_reducible exact Below.refl _ _)))⟩
      case measure=>simp [intOf];omega
    ·obtain rfl:j=5:=by omega
     clear hlt' hj
     go_wp2
     go_roundw
     case rel=>exact ⟨i+1,by omega,by go_num,hbB,hwB,hoB,hbl⟩
     case measure=>simp [intOf];omega
  ·obtain rfl:i=5:=by omega
   clear hwo hlt hi hbB
   have hR:∀k,na f g 5 0 k≤25*96342400000000000000000000000000:=BH hf.lim hg.lim 4 5 (by omega) (by omega)
   have HV:=Lib.hid (Nq f g)
   have HF:=Lib.hid hf;have HG:=Lib.hid hg
   clear hf hg
   generalize na f g 5 0=R at*
   rw [Vp] at hwB
   rw [Nl] at hoB
   unfold fV at hoB
   simp only [Sy,RA,Sz,SG,RM,Rx,R7,S6,RF,R8] at hwB
   have hwc:=hwB.cell
   have hwlt:=hwB.lt
   have HR:=Lib.hid hR
   have HO:=Lib.hid hoB
   clear hR hwB hoB
   go_wp2
   clear hwc
   obtain ⟨wo,rfl⟩:∃wo:World,wo=wr:=⟨_,rfl⟩
   have hB0:Below w.heap.size w (wo.alloc (.cells #[.int .u64 0,.int .u64 0,.int .u64 0,.int .u64 0,.int .u64 0] 112)):=(by repeat (first|(with_reducible refine Below.alloc' ?_ _)|(with_reducible refine Below.drew ?_)|(with_reducible refine below_drewN ?_ _)|((with_reducible refine Below.setCell ?_ ?_ _);rotate_left;(focus (first|exact Nat.le_refl _|(simp;done)|(simp;omega))))|(with_reducible assumption)|(with_reducible exact Below.refl _ _)))
   have hL0:aj (wo.alloc (.cells #[.int .u64 0,.int .u64 0,.int .u64 0,.int .u64 0,.int .u64 0] 112)) wo.heap.size (row 5 (xz R 0)) 112:=aj.new wo _ _
   have hO0:=(HO.out).alloc (.cells #[.int .u64 0,.int .u64 0,.int .u64 0,.int .u64 0,.int .u64 0] 112)
   have HO1:=Lib.hid hO0
   have hwl:w.heap.size+1+1<wo.heap.size:=HO.out.lt
   have hwz:w.heap.size≤wo.heap.size:=by omega
   clear HO hO0 hbl hwlt
   go_loopw [11,61] (fun c i wx=>∃k:Nat,k≤5∧i= .int .i64 k∧c= .int .u64 (cr R 0 k:Nat)∧aj wx wo.heap.size (row 5 (xz R k)) 112∧Hid (aj wx (w.heap.size+1+1) [.int .u64 0,.int .u64 0,.int .u64 0,.int .u64 0,.int .u64 0] 114)∧Below w.heap.size w wx) (fun _ i _=>5-(intOf i).toNat)
   case atStart=>exact ⟨0,by omega,rfl,rfl,hL0,HO1,hB0⟩
   case round=>
    clear hL0 HO1 hB0
    obtain ⟨k,hk,rfl,rfl,hL,HO,hbel⟩:=hrel
    by_cases hlt:k<5
    ·have hx:=YX R k hlt
     have hcr:=W3 R HR.out k
     have hRk:=HR.out k
     have hP:=fun W=>zY (R k) (cr R 0 k) (by omega) (by omega) W
     have hlo:bits BinOp.and IntKind.u64 (gq (R k+cr R 0 k):Nat) 2251799813685247=((cE R 0 k:Nat):Int):=V7 _
     have hhi:bits BinOp.or IntKind.u64 (IntKind.u64.wrap ((gJ (R k+cr R 0 k):Nat)*8192:Int)) ((gq (R k+cr R 0 k):Nat)/2251799813685248:Int)=((cr R 0 (k+1):Nat):Int):=TX _ (by omega)
     have HP:=Lib.hid hP
     have HL:=Lib.hid hL
     have hLs:=hL.lt
     have hOs:=HO.out.lt
     clear hcr hRk hP hL
     generalize hn:R k+cr R 0 k=n at*
     clear hn
     go_wp2_with (go_at_call 172;go_must (refine (HP.out _).mono ?_;rintro e w1 ⟨rfl,hb⟩;have hV1:=(aj.new wr #[.int .u64 (gJ (R k):Nat),.int .u64 (gq (R k):Nat)] 217).below' hb;have hL1:=(HL.out.alloc _).below' hb;have hO1:=(HO.out.alloc _).below' hb;have hbl1:=Below.call (show Below w.heap.size w _ from (by repeat (first|(with_reducible refine Below.alloc' ?_ _)|(with_reducible refine Below.drew ?_)|(with_reducible refine below_drewN ?_ _)|((with_reducible refine Below.setCell ?_ ?_ _);rotate_left;(focus (first|exact Nat.le_refl _|(simp;done)|(simp;omega))))|(with_reducible assumption)|(with_reducible exact Below.refl _ _)))) hb;have vc:=hV1.cell;have vf:=hV1.frozen;have lc:=hL1.at hlt;have lf:=hL1.frozen k;rw [show xz R k k= .int .u64 0 from if_neg (by omega)] at lc;have hne:¬wo.heap.size=wr.heap.size:=(by omega);have hne2:¬wr.heap.size=wo.heap.size:=(by omega);have HL1:=Lib.hid hL1;have HO1:=Lib.hid hO1;clear hb hV1 hL1 hO1 HL HO))
     go_roundw
     case rel=>exact ⟨k+1,by omega,by go_num,rfl,by have:=((HL1.out.other ⟨wr.heap.size,0,none⟩ (by simp;omega) (.int .u64 (gJ n:Nat))).other ⟨wr.heap.size,1,none⟩ (by simp;omega) (.int .u64 (gq n:Nat))).set k (.int .u64 (cE R 0 k:Nat));rw [Lv] at this;exact this,((HO1.out.other _ (by simp;omega) _).other _ (by simp;omega) _).other _ (by simp;omega) _,(by repeat (first|(with_reducible refine Below.alloc' ?_ _)|(with_reducible refine Below.drew ?_)|(with_reducible refine below_drewN ?_ _)|((with_reducible refine Below.setCell ?_ ?_ _);rotate_left;(focus (first|exact Nat.le_refl _|(simp;done)|(simp;omega))))|(with_reducible assumption)|(with_reducible exact Below.refl _ _)))⟩
     case measure=>simp [intOf];omega
    ·obtain rfl:k=5:=by omega
     have hcr:=W3 R HR.out 5
     have hL5:row 5 (xz R 5)= [.int .u64 (cE R 0 0:Nat),.int .u64 (cE R 0 1:Nat),.int .u64 (cE R 0 2:Nat),.int .u64 (cE R 0 3:Nat),.int .u64 (cE R 0 4:Nat)]:=rfl
     rw [hL5] at hL
     clear hL5
     have hp:=eZ R 0
     have HP0:=Lib.hid (fun W=>B9 (cE R 0 0) (cr R 0 5) 19 (by have:=hp 0;omega) (by omega) (by omega) (by have:=hp 0;omega) W)
     have hlo:bits BinOp.and IntKind.u64 (gq (cE R 0 0+cr R 0 5*19):Nat) 2251799813685247=((i4 R 0:Nat):Int):=V7 _
     have hhi:IntKind.u64.wrap ((cE R 0 1:Nat)+bits BinOp.or IntKind.u64 (IntKind.u64.wrap ((gJ (cE R 0 0+cr R 0 5*19):Nat)*8192:Int)) ((gq (cE R 0 0+cr R 0 5*19):Nat)/2251799813685248:Int):Int)=((i4 R 1:Nat):Int):=by
      rw [TX _ (by have:=hp 0;omega),fp]
      have:=hp 0;have:=hp 1
      show _=((cE R 0 1+(cE R 0 0+cr R 0 5*19)/2251799813685248:Nat):Int)
      omega
     have hbd:∀i,i<5→i4 R i≤9223372036854775808:=fun i _=>by
      have:=hp 0;have:=hp 1;have:=hp i
      unfold i4;split
      ·omega
      ·split<;>omega
     have HQ:Hid (FE (cF (i4 R)) (x*y%Pq)):=Lib.hid ⟨wl _ hbd,by rw [tC,Ig,HV.out,Nat.mul_mod,HF.out.num,HG.out.num]⟩
     have HBD:=Lib.hid hbd
     rw [show cE R 0 2=i4 R 2 from rfl,show cE R 0 3=i4 R 3 from rfl,show cE R 0 4=i4 R 4 from rfl] at hL
     have HL:=Lib.hid hL
     clear hcr hp hbd hL hk hlt
     have hLc:=HL.out.cell
     have hLf:=HL.out.frozen
     have hLl:=HL.out.lt
     have hOl:=HO.out.lt
     generalize cE R 0 0+cr R 0 5*19=n at*
     go_wp2_with (first             | (go_at_call 172; go_must (refine (HP0.out _).mono ?_; rintro e w1 ⟨rfl, hb⟩; have hL1 := HL.out.below' hb; have lc := hL1.cell; have lf := hL1.frozen; have hO1 := HO.out.below' hb; have hbl1 := Below.call hbel hb; have HL1 := Lib.hid hL1; have HO1 := Lib.hid hO1; have hlt1 := hL1.lt; have hot1 := hO1.lt; have hne : ¬ wo.heap.size = w1.heap.size := (by omega); have hne2 : ¬ w1.heap.size = wo.heap.size := (by omega); clear hb hL1 hO1 HL HO HP0))             | (go_at_call 173; go_must (refine (fz (i4 R) HBD.out _).mono ?_; rintro e w2 ⟨rfl, hb⟩; have hO2 := (((HO1.out.other ⟨wo.heap.size, 0, none⟩ (by simp; omega) (.int .u64 (i4 R 0 : Nat))).other ⟨wo.heap.size, 1, none⟩ (by simp; omega) (.int .u64 (i4 R 1 : Nat))).alloc _).below' hb; have oc := hO2.cell; have of := hO2.frozen; have hbl2 := Below.call (show Below w.heap.size w _ from (by repeat (first | (with_reducible refine Below.alloc' ?_ _) | (with_reducible refine Below.drew ?_) | (with_reducible refine below_drewN ?_ _) | ((with_reducible refine Below.setCell ?_ ?_ _); rotate_left; (focus (first | exact Nat.le_refl _ | (simp; done) | (simp; omega)))) | (with_reducible assumption) | (with_reducible exact Below.refl _ _)))) hb; clear hb hO2 lc lf)))
     exact bodyPost_ret (v:= .agg #[.int .u64 (cF (i4 R) 0:Nat),.int .u64 (cF (i4 R) 1:Nat),.int .u64 (cF (i4 R) 2:Nat),.int .u64 (cF (i4 R) 3:Nat),.int .u64 (cF (i4 R) 4:Nat)]) (by simp [results,Tryz.results107,go_sem,oc]) rfl ⟨_,rfl,HQ.out,(by repeat (first|(with_reducible refine Below.alloc' ?_ _)|(with_reducible refine Below.drew ?_)|(with_reducible refine below_drewN ?_ _)|((with_reducible refine Below.setCell ?_ ?_ _);rotate_left;(focus (first|exact Nat.le_refl _|(simp;done)|(simp;omega))))|(with_reducible assumption)|(with_reducible exact Below.refl _ _)))⟩
theorem yU (x N j:Nat):(x^(N/2^(j+1))%Pq)*(x^(N/2^(j+1))%Pq)%Pq=x^(2*(N/2^(j+1)))%Pq:=by
 rw [←Nat.mul_mod,←Nat.pow_add];congr 2;omega
theorem sx (N j:Nat):N/2^j=2*(N/2^(j+1))+N/2^j%2:=by
 rw [Nat.pow_succ,←Nat.div_div_eq_div_mul];omega
theorem Jd (N j:Nat) (x:Int) (hx:x=(lw N (j/64):Nat)):(bits BinOp.and IntKind.u64 (x/2^(j%64)) 1 ==1)=decide (N/2^j%2=1):=by
 subst hx
 have hq:lw N (j/64)/2^(j%64)<18446744073709551616:=Nat.lt_of_le_of_lt (Nat.div_le_self _ _) (eG _ _)
 rw [show ((lw N (j/64):Nat):Int)/2^(j%64)=((lw N (j/64)/2^(j%64):Nat):Int) from by simp,show (1:Int)=((1:Nat):Int) from rfl,u64_and_nat _ 1 hq (by omega),Nat.and_one_is_mod,CJ]
 generalize N/2^j%2=b
 by_cases hb:b=1
 ·subst hb;simp
 ·rw [decide_eq_false hb,beq_eq_false_iff_ne];omega
theorem O6 (x N j:Nat) (h:N/2^j%2=1):x^(N/2^j)%Pq=(x^(N/2^(j+1))%Pq)*(x^(N/2^(j+1))%Pq)%Pq*x%Pq:=by
 have e:N/2^j=2*(N/2^(j+1))+1:=by have:=sx N j;omega
 rw [yU,e,Nat.pow_succ]
 generalize x^(2*(N/2^(j+1)))=y
 rw [Nat.mul_mod (y%Pq),Nat.mod_mod,←Nat.mul_mod]
set_option maxHeartbeats 1000000 in
theorem te {f:Nat→Nat} {x:Nat} (N T:Nat) (hT1:T≤256) (hT2:256≤T) (hN:N<2^T) (hf:FE f x) (w:World):
  Calls Tryz.prog 174 #[.agg #[.int .u64 (f 0:Nat),.int .u64 (f 1:Nat),.int .u64 (f 2:Nat),.int .u64 (f 3:Nat),.int .u64 (f 4:Nat)],.agg #[.int .u64 (lw N 0:Nat),.int .u64 (lw N 1:Nat),.int .u64 (lw N 2:Nat),.int .u64 (lw N 3:Nat)]] w fun e w'=>∃h,e= .returned (.agg #[.int .u64 (h 0:Nat),.int .u64 (h 1:Nat),.int .u64 (h 2:Nat),.int .u64 (h 3:Nat),.int .u64 (h 4:Nat)])∧FE h (x^N%Pq)∧Below w.heap.size w w':=by
 have HN:=Lib.hid hN;have HF:=Lib.hid hf
 clear hN hf
 go_enter Tryz.func174,Tryz.ntmps174
 go_upto_region 2 with (go_at_call 106;go_must (refine (nJ (n:=1) (by omega) _).mono ?_;rintro e w1 ⟨rfl,hb⟩))
 refine dt (fun W=>aj W w.heap.size [.int .u64 (f 0:Nat),.int .u64 (f 1:Nat),.int .u64 (f 2:Nat),.int .u64 (f 3:Nat),.int .u64 (f 4:Nat)] 114∧aj W (w.heap.size+1) (row 4 (wV N)) 119∧aj W (w.heap.size+1+1) [.int .u64 0,.int .u64 0,.int .u64 0,.int .u64 0,.int .u64 0] 114∧(∃h,FE h (x^(N/2^T)%Pq)∧aj W w1.heap.size [.int .u64 (h 0:Nat),.int .u64 (h 1:Nat),.int .u64 (h 2:Nat),.int .u64 (h 3:Nat),.int .u64 (h 4:Nat)] 114)∧Below w.heap.size w W) ?_ (fun W hW=> ?_)
 ·refine ⟨(((aj.new w _ _).alloc _).alloc _ |>.below' hb).alloc _,(((aj.new' (by simp)).alloc _).below' hb).alloc _,((aj.new' (by simp)).below' hb).alloc _,⟨cQ 1,?_,aj.new w1 _ _⟩,Below.alloc' (Below.call (by repeat (first|(with_reducible refine Below.alloc' ?_ _)|(with_reducible refine Below.drew ?_)|(with_reducible refine below_drewN ?_ _)|((with_reducible refine Below.setCell ?_ ?_ _);rotate_left;(focus (first|exact Nat.le_refl _|(simp;done)|(simp;omega))))|(with_reducible assumption)|(with_reducible exact Below.refl _ _))) hb) _⟩
  rw [Nat.div_eq_of_lt HN.out,Nat.pow_zero]
  exact FE.small (by omega)
 have hs1:w.heap.size+1+1<w1.heap.size:=by have:=hb.size;simp at this;omega
 obtain ⟨hA,hK,hO,hH,hbel⟩:=hW
 clear hb
 generalize w1.heap.size=g at*
 clear w1
 go_wp2
 go_loopw [6] (fun i wr=>∃k:Nat,k≤256∧i= .int .i64 ((k:Int)-1)∧aj wr w.heap.size [.int .u64 (f 0:Nat),.int .u64 (f 1:Nat),.int .u64 (f 2:Nat),.int .u64 (f 3:Nat),.int .u64 (f 4:Nat)] 114∧aj wr (w.heap.size+1) (row 4 (wV N)) 119∧aj wr (w.heap.size+1+1) [.int .u64 0,.int .u64 0,.int .u64 0,.int .u64 0,.int .u64 0] 114∧(∃h,FE h (x^(N/2^k)%Pq)∧aj wr g [.int .u64 (h 0:Nat),.int .u64 (h 1:Nat),.int .u64 (h 2:Nat),.int .u64 (h 3:Nat),.int .u64 (h 4:Nat)] 114)∧Below w.heap.size w wr) (fun i _=>(intOf i+1).toNat)
 case atStart=>exact ⟨T,by omega,by congr 1;omega,hA,hK,hO,hH,hbel⟩
 case round=>
  clear hA hK hO hH hbel W
  obtain ⟨k,hk,rfl,hA,hK,hO,⟨h,hh,hH⟩,hbel⟩:=hrel
  by_cases hk0:k=0
  ·subst hk0
   rw [Nat.pow_zero,Nat.div_one] at hh
   have hHc:=hH.cell;have hOc:=hO.cell;have hOf:=hO.frozen
   rw [show (((0:Nat):Int)-1)= -1 from rfl]
   clear hA hK hO hH hk
   go_wp2
   exact bodyPost_ret (v:= .agg #[.int .u64 (h 0:Nat),.int .u64 (h 1:Nat),.int .u64 (h 2:Nat),.int .u64 (h 3:Nat),.int .u64 (h 4:Nat)]) (by simp [results,Tryz.results174,go_sem,hOc]) rfl ⟨_,rfl,hh,(by repeat (first|(with_reducible refine Below.alloc' ?_ _)|(with_reducible refine Below.drew ?_)|(with_reducible refine below_drewN ?_ _)|((with_reducible refine Below.setCell ?_ ?_ _);rotate_left;(focus (first|exact Nat.le_refl _|(simp;done)|(simp;omega))))|(with_reducible assumption)|(with_reducible exact Below.refl _ _)))⟩
  ·obtain ⟨j,rfl⟩:∃j,k=j+1:=⟨k-1,by omega⟩
   rw [show (((j+1:Nat):Int)-1)=(j:Int) from by omega]
   have hj4:j/64<4:=by omega
   obtain ⟨xi,hxi⟩:∃xi:Int,xi=(lw N (j/64):Nat):=⟨_,rfl⟩
   have HD:=Lib.hid (Jd N j xi hxi)
   have hx0:0≤xi:=by omega
   have hx1:xi<18446744073709551616:=by have:=eG N (j/64);omega
   have HK:=Lib.hid (show ∀W,aj W (w.heap.size+1) (row 4 (wV N)) 119→W.cell? ⟨w.heap.size+1,j/64,none⟩=some (.int .u64 xi) from fun W h=>by rw [h.at hj4,hxi];rfl)
   have hHc:=hH.cell
   have HA0:=Lib.hid hA;have HK0:=Lib.hid hK;have HO0:=Lib.hid hO;have HH0:=Lib.hid hH
   clear hxi hA hK hO hH hk0
   by_cases hb:N/2^j%2=1
   ·have hd:(bits BinOp.and IntKind.u64 (xi/2^(j%64)) 1 ==1)=true:=by rw [HD.out,decide_eq_true hb]
    have HB:=Lib.hid hb
    clear hb
    go_wp2_with (go_at_call 107;first |((with_reducible refine (gS hh hh _).mono ?_);rintro e w1 ⟨h1,rfl,hh1,hb1⟩;have hH1:=HH0.out.below' hb1;have hHf:=hH1.frozen;have hHc1:=hH1.cell;have kc:=HK.out _ (HK0.out.below' hb1);have ac:=(HA0.out.below' hb1).cell;have hg1:¬g=w.heap.size+1:=(by omega);have hg2:¬g=w.heap.size:=(by omega);have hg3:¬w.heap.size+1=g:=(by omega);have hg4:¬w.heap.size=g:=(by omega);have HA1:=Lib.hid (HA0.out.below' hb1);have HK1:=Lib.hid (HK0.out.below' hb1);have HO1:=Lib.hid (HO0.out.below' hb1);have HH1:=Lib.hid hH1;have hbel1:=Below.call hbel hb1;clear hb1 hH1 hHc HA0 HK0 HO0 HH0 hbel)|((with_reducible refine (gS hh1 HF.out _).mono ?_);rintro e w2 ⟨h2,rfl,hh2,hb2⟩;have hH2:=(((((HH1.out.set 0 (.int .u64 (h1 0:Nat))).set 1 (.int .u64 (h1 1:Nat))).set 2 (.int .u64 (h1 2:Nat))).set 3 (.int .u64 (h1 3:Nat))).set 4 (.int .u64 (h1 4:Nat))).below' hb2;have hHf2:=hH2.frozen;have hHc2:=hH2.cell;have HH2:=Lib.hid hH2;have HA2:=Lib.hid ((((((HA1.out.other ⟨g,0,none⟩ (by simp;omega) (.int .u64 (h1 0:Nat))).other ⟨g,1,none⟩ (by simp;omega) (.int .u64 (h1 1:Nat))).other ⟨g,2,none⟩ (by simp;omega) (.int .u64 (h1 2:Nat))).other ⟨g,3,none⟩ (by simp;omega) (.int .u64 (h1 3:Nat))).other ⟨g,4,none⟩ (by simp;omega) (.int .u64 (h1 4:Nat))).below' hb2);have HK2:=Lib.hid ((((((HK1.out.other ⟨g,0,none⟩ (by simp;omega) (.int .u64 (h1 0:Nat))).other ⟨g,1,none⟩ (by simp;omega) (.int .u64 (h1 1:Nat))).other ⟨g,2,none⟩ (by simp;omega) (.int .u64 (h1 2:Nat))).other ⟨g,3,none⟩ (by simp;omega) (.int .u64 (h1 3:Nat))).other ⟨g,4,none⟩ (by simp;omega) (.int .u64 (h1 4:Nat))).below' hb2);have HO2:=Lib.hid ((((((HO1.out.other ⟨g,0,none⟩ (by simp;omega) (.int .u64 (h1 0:Nat))).other ⟨g,1,none⟩ (by simp;omega) (.int .u64 (h1 1:Nat))).other ⟨g,2,none⟩ (by simp;omega) (.int .u64 (h1 2:Nat))).other ⟨g,3,none⟩ (by simp;omega) (.int .u64 (h1 3:Nat))).other ⟨g,4,none⟩ (by simp;omega) (.int .u64 (h1 4:Nat))).below' hb2);have hbel2:=Below.call (show Below w.heap.size w _ from (by repeat (first|(with_reducible refine Below.alloc' ?_ _)|(with_reducible refine Below.drew ?_)|(with_reducible refine below_drewN ?_ _)|((with_reducible refine Below.setCell ?_ ?_ _);rotate_left;(focus (first|exact Nat.le_refl _|(simp;done)|(simp;omega))))|(with_reducible assumption)|(with_reducible exact Below.refl _ _)))) hb2;clear hb2 hH2 hHc1 hHf kc ac HA1 HK1 HO1 HH1 hbel1))
    go_roundw
    case rel=>exact ⟨j,by omega,rfl,(((((HA2.out.other ⟨g,0,none⟩ (by simp;omega) (.int .u64 (h2 0:Nat))).other ⟨g,1,none⟩ (by simp;omega) (.int .u64 (h2 1:Nat))).other ⟨g,2,none⟩ (by simp;omega) (.int .u64 (h2 2:Nat))).other ⟨g,3,none⟩ (by simp;omega) (.int .u64 (h2 3:Nat))).other ⟨g,4,none⟩ (by simp;omega) (.int .u64 (h2 4:Nat))),(((((HK2.out.other ⟨g,0,none⟩ (by simp;omega) (.int .u64 (h2 0:Nat))).other ⟨g,1,none⟩ (by simp;omega) (.int .u64 (h2 1:Nat))).other ⟨g,2,none⟩ (by simp;omega) (.int .u64 (h2 2:Nat))).other ⟨g,3,none⟩ (by simp;omega) (.int .u64 (h2 3:Nat))).other ⟨g,4,none⟩ (by simp;omega) (.int .u64 (h2 4:Nat))),(((((HO2.out.other ⟨g,0,none⟩ (by simp;omega) (.int .u64 (h2 0:Nat))).other ⟨g,1,none⟩ (by simp;omega) (.int .u64 (h2 1:Nat))).other ⟨g,2,none⟩ (by simp;omega) (.int .u64 (h2 2:Nat))).other ⟨g,3,none⟩ (by simp;omega) (.int .u64 (h2 3:Nat))).other ⟨g,4,none⟩ (by simp;omega) (.int .u64 (h2 4:Nat))),⟨h2,by rw [O6 x N j HB.out];exact hh2,(((((HH2.out.set 0 (.int .u64 (h2 0:Nat))).set 1 (.int .u64 (h2 1:Nat))).set 2 (.int .u64 (h2 2:Nat))).set 3 (.int .u64 (h2 3:Nat))).set 4 (.int .u64 (h2 4:Nat)))⟩,(by repeat (first|(with_reducible refine Below.alloc' ?_ _)|(with_reducible refine Below.drew ?_)|(with_reducible refine below_drewN ?_ _)|((with_reducible refine Below.setCell ?_ ?_ _);rotate_left;(focus (first|exact Nat.le_refl _|(simp;done)|(simp;omega))))|(with_reducible assumption)|(with_reducible exact Below.refl _ _)))⟩
    case measure=>simp [intOf]<;>omega
   ·have hd:(bits BinOp.and IntKind.u64 (xi/2^(j%64)) 1 ==1)=false:=by rw [HD.out,decide_eq_false hb]
    have HB:Hid (N/2^j%2=0):=Lib.hid (by omega)
    clear hb
    go_wp2_with (go_at_call 107;first |((with_reducible refine (gS hh hh _).mono ?_);rintro e w1 ⟨h1,rfl,hh1,hb1⟩;have hH1:=HH0.out.below' hb1;have hHf:=hH1.frozen;have hHc1:=hH1.cell;have kc:=HK.out _ (HK0.out.below' hb1);have ac:=(HA0.out.below' hb1).cell;have hg1:¬g=w.heap.size+1:=(by omega);have hg2:¬g=w.heap.size:=(by omega);have hg3:¬w.heap.size+1=g:=(by omega);have hg4:¬w.heap.size=g:=(by omega);have HA1:=Lib.hid (HA0.out.below' hb1);have HK1:=Lib.hid (HK0.out.below' hb1);have HO1:=Lib.hid (HO0.out.below' hb1);have HH1:=Lib.hid hH1;have hbel1:=Below.call hbel hb1;clear hb1 hH1 hHc HA0 HK0 HO0 HH0 hbel))
    go_roundw
    case rel=>exact ⟨j,by omega,rfl,(((((HA1.out.other ⟨g,0,none⟩ (by simp;omega) (.int .u64 (h1 0:Nat))).other ⟨g,1,none⟩ (by simp;omega) (.int .u64 (h1 1:Nat))).other ⟨g,2,none⟩ (by simp;omega) (.int .u64 (h1 2:Nat))).other ⟨g,3,none⟩ (by simp;omega) (.int .u64 (h1 3:Nat))).other ⟨g,4,none⟩ (by simp;omega) (.int .u64 (h1 4:Nat))),(((((HK1.out.other ⟨g,0,none⟩ (by simp;omega) (.int .u64 (h1 0:Nat))).other ⟨g,1,none⟩ (by simp;omega) (.int .u64 (h1 1:Nat))).other ⟨g,2,none⟩ (by simp;omega) (.int .u64 (h1 2:Nat))).other ⟨g,3,none⟩ (by simp;omega) (.int .u64 (h1 3:Nat))).other ⟨g,4,none⟩ (by simp;omega) (.int .u64 (h1 4:Nat))),(((((HO1.out.other ⟨g,0,none⟩ (by simp;omega) (.int .u64 (h1 0:Nat))).other ⟨g,1,none⟩ (by simp;omega) (.int .u64 (h1 1:Nat))).other ⟨g,2,none⟩ (by simp;omega) (.int .u64 (h1 2:Nat))).other ⟨g,3,none⟩ (by simp;omega) (.int .u64 (h1 3:Nat))).other ⟨g,4,none⟩ (by simp;omega) (.int .u64 (h1 4:Nat))),⟨h1,by rw [sx,HB.out,Nat.add_zero,←yU];exact hh1,(((((HH1.out.set 0 (.int .u64 (h1 0:Nat))).set 1 (.int .u64 (h1 1:Nat))).set 2 (.int .u64 (h1 2:Nat))).set 3 (.int .u64 (h1 3:Nat))).set 4 (.int .u64 (h1 4:Nat)))⟩,(by repeat (first|(with_reducible refine Below.alloc' ?_ _)|(with_reducible refine Below.drew ?_)|(with_reducible refine below_drewN ?_ _)|((with_reducible refine Below.setCell ?_ ?_ _);rotate_left;(focus (first|exact Nat.le_refl _|(simp;done)|(simp;omega))))|(with_reducible assumption)|(with_reducible exact Below.refl _ _)))⟩
    case measure=>simp [intOf]<;>omega
set_option maxHeartbeats 1000000 in
theorem Gx {f:Nat→Nat} {x:Nat} (hf:FE f x) (w:World):
  Calls Tryz.prog 111 #[.agg #[.int .u64 (f 0:Nat),.int .u64 (f 1:Nat),.int .u64 (f 2:Nat),.int .u64 (f 3:Nat),.int .u64 (f 4:Nat)]] w fun e w'=>∃h,e= .returned (.agg #[.int .u64 (h 0:Nat),.int .u64 (h 1:Nat),.int .u64 (h 2:Nat),.int .u64 (h 3:Nat),.int .u64 (h 4:Nat)])∧FE h (x^gj%Pq)∧Below w.heap.size w w':=by
 have hP:=fun W=>te gj (8*32) (by omega) (by omega) (by decide +kernel) hf W
 rw [show lw gj 0=18446744073709551595 from by decide +kernel,show lw gj 1=18446744073709551615 from by decide +kernel,show lw gj 2=18446744073709551615 from by decide +kernel,show lw gj 3=9223372036854775807 from by decide +kernel] at hP
 have HP:=Lib.hid hP
 clear hP
 go_enter Tryz.func111,Tryz.ntmps111
 go_wp2_with (go_at_call 174;go_must (refine (HP.out _).mono ?_;rintro e w1 ⟨h,rfl,hr,hb⟩;have hO:=(show aj _ (w.heap.size+1) [.int .u64 0,.int .u64 0,.int .u64 0,.int .u64 0,.int .u64 0] 114 from (by repeat (first|(with_reducible refine aj.drew ?_)|exact aj.new' (by simp)|(with_reducible refine aj.alloc ?_ _)))).below' hb;have hOc:=hO.cell;have hOf:=hO.frozen;have hbel:Below w.heap.size w w1:=Below.call (by repeat (first|(with_reducible refine Below.alloc' ?_ _)|(with_reducible refine Below.drew ?_)|(with_reducible refine below_drewN ?_ _)|((with_reducible refine Below.setCell ?_ ?_ _);rotate_left;(focus (first|exact Nat.le_refl _|(simp;done)|(simp;omega))))|(with_reducible assumption)|(with_reducible exact Below.refl _ _))) hb;clear hb hO))
 exact bodyPost_ret (v:= .agg #[.int .u64 (h 0:Nat),.int .u64 (h 1:Nat),.int .u64 (h 2:Nat),.int .u64 (h 3:Nat),.int .u64 (h 4:Nat)]) (by simp [results,Tryz.results111,go_sem,hOc]) rfl ⟨_,rfl,hr,(by repeat (first|(with_reducible refine Below.alloc' ?_ _)|(with_reducible refine Below.drew ?_)|(with_reducible refine below_drewN ?_ _)|((with_reducible refine Below.setCell ?_ ?_ _);rotate_left;(focus (first|exact Nat.le_refl _|(simp;done)|(simp;omega))))|(with_reducible assumption)|(with_reducible exact Below.refl _ _)))⟩
def dg (n i:Nat):Nat:=n/2^(51*i)%2251799813685248
theorem kt (n i:Nat):dg n i<2251799813685248:=Nat.mod_lt _ (by omega)
theorem U9 (f:Nat→Nat) (h:∀i,f i<2251799813685248) (i:Nat) (hi:i<5):dg (val f) i=f i:=by
 have h0:=h 0;have h1:=h 1;have h2:=h 2;have h3:=h 3;have h4:=h 4
 have hh:i=0∨i=1∨i=2∨i=3∨i=4:=by omega
 unfold dg val
 rcases hh with rfl|rfl|rfl|rfl|rfl<;>simp only [Nat.reduceMul,Nat.reducePow]<;>omega
theorem Fb (f:Nat→Nat) (c0:Nat):val (cE f c0)<57896044618658097711785492504343953926634992332820282019728792003956564819968:=by
 have h0:=eZ f c0 0;have h1:=eZ f c0 1;have h2:=eZ f c0 2;have h3:=eZ f c0 3;have h4:=eZ f c0 4
 unfold val;omega
theorem uN (f:Nat→Nat) (c0:Nat):cr f c0 5=(val f+c0)/57896044618658097711785492504343953926634992332820282019728792003956564819968∧val (cE f c0)=(val f+c0)%57896044618658097711785492504343953926634992332820282019728792003956564819968:=by
 have h1:=oo f c0
 have h2:=Fb f c0
 omega
theorem sI.val {f:Nat→Nat} (h:sI f):val f<57896044618658097711785492504343953926634992332820282019728792003956564819968+20:=by
 have:=h.l0;have:=h.l1;have:=h.l2;have:=h.l3;have:=h.l4
 unfold Go.Proofs.YtknlbpjcjdenbaaGreat.val;omega
theorem F9 {f:Nat→Nat} {x:Nat} (h:FE f x):val (cE f (cr f 19 5*19))=x:=by
 have h1:=h.lim.val
 rw [(uN f _).2,(uN f 19).1,←h.num]
 unfold Pq
 generalize val f=v at*
 by_cases hv:v<57896044618658097711785492504343953926634992332820282019728792003956564819949
 ·rw [Nat.div_eq_of_lt (show v+19<57896044618658097711785492504343953926634992332820282019728792003956564819968 by omega),Nat.mod_eq_of_lt hv,Nat.mod_eq_of_lt (by omega)]
  omega
 ·rw [show (v+19)/57896044618658097711785492504343953926634992332820282019728792003956564819968=1 by omega]
  omega
theorem KI {f:Nat→Nat} {x:Nat} (h:FE f x) (i:Nat) (hi:i<5):cE f (cr f 19 5*19) i=dg x i:=by
 rw [←F9 h];exact (U9 _ (eZ _ _) i hi).symm
theorem FE.carry {f:Nat→Nat} {x:Nat} (h:FE f x):FE (cF f) x:=⟨wl f (fun i hi=>by have:=h.lim.lt i hi;omega),by rw [tC,h.num]⟩
theorem FE.sum_lt {f:Nat→Nat} {x:Nat} (h:FE f x) (c0 k:Nat) (hc:c0≤19) (hk:k<5):f k+cr f c0 k<18446744073709551616:=by
 have h1:=h.lim.lt k hk
 have h2:=sS f c0 (fun i hi=>by have:=h.lim.lt i hi;omega) (by omega) k (by omega)
 omega
set_option maxHeartbeats 1000000 in
theorem j8 {f:Nat→Nat} {x:Nat} (hf:FE f x) (w:World):
  Calls Tryz.prog 177 #[.agg #[.int .u64 (f 0:Nat),.int .u64 (f 1:Nat),.int .u64 (f 2:Nat),.int .u64 (f 3:Nat),.int .u64 (f 4:Nat)]] w fun e w'=>e= .returned (.agg #[.int .u64 (dg x 0:Nat),.int .u64 (dg x 1:Nat),.int .u64 (dg x 2:Nat),.int .u64 (dg x 3:Nat),.int .u64 (dg x 4:Nat)])∧Below w.heap.size w w':=by
 have hb1:∀i,i<5→f i≤9223372036854775808:=fun i hi=>by have:=hf.lim.lt i hi;omega
 have hb2:∀i,i<5→cF f i≤9223372036854775808:=fun i hi=>by have:=hf.carry.lim.lt i hi;omega
 have HB1:=Lib.hid hb1;have HB2:=Lib.hid hb2
 have HE:=Lib.hid hf.carry.carry
 clear hb1 hb2 hf
 have fld:∀(x0 x1 x2 x3 x4:Value) (w:World),(Instr.field 114 (.agg #[x0,x1,x2,x3,x4]) 0).run Tryz.prog w= .ok (.agg #[x0,x1,x2,x3,x4]) w:=fun _ _ _ _ _ _=>by kernel_rfl
 go_enter Tryz.func177,Tryz.ntmps177
 go_upto_region 3 with (go_at_call 173;first |((with_reducible refine (fz f HB1.out _).mono ?_);rintro e w1 ⟨rfl,hb1⟩;have hO1:=(show aj _ (w.heap.size+1) [.int .u64 0,.int .u64 0,.int .u64 0,.int .u64 0,.int .u64 0] 112 from (by repeat (first|(with_reducible refine aj.drew ?_)|exact aj.new' (by simp)|(with_reducible refine aj.alloc ?_ _)))).below' hb1;have hbel1:Below w.heap.size w w1:=Below.call (by repeat (first|(with_reducible refine Below.alloc' ?_ _)|(with_reducible refine Below.drew ?_)|(with_reducible refine below_drewN ?_ _)|((with_reducible refine Below.setCell ?_ ?_ _);rotate_left;(focus (first|exact Nat.le_refl _|(simp;done)|(simp;omega))))|(with_reducible assumption)|(with_reducible exact Below.refl _ _))) hb1;clear hb1)|((with_reducible refine (fz (cF f) HB2.out _).mono ?_);rintro e w2 ⟨rfl,hb2⟩;have hL2:=(aj.new w1 #[.int .u64 (cF f 0:Nat),.int .u64 (cF f 1:Nat),.int .u64 (cF f 2:Nat),.int .u64 (cF f 3:Nat),.int .u64 (cF f 4:Nat)] 112).below' hb2;have hO2:=(hO1.alloc _).below' hb2;have hbel2:Below w.heap.size w w2:=Below.call (show Below w.heap.size w _ from (by repeat (first|(with_reducible refine Below.alloc' ?_ _)|(with_reducible refine Below.drew ?_)|(with_reducible refine below_drewN ?_ _)|((with_reducible refine Below.setCell ?_ ?_ _);rotate_left;(focus (first|exact Nat.le_refl _|(simp;done)|(simp;omega))))|(with_reducible assumption)|(with_reducible exact Below.refl _ _)))) hb2;have lc:=hL2.cell;have lf:=hL2.frozen;have hg:w.heap.size+1<w1.heap.size:=hO1.lt;clear hb2 hbel1 hO1))
 refine dt (fun W=>aj W w1.heap.size (row 5 (fV (cF (cF f)))) 112∧aj W (w.heap.size+1) [.int .u64 0,.int .u64 0,.int .u64 0,.int .u64 0,.int .u64 0] 112∧Below w.heap.size w W) ?_ (fun W hW=> ?_)
 ·exact ⟨(((((hL2.set 0 (.int .u64 (cF (cF f) 0:Nat))).set 1 (.int .u64 (cF (cF f) 1:Nat))).set 2 (.int .u64 (cF (cF f) 2:Nat))).set 3 (.int .u64 (cF (cF f) 3:Nat))).set 4 (.int .u64 (cF (cF f) 4:Nat))),(((((hO2.other _ (by simp;omega) _).other _ (by simp;omega) _).other _ (by simp;omega) _).other _ (by simp;omega) _).other _ (by simp;omega) _),(by repeat (first|(with_reducible refine Below.alloc' ?_ _)|(with_reducible refine Below.drew ?_)|(with_reducible refine below_drewN ?_ _)|((with_reducible refine Below.setCell ?_ ?_ _);rotate_left;(focus (first|exact Nat.le_refl _|(simp;done)|(simp;omega))))|(with_reducible assumption)|(with_reducible exact Below.refl _ _)))⟩
 obtain ⟨hA,hO,hbel⟩:=hW
 clear hbel2 lc lf hL2 hO2
 generalize w1.heap.size=g at*
 clear w1 w2
 generalize cF (cF f)=G at*
 have HS:=Lib.hid (fun k hk=>HE.out.sum_lt 19 k (by omega) hk)
 go_wp2
 go_loopw [4,14] (fun c i wr=>∃k:Nat,k≤5∧i= .int .i64 k∧c= .int .u64 (cr G 19 k:Nat)∧aj wr g (row 5 (fV G)) 112∧aj wr (w.heap.size+1) [.int .u64 0,.int .u64 0,.int .u64 0,.int .u64 0,.int .u64 0] 112∧Below w.heap.size w wr) (fun _ i _=>5-(intOf i).toNat)
 case atStart=>exact ⟨0,by omega,rfl,rfl,hA,hO,hbel⟩
 case round=>
  clear hA hO hbel W
  obtain ⟨k,hk,rfl,rfl,hA,hO,hbel⟩:=hrel
  by_cases hlt:k<5
  ·obtain ⟨s,hs,hs0,hs1,ha,hd⟩:=j1 G 19 k (HS.out k hlt)
   have hcell:wr.cell? ⟨g,k,none⟩=some (.int .u64 (G k:Nat)):=hA.at hlt
   have HD:=Lib.hid hd
   have HA:=Lib.hid hA;have HO:=Lib.hid hO
   clear hA hO hd ha
   go_wp2
   go_roundw
   case rel=>exact ⟨k+1,by omega,by go_num,by rw [HD.out],HA.out,HO.out,hbel⟩
   case measure=>simp [intOf];omega
  ·obtain rfl:k=5:=by omega
   have h5:cr G 19 5≤1:=by
    have:=HE.out.lim.val
    rw [(uN G 19).1];omega
   have hm:IntKind.u64.wrap (((cr G 19 5:Nat):Int)*19)=((cr G 19 5*19:Nat):Int):=by rw [fp];omega
   have HW:=Lib.hid (fun i hi=>KI HE.out i hi)
   have h19:cr G 19 5*19≤19:=by omega
   have HS2:=Lib.hid (fun k hk=>HE.out.sum_lt (cr G 19 5*19) k h19 hk)
   clear h5 h19 hlt hk HS
   generalize cr G 19 5*19=c1 at*
   go_wp2
   clear hm
   go_loopw [4,26] (fun c i wr=>∃k:Nat,k≤5∧i= .int .i64 k∧c= .int .u64 (cr G c1 k:Nat)∧aj wr g (row 5 (mJ G c1 k)) 112∧aj wr (w.heap.size+1) [.int .u64 0,.int .u64 0,.int .u64 0,.int .u64 0,.int .u64 0] 112∧Below w.heap.size w wr) (fun _ i _=>5-(intOf i).toNat)
   case atStart=>exact ⟨0,by omega,rfl,rfl,by rw [mG];exact hA,hO,hbel⟩
   clear hA hO hbel
   case round=>
    obtain ⟨k,hk,rfl,rfl,hA,hO,hbel⟩:=hrel
    by_cases hlt:k<5
    ·obtain ⟨s,hs,hs0,hs1,ha,hd⟩:=j1 G c1 k (HS2.out k hlt)
     have hcell:=hA.at hlt
     rw [vS] at hcell
     have hfr:=hA.frozen k
     have HD:=Lib.hid hd
     have HA:=Lib.hid ((hA.set k (.int .u64 s)).set k (.int .u64 (cE G c1 k:Nat)))
     have HO:=Lib.hid ((hO.other ⟨g,k,none⟩ (by simp;omega) (.int .u64 s)).other ⟨g,k,none⟩ (by simp;omega) (.int .u64 (cE G c1 k:Nat)))
     clear hA hO hd
     go_wp2
     go_roundw
     case rel=>exact ⟨k+1,by omega,by go_num,by rw [HD.out],by have:=HA.out;rw [List.set_set,pp] at this;exact this,HO.out,(by repeat (first|(with_reducible refine Below.alloc' ?_ _)|(with_reducible refine Below.drew ?_)|(with_reducible refine below_drewN ?_ _)|((with_reducible refine Below.setCell ?_ ?_ _);rotate_left;(focus (first|exact Nat.le_refl _|(simp;done)|(simp;omega))))|(with_reducible assumption)|(with_reducible exact Below.refl _ _)))⟩
     case measure=>simp [intOf];omega
    ·obtain rfl:k=5:=by omega
     rw [mQ,Nl] at hA
     unfold fV at hA
     rw [HW.out 0 (by omega),HW.out 1 (by omega),HW.out 2 (by omega),HW.out 3 (by omega),HW.out 4 (by omega)] at hA
     have hAc:=hA.cell;have hOc:=hO.cell;have hOf:=hO.frozen
     clear hA hO
     go_wp2
     exact bodyPost_ret (v:= .agg #[.int .u64 (dg x 0:Nat),.int .u64 (dg x 1:Nat),.int .u64 (dg x 2:Nat),.int .u64 (dg x 3:Nat),.int .u64 (dg x 4:Nat)]) (by simp [results,Tryz.results177,go_sem,hOc]) rfl ⟨rfl,(by repeat (first|(with_reducible refine Below.alloc' ?_ _)|(with_reducible refine Below.drew ?_)|(with_reducible refine below_drewN ?_ _)|((with_reducible refine Below.setCell ?_ ?_ _);rotate_left;(focus (first|exact Nat.le_refl _|(simp;done)|(simp;omega))))|(with_reducible assumption)|(with_reducible exact Below.refl _ _)))⟩
theorem yb (g:Nat) (f:Nat→Nat) {w w':World} (h:w.cell? ⟨g,0,none⟩=some (.int .u64 (f 0:Nat))∧w.cell? ⟨g,1,none⟩=some (.int .u64 (f 1:Nat))∧w.cell? ⟨g,2,none⟩=some (.int .u64 (f 2:Nat))∧w.cell? ⟨g,3,none⟩=some (.int .u64 (f 3:Nat))∧w.cell? ⟨g,4,none⟩=some (.int .u64 (f 4:Nat))) (hb:Below w.heap.size w w'):w'.cell? ⟨g,0,none⟩=some (.int .u64 (f 0:Nat))∧w'.cell? ⟨g,1,none⟩=some (.int .u64 (f 1:Nat))∧w'.cell? ⟨g,2,none⟩=some (.int .u64 (f 2:Nat))∧w'.cell? ⟨g,3,none⟩=some (.int .u64 (f 3:Nat))∧w'.cell? ⟨g,4,none⟩=some (.int .u64 (f 4:Nat)):=by
 obtain ⟨h0,h1,h2,h3,h4⟩:=h
 exact ⟨by rw [hb.cell (dS h0)];exact h0,by rw [hb.cell (dS h1)];exact h1,by rw [hb.cell (dS h2)];exact h2,by rw [hb.cell (dS h3)];exact h3,by rw [hb.cell (dS h4)];exact h4⟩
theorem Np (x:Nat):dg x 0%2=x%2:=by simp only [dg,Nat.mul_zero,Nat.pow_zero,Nat.div_one];omega
theorem Me (x:Nat):(bits BinOp.and IntKind.u64 (dg x 0:Nat) 1 ==1)=decide (x%2=1):=by
 have h:=kt x 0
 rw [show (1:Int)=((1:Nat):Int) from rfl,u64_and_nat _ 1 (by omega) (by omega),Nat.and_one_is_mod,Np]
 generalize hb:x%2=b
 by_cases h1:b=1
 ·subst h1;simp
 ·rw [decide_eq_false h1,beq_eq_false_iff_ne];omega
set_option maxHeartbeats 1000000 in
theorem GH {f:Nat→Nat} {x:Nat} (hf:FE f x) (w:World):
  Calls Tryz.prog 176 #[.agg #[.int .u64 (f 0:Nat),.int .u64 (f 1:Nat),.int .u64 (f 2:Nat),.int .u64 (f 3:Nat),.int .u64 (f 4:Nat)]] w fun e w'=>e= .returned (.bool (decide (x%2=1)))∧Below w.heap.size w w':=by
 have HO:=Lib.hid (Me x)
 have hi:=Qb
 go_enter Tryz.func176,Tryz.ntmps176
 go_wp2_with (go_at_call 177;go_must (refine (j8 hf _).mono ?_;rintro e w1 ⟨rfl,hb⟩;have hbel:Below w.heap.size w w1:=Below.call (by repeat (first|(with_reducible refine Below.alloc' ?_ _)|(with_reducible refine Below.drew ?_)|(with_reducible refine below_drewN ?_ _)|((with_reducible refine Below.setCell ?_ ?_ _);rotate_left;(focus (first|exact Nat.le_refl _|(simp;done)|(simp;omega))))|(with_reducible assumption)|(with_reducible exact Below.refl _ _))) hb;clear hb))
 go_ret
 exact ⟨jg HO.out,(by repeat (first|(with_reducible refine Below.alloc' ?_ _)|(with_reducible refine Below.drew ?_)|(with_reducible refine below_drewN ?_ _)|((with_reducible refine Below.setCell ?_ ?_ _);rotate_left;(focus (first|exact Nat.le_refl _|(simp;done)|(simp;omega))))|(with_reducible assumption)|(with_reducible exact Below.refl _ _)))⟩
theorem SE {x y:Nat} (hx:x<Pq) (hy:y<Pq) (h:∀i,i<5→dg x i=dg y i):x=y:=by
 have key:∀n,n<Pq→val (dg n)=n:=by
  intro n hn
  unfold Pq at hn
  simp only [val,dg,Nat.reduceMul,Nat.reducePow]
  omega
 rw [←key x hx,←key y hy]
 simp only [val,h 0 (by omega),h 1 (by omega),h 2 (by omega),h 3 (by omega),h 4 (by omega)]
set_option maxHeartbeats 1000000 in
theorem oB {f g:Nat→Nat} {x y:Nat} (hf:FE f x) (hg:FE g y) (w:World):
  Calls Tryz.prog 113 #[.agg #[.int .u64 (f 0:Nat),.int .u64 (f 1:Nat),.int .u64 (f 2:Nat),.int .u64 (f 3:Nat),.int .u64 (f 4:Nat)],.agg #[.int .u64 (g 0:Nat),.int .u64 (g 1:Nat),.int .u64 (g 2:Nat),.int .u64 (g 3:Nat),.int .u64 (g 4:Nat)]] w fun e w'=>e= .returned (.bool (decide (x=y)))∧Below w.heap.size w w':=by
 have HE:Hid (([((dg x 0:Nat):Int),(dg x 1:Nat),(dg x 2:Nat),(dg x 3:Nat),(dg x 4:Nat)] == [((dg y 0:Nat):Int),(dg y 1:Nat),(dg y 2:Nat),(dg y 3:Nat),(dg y 4:Nat)])=decide (x=y)):=by
  refine Lib.hid ?_
  by_cases h:x=y
  ·subst h;simp
  ·rw [decide_eq_false h,beq_eq_false_iff_ne]
   intro h'
   simp only [List.cons.injEq,Int.natCast_inj,and_true] at h'
   refine h (SE hf.lt hg.lt fun i hi=> ?_)
   have hh:i=0∨i=1∨i=2∨i=3∨i=4:=by omega
   rcases hh with rfl|rfl|rfl|rfl|rfl<;>simp [h']
 have hq:∀w:World,(Op.equalIn 10000 112 (.agg #[.int .u64 (dg x 0:Nat),.int .u64 (dg x 1:Nat),.int .u64 (dg x 2:Nat),.int .u64 (dg x 3:Nat),.int .u64 (dg x 4:Nat)]) (.agg #[.int .u64 (dg y 0:Nat),.int .u64 (dg y 1:Nat),.int .u64 (dg y 2:Nat),.int .u64 (dg y 3:Nat),.int .u64 (dg y 4:Nat)])).run Tryz.prog w= .ok ([((dg x 0:Nat):Int),(dg x 1:Nat),(dg x 2:Nat),(dg x 3:Nat),(dg x 4:Nat)] == [((dg y 0:Nat):Int),(dg y 1:Nat),(dg y 2:Nat),(dg y 3:Nat),(dg y 4:Nat)]) w:=
  fun w=>Qn w 9998 112 111 5 .u64 Tryz.underlying112 Tryz.underlying111 (fun _=>by kernel_rfl) [((dg x 0:Nat):Int),(dg x 1:Nat),(dg x 2:Nat),(dg x 3:Nat),(dg x 4:Nat)] [((dg y 0:Nat):Int),(dg y 1:Nat),(dg y 2:Nat),(dg y 3:Nat),(dg y 4:Nat)] rfl rfl
 generalize ([((dg x 0:Nat):Int),(dg x 1:Nat),(dg x 2:Nat),(dg x 3:Nat),(dg x 4:Nat)] == [((dg y 0:Nat):Int),(dg y 1:Nat),(dg y 2:Nat),(dg y 3:Nat),(dg y 4:Nat)])=q at*
 have HF:=Lib.hid hf;have HG:=Lib.hid hg
 clear hf hg
 go_enter Tryz.func113,Tryz.ntmps113
 go_wp2
 refine dt (fun W=>(W.cell? ⟨w.heap.size,0,none⟩=some (.int .u64 (f 0:Nat))∧W.cell? ⟨w.heap.size,1,none⟩=some (.int .u64 (f 1:Nat))∧W.cell? ⟨w.heap.size,2,none⟩=some (.int .u64 (f 2:Nat))∧W.cell? ⟨w.heap.size,3,none⟩=some (.int .u64 (f 3:Nat))∧W.cell? ⟨w.heap.size,4,none⟩=some (.int .u64 (f 4:Nat)))∧(W.cell? ⟨w.heap.size+1,0,none⟩=some (.int .u64 (g 0:Nat))∧W.cell? ⟨w.heap.size+1,1,none⟩=some (.int .u64 (g 1:Nat))∧W.cell? ⟨w.heap.size+1,2,none⟩=some (.int .u64 (g 2:Nat))∧W.cell? ⟨w.heap.size+1,3,none⟩=some (.int .u64 (g 3:Nat))∧W.cell? ⟨w.heap.size+1,4,none⟩=some (.int .u64 (g 4:Nat)))∧Below w.heap.size w W) ?_ (fun W0 hW=> ?_)
 ·exact ⟨⟨((aj.new w _ _).alloc _).cell 0,((aj.new w _ _).alloc _).cell 1,((aj.new w _ _).alloc _).cell 2,((aj.new w _ _).alloc _).cell 3,((aj.new w _ _).alloc _).cell 4⟩,⟨(aj.new' (by simp)).cell 0,(aj.new' (by simp)).cell 1,(aj.new' (by simp)).cell 2,(aj.new' (by simp)).cell 3,(aj.new' (by simp)).cell 4⟩,(by repeat (first|(with_reducible refine Below.alloc' ?_ _)|(with_reducible refine Below.drew ?_)|(with_reducible refine below_drewN ?_ _)|((with_reducible refine Below.setCell ?_ ?_ _);rotate_left;(focus (first|exact Nat.le_refl _|(simp;done)|(simp;omega))))|(with_reducible assumption)|(with_reducible exact Below.refl _ _)))⟩
 have hst:∀W W':World,((W.cell? ⟨w.heap.size,0,none⟩=some (.int .u64 (f 0:Nat))∧W.cell? ⟨w.heap.size,1,none⟩=some (.int .u64 (f 1:Nat))∧W.cell? ⟨w.heap.size,2,none⟩=some (.int .u64 (f 2:Nat))∧W.cell? ⟨w.heap.size,3,none⟩=some (.int .u64 (f 3:Nat))∧W.cell? ⟨w.heap.size,4,none⟩=some (.int .u64 (f 4:Nat)))∧(W.cell? ⟨w.heap.size+1,0,none⟩=some (.int .u64 (g 0:Nat))∧W.cell? ⟨w.heap.size+1,1,none⟩=some (.int .u64 (g 1:Nat))∧W.cell? ⟨w.heap.size+1,2,none⟩=some (.int .u64 (g 2:Nat))∧W.cell? ⟨w.heap.size+1,3,none⟩=some (.int .u64 (g 3:Nat))∧W.cell? ⟨w.heap.size+1,4,none⟩=some (.int .u64 (g 4:Nat)))∧Below w.heap.size w W)→Below W.heap.size W W'→((W'.cell? ⟨w.heap.size,0,none⟩=some (.int .u64 (f 0:Nat))∧W'.cell? ⟨w.heap.size,1,none⟩=some (.int .u64 (f 1:Nat))∧W'.cell? ⟨w.heap.size,2,none⟩=some (.int .u64 (f 2:Nat))∧W'.cell? ⟨w.heap.size,3,none⟩=some (.int .u64 (f 3:Nat))∧W'.cell? ⟨w.heap.size,4,none⟩=some (.int .u64 (f 4:Nat)))∧(W'.cell? ⟨w.heap.size+1,0,none⟩=some (.int .u64 (g 0:Nat))∧W'.cell? ⟨w.heap.size+1,1,none⟩=some (.int .u64 (g 1:Nat))∧W'.cell? ⟨w.heap.size+1,2,none⟩=some (.int .u64 (g 2:Nat))∧W'.cell? ⟨w.heap.size+1,3,none⟩=some (.int .u64 (g 3:Nat))∧W'.cell? ⟨w.heap.size+1,4,none⟩=some (.int .u64 (g 4:Nat)))∧Below w.heap.size w W'):=by
  rintro W W' ⟨h1,h2,h3⟩ hb
  exact ⟨yb _ _ h1 hb,yb _ _ h2 hb,Below.call h3 hb⟩
 have hst':=Lib.hid hst;have HS0:=Lib.hid (show (fun W=>(W.cell? ⟨w.heap.size,0,none⟩=some (.int .u64 (f 0:Nat))∧W.cell? ⟨w.heap.size,1,none⟩=some (.int .u64 (f 1:Nat))∧W.cell? ⟨w.heap.size,2,none⟩=some (.int .u64 (f 2:Nat))∧W.cell? ⟨w.heap.size,3,none⟩=some (.int .u64 (f 3:Nat))∧W.cell? ⟨w.heap.size,4,none⟩=some (.int .u64 (f 4:Nat)))∧(W.cell? ⟨w.heap.size+1,0,none⟩=some (.int .u64 (g 0:Nat))∧W.cell? ⟨w.heap.size+1,1,none⟩=some (.int .u64 (g 1:Nat))∧W.cell? ⟨w.heap.size+1,2,none⟩=some (.int .u64 (g 2:Nat))∧W.cell? ⟨w.heap.size+1,3,none⟩=some (.int .u64 (g 3:Nat))∧W.cell? ⟨w.heap.size+1,4,none⟩=some (.int .u64 (g 4:Nat)))∧Below w.heap.size w W) W0.drew from ⟨hW.1,hW.2.1,hW.2.2.drew⟩)
 clear hst hW
 have hst:=hst'
 clear hst'
 go_region_held3 (fun W=>(W.cell? ⟨w.heap.size,0,none⟩=some (.int .u64 (f 0:Nat))∧W.cell? ⟨w.heap.size,1,none⟩=some (.int .u64 (f 1:Nat))∧W.cell? ⟨w.heap.size,2,none⟩=some (.int .u64 (f 2:Nat))∧W.cell? ⟨w.heap.size,3,none⟩=some (.int .u64 (f 3:Nat))∧W.cell? ⟨w.heap.size,4,none⟩=some (.int .u64 (f 4:Nat)))∧(W.cell? ⟨w.heap.size+1,0,none⟩=some (.int .u64 (g 0:Nat))∧W.cell? ⟨w.heap.size+1,1,none⟩=some (.int .u64 (g 1:Nat))∧W.cell? ⟨w.heap.size+1,2,none⟩=some (.int .u64 (g 2:Nat))∧W.cell? ⟨w.heap.size+1,3,none⟩=some (.int .u64 (g 3:Nat))∧W.cell? ⟨w.heap.size+1,4,none⟩=some (.int .u64 (g 4:Nat)))∧Below w.heap.size w W) (first|(exact HS0.out)|(first|assumption|(refine hst.out _ _ ?_ hb;assumption)|(refine hst.out _ _ ?_ (Below.alloc' (Below.refl _ _) _);assumption)|(refine hst.out _ _ ?_ (Below.drew (Below.refl _ _));assumption))) ((go_at_call 177;first |((with_reducible refine (j8 HF.out _).mono ?_);rintro e w1 ⟨rfl,hb⟩)|((with_reducible refine (j8 HG.out _).mono ?_);rintro e w1 ⟨rfl,hb⟩)))
 go_wp2
 go_ret
 have hf:∀W:World,((W.cell? ⟨w.heap.size,0,none⟩=some (.int .u64 (f 0:Nat))∧W.cell? ⟨w.heap.size,1,none⟩=some (.int .u64 (f 1:Nat))∧W.cell? ⟨w.heap.size,2,none⟩=some (.int .u64 (f 2:Nat))∧W.cell? ⟨w.heap.size,3,none⟩=some (.int .u64 (f 3:Nat))∧W.cell? ⟨w.heap.size,4,none⟩=some (.int .u64 (f 4:Nat)))∧(W.cell? ⟨w.heap.size+1,0,none⟩=some (.int .u64 (g 0:Nat))∧W.cell? ⟨w.heap.size+1,1,none⟩=some (.int .u64 (g 1:Nat))∧W.cell? ⟨w.heap.size+1,2,none⟩=some (.int .u64 (g 2:Nat))∧W.cell? ⟨w.heap.size+1,3,none⟩=some (.int .u64 (g 3:Nat))∧W.cell? ⟨w.heap.size+1,4,none⟩=some (.int .u64 (g 4:Nat)))∧Below w.heap.size w W)→Below w.heap.size w W:=fun W h=>h.2.2
 exact ⟨jg HE.out,hf _ (by assumption)⟩
theorem uk (x y:Nat) (s t:Nat) (hs:s≤64) (ht:t+s=64) (hx:x<18446744073709551616):
  bits BinOp.and IntKind.u64 (bits BinOp.or IntKind.u64 ((x:Int)/2^s) (IntKind.u64.wrap ((y:Int)*2^t))) 2251799813685247=((x/2^s+y*2^t%18446744073709551616)%2251799813685248:Nat):=by
 have h0:x/2^s<2^t:=by
  apply Nat.div_lt_of_lt_mul
  rw [←Nat.pow_add,show s+t=64 from by omega];exact hx
 have h1:2^t≤2^64:=Nat.pow_le_pow_right (by omega) (by omega)
 rw [fp,show ((x:Int)/2^s)=((x/2^s:Nat):Int) from by simp,show ((y:Int)*2^t)%18446744073709551616=((y*2^t%18446744073709551616:Nat):Int) from by simp,u64_or_nat _ _ (by omega) (Nat.mod_lt _ (by omega))]
 have e:y*2^t%18446744073709551616=(y%2^s)*2^t:=by
  rw [show (18446744073709551616:Nat)=2^t*2^s from by rw [←Nat.pow_add,ht],Nat.mul_comm y,Nat.mul_mod_mul_left,Nat.mul_comm]
 have h2:y%2^s*2^t<18446744073709551616:=by rw [←e];exact Nat.mod_lt _ (by omega)
 have h3:x/2^s|||y%2^s*2^t=x/2^s+y%2^s*2^t:=by
  have h4:=Nat.shiftLeft_add_eq_or_of_lt h0 (y%2^s)
  rw [Nat.shiftLeft_eq] at h4
  rw [Nat.or_comm,←h4,Nat.add_comm]
 rw [e,h3]
 apply rV
 rw [←h3]
 exact Nat.or_lt_two_pow (n:=64) (by omega) h2
theorem YT (n:Nat):bits BinOp.and IntKind.u64 (lw n 0:Nat) 2251799813685247=(dg n 0:Nat):=by
 rw [rV _ (eG _ _)];simp only [lw,dg,Nat.mul_zero,Nat.pow_zero,Nat.div_one];omega
theorem YC (n:Nat):bits BinOp.and IntKind.u64 (bits BinOp.or IntKind.u64 ((lw n 0:Nat)/2251799813685248) (IntKind.u64.wrap ((lw n 1:Nat)*8192))) 2251799813685247=(dg n 1:Nat):=by
 have h:=uk (lw n 0) (lw n 1) 51 13 (by omega) (by omega) (eG _ _)
 have e:(((lw n 0:Nat):Int)/2^51)=(lw n 0:Nat)/2251799813685248:=rfl
 refine Eq.trans (show _=_ from h) ?_
 congr 1
 simp only [lw,dg,Nat.reduceMul,Nat.reducePow];omega
theorem Yw (n:Nat):bits BinOp.and IntKind.u64 (bits BinOp.or IntKind.u64 ((lw n 1:Nat)/274877906944) (IntKind.u64.wrap ((lw n 2:Nat)*67108864))) 2251799813685247=(dg n 2:Nat):=by
 have h:=uk (lw n 1) (lw n 2) 38 26 (by omega) (by omega) (eG _ _)
 refine Eq.trans (show _=_ from h) ?_
 congr 1
 simp only [lw,dg,Nat.reduceMul,Nat.reducePow];omega
theorem Yr (n:Nat):bits BinOp.and IntKind.u64 (bits BinOp.or IntKind.u64 ((lw n 2:Nat)/33554432) (IntKind.u64.wrap ((lw n 3:Nat)*549755813888))) 2251799813685247=(dg n 3:Nat):=by
 have h:=uk (lw n 2) (lw n 3) 25 39 (by omega) (by omega) (eG _ _)
 refine Eq.trans (show _=_ from h) ?_
 congr 1
 simp only [lw,dg,Nat.reduceMul,Nat.reducePow];omega
theorem Yu (n:Nat):bits BinOp.and IntKind.u64 ((lw n 3:Nat)/4096) 2251799813685247=(dg n 4:Nat):=by
 have:=eG n 3
 rw [show ((lw n 3:Nat):Int)/4096=((lw n 3/4096:Nat):Int) from by simp,rV _ (by omega)]
 simp only [lw,dg,Nat.reduceMul,Nat.reducePow];omega
theorem Rt (n:Nat):val (dg n)=n%57896044618658097711785492504343953926634992332820282019728792003956564819968:=by
 simp only [val,dg,Nat.reduceMul,Nat.reducePow];omega
theorem FE.of (n:Nat):FE (dg n) (n%57896044618658097711785492504343953926634992332820282019728792003956564819968%Pq):=
 ⟨⟨by have:=kt n 0;omega,kt _ _,kt _ _,kt _ _,kt _ _⟩,by rw [Rt]⟩
theorem F4:row 4 (wV 0)= [.int .u64 0,.int .u64 0,.int .u64 0,.int .u64 0]:=by simp only [Ri,W2]
set_option maxHeartbeats 1000000 in
theorem HJ {a:Option Addr} {n cap:Nat} {l:List UInt8} (w:World) (h:kK w a n cap l):
  Calls Tryz.prog 170 #[.slice a n cap] w fun e w'=>e= .returned (.agg #[.int .u64 (dg (bm (first l 32)) 0:Nat),.int .u64 (dg (bm (first l 32)) 1:Nat),.int .u64 (dg (bm (first l 32)) 2:Nat),.int .u64 (dg (bm (first l 32)) 3:Nat),.int .u64 (dg (bm (first l 32)) 4:Nat)])∧Below w.heap.size w w':=by
 have hlen:=tf l 32
 generalize hfl:first l 32=fl at*
 have HF:=Lib.hid hfl;have HL:=Lib.hid hlen
 clear hfl hlen
 go_enter Tryz.func170,Tryz.ntmps170
 go_wp2_with (go_at_call 179;go_must (refine (sK 32 (by omega) _ (h.below (by repeat (first|(with_reducible refine Below.alloc' ?_ _)|(with_reducible refine Below.drew ?_)|(with_reducible refine below_drewN ?_ _)|((with_reducible refine Below.setCell ?_ ?_ _);rotate_left;(focus (first|exact Nat.le_refl _|(simp;done)|(simp;omega))))|(with_reducible assumption)|(with_reducible exact Below.refl _ _))))).mono ?_;rintro e w1 ⟨rfl,hB,hb⟩))
 rw [HF.out] at hB
 have hB1:aj w1 (w.heap.size+1) (fl.map bV) 5:=by simpa using hB
 clear hB
 have hg:w.heap.size+1<w1.heap.size:=hB1.lt
 refine dt (fun W=>aj W w1.heap.size (row 4 (wV (bm (fl.take 0)))) 119∧aj W w.heap.size [.int .u64 0,.int .u64 0,.int .u64 0,.int .u64 0,.int .u64 0] 114∧aj W (w.heap.size+1) (fl.map bV) 5∧Below w.heap.size w W) ?_ (fun W hW=> ?_)
 ·refine ⟨?_,((aj.new w _ _).below' hb).alloc _,hB1.alloc _,Below.alloc' (Below.call (by repeat (first|(with_reducible refine Below.alloc' ?_ _)|(with_reducible refine Below.drew ?_)|(with_reducible refine below_drewN ?_ _)|((with_reducible refine Below.setCell ?_ ?_ _);rotate_left;(focus (first|exact Nat.le_refl _|(simp;done)|(simp;omega))))|(with_reducible assumption)|(with_reducible exact Below.refl _ _))) hb) _⟩
  rw [List.take_zero,show bm []=0 from rfl,F4]
  exact aj.new w1 _ _
 obtain ⟨hA,hO,hB2,hbel⟩:=hW
 clear hb h hB1
 generalize w1.heap.size=g at*
 clear w1
 go_wp2
 go_loopw [9] (fun i wr=>∃k:Nat,k≤32∧i= .int .i64 k∧aj wr g (row 4 (wV (bm (fl.take k)))) 119∧aj wr w.heap.size [.int .u64 0,.int .u64 0,.int .u64 0,.int .u64 0,.int .u64 0] 114∧aj wr (w.heap.size+1) (fl.map bV) 5∧Below w.heap.size w wr) (fun i _=>32-(intOf i).toNat)
 case atStart=>exact ⟨0,by omega,rfl,hA,hO,hB2,hbel⟩
 case round=>
  clear hA hO hB2 hbel W
  obtain ⟨k,hk,rfl,hA,hO,hB,hbel⟩:=hrel
  by_cases hlt:k<32
  ·have hkl:k<fl.length:=by rw [HL.out];exact hlt
   have hcb:wr.cell? ⟨w.heap.size+1,k,none⟩=some (.int .u8 (fl[k].toNat:Int)):=by rw [hB.cell];simp [hkl,bV]
   have HT:=Lib.hid (fy fl k hkl)
   have hn:=dY fl k
   have HC:=Lib.hid (fl[k].toNat_lt)
   generalize bm (fl.take k)=x at*
   generalize fl[k].toNat=c at*
   obtain ⟨ci,hci⟩:∃ci:Int,ci=(c:Int):=⟨_,rfl⟩
   have HI:=Lib.hid hci
   rw [←hci] at hcb
   have hc0:0≤ci:=by omega
   have hc1:ci<256:=by have:=HC.out;omega
   clear hci
   have hq:k/8<4:=by omega
   have ca:wr.cell? ⟨g,k/8,none⟩=some (.int .u64 (lw x (k/8):Nat)):=hA.at hq
   have cf:=hA.frozen (k/8)
   have HN:=Lib.hid hn
   have HS:=Lib.hid (wK x k c ci HI.out HN.out HC.out)
   have HO:=Lib.hid hO;have HB:=Lib.hid hB;have HA:=Lib.hid hA
   clear hn hO hB hA
   go_wp2
   go_region
   rw [HS.out]
   have hA2:=HA.out.set (k/8) (wV (x+c*256^k) (k/8))
   rw [gw (g:=wV (x+c*256^k)) _ _ rfl (fun i _ hi=>by unfold wV;rw [xw x k c i HN.out HC.out hi])] at hA2
   have hO2:=HO.out.other ⟨g,k/8,none⟩ (by simp;omega) (wV (x+c*256^k) (k/8))
   have hB2:=HB.out.other ⟨g,k/8,none⟩ (by simp;omega) (wV (x+c*256^k) (k/8))
   have HA2:=Lib.hid hA2;have HO2:=Lib.hid hO2;have HB2:=Lib.hid hB2
   clear hA2 hO2 hB2 ca cf hcb
   go_wp2
   go_roundw
   case rel=>exact ⟨k+1,by omega,by go_num,by rw [HT.out];exact HA2.out.drew,HO2.out.drew,HB2.out.drew,(by repeat (first|(with_reducible refine Below.alloc' ?_ _)|(with_reducible refine Below.drew ?_)|(with_reducible refine below_drewN ?_ _)|((with_reducible refine Below.setCell ?_ ?_ _);rotate_left;(focus (first|exact Nat.le_refl _|(simp;done)|(simp;omega))))|(with_reducible assumption)|(with_reducible exact Below.refl _ _)))⟩
   case measure=>simp [intOf]<;>omega
  ·obtain rfl:k=32:=by omega
   rw [List.take_of_length_le (by rw [HL.out];omega)] at hA
   clear hB hlt hk
   generalize hx:bm fl=x at*
   have HX:=Lib.hid hx
   clear hx
   have g0:wr.cell? ⟨g,0,none⟩=some (.int .u64 (lw x 0:Nat)):=hA.at (by omega);have g1:wr.cell? ⟨g,1,none⟩=some (.int .u64 (lw x 1:Nat)):=hA.at (by omega);have g2:wr.cell? ⟨g,2,none⟩=some (.int .u64 (lw x 2:Nat)):=hA.at (by omega);have g3:wr.cell? ⟨g,3,none⟩=some (.int .u64 (lw x 3:Nat)):=hA.at (by omega)
   have hOc:=hO.cell;have hOf:=hO.frozen
   have e0:=YT x;have e1:=YC x;have e2:=Yw x;have e3:=Yr x;have e4:=Yu x
   clear hA hO
   go_wp2
   exact bodyPost_ret (v:= .agg #[.int .u64 (dg x 0:Nat),.int .u64 (dg x 1:Nat),.int .u64 (dg x 2:Nat),.int .u64 (dg x 3:Nat),.int .u64 (dg x 4:Nat)]) (by simp [results,Tryz.results170,go_sem,hOc]) rfl ⟨by rw [HX.out],(by repeat (first|(with_reducible refine Below.alloc' ?_ _)|(with_reducible refine Below.drew ?_)|(with_reducible refine below_drewN ?_ _)|((with_reducible refine Below.setCell ?_ ?_ _);rotate_left;(focus (first|exact Nat.le_refl _|(simp;done)|(simp;omega))))|(with_reducible assumption)|(with_reducible exact Below.refl _ _)))⟩
structure kQ (w:World) (a:Option Addr) (n cap:Nat) (ls:List (List UInt8)):Prop where
 hlen:ls.length=n
 hcap:n≤cap
 hmax:cap≤maxLen
 get:∀i (h:i<ls.length),∃b o sa sn sc,a=some ⟨b,o,none⟩∧w.cell? ⟨b,o+i,none⟩=some (.slice sa sn sc)∧kK w sa sn sc ls[i]
theorem kQ.cases {w:World} {a:Option Addr} {n cap:Nat} {ls:List (List UInt8)} (h:kQ w a n cap ls):
  (n=0∧ls= [])∨∃b o,0<n∧a=some ⟨b,o,none⟩∧∀i (hi:i<ls.length),∃sa sn sc,w.cell? ⟨b,o+i,none⟩=some (.slice sa sn sc)∧kK w sa sn sc ls[i]:=by
 by_cases h0:n=0
 ·exact .inl ⟨h0,List.eq_nil_of_length_eq_zero (by rw [h.hlen,h0])⟩
 ·obtain ⟨b,o,_,_,_,ha,_,_⟩:=h.get 0 (by have:=h.hlen;omega)
  refine .inr ⟨b,o,by omega,ha,fun i hi=> ?_⟩
  obtain ⟨b',o',sa,sn,sc,ha',hc,hr⟩:=h.get i hi
  rw [ha] at ha'
  simp at ha'
  obtain ⟨rfl,rfl⟩:=ha'
  exact ⟨sa,sn,sc,hc,hr⟩
def kb (ls:List (List UInt8)) (k:Nat):Nat:=(ls.take k).flatten.length
theorem sY (ls:List (List UInt8)) (k:Nat) (h:k<ls.length):kb ls (k+1)=kb ls k+ls[k].length:=by
 unfold kb;rw [List.take_succ_eq_append_getElem h,List.flatten_append,List.length_append,List.flatten_singleton]
theorem Fe (ls:List (List UInt8)) (k:Nat) (h:k<ls.length):(ls.take (k+1)).flatten=(ls.take k).flatten++ls[k]:=by
 rw [List.take_succ_eq_append_getElem h,List.flatten_append,List.flatten_singleton]
theorem DS (ls:List (List UInt8)) (k:Nat):kb ls k≤ls.flatten.length:=by
 unfold kb
 conv=>rhs;rw [←List.take_append_drop k ls,List.flatten_append,List.length_append]
 omega
set_option maxHeartbeats 4000000 in
theorem K_ (n:Nat) (hn:n≤70368744177664) (w:World):
  Calls Tryz.prog 184 #[.slice none 0 0,.int .i64 n] w fun e w'=>∃v,e= .returned v∧w'.ownsRow w.heap.size 5 1 v 0 []∧Below w.heap.size w w':=by
 obtain ⟨i0,hi,hz0,hz1,hz2⟩:=info_parts CB
 by_cases h0:n=0
 ·subst h0
  go_enter Tryz.func184,Tryz.ntmps184
  go_wp2
  go_ret
  exact ⟨_,rfl,World.ownsRow_nil _ _ _ _,Below.refl _ _⟩
 ·have h1:¬((n:Int)<0):=by omega
  have h4:(n:Int)>0:=by omega
  have hrz:∀ty,(Builtin.append_ #[30,3] ty #[.slice none 0 0,.int .i64 (n:Int)]).run Tryz.prog w=
    .ok (.slice (some ⟨w.heap.size,0,none⟩) n (grownCap w n 0 5)) (w.drew.alloc (.cells (([]:List Value).toArray++Builtin.zeroCells (Value.int .u8 0).cells n++Builtin.zeroCells (Value.int .u8 0).cells (grownCap w n 0 5-n)) 5)):=fun ty=>by
   have h:=Lib.run_append_grow_zeros w 30 3 ty 5 i0 (.int .u8 0) .i64 .i64 Tryz.underlying30 Tryz.underlying3 hi hz0 none 0 0 [] (run_firstCells_none w.drew i0.size 0 0 0) n (by omega) (by omega) (by omega) (by omega)
    (by rw [hz2];omega)
    (by rw [Nat.zero_add];exact growslice_fits (by omega) (by rw [hz2];omega))
   rw [Nat.zero_add] at h
   exact h
  have hGn:n≤grownCap w n 0 5:=grownCap_ge w _ _ _
  obtain ⟨G,hG⟩:∃G,G=grownCap w n 0 5:=⟨_,rfl⟩
  rw [←hG] at hrz hGn
  have hGm:G≤maxLen:=by
   have:=grownCap_le_maxLen w n 0 5 (by unfold maxLen;omega)
   rw [←hG] at this;exact this
  have hG63:G≤9223372036854775807:=by unfold maxLen at hGm;omega
  obtain ⟨O,hO⟩:∃O,O=Obj.cells (([]:List Value).toArray++Builtin.zeroCells (Value.int .u8 0).cells n++Builtin.zeroCells (Value.int .u8 0).cells (G-n)) 5 (0,0):=⟨_,rfl⟩
  rw [←hO] at hrz
  have hown:World.ownsRow (w.alloc O).drew w.heap.size 5 1 (.slice (some ⟨w.heap.size,0,none⟩) 0 G) 0 []:=by
   rw [hO]
   refine World.ownsRow_made w.drew _ G (Nat.le_refl _) hGm ?_
   simp [size_zeroCells,Value.cells];omega
  have HO:=Lib.hid hown
  clear hG hown hi hz0 hz1 hz2 hGm hO
  go_enter Tryz.func184,Tryz.ntmps184
  go_wp2_with (at_builtin;refine Lib.wpList_append_run _ rfl _ _ _ _ rfl _ _ rfl rfl _ _ (hrz _) ?_)
  all_goals (go_ret;exact ⟨_,rfl,HO.out,(by repeat (first|(with_reducible refine Below.alloc' ?_ _)|(with_reducible refine Below.drew ?_)|(with_reducible refine below_drewN ?_ _)|((with_reducible refine Below.setCell ?_ ?_ _);rotate_left;(focus (first|exact Nat.le_refl _|(simp;done)|(simp;omega))))|(with_reducible assumption)|(with_reducible exact Below.refl _ _)))⟩)
set_option maxHeartbeats 4000000 in
theorem By {a:Option Addr} {n cap:Nat} {ls:List (List UInt8)} (w:World) (h:kQ w a n cap ls) (hs:ls.flatten.length≤70368744177664):
  Calls Tryz.prog 121 #[.slice a n cap] w fun e w'=>∃v,e= .returned v∧w'.ownsRow w.heap.size 5 1 v ls.flatten.length (ls.flatten.map bV)∧Below w.heap.size w w':=by
 have HL:=Lib.hid h.hlen
 have HS:=Lib.hid hs
 have hm63:(n:Int)≤9223372036854775807:=by have:=h.hcap;have:=h.hmax;unfold maxLen at *;omega
 have HR:=Lib.hid h
 clear h
 go_enter Tryz.func121,Tryz.ntmps121
 go_wp2
 go_loopw [3,11] (fun s i wr=>∃k:Nat,k≤n∧i= .int .i64 k∧s= .int .i64 (kb ls k:Nat)∧Below w.heap.size w wr) (fun _ i _=>n-(intOf i).toNat)
 case atStart=>exact ⟨0,by omega,rfl,rfl,Below.refl _ _⟩
 case round=>
  obtain ⟨k,hk,rfl,rfl,hbel⟩:=hrel
  by_cases hlt:k<n
  ·rcases HR.out.cases with ⟨h0,_⟩|⟨b,o,_,rfl,hget⟩
   ·omega
   ·have hkl:k<ls.length:=by rw [HL.out];exact hlt
    obtain ⟨sa,sn,sc,hc,hr⟩:=hget k hkl
    have hc2:wr.cell? ⟨b,o+k,none⟩=some (.slice sa sn sc):=by rw [hbel.cell (dS hc)];exact hc
    have e1:=sY ls k hkl
    rw [hr.hlen] at e1
    have h2:=DS ls (k+1)
    have hsum:kb ls k+sn≤70368744177664:=by have:=HS.out;omega
    have HE:=Lib.hid e1
    have hcp:=hr.hcap
    have hsn:sn≤70368744177664:=by omega
    clear h2 e1 hc hr hget
    generalize kb ls k=s at*
    have hw:IntKind.i64.wrap ((s:Int)+(sn:Int))=((s+sn:Nat):Int):=by rw [IntKind.wrap_i64];omega
    have hpos:decide (((s+sn:Nat):Int)<0)=false:=by simp;omega
    go_wp2
    go_roundw
    case rel=>exact ⟨k+1,by omega,by go_num,by rw [HE.out,Int.natCast_add],(by repeat (first|(with_reducible refine Below.alloc' ?_ _)|(with_reducible refine Below.drew ?_)|(with_reducible refine below_drewN ?_ _)|((with_reducible refine Below.setCell ?_ ?_ _);rotate_left;(focus (first|exact Nat.le_refl _|(simp;done)|(simp;omega))))|(with_reducible assumption)|(with_reducible exact Below.refl _ _)))⟩
    case measure=>simp [intOf];omega
  ·obtain rfl:k=n:=by omega
   have HT:Hid (kb ls k=ls.flatten.length):=Lib.hid (by unfold kb;rw [List.take_of_length_le (by rw [HL.out];omega)])
   obtain ⟨wo,rfl⟩:∃wo:World,wo=wr:=⟨_,rfl⟩
   have HS2:Hid (kb ls k≤70368744177664):=Lib.hid (by rw [HT.out];exact HS.out)
   go_wp2_with (go_at_call 184;go_must (refine (K_ _ HS2.out _).mono ?_;rintro e w1 ⟨v,rfl,hown,hb⟩;have hbel1:=Below.call hbel hb;have hown1:World.ownsRow w1 w.heap.size 5 1 v (kb ls 0) ((ls.take 0).flatten.map bV):=⟨hown.1,by rcases hown.2 with h|⟨g,c,cur,h1,h2,h3⟩;exact .inl h;exact .inr ⟨g,c,cur,h1,Nat.le_trans hbel.size h2,h3⟩⟩;clear hown hb))
   clear hlt
   go_loopw [6,27] (fun s i wr=>∃j:Nat,j≤k∧i= .int .i64 j∧wr.ownsRow w.heap.size 5 1 s (kb ls j) ((ls.take j).flatten.map bV)∧Below w.heap.size w wr) (fun _ i _=>k-(intOf i).toNat)
   case atStart=>exact ⟨0,by omega,rfl,hown1,hbel1⟩
   case round=>
    clear hown1 hbel1 hbel
    obtain ⟨j,hj,rfl,hown,hbel⟩:=hrel
    by_cases hlt:j<k
    ·rcases HR.out.cases with ⟨h0,_⟩|⟨b,o,_,rfl,hget⟩
     ·omega
     ·have hkl:j<ls.length:=by rw [HL.out];exact hlt
      obtain ⟨sa,sn,sc,hc,hr⟩:=hget j hkl
      have hc2:wr.cell? ⟨b,o+j,none⟩=some (.slice sa sn sc):=by rw [hbel.cell (dS hc)];exact hc
      have e1:=sY ls j hkl
      rw [hr.hlen] at e1
      have h2:=DS ls (j+1)
      have hsum:kb ls j+sn≤70368744177664:=by have:=HS.out;omega
      have HE:=Lib.hid e1
      have HF:=Lib.hid (Fe ls j hkl)
      have HRD:=Lib.hid (hr.below hbel)
      clear h2 e1 hc hr hget
      go_wp2_with (at_builtin;refine sJ _ rfl (.tmp 31) (.tmp 32) rfl w.heap.size _ (kb ls j) ((ls.take j).flatten) rfl hown sa sn sc ls[j] rfl HRD.out hsum hbel.size w hbel ?_;intro v' w2 hown2 hbel2;have HO2:Hid (w2.ownsRow w.heap.size 5 1 v' (kb ls (j+1)) ((ls.take (j+1)).flatten.map bV)):=Lib.hid (by rw [HE.out,HF.out];exact hown2);clear hown2)
      go_roundw
      case rel=>exact ⟨j+1,by omega,by go_num,HO2.out,hbel2⟩
      case measure=>simp [intOf];omega
    ·obtain rfl:j=k:=by omega
     have hO:=Lib.hid (show wr.ownsRow w.heap.size 5 1 _ ls.flatten.length (ls.flatten.map bV) from by
      have:=hown
      rw [HT.out,List.take_of_length_le (by rw [HL.out];omega)] at this;exact this)
     clear hown
     go_wp2
     go_ret
     exact ⟨_,rfl,hO.out,hbel⟩
set_option maxHeartbeats 4000000 in
theorem DG {a:Option Addr} {n cap:Nat} {ls:List (List UInt8)} (w:World) (h:kQ w a n cap ls) (hs:ls.flatten.length≤70368744177664):
  Calls Tryz.prog 71 #[.slice a n cap] w fun e w'=>∃v,e= .returned v∧w'.ownsRow w.heap.size 5 1 v ls.flatten.length (ls.flatten.map bV)∧Below w.heap.size w w':=by
 go_enter Tryz.func71,Tryz.ntmps71
 go_wp2_with (go_at_call 121;go_must (refine (By _ h hs).mono ?_;rintro e w1 ⟨v,rfl,ho,hb⟩;have HO:=Lib.hid ho;clear ho))
 go_ret
 exact ⟨_,rfl,HO.out,hb⟩
inductive fT (w:World):List Value→List (List UInt8)→Prop
 |nil:fT w [] []
 |cons {sa:Option Addr} {sn sc:Nat} {l:List UInt8} {cs:List Value} {ls:List (List UInt8)}:kK w sa sn sc l→fT w cs ls→fT w (.slice sa sn sc::cs) (l::ls)
theorem fT.get {w:World} {cs:List Value} {ls:List (List UInt8)} (h:fT w cs ls):∀i (hi:i<ls.length),∃sa sn sc,cs[i]?=some (.slice sa sn sc)∧kK w sa sn sc ls[i]:=by
 induction h with
 |nil=>intro i hi;simp at hi
 |cons h1 _ ih=>
  intro i hi
  cases i with
  |zero=>exact ⟨_,_,_,rfl,h1⟩
  |succ i=>obtain ⟨sa,sn,sc,h2,h3⟩:=ih i (by simpa using hi);exact ⟨sa,sn,sc,by simpa using h2,by simpa using h3⟩
theorem kQ.blk {w:World} {g E n:Nat} {cs:List Value} {ls:List (List UInt8)} (h:aj w g cs E) (hr:fT w cs ls) (hn:ls.length=n) (hm:n≤maxLen):kQ w (some ⟨g,0,none⟩) n n ls:=
 ⟨hn,Nat.le_refl _,hm,fun i hi=>by
  obtain ⟨sa,sn,sc,h2,h3⟩:=hr.get i hi
  exact ⟨g,0,sa,sn,sc,rfl,by rw [Nat.zero_add,h.cell];exact h2,h3⟩⟩
theorem vF (a b t:Nat) (ht:t≤64) (ha:a<2^t):bits BinOp.or IntKind.u64 (a:Int) (IntKind.u64.wrap ((b:Int)*2^t))=((a+b*2^t)%18446744073709551616:Nat):=by
 obtain ⟨s,hs⟩:∃s,t+s=64:=⟨64-t,by omega⟩
 have h1:2^t≤2^64:=Nat.pow_le_pow_right (by omega) ht
 have e:b*2^t%18446744073709551616=(b%2^s)*2^t:=by
  rw [show (18446744073709551616:Nat)=2^t*2^s from by rw [←Nat.pow_add,hs],Nat.mul_comm b,Nat.mul_mod_mul_left,Nat.mul_comm]
 have h2:b%2^s*2^t<18446744073709551616:=by rw [←e];exact Nat.mod_lt _ (by omega)
 have h3:a|||b%2^s*2^t=a+b%2^s*2^t:=by
  have h4:=Nat.shiftLeft_add_eq_or_of_lt ha (b%2^s)
  rw [Nat.shiftLeft_eq] at h4
  rw [Nat.or_comm,←h4,Nat.add_comm]
 have h5:a|||b%2^s*2^t<18446744073709551616:=Nat.or_lt_two_pow (n:=64) (by omega) h2
 rw [h3] at h5
 rw [fp,show ((b:Int)*2^t)%18446744073709551616=((b*2^t%18446744073709551616:Nat):Int) from by simp,u64_or_nat _ _ (by omega) (Nat.mod_lt _ (by omega)),Nat.add_mod,e,h3,Nat.mod_eq_of_lt (show a<18446744073709551616 by omega),Nat.mod_eq_of_lt h5]
theorem by0 (n:Nat):bits BinOp.or IntKind.u64 (dg n 0:Nat) (IntKind.u64.wrap ((dg n 1:Nat)*2251799813685248))=(lw n 0:Nat):=by
 have h:=vF (dg n 0) (dg n 1) 51 (by omega) (kt _ _)
 refine Eq.trans (show _=_ from h) ?_
 congr 1
 simp only [lw,dg,Nat.reduceMul,Nat.reducePow];omega
theorem by1 (n:Nat):bits BinOp.or IntKind.u64 ((dg n 1:Nat)/8192) (IntKind.u64.wrap ((dg n 2:Nat)*274877906944))=(lw n 1:Nat):=by
 have:=kt n 1
 have h:=vF (dg n 1/8192) (dg n 2) 38 (by omega) (by omega)
 refine Eq.trans (show _=_ from h) ?_
 congr 1
 simp only [lw,dg,Nat.reduceMul,Nat.reducePow];omega
theorem Yt (n:Nat):bits BinOp.or IntKind.u64 ((dg n 2:Nat)/67108864) (IntKind.u64.wrap ((dg n 3:Nat)*33554432))=(lw n 2:Nat):=by
 have:=kt n 2
 have h:=vF (dg n 2/67108864) (dg n 3) 25 (by omega) (by omega)
 refine Eq.trans (show _=_ from h) ?_
 congr 1
 simp only [lw,dg,Nat.reduceMul,Nat.reducePow];omega
theorem YJ (n:Nat) (hn:n<Pq):bits BinOp.or IntKind.u64 ((dg n 3:Nat)/549755813888) (IntKind.u64.wrap ((dg n 4:Nat)*4096))=(lw n 3:Nat):=by
 have:=kt n 3
 have h:=vF (dg n 3/549755813888) (dg n 4) 12 (by omega) (by omega)
 refine Eq.trans (show _=_ from h) ?_
 congr 1
 unfold Pq at hn
 simp only [lw,dg,Nat.reduceMul,Nat.reducePow];omega
theorem Ma (n:Nat): [bq 8 (lw n 0),bq 8 (lw n 1),bq 8 (lw n 2),bq 8 (lw n 3)].flatten=bq 32 n:=by
 rw [show (32:Nat)=8*(3+1) from rfl,ir,show 8*3=8*(2+1) from rfl,ir,show 8*2=8*(1+1) from rfl,ir,show 8*1=8*(0+1) from rfl,ir]
 simp [bq]
theorem kK.of8 {w:World} {g:Nat} {n:Nat} (h:aj w g ((bq 8 n).map bV) 5):kK w (some ⟨g,0,none⟩) 8 8 (bq 8 n):=
 kK.blk [] (by rw [List.append_nil];exact h) (au _ _) (Nat.le_refl _) (by unfold maxLen;omega)
theorem xA {w:World} {B' B E n:Nat} {v:Value} {xs:List Value} (h:w.ownsRow B' E 1 v n xs) (hB:B≤B'):w.ownsRow B E 1 v n xs:=by
 obtain ⟨h1,h2⟩:=h
 refine ⟨h1,?_⟩
 rcases h2 with h2|⟨g,cap,cur,hv,hg,r⟩
 ·exact .inl h2
 ·exact .inr ⟨g,cap,cur,hv,Nat.le_trans hB hg,r⟩
set_option maxHeartbeats 1000000 in
theorem xQ {f:Nat→Nat} {x:Nat} (hf:FE f x) (w:World):
  Calls Tryz.prog 171 #[.agg #[.int .u64 (f 0:Nat),.int .u64 (f 1:Nat),.int .u64 (f 2:Nat),.int .u64 (f 3:Nat),.int .u64 (f 4:Nat)]] w fun e w'=>∃v,e= .returned v∧w'.ownsRow w.heap.size 5 1 v 32 ((bq 32 x).map bV)∧Below w.heap.size w w':=by
 have e0:=by0 x;have e1:=by1 x;have e2:=Yt x;have e3:=YJ x hf.lt
 have HFL:=Lib.hid (Ma x)
 have HW0:=Lib.hid (eG x 0);have HW1:=Lib.hid (eG x 1);have HW2:=Lib.hid (eG x 2);have HW3:=Lib.hid (eG x 3)
 have HF:=Lib.hid hf
 clear hf
 go_enter Tryz.func171,Tryz.ntmps171
 go_upto_region 2 with (go_at_call 177;go_must (refine (j8 HF.out _).mono ?_;rintro e w1 ⟨rfl,hb⟩;have hbel:Below w.heap.size w w1:=Below.call (by repeat (first|(with_reducible refine Below.alloc' ?_ _)|(with_reducible refine Below.drew ?_)|(with_reducible refine below_drewN ?_ _)|((with_reducible refine Below.setCell ?_ ?_ _);rotate_left;(focus (first|exact Nat.le_refl _|(simp;done)|(simp;omega))))|(with_reducible assumption)|(with_reducible exact Below.refl _ _))) hb;clear hb))
 refine dt (fun W=>(W.cell? ⟨w1.heap.size,0,none⟩=some (.int .u64 (dg x 0:Nat))∧W.cell? ⟨w1.heap.size,1,none⟩=some (.int .u64 (dg x 1:Nat))∧W.cell? ⟨w1.heap.size,2,none⟩=some (.int .u64 (dg x 2:Nat))∧W.cell? ⟨w1.heap.size,3,none⟩=some (.int .u64 (dg x 3:Nat))∧W.cell? ⟨w1.heap.size,4,none⟩=some (.int .u64 (dg x 4:Nat)))∧Below w.heap.size w W) ?_ (fun W0 hW=> ?_)
 ·exact ⟨⟨(aj.new w1 _ _).cell 0,(aj.new w1 _ _).cell 1,(aj.new w1 _ _).cell 2,(aj.new w1 _ _).cell 3,(aj.new w1 _ _).cell 4⟩,(by repeat (first|(with_reducible refine Below.alloc' ?_ _)|(with_reducible refine Below.drew ?_)|(with_reducible refine below_drewN ?_ _)|((with_reducible refine Below.setCell ?_ ?_ _);rotate_left;(focus (first|exact Nat.le_refl _|(simp;done)|(simp;omega))))|(with_reducible assumption)|(with_reducible exact Below.refl _ _)))⟩
 clear hbel
 generalize w1.heap.size=g at*
 clear w1
 have hst:∀W W':World,((W.cell? ⟨g,0,none⟩=some (.int .u64 (dg x 0:Nat))∧W.cell? ⟨g,1,none⟩=some (.int .u64 (dg x 1:Nat))∧W.cell? ⟨g,2,none⟩=some (.int .u64 (dg x 2:Nat))∧W.cell? ⟨g,3,none⟩=some (.int .u64 (dg x 3:Nat))∧W.cell? ⟨g,4,none⟩=some (.int .u64 (dg x 4:Nat)))∧Below w.heap.size w W)→Below W.heap.size W W'→((W'.cell? ⟨g,0,none⟩=some (.int .u64 (dg x 0:Nat))∧W'.cell? ⟨g,1,none⟩=some (.int .u64 (dg x 1:Nat))∧W'.cell? ⟨g,2,none⟩=some (.int .u64 (dg x 2:Nat))∧W'.cell? ⟨g,3,none⟩=some (.int .u64 (dg x 3:Nat))∧W'.cell? ⟨g,4,none⟩=some (.int .u64 (dg x 4:Nat)))∧Below w.heap.size w W'):=by
  rintro W W' ⟨h1,h3⟩ hb
  exact ⟨yb _ _ h1 hb,Below.call h3 hb⟩
 have hst':=Lib.hid hst;have HS0:=Lib.hid (show (fun W=>(W.cell? ⟨g,0,none⟩=some (.int .u64 (dg x 0:Nat))∧W.cell? ⟨g,1,none⟩=some (.int .u64 (dg x 1:Nat))∧W.cell? ⟨g,2,none⟩=some (.int .u64 (dg x 2:Nat))∧W.cell? ⟨g,3,none⟩=some (.int .u64 (dg x 3:Nat))∧W.cell? ⟨g,4,none⟩=some (.int .u64 (dg x 4:Nat)))∧Below w.heap.size w W) W0.drew from ⟨hW.1,hW.2.drew⟩)
 clear hst hW
 have hst:=hst'
 clear hst'
 have hF:∀W:World,((W.cell? ⟨g,0,none⟩=some (.int .u64 (dg x 0:Nat))∧W.cell? ⟨g,1,none⟩=some (.int .u64 (dg x 1:Nat))∧W.cell? ⟨g,2,none⟩=some (.int .u64 (dg x 2:Nat))∧W.cell? ⟨g,3,none⟩=some (.int .u64 (dg x 3:Nat))∧W.cell? ⟨g,4,none⟩=some (.int .u64 (dg x 4:Nat)))∧Below w.heap.size w W)→Below w.heap.size w W:=fun W h=>h.2
 go_region_held3 (fun W=>(W.cell? ⟨g,0,none⟩=some (.int .u64 (dg x 0:Nat))∧W.cell? ⟨g,1,none⟩=some (.int .u64 (dg x 1:Nat))∧W.cell? ⟨g,2,none⟩=some (.int .u64 (dg x 2:Nat))∧W.cell? ⟨g,3,none⟩=some (.int .u64 (dg x 3:Nat))∧W.cell? ⟨g,4,none⟩=some (.int .u64 (dg x 4:Nat)))∧Below w.heap.size w W) (first|(exact HS0.out)|(first|assumption|(refine hst.out _ _ ?_ hb;assumption)|(refine hst.out _ _ ?_ (Below.alloc' (Below.refl _ _) _);assumption)|(refine hst.out _ _ ?_ (Below.drew (Below.refl _ _));assumption))) ((first|(go_at_call 178;first |((with_reducible refine (e_ HW0.out _).mono ?_);rintro e w1 ⟨rfl,hB,hb⟩;have C1:=Lib.hid hb.size;have R0:=Lib.hid (kK.of8 hB);clear hB)|((with_reducible refine (e_ HW1.out _).mono ?_);rintro e w2 ⟨rfl,hB,hb⟩;have C2:=Lib.hid hb.size;have R1:=Lib.hid (kK.of8 hB);have Q0:=Lib.hid (R0.out.below hb);clear hB)|((with_reducible refine (e_ HW2.out _).mono ?_);rintro e w3 ⟨rfl,hB,hb⟩;have C3:=Lib.hid hb.size;have R2:=Lib.hid (kK.of8 hB);have Q1:=Lib.hid (R1.out.below hb);have P0:=Lib.hid (Q0.out.below hb);clear hB)|((with_reducible refine (e_ HW3.out _).mono ?_);rintro e w4 ⟨rfl,hB,hb⟩;have C4:=Lib.hid hb.size;have R3:=Lib.hid (kK.of8 hB);have Q2:=Lib.hid (R2.out.below hb);have P1:=Lib.hid (Q1.out.below hb);have N0:=Lib.hid (P0.out.below hb);clear hB))|(go_at_call 71;refine (DG (ls:= [bq 8 (lw x 0),bq 8 (lw x 1),bq 8 (lw x 2),bq 8 (lw x 3)]) _ (kQ.blk (n:=4) (aj.new _ _ _) (fT.cons (N0.out.below (Below.alloc' (Below.refl _ _) _)) (fT.cons (P1.out.below (Below.alloc' (Below.refl _ _) _)) (fT.cons (Q2.out.below (Below.alloc' (Below.refl _ _) _)) (fT.cons (R3.out.below (Below.alloc' (Below.refl _ _) _)) fT.nil)))) rfl (by unfold maxLen;omega)) (by rw [HFL.out,au];omega)).mono ?_;rintro e w5 ⟨v,rfl,ho,hb⟩;rw [HFL.out,au] at ho;replace ho:=xA (B:=w4.heap.size) ho (Below.alloc' (Below.refl _ _) _).size;have HO:=Lib.hid ho;clear ho)))
 all_goals
  go_wp2
  go_ret
  refine ⟨v,rfl,xA HO.out ?_,hF _ (by assumption)⟩
  have c0:=HS0.out.2.size;have c1:=C1.out;have c2:=C2.out;have c3:=C3.out;have c4:=C4.out
  omega
end Go.Proofs.YtknlbpjcjdenbaaGreat
namespace Go.Proofs.YtknlbpjcjdenbaaGreat
open Go Go.RowKit
set_option maxRecDepth 10000
theorem bp {f : Nat} {fn : Func} {c : Code} (hf : Tryz.prog.funcs[f]? = some fn) (hn : (fn.name == "runtime.NumGoroutine") = false) (hb : fn.body = some c) {G : GF}
  (hG:∀l g,G l=some g→bn g.pre→g.us= []∧eC g.outs=true∧∀η w vs,bQ η (fun _=>True) w l vs→Calls Tryz.prog f vs.toArray w fun e w'=>∃v,e= .returned v∧Below w.heap.size w w'∧∀nx ηc,bz ηc (fun _=>True) w' (g.outs.map (AV.rn nx)) v):af f (ar G):=by
 refine ⟨⟨fn,c,hf,hn,hb⟩,fun nx args sl H ds res rd qs h hq hp η w vs hH hv hfree=> ?_⟩
 obtain ⟨l,rd1,h1,hl⟩:=eV hH h hv
 split at h1
 ·split at h1
  ·rename_i outs us p e3
   have:=j5 h1
   subst this
   obtain ⟨g1,g2,g3⟩:=hG _ _ e3 hp
   cases (show us= [] from g1)
   refine (g3 η w vs (en hl)).mono fun e w' ⟨v,he,hbl,ho⟩=> ?_
   obtain ⟨η',hR⟩:=bE.many (ηc:=fun _=>none) (Ac:=fun _=>True) (pre:=p) hH hfree (us:= []) rfl hbl (fun p hp=>by cases hp) (fun p hp=>by cases hp) (fun p hp=>by cases hp) g2 (ho nx _)
   exact ⟨v,η',he,hR⟩
  ·cases h1
 ·cases h1
theorem gX {f : Nat} {fn : Func} {c : Code} (hf : Tryz.prog.funcs[f]? = some fn) (hn : (fn.name == "runtime.NumGoroutine") = false) (hb : fn.body = some c) {G : GF}
  (hG:∀l g,G l=some g→bn g.pre→∃q:List UInt8,g.outs= [.one (.rw 0)]∧g.us= [(0,.row 5 .u8 q)]∧∀η w vs,bQ η (fun _=>True) w l vs→Calls Tryz.prog f vs.toArray w fun e w'=>∃v,e= .returned v∧w'.ownsRow w.heap.size 5 1 v q.length (q.map bV)∧Below w.heap.size w w'):af f (ar G):=by
 refine ⟨⟨fn,c,hf,hn,hb⟩,fun nx args sl H ds res rd qs h hq hp η w vs hH hv hfree=> ?_⟩
 obtain ⟨l,rd1,h1,hl⟩:=eV hH h hv
 split at h1
 ·split at h1
  ·rename_i outs us p e3
   have:=j5 h1
   subst this
   obtain ⟨q,g1,g2,g3⟩:=hG _ _ e3 hp
   cases (show outs=_ from g1)
   cases (show us=_ from g2)
   refine (g3 η w vs (en hl)).mono fun e w' ⟨v,he,ho,hbl⟩=> ?_
   have hge:∀g,xC v=some g→w.heap.size≤g:=fun g hg=>by
    rcases ho.2 with ⟨rfl,_⟩|⟨g',cap,cur,rfl,h4,_⟩
    ·cases hg
    ·cases hg;exact h4
   have ho0:w'.ownsRow 0 5 1 v q.length (q.map bV):=⟨ho.1,ho.2.imp_right fun ⟨g',cap,cur,h4,h5,h6⟩=>⟨g',cap,cur,h4,Nat.zero_le _,h6⟩⟩
   have h1c:v.oneCell'=true:=by rcases ho.2 with ⟨rfl,_⟩|⟨g',cap,cur,rfl,_⟩<;>rfl
   obtain ⟨η',hR⟩:=bE.many (ηc:=fun b=>if b=nx then some v else none) (Ac:=fun _=>True) (pre:=p) hH hfree (us:= [(0,.row 5 .u8 q)]) rfl hbl
    (fun p hp=>by
     rw [List.mem_singleton] at hp
     subst hp
     exact ⟨v,_,if_pos rfl,jS.2 rfl,ho0⟩)
    (fun p hp r hr hne=>by
     rw [List.mem_singleton] at hp hr
     subst hp hr
     exact absurd rfl hne)
    (fun p hp g hg=>by
     rw [List.mem_singleton] at hp
     subst hp
     refine hge g ?_
     replace hg:(if nx+0=nx then some v else none).bind xC=some g:=hg
     rw [if_pos (Nat.add_zero nx)] at hg
     exact hg) (outs:= [.one (.rw 0)]) rfl (v:=v) ⟨v,if_pos rfl,rfl,h1c⟩
   exact ⟨v,η',he,hR⟩
  ·cases h1
 ·cases h1
theorem gD {η:bx} {A:Nat→Prop} {w:World} {x:F} {v:Value} (h:AV.H η A w (.agg [.ob (.x 4) x]) v):∃f,v= .agg #[.int .u64 (f 0:Nat),.int .u64 (f 1:Nat),.int .u64 (f 2:Nat),.int .u64 (f 3:Nat),.int .u64 (f 4:Nat)]∧FE f x.val:=by
 obtain ⟨cs,rfl,⟨h1,t,e2,⟨f,h3,h4,rfl⟩,rfl⟩,_⟩:=h
 exact ⟨f,by rw [e2];rfl,h3,h4⟩
theorem gK {η:bx} {A:Nat→Prop} {w:World} {f:Nat→Nat} {n:Nat} (h:FE f n) (x:F) (e:n=x.val):AV.H η A w (.agg [.ob (.x 4) x]) (.agg #[.int .u64 (f 0:Nat),.int .u64 (f 1:Nat),.int .u64 (f 2:Nat),.int .u64 (f 3:Nat),.int .u64 (f 4:Nat)]):=
 ⟨_,rfl,⟨_,[],rfl,⟨f,h.lim,h.num.trans e,rfl⟩,rfl⟩,fun v hv=>by
  simp only [List.mem_cons,List.not_mem_nil,or_false] at hv
  rcases hv with rfl|rfl|rfl|rfl|rfl<;>rfl⟩
def Kc:GF:=fun l=>match l with
 | [.agg [.ob (.x 4) a],.agg [.ob (.x 4) b]]=>some ⟨[.agg [.ob (.x 4) (mX a b)]],[],none⟩
 |_=>none
theorem B_:af 110 (ar Kc):=bp Tryz.func110 (by kernel_rfl) rfl fun l g h hp=>by
 unfold Kc at h
 split at h
 ·rename_i a b
  cases h
  refine ⟨rfl,rfl,fun η w vs ⟨v1,t,e1,h1,v2,t2,e2,h2,e3⟩=> ?_⟩
  subst e3 e2 e1
  obtain ⟨f,rfl,hf⟩:=gD h1
  obtain ⟨g,rfl,hg⟩:=gD h2
  exact (EM hf hg w).mono fun e w' ⟨h,he,hh,hb⟩=>⟨_,he,hb,fun _ _=>gK hh (mX a b) (F.add_val _ _).symm⟩
 ·cases h
theorem Ld (a b:F):(a.val+(Pq-b.val))%Pq=(nM a b).val:=by rw [Nat.add_comm];rfl
def K8:GF:=fun l=>match l with
 | [.agg [.ob (.x 4) a],.agg [.ob (.x 4) b]]=>some ⟨[.agg [.ob (.x 4) (nM a b)]],[],none⟩
 |_=>none
theorem BV:af 108 (ar K8):=bp Tryz.func108 (by kernel_rfl) rfl fun l g h hp=>by
 unfold K8 at h
 split at h
 ·rename_i a b
  cases h
  refine ⟨rfl,rfl,fun η w vs ⟨v1,t,e1,h1,v2,t2,e2,h2,e3⟩=> ?_⟩
  subst e3 e2 e1
  obtain ⟨f,rfl,hf⟩:=gD h1
  obtain ⟨g,rfl,hg⟩:=gD h2
  exact (rY hf hg w).mono fun e w' ⟨h,he,hh,hb⟩=>⟨_,he,hb,fun _ _=>gK hh (nM a b) (Ld a b)⟩
 ·cases h
def Kw:GF:=fun l=>match l with
 | [.agg [.ob (.x 4) a]]=>some ⟨[.agg [.ob (.x 4) (lM a)]],[],none⟩
 |_=>none
theorem Cq:af 116 (ar Kw):=bp Tryz.func116 (by kernel_rfl) rfl fun l g h hp=>by
 unfold Kw at h
 split at h
 ·rename_i a
  cases h
  refine ⟨rfl,rfl,fun η w vs ⟨v1,t,e1,h1,e3⟩=> ?_⟩
  subst e3 e1
  obtain ⟨f,rfl,hf⟩:=gD h1
  exact (sm hf w).mono fun e w' ⟨h,he,hh,hb⟩=>⟨_,he,hb,fun _ _=>gK hh (lM a) rfl⟩
 ·cases h
def Hj:GF:=fun l=>match l with
 | [.agg [.ob (.x 4) a],.agg [.ob (.x 4) b]]=>some ⟨[.agg [.ob (.x 4) (aO a b)]],[],none⟩
 |_=>none
theorem AZ:af 107 (ar Hj):=bp Tryz.func107 (by kernel_rfl) rfl fun l g h hp=>by
 unfold Hj at h
 split at h
 ·rename_i a b
  cases h
  refine ⟨rfl,rfl,fun η w vs ⟨v1,t,e1,h1,v2,t2,e2,h2,e3⟩=> ?_⟩
  subst e3 e2 e1
  obtain ⟨f,rfl,hf⟩:=gD h1
  obtain ⟨g,rfl,hg⟩:=gD h2
  exact (gS hf hg w).mono fun e w' ⟨h,he,hh,hb⟩=>⟨_,he,hb,fun _ _=>gK hh (aO a b) (F.mul_val _ _).symm⟩
 ·cases h
def Ib:GF:=fun l=>match l with
 | [.agg [.ob (.x 4) a]]=>some ⟨[.agg [.ob (.x 4) (aY a)]],[],none⟩
 |_=>none
theorem Aq:af 111 (ar Ib):=bp Tryz.func111 (by kernel_rfl) rfl fun l g h hp=>by
 unfold Ib at h
 split at h
 ·rename_i a
  cases h
  refine ⟨rfl,rfl,fun η w vs ⟨v1,t,e1,h1,e3⟩=> ?_⟩
  subst e3 e1
  obtain ⟨f,rfl,hf⟩:=gD h1
  exact (Gx hf w).mono fun e w' ⟨h,he,hh,hb⟩=>⟨_,he,hb,fun _ _=>gK hh (aY a) rfl⟩
 ·cases h
def vP:GF:=fun l=>match l with
 | [.one (.ob .u64 n)]=>some ⟨[.agg [.ob (.x 4) (fn n.toNat)]],[],none⟩
 |_=>none
theorem vN:af 106 (ar vP):=bp Tryz.func106 (by kernel_rfl) rfl fun l g h hp=>by
 unfold vP at h
 split at h
 ·rename_i n
  cases h
  refine ⟨rfl,rfl,fun η w vs ⟨v1,t,e1,h1,e3⟩=> ?_⟩
  subst e3 e1
  cases List.singleton_inj.1 (show [v1]= [_] from h1)
  exact (nJ n.toNat_lt w).mono fun e w' ⟨he,hb⟩=>⟨_,he,hb,fun _ _=>gK (FE.small n.toNat_lt) (fn n.toNat) (Nat.mod_eq_of_lt (Nat.lt_trans n.toNat_lt (by decide +kernel))).symm⟩
 ·cases h
def B5:GF:=fun l=>match l with
 | [.agg [.ob (.x 4) a],.agg [.ob (.x 4) b]]=>some ⟨[.one (.ob .bool (wn a b))],[],none⟩
 |_=>none
theorem yx:af 113 (ar B5):=bp Tryz.func113 (by kernel_rfl) rfl fun l g h hp=>by
 unfold B5 at h
 split at h
 ·rename_i a b
  cases h
  refine ⟨rfl,rfl,fun η w vs ⟨v1,t,e1,h1,v2,t2,e2,h2,e3⟩=> ?_⟩
  subst e3 e2 e1
  obtain ⟨f,rfl,hf⟩:=gD h1
  obtain ⟨g,rfl,hg⟩:=gD h2
  refine (oB hf hg w).mono fun e w' ⟨he,hb⟩=>⟨_,he,hb,fun _ _=> ?_⟩
  show [Value.bool _]= [Value.bool _]
  refine congrArg (fun z=> [Value.bool z]) (decide_eq_decide.2 ⟨fun h=>F.ext' h,fun h=>congrArg Fin.val h⟩)
 ·cases h
def A9:GF:=fun l=>match l with
 | [.one (.ob .bool y),.agg [.ob (.x 4) a],.agg [.ob (.x 4) b]]=>some ⟨[.agg [.ob (.x 4) (match y with |true=>a|false=>b)]],[],none⟩
 |_=>none
theorem zv:af 115 (ar A9):=bp Tryz.func115 (by kernel_rfl) rfl fun l g h hp=>by
 unfold A9 at h
 split at h
 ·rename_i y a b
  cases h
  refine ⟨rfl,rfl,fun η w vs ⟨v0,t0,e0,h0,v1,t,e1,h1,v2,t2,e2,h2,e3⟩=> ?_⟩
  subst e3 e2 e1 e0
  cases List.singleton_inj.1 (show [v0]= [_] from h0)
  obtain ⟨f,rfl,hf⟩:=gD h1
  obtain ⟨g,rfl,hg⟩:=gD h2
  refine (AA y f g w).mono fun e w' ⟨he,hb⟩=>⟨_,he,hb,fun _ _=> ?_⟩
  cases y
  ·exact gK hg b rfl
  ·exact gK hf a rfl
 ·cases h
def vL:GF:=fun l=>match l with
 | [.agg [.ob (.x 4) a]]=>some ⟨[.one (.rw 0)],[(0,.row 5 .u8 (bq 32 (Fin.val (n:=Pq) a)))],none⟩
 |_=>none
theorem uS:af 171 (ar vL):=gX Tryz.func171 (by kernel_rfl) rfl fun l g h hp=>by
 unfold vL at h
 split at h
 ·rename_i a
  cases h
  refine ⟨_,rfl,rfl,fun η w vs ⟨v1,t,e1,h1,e3⟩=> ?_⟩
  subst e3 e1
  obtain ⟨f,rfl,hf⟩:=gD h1
  rw [au]
  exact xQ hf w
 ·cases h
def QS:GF:=fun l=>match l with
 | [.one (.ro .u8 b)]=>some ⟨[.agg [.ob (.x 4) (gI b)]],[],none⟩
 |_=>none
theorem Gj:af 170 (ar QS):=bp Tryz.func170 (by kernel_rfl) rfl fun l g h hp=>by
 unfold QS at h
 split at h
 ·rename_i b
  cases h
  refine ⟨rfl,rfl,fun η w vs ⟨v1,t,e1,h1,e3⟩=> ?_⟩
  subst e3 e1
  obtain ⟨u,e,hR⟩:=h1
  cases List.singleton_inj.1 e
  obtain ⟨ad,c,rfl,hr⟩:=hR.rdb
  refine (HJ w hr).mono fun e w' ⟨he,hb⟩=>⟨_,he,hb,fun _ _=>gK (FE.of _) (gI b) ?_⟩
  show bm (b.take 32++List.replicate (32-b.length) 0)%k8%Pq=bm (b.take 32)%k8%Pq
  rw [uF]
 ·cases h
end Go.Proofs.YtknlbpjcjdenbaaGreat
namespace Go.Proofs.YtknlbpjcjdenbaaGreat
open Go.RowKit
theorem Wd.lw (n i:Nat):Wd (lw n i:Nat):=⟨by omega,by have:=eG n i;omega⟩
theorem Cy.cy (a b i:Nat):Cy (cy a b i:Nat):=⟨by omega,by have:=Uj a b i;omega⟩
theorem Cy.bw (a b i:Nat):Cy (bw a b i:Nat):=⟨by omega,by have:=VF a b i;omega⟩
theorem MJ (a b i:Nat):adds (lw a i:Nat) (lw b i:Nat) (cy a b i:Nat)=(lw (a+b) i:Nat):=by
 have:=(wy a b i).1;unfold adds;omega
theorem LS (a b i:Nat):BN (lw a i:Nat) (lw b i:Nat) (cy a b i:Nat)=(cy a b (i+1):Nat):=by
 have:=(wy a b i).2;unfold BN;omega
theorem tU (a b i j:Nat) (hj:i+1=j) (w:World):(callFunc 207 #[.int .u64 (lw a i:Nat),.int .u64 (lw b i:Nat),.int .u64 (cy a b i:Nat)]).run Tryz.prog w= .ok (.value (.tuple #[.int .u64 (lw (a+b) i:Nat),.int .u64 (cy a b j:Nat)])) w:=by
 rw [Kr (Wd.lw a i) (Wd.lw b i) (Cy.cy a b i),MJ,LS,hj]
theorem Mp (a b:Nat) (w:World):(callFunc 207 #[.int .u64 (lw a 0:Nat),.int .u64 (lw b 0:Nat),.int .u64 0]).run Tryz.prog w= .ok (.value (.tuple #[.int .u64 (lw (a+b) 0:Nat),.int .u64 (cy a b 1:Nat)])) w:=by
 have:=tU a b 0 1 rfl w
 rw [NK] at this;exact this
theorem QU (a b i j:Nat) (hj:i+1=j) (hi:i<4) (hb:b<2^256) (w:World):(callFunc 221 #[.int .u64 (lw a i:Nat),.int .u64 (lw b i:Nat),.int .u64 (bw a b i:Nat)]).run Tryz.prog w= .ok (.value (.tuple #[.int .u64 (lw (a+2^256-b) i:Nat),.int .u64 (bw a b j:Nat)])) w:=by
 have:=Ja a b i hi hb
 have e1:Nd (lw a i:Nat) (lw b i:Nat) (bw a b i:Nat)=(lw (a+2^256-b) i:Nat):=this.1
 have e2:MO (lw a i:Nat) (lw b i:Nat) (bw a b i:Nat)=(bw a b (i+1):Nat):=this.2
 rw [Vn (Wd.lw a i) (Wd.lw b i) (Cy.bw a b i),e1,e2,hj]
theorem RB (x0 x1 x2 x3:Value) (w:World):(Instr.field 121 (.agg #[x0,x1,x2,x3]) 0).run Tryz.prog w= .ok (.agg #[x0,x1,x2,x3]) w:=by kernel_rfl
theorem PU (x0 x1 x2 x3:Value) (w:World):(Instr.index 119 (.agg #[x0,x1,x2,x3]) (.int .i64 0)).run Tryz.prog w= .ok x0 w:=by kernel_rfl
theorem PE (x0 x1 x2 x3:Value) (w:World):(Instr.index 119 (.agg #[x0,x1,x2,x3]) (.int .i64 1)).run Tryz.prog w= .ok x1 w:=by kernel_rfl
theorem PS (x0 x1 x2 x3:Value) (w:World):(Instr.index 119 (.agg #[x0,x1,x2,x3]) (.int .i64 2)).run Tryz.prog w= .ok x2 w:=by kernel_rfl
theorem Po (x0 x1 x2 x3:Value) (w:World):(Instr.index 119 (.agg #[x0,x1,x2,x3]) (.int .i64 3)).run Tryz.prog w= .ok x3 w:=by kernel_rfl
set_option maxHeartbeats 400000 in
theorem KS (a b:Nat) (w:World):
  Calls Tryz.prog 208 #[.agg #[.int .u64 (lw a 0:Nat),.int .u64 (lw a 1:Nat),.int .u64 (lw a 2:Nat),.int .u64 (lw a 3:Nat)],.agg #[.int .u64 (lw b 0:Nat),.int .u64 (lw b 1:Nat),.int .u64 (lw b 2:Nat),.int .u64 (lw b 3:Nat)]] w fun e w'=>e= .returned (.agg #[.int .u64 (lw (a+b) 0:Nat),.int .u64 (lw (a+b) 1:Nat),.int .u64 (lw (a+b) 2:Nat),.int .u64 (lw (a+b) 3:Nat)])∧Below w.heap.size w w':=by
 have h0:=Mp a b
 have h1:=tU a b 1 2 rfl
 have h2:=tU a b 2 3 rfl
 have h3:=tU a b 3 4 rfl
 have i0:=PU
 have i1:=PE
 have i2:=PS
 have i3:=Po
 go_enter Tryz.func208,Tryz.ntmps208
 go_wp2
 refine wp_loop_rounds 5 ?_
 iterate 5 (rw [rounds_succ];go_wp2_with fail)
 exact bodyPost_ret (v:= .agg #[.int .u64 (lw (a+b) 0:Nat),.int .u64 (lw (a+b) 1:Nat),.int .u64 (lw (a+b) 2:Nat),.int .u64 (lw (a+b) 3:Nat)]) (by simp [results,Tryz.results208,go_sem]) rfl ⟨rfl,(by repeat (first|(with_reducible refine Below.alloc' ?_ _)|(with_reducible refine Below.drew ?_)|(with_reducible refine below_drewN ?_ _)|((with_reducible refine Below.setCell ?_ ?_ _);rotate_left;(focus (first|exact Nat.le_refl _|(simp;done)|(simp;omega))))|(with_reducible assumption)|(with_reducible exact Below.refl _ _)))⟩
set_option maxHeartbeats 400000 in
theorem Fy (w:World):
  Calls Tryz.prog 220 #[] w fun e w'=>e= .returned (.agg #[.int .u64 (lw Lq 0:Nat),.int .u64 (lw Lq 1:Nat),.int .u64 (lw Lq 2:Nat),.int .u64 (lw Lq 3:Nat)])∧Below w.heap.size w w':=by
 have e0:lw Lq 0=0x5812631a5cf5d3ed:=by decide +kernel
 have e1:lw Lq 1=0x14def9dea2f79cd6:=by decide +kernel
 have e2:lw Lq 2=0:=by decide +kernel
 have e3:lw Lq 3=0x1000000000000000:=by decide +kernel
 rw [e0,e1,e2,e3]
 clear e0 e1 e2 e3
 go_enter Tryz.func220,Tryz.ntmps220
 go_wp2
 exact bodyPost_ret (v:= .agg #[.int .u64 0x5812631a5cf5d3ed,.int .u64 0x14def9dea2f79cd6,.int .u64 0,.int .u64 0x1000000000000000]) (by simp [results,Tryz.results220,go_sem]) rfl ⟨rfl,(by repeat (first|(with_reducible refine Below.alloc' ?_ _)|(with_reducible refine Below.drew ?_)|(with_reducible refine below_drewN ?_ _)|((with_reducible refine Below.setCell ?_ ?_ _);rotate_left;(focus (first|exact Nat.le_refl _|(simp;done)|(simp;omega))))|(with_reducible assumption)|(with_reducible exact Below.refl _ _)))⟩
theorem Ql:Lq<2^256:=by unfold Lq;omega
theorem Yz (a:Nat) (ha:a<2^256):bw a Lq 4=if a<Lq then 1 else 0:=by
 unfold bw
 rw [Nat.mod_eq_of_lt ha,Nat.mod_eq_of_lt Ql]
def dv (a:Nat):Nat:=a+2^256-Lq
theorem X_ (n k:Nat) (hk:k<4) (w:World):(Instr.index 119 (.agg #[.int .u64 (lw n 0:Nat),.int .u64 (lw n 1:Nat),.int .u64 (lw n 2:Nat),.int .u64 (lw n 3:Nat)]) (.int .i64 (k:Nat))).run Tryz.prog w= .ok (.int .u64 (lw n k:Nat)) w:=by
 have h:k=0∨k=1∨k=2∨k=3:=by omega
 rcases h with rfl|rfl|rfl|rfl
 ·exact PU _ _ _ _ _
 ·exact PE _ _ _ _ _
 ·exact PS _ _ _ _ _
 ·exact Po _ _ _ _ _
def GP (n m k:Nat) (i:Nat):Value:=if i<k then wV n i else wV m i
theorem Nf (n m k:Nat):(row 4 (GP n m k)).set k (.int .u64 (lw n k:Nat))=row 4 (GP n m (k+1)):=
 gw k _ (by unfold GP;rw [if_pos (by omega)];rfl) (fun i _ h=>by unfold GP;by_cases h1:i<k;rw [if_pos h1,if_pos (by omega)];rw [if_neg h1,if_neg (by omega)])
theorem KZ (n m:Nat):row 4 (GP n m 0)=row 4 (wV m):=l7 fun i _=>by unfold GP;rw [if_neg (by omega)]
theorem Lr (n m:Nat):row 4 (GP n m 4)=row 4 (wV n):=l7 fun i h=>by unfold GP;rw [if_pos h]
theorem QX (n m k:Nat):GP n m k k= .int .u64 (lw m k:Nat):=by unfold GP;rw [if_neg (by omega)];rfl
set_option maxHeartbeats 400000 in
theorem yF (a:Nat) (ha:a<2^256) (w:World):
  Calls Tryz.prog 218 #[.agg #[.int .u64 (lw a 0:Nat),.int .u64 (lw a 1:Nat),.int .u64 (lw a 2:Nat),.int .u64 (lw a 3:Nat)]] w fun e w'=>e= .returned (.tuple #[.agg #[.int .u64 (lw (dv a) 0:Nat),.int .u64 (lw (dv a) 1:Nat),.int .u64 (lw (dv a) 2:Nat),.int .u64 (lw (dv a) 3:Nat)],.bool (decide (a<Lq))])∧Below w.heap.size w w':=by
 have fs:=RB
 have HD:Hid ((((bw a Lq 4:Nat):Int) ==1)=decide (a<Lq)):=by
  refine Lib.hid ?_
  rw [Yz a ha];split<;>simp_all
 go_enter Tryz.func218,Tryz.ntmps218
 go_wp2_with (go_at_call 220;refine (Fy _).mono ?_;rintro e w1 ⟨rfl,hb⟩)
 have hB0:aj w1 w.heap.size (row 4 (GP (dv a) a 0)) 121:=by
  rw [KZ,Ri]
  exact (((aj.new w _ _).alloc _).below' hb)
 have hbel:Below w.heap.size w w1:=Below.call (by repeat (first|(with_reducible refine Below.alloc' ?_ _)|(with_reducible refine Below.drew ?_)|(with_reducible refine below_drewN ?_ _)|((with_reducible refine Below.setCell ?_ ?_ _);rotate_left;(focus (first|exact Nat.le_refl _|(simp;done)|(simp;omega))))|(with_reducible assumption)|(with_reducible exact Below.refl _ _))) hb
 have hO:aj w1 (w.heap.size+1) (row 4 fun _=> .int .u64 0) 121:=(aj.new' (by simp)).below' hb
 clear hb
 go_wp2
 go_loopw [4,9] (fun c i wr=>∃k:Nat,k≤4∧i= .int .i64 k∧c= .int .u64 (bw a Lq k:Nat)∧aj wr w.heap.size (row 4 (GP (dv a) a k)) 121∧aj wr (w.heap.size+1) (row 4 fun _=> .int .u64 0) 121∧Below w.heap.size w wr) (fun _ i _=>4-(intOf i).toNat)
 case atStart=>exact ⟨0,by omega,rfl,by rw [M1];rfl,hB0,hO,hbel⟩
 case round=>
  obtain ⟨k,hk,rfl,rfl,hB,hO',hbl⟩:=hrel
  by_cases hlt:k<4
  ·have hx:=X_ Lq k hlt
   have hs:∀w:World,_:=QU a Lq k (k+1) rfl hlt Ql
   rw [show a+2^256-Lq=dv a from rfl] at hs
   have hcell:=hB.at hlt
   rw [QX] at hcell
   have hfr:=hB.frozen k
   have HB:=Lib.hid (hB.set k (.int .u64 (lw (dv a) k:Nat)))
   have HO:=Lib.hid (hO'.other ⟨w.heap.size,k,none⟩ (by simp) (.int .u64 (lw (dv a) k:Nat)))
   clear hB hO' hB0 hO
   go_wp2
   go_roundw
   case rel=>exact ⟨k+1,by omega,by go_num,rfl,by have:=HB.out;rw [Nf] at this;exact this,HO.out,hbl.setCell (Nat.le_refl _) _⟩
   case measure=>simp [intOf];omega
  ·obtain rfl:k=4:=by omega
   rw [Lr] at hB
   have h0:wr.cell? ⟨w.heap.size,0,none⟩=some (.int .u64 (lw (dv a) 0:Nat)):=hB.at (by omega)
   have h1:wr.cell? ⟨w.heap.size,1,none⟩=some (.int .u64 (lw (dv a) 1:Nat)):=hB.at (by omega)
   have h2:wr.cell? ⟨w.heap.size,2,none⟩=some (.int .u64 (lw (dv a) 2:Nat)):=hB.at (by omega)
   have h3:wr.cell? ⟨w.heap.size,3,none⟩=some (.int .u64 (lw (dv a) 3:Nat)):=hB.at (by omega)
   have o0:wr.cell? ⟨w.heap.size+1,0,none⟩=some (.int .u64 0):=hO'.at (by omega)
   have o1:wr.cell? ⟨w.heap.size+1,1,none⟩=some (.int .u64 0):=hO'.at (by omega)
   have o2:wr.cell? ⟨w.heap.size+1,2,none⟩=some (.int .u64 0):=hO'.at (by omega)
   have o3:wr.cell? ⟨w.heap.size+1,3,none⟩=some (.int .u64 0):=hO'.at (by omega)
   have f0:=hO'.frozen
   clear hB hO' hB0 hO hlt hk
   go_wp2
   exact bodyPost_ret (v:= .tuple #[.agg #[.int .u64 (lw (dv a) 0:Nat),.int .u64 (lw (dv a) 1:Nat),.int .u64 (lw (dv a) 2:Nat),.int .u64 (lw (dv a) 3:Nat)],.bool ((bw a Lq 4:Int) ==1)]) (by simp [results,Tryz.results218,go_sem,o0,o1,o2,o3]) rfl ⟨by rw [HD.out],(by repeat (first|(with_reducible refine Below.alloc' ?_ _)|(with_reducible refine Below.drew ?_)|(with_reducible refine below_drewN ?_ _)|((with_reducible refine Below.setCell ?_ ?_ _);rotate_left;(focus (first|exact Nat.le_refl _|(simp;done)|(simp;omega))))|(with_reducible assumption)|(with_reducible exact Below.refl _ _)))⟩
theorem ox (a i:Nat) (hi:i<4) (ha:a<2^256) (h:¬a<Lq):lw (dv a) i=lw (a-Lq) i:=by
 unfold dv
 rw [←SR (a+2^256-Lq) i hi]
 generalize (2:Nat)^256=P at*
 rw [show a+P-Lq=(a-Lq)+P from by omega,Nat.add_mod_right,Nat.mod_eq_of_lt (by omega)]
set_option maxHeartbeats 400000 in
theorem KA (a:Nat) (ha:a<2^256) (w:World):
  Calls Tryz.prog 209 #[.agg #[.int .u64 (lw a 0:Nat),.int .u64 (lw a 1:Nat),.int .u64 (lw a 2:Nat),.int .u64 (lw a 3:Nat)]] w fun e w'=>e= .returned (.agg #[.int .u64 (lw (once a) 0:Nat),.int .u64 (lw (once a) 1:Nat),.int .u64 (lw (once a) 2:Nat),.int .u64 (lw (once a) 3:Nat)])∧Below w.heap.size w w':=by
 by_cases hl:a<Lq
 ·rw [show once a=a from if_pos hl]
  have hd:decide (a<Lq)=true:=by simp [hl]
  clear hl
  go_enter Tryz.func209,Tryz.ntmps209
  go_wp2_with (go_at_call 218;go_must (refine (yF a ha _).mono ?_;rintro e w1 ⟨rfl,hb⟩;obtain ⟨hc,hf⟩:=P6 hb;have hz:=hb.size;simp at hz;have hz1:w.heap.size<w1.heap.size:=(by omega);have hz2:w.heap.size+1<w1.heap.size:=(by omega)))
  have hbel:Below w.heap.size w w1:=Below.call (by repeat (first|(with_reducible refine Below.alloc' ?_ _)|(with_reducible refine Below.drew ?_)|(with_reducible refine below_drewN ?_ _)|((with_reducible refine Below.setCell ?_ ?_ _);rotate_left;(focus (first|exact Nat.le_refl _|(simp;done)|(simp;omega))))|(with_reducible assumption)|(with_reducible exact Below.refl _ _))) hb
  exact bodyPost_ret (v:= .agg #[.int .u64 (lw a 0:Nat),.int .u64 (lw a 1:Nat),.int .u64 (lw a 2:Nat),.int .u64 (lw a 3:Nat)]) (by simp [results,Tryz.results209,go_sem,hc,hz2]) rfl ⟨rfl,(by repeat (first|(with_reducible refine Below.alloc' ?_ _)|(with_reducible refine Below.drew ?_)|(with_reducible refine below_drewN ?_ _)|((with_reducible refine Below.setCell ?_ ?_ _);rotate_left;(focus (first|exact Nat.le_refl _|(simp;done)|(simp;omega))))|(with_reducible assumption)|(with_reducible exact Below.refl _ _)))⟩
 ·have e0:=ox a 0 (by omega) ha hl
  have e1:=ox a 1 (by omega) ha hl
  have e2:=ox a 2 (by omega) ha hl
  have e3:=ox a 3 (by omega) ha hl
  rw [show once a=a-Lq from if_neg hl,←e0,←e1,←e2,←e3]
  clear e0 e1 e2 e3
  have hd:decide (a<Lq)=false:=by simp;omega
  clear hl
  go_enter Tryz.func209,Tryz.ntmps209
  go_wp2_with (go_at_call 218;go_must (refine (yF a ha _).mono ?_;rintro e w1 ⟨rfl,hb⟩;obtain ⟨hc,hf⟩:=P6 hb;have hz:=hb.size;simp at hz;have hz1:w.heap.size<w1.heap.size:=(by omega);have hz2:w.heap.size+1<w1.heap.size:=(by omega)))
  have hbel:Below w.heap.size w w1:=Below.call (by repeat (first|(with_reducible refine Below.alloc' ?_ _)|(with_reducible refine Below.drew ?_)|(with_reducible refine below_drewN ?_ _)|((with_reducible refine Below.setCell ?_ ?_ _);rotate_left;(focus (first|exact Nat.le_refl _|(simp;done)|(simp;omega))))|(with_reducible assumption)|(with_reducible exact Below.refl _ _))) hb
  refine bodyPost_ret (v:= .agg #[.int .u64 (lw (dv a) 0:Nat),.int .u64 (lw (dv a) 1:Nat),.int .u64 (lw (dv a) 2:Nat),.int .u64 (lw (dv a) 3:Nat)]) ?_ ?_ ?_
  ·simp [results,Tryz.results209,go_sem,hc,hz2]
  ·rfl
  ·exact ⟨rfl,(by repeat (first|(with_reducible refine Below.alloc' ?_ _)|(with_reducible refine Below.drew ?_)|(with_reducible refine below_drewN ?_ _)|((with_reducible refine Below.setCell ?_ ?_ _);rotate_left;(focus (first|exact Nat.le_refl _|(simp;done)|(simp;omega))))|(with_reducible assumption)|(with_reducible exact Below.refl _ _)))⟩
theorem Iw (r N j:Nat):bits BinOp.or IntKind.u64 (lw (r+r) 0:Nat) (bits BinOp.and IntKind.u64 ((lw N (j/64):Nat)/2^(j%64)) 1)=(lw (r+r+N/2^j%2) 0:Nat):=by
 have h0:=eG N (j/64)
 have h1:=eG (r+r) 0
 have hb:N/2^j%2<2:=Nat.mod_lt _ (by omega)
 have hq:lw N (j/64)/2^(j%64)<18446744073709551616:=Nat.lt_of_le_of_lt (Nat.div_le_self _ _) h0
 have e:((lw N (j/64):Nat):Int)/2^(j%64)=((lw N (j/64)/2^(j%64):Nat):Int):=by simp
 rw [e,show (1:Int)=((1:Nat):Int) from rfl,u64_and_nat _ 1 hq (by omega),Nat.and_one_is_mod,CJ,u64_or_nat _ _ h1 (by omega),(Jo r _ hb).1]
 congr 1
 have he:=Mn r
 generalize lw (r+r) 0=x at*
 generalize N/2^j%2=b at*
 obtain ⟨y,rfl⟩:∃y,x=2*y:=⟨x/2,by omega⟩
 rw [show 2*y=y<<<1 from by rw [Nat.shiftLeft_eq];omega,Nat.shiftLeft_add_eq_or_of_lt (by omega)]
set_option maxHeartbeats 1000000 in
theorem xk (N T:Nat) (hT1:T≤512) (hT2:512≤T) (hN:N<2^T) (w:World):
  Calls Tryz.prog 180 #[.agg #[.int .u64 (lw N 0:Nat),.int .u64 (lw N 1:Nat),.int .u64 (lw N 2:Nat),.int .u64 (lw N 3:Nat),.int .u64 (lw N 4:Nat),.int .u64 (lw N 5:Nat),.int .u64 (lw N 6:Nat),.int .u64 (lw N 7:Nat)]] w fun e w'=>e= .returned (.agg #[.int .u64 (lw (N%Lq) 0:Nat),.int .u64 (lw (N%Lq) 1:Nat),.int .u64 (lw (N%Lq) 2:Nat),.int .u64 (lw (N%Lq) 3:Nat)])∧Below w.heap.size w w':=by
 have HN:=Lib.hid hN
 clear hN
 go_enter Tryz.func180,Tryz.ntmps180
 go_wp2
 refine dt (fun W=>aj W w.heap.size (row 8 (wV N)) 188∧aj W (w.heap.size+1) (row 4 (wV (N/2^T%Lq))) 121∧Below w.heap.size w W) ?_ (fun W hW=> ?_)
 ·refine ⟨(aj.new w _ _).alloc _,?_,(by repeat (first|(with_reducible refine Below.alloc' ?_ _)|(with_reducible refine Below.drew ?_)|(with_reducible refine below_drewN ?_ _)|((with_reducible refine Below.setCell ?_ ?_ _);rotate_left;(focus (first|exact Nat.le_refl _|(simp;done)|(simp;omega))))|(with_reducible assumption)|(with_reducible exact Below.refl _ _)))⟩
  rw [Nat.div_eq_of_lt HN.out]
  exact aj.new' (by simp)
 obtain ⟨hA,hO,hbel⟩:=hW
 go_loopw [3] (fun i wr=>∃k:Nat,k≤512∧i= .int .i64 ((k:Int)-1)∧aj wr w.heap.size (row 8 (wV N)) 188∧aj wr (w.heap.size+1) (row 4 (wV (N/2^k%Lq))) 121∧Below w.heap.size w wr) (fun i _=>(intOf i+1).toNat)
 case atStart=>exact ⟨T,by omega,by congr 1;omega,hA,hO,hbel⟩
 case round=>
  clear hA hO hbel W
  obtain ⟨k,hk,rfl,hA,hO,hbel⟩:=hrel
  by_cases hk0:k=0
  ·subst hk0
   rw [Nat.pow_zero,Nat.div_one] at hO
   clear hA hk
   have ez:(((0:Nat):Int)-1)= -1:=rfl
   rw [ez]
   clear ez
   generalize hx:N%Lq=x at*
   have HX:=Lib.hid hx
   clear hx
   have gf:=hO.frozen
   have g0:wr.cell? ⟨w.heap.size+1,0,none⟩=some (.int .u64 (lw x 0:Nat)):=hO.at (by omega);have g1:wr.cell? ⟨w.heap.size+1,1,none⟩=some (.int .u64 (lw x 1:Nat)):=hO.at (by omega);have g2:wr.cell? ⟨w.heap.size+1,2,none⟩=some (.int .u64 (lw x 2:Nat)):=hO.at (by omega);have g3:wr.cell? ⟨w.heap.size+1,3,none⟩=some (.int .u64 (lw x 3:Nat)):=hO.at (by omega)
   clear hO
   go_wp2
   exact bodyPost_ret (v:= .agg #[.int .u64 (lw x 0:Nat),.int .u64 (lw x 1:Nat),.int .u64 (lw x 2:Nat),.int .u64 (lw x 3:Nat)]) (by simp [results,Tryz.results180,go_sem,g0,g1,g2,g3]) rfl ⟨by rw [HX.out],(by repeat (first|(with_reducible refine Below.alloc' ?_ _)|(with_reducible refine Below.drew ?_)|(with_reducible refine below_drewN ?_ _)|((with_reducible refine Below.setCell ?_ ?_ _);rotate_left;(focus (first|exact Nat.le_refl _|(simp;done)|(simp;omega))))|(with_reducible assumption)|(with_reducible exact Below.refl _ _)))⟩
  ·obtain ⟨j,rfl⟩:∃j,k=j+1:=⟨k-1,by omega⟩
   have ej:(((j+1:Nat):Int)-1)=(j:Int):=by omega
   rw [ej]
   clear ej hk0
   have hr:N/2^(j+1)%Lq<Lq:=Nat.mod_lt _ (by unfold Lq;omega)
   have HS:=Lib.hid (uE N j)
   have HB:=Lib.hid (Iw (N/2^(j+1)%Lq) N j)
   have hbit:N/2^j%2<2:=Nat.mod_lt _ (by omega)
   have HL:=Lib.hid (Jo (N/2^(j+1)%Lq) _ hbit)
   generalize hrr:N/2^(j+1)%Lq=r at*
   clear hrr
   have h0:wr.cell? ⟨w.heap.size+1,0,none⟩=some (.int .u64 (lw r 0:Nat)):=hO.at (by omega);have h1:wr.cell? ⟨w.heap.size+1,1,none⟩=some (.int .u64 (lw r 1:Nat)):=hO.at (by omega);have h2:wr.cell? ⟨w.heap.size+1,2,none⟩=some (.int .u64 (lw r 2:Nat)):=hO.at (by omega);have h3:wr.cell? ⟨w.heap.size+1,3,none⟩=some (.int .u64 (lw r 3:Nat)):=hO.at (by omega)
   go_wp2_with (go_at_call 208;go_must (refine (KS r r _).mono ?_;rintro e w1 ⟨rfl,hb⟩;have hO1:=hO.below' hb;have hA1:=hA.below' hb;have hbel1:=hbel.trans (hb.mono hbel.size);have gf:=hO1.frozen;have g0:w1.cell? ⟨w.heap.size+1,0,none⟩=some (.int .u64 (lw r 0:Nat)):=hO1.at (by omega);have g1:w1.cell? ⟨w.heap.size+1,1,none⟩=some (.int .u64 (lw r 1:Nat)):=hO1.at (by omega);have g2:w1.cell? ⟨w.heap.size+1,2,none⟩=some (.int .u64 (lw r 2:Nat)):=hO1.at (by omega);have g3:w1.cell? ⟨w.heap.size+1,3,none⟩=some (.int .u64 (lw r 3:Nat)):=hO1.at (by omega);clear hb hO hA hbel h0 h1 h2 h3))
   refine dt (fun W=>aj W w.heap.size (row 8 (wV N)) 188∧aj W (w.heap.size+1) (row 4 (wV (r+r))) 121∧Below w.heap.size w W) ?_ (fun W hW=> ?_)
   ·exact ⟨(((hA1.other _ (by simp) _).other _ (by simp) _).other _ (by simp) _).other _ (by simp) _,(((hO1.set 0 _).set 1 _).set 2 _).set 3 _,(by repeat (first|(with_reducible refine Below.alloc' ?_ _)|(with_reducible refine Below.drew ?_)|(with_reducible refine below_drewN ?_ _)|((with_reducible refine Below.setCell ?_ ?_ _);rotate_left;(focus (first|exact Nat.le_refl _|(simp;done)|(simp;omega))))|(with_reducible assumption)|(with_reducible exact Below.refl _ _)))⟩
   obtain ⟨hA2,hO2,hbel2⟩:=hW
   clear hA1 hO1 hbel1 gf g0 g1 g2 g3
   have c0:W.cell? ⟨w.heap.size+1,0,none⟩=some (.int .u64 (lw (r+r) 0:Nat)):=hO2.at (by omega)
   have cf:=hO2.frozen 0
   have hj:j/64<8:=by omega
   have c1:W.cell? ⟨w.heap.size,j/64,none⟩=some (.int .u64 (lw N (j/64):Nat)):=hA2.at hj
   have hw0:(0:Int)≤(lw N (j/64):Nat):=by omega
   have hw1:((lw N (j/64):Nat):Int)<18446744073709551616:=by have:=eG N (j/64);omega
   go_region
   rw [HB.out]
   have hO3:aj W (w.heap.size+1) (row 4 (fun i=>if i=0 then wV (r+r) 0 else wV (r+r+N/2^j%2) i)) 121:=by
    rw [l7 (g:=wV (r+r))]
    ·exact hO2
    ·intro i _
     cases i with
     |zero=>rfl
     |succ i=>unfold wV;simp only [Nat.add_eq_zero_iff,Nat.succ_ne_self,and_false,if_false];rw [HL.out.2]
   have o1:W.cell? ⟨w.heap.size+1,1,none⟩=some (.int .u64 (lw (r+r+N/2^j%2) 1:Nat)):=hO3.at (by omega)
   have o2:W.cell? ⟨w.heap.size+1,2,none⟩=some (.int .u64 (lw (r+r+N/2^j%2) 2:Nat)):=hO3.at (by omega)
   have o3:W.cell? ⟨w.heap.size+1,3,none⟩=some (.int .u64 (lw (r+r+N/2^j%2) 3:Nat)):=hO3.at (by omega)
   have hO4:=hO3.set 0 (wV (r+r+N/2^j%2) 0)
   rw [gw (g:=wV (r+r+N/2^j%2)) 0 _ rfl (fun i _ h=>by rw [if_neg h])] at hO4
   clear hO2 hO3 c1 hw0 hw1 hj HB HL
   have hA4:=hA2.other ⟨w.heap.size+1,0,none⟩ (by simp) (wV (r+r+N/2^j%2) 0)
   have hbel4:Below w.heap.size w (W.setCell ⟨w.heap.size+1,0,none⟩ (wV (r+r+N/2^j%2) 0)):=(by repeat (first|(with_reducible refine Below.alloc' ?_ _)|(with_reducible refine Below.drew ?_)|(with_reducible refine below_drewN ?_ _)|((with_reducible refine Below.setCell ?_ ?_ _);rotate_left;(focus (first|exact Nat.le_refl _|(simp;done)|(simp;omega))))|(with_reducible assumption)|(with_reducible exact Below.refl _ _)))
   have hbd:r+r+N/2^j%2<2^256:=by unfold Lq at hr;omega
   rw [show 2*r+N/2^j%2=r+r+N/2^j%2 from by omega] at HS
   generalize hx:r+r+N/2^j%2=x at*
   clear hx
   unfold wV at hO4 hA4 hbel4
   go_wp2_with (go_at_call 209;go_must (refine (KA x hbd _).mono ?_;rintro e w2 ⟨rfl,hb⟩;have hO5:=(aj.drew hO4).below' hb;have hA5:=(aj.drew hA4).below' hb;have hbel5:=(Below.drew hbel4).trans (hb.mono (Below.drew hbel4).size);have gf:=hO5.frozen;have g0:w2.cell? ⟨w.heap.size+1,0,none⟩=some (.int .u64 (lw x 0:Nat)):=hO5.at (by omega);have g1:w2.cell? ⟨w.heap.size+1,1,none⟩=some (.int .u64 (lw x 1:Nat)):=hO5.at (by omega);have g2:w2.cell? ⟨w.heap.size+1,2,none⟩=some (.int .u64 (lw x 2:Nat)):=hO5.at (by omega);have g3:w2.cell? ⟨w.heap.size+1,3,none⟩=some (.int .u64 (lw x 3:Nat)):=hO5.at (by omega);clear hb hO4 hA4 hbel4 o1 o2 o3 c0 cf hA2 hbel2))
   go_roundw
   case rel=>
    refine ⟨j,by omega,by first |rfl|(congr 1;omega),(((hA5.other _ (by simp) _).other _ (by simp) _).other _ (by simp) _).other _ (by simp) _,?_,(by repeat (first|(with_reducible refine Below.alloc' ?_ _)|(with_reducible refine Below.drew ?_)|(with_reducible refine below_drewN ?_ _)|((with_reducible refine Below.setCell ?_ ?_ _);rotate_left;(focus (first|exact Nat.le_refl _|(simp;done)|(simp;omega))))|(with_reducible assumption)|(with_reducible exact Below.refl _ _)))⟩
    rw [←HS.out]
    exact (((hO5.set 0 _).set 1 _).set 2 _).set 3 _
   case measure=>simp [intOf]<;>omega
theorem WM (f:Nat→Value):row 8 f= [f 0,f 1,f 2,f 3,f 4,f 5,f 6,f 7]:=rfl
theorem GI:row 8 (wV 0)= [.int .u64 0,.int .u64 0,.int .u64 0,.int .u64 0,.int .u64 0,.int .u64 0,.int .u64 0,.int .u64 0]:=by
 simp only [WM,W2]
set_option maxHeartbeats 1000000 in
theorem LG {a:Option Addr} {n cap:Nat} {l:List UInt8} (w:World) (h:kK w a n cap l):
  Calls Tryz.prog 118 #[.slice a n cap] w fun e w'=>e= .returned (.agg #[.int .u64 (lw (bm (first l 64)%Lq) 0:Nat),.int .u64 (lw (bm (first l 64)%Lq) 1:Nat),.int .u64 (lw (bm (first l 64)%Lq) 2:Nat),.int .u64 (lw (bm (first l 64)%Lq) 3:Nat)])∧Below w.heap.size w w':=by
 have hlen:=tf l 64
 generalize hfl:first l 64=fl at*
 have HF:=Lib.hid hfl;have HL:=Lib.hid hlen
 clear hfl hlen
 go_enter Tryz.func118,Tryz.ntmps118
 go_wp2_with (go_at_call 179;go_must (refine (sK 64 (by omega) _ (h.below (by repeat (first|(with_reducible refine Below.alloc' ?_ _)|(with_reducible refine Below.drew ?_)|(with_reducible refine below_drewN ?_ _)|((with_reducible refine Below.setCell ?_ ?_ _);rotate_left;(focus (first|exact Nat.le_refl _|(simp;done)|(simp;omega))))|(with_reducible assumption)|(with_reducible exact Below.refl _ _))))).mono ?_;rintro e w1 ⟨rfl,hB,hb⟩))
 have hbel:Below w.heap.size w w1:=Below.call (by repeat (first|(with_reducible refine Below.alloc' ?_ _)|(with_reducible refine Below.drew ?_)|(with_reducible refine below_drewN ?_ _)|((with_reducible refine Below.setCell ?_ ?_ _);rotate_left;(focus (first|exact Nat.le_refl _|(simp;done)|(simp;omega))))|(with_reducible assumption)|(with_reducible exact Below.refl _ _))) hb
 have hO:aj w1 w.heap.size (row 4 (wV 0)) 121:=by
  simp only [Ri,W2]
  exact ((aj.new w _ _).alloc _).below' hb
 have hA:aj w1 (w.heap.size+1) (row 8 (wV (bm (fl.take 0)))) 188:=by
  rw [List.take_zero,show bm []=0 from rfl,GI]
  exact (aj.new' (by simp)).below' hb
 rw [HF.out] at hB
 clear hb h
 have hB:aj w1 (w.heap.size+1+1) (fl.map bV) 5:=by simpa using hB
 go_loopw [9] (fun i wr=>∃k:Nat,k≤64∧i= .int .i64 k∧aj wr (w.heap.size+1) (row 8 (wV (bm (fl.take k)))) 188∧aj wr w.heap.size (row 4 (wV 0)) 121∧aj wr (w.heap.size+1+1) (fl.map bV) 5∧Below w.heap.size w wr) (fun i _=>64-(intOf i).toNat)
 case atStart=>exact ⟨0,by omega,rfl,hA,hO,hB,hbel⟩
 case round=>
  clear hA hO hB hbel
  obtain ⟨k,hk,rfl,hA,hO,hB,hbel⟩:=hrel
  by_cases hlt:k<64
  ·have hkl:k<fl.length:=by rw [HL.out];exact hlt
   have hcb:wr.cell? ⟨w.heap.size+1+1,k,none⟩=some (.int .u8 (fl[k].toNat:Int)):=by rw [hB.cell];simp [hkl,bV]
   have HT:=Lib.hid (fy fl k hkl)
   have hn:=dY fl k
   have HC:=Lib.hid (fl[k].toNat_lt)
   generalize bm (fl.take k)=x at*
   generalize fl[k].toNat=c at*
   obtain ⟨ci,hci⟩:∃ci:Int,ci=(c:Int):=⟨_,rfl⟩
   have HI:=Lib.hid hci
   rw [←hci] at hcb
   have hc0:0≤ci:=by omega
   have hc1:ci<256:=by have:=HC.out;omega
   clear hci
   have hq:k/8<8:=by omega
   have ca:wr.cell? ⟨w.heap.size+1,k/8,none⟩=some (.int .u64 (lw x (k/8):Nat)):=hA.at hq
   have cf:=hA.frozen (k/8)
   have HN:=Lib.hid hn
   have HS:=Lib.hid (wK x k c ci HI.out HN.out HC.out)
   have HO:=Lib.hid hO;have HB:=Lib.hid hB;have HA:=Lib.hid hA
   clear hn hO hB hA
   go_wp2
   go_region
   rw [HS.out]
   have hA2:=HA.out.set (k/8) (wV (x+c*256^k) (k/8))
   rw [gw (g:=wV (x+c*256^k)) _ _ rfl (fun i _ hi=>by unfold wV;rw [xw x k c i HN.out HC.out hi])] at hA2
   have hO2:=HO.out.other ⟨w.heap.size+1,k/8,none⟩ (by simp) (wV (x+c*256^k) (k/8))
   have hB2:=HB.out.other ⟨w.heap.size+1,k/8,none⟩ (by simp) (wV (x+c*256^k) (k/8))
   have HA2:=Lib.hid hA2;have HO2:=Lib.hid hO2;have HB2:=Lib.hid hB2
   clear hA2 hO2 hB2 ca cf hcb
   go_wp2
   go_roundw
   case rel=>exact ⟨k+1,by omega,by go_num,by rw [HT.out];exact HA2.out.drew,HO2.out.drew,HB2.out.drew,(by repeat (first|(with_reducible refine Below.alloc' ?_ _)|(with_reducible refine Below.drew ?_)|(with_reducible refine below_drewN ?_ _)|((with_reducible refine Below.setCell ?_ ?_ _);rotate_left;(focus (first|exact Nat.le_refl _|(simp;done)|(simp;omega))))|(with_reducible assumption)|(with_reducible exact Below.refl _ _)))⟩
   case measure=>simp [intOf]<;>omega
  ·obtain rfl:k=64:=by omega
   rw [List.take_of_length_le (by rw [HL.out];omega)] at hA
   have hN:bm fl<2^(8*64):=by have:=Im fl;rw [HL.out,Hg] at this;exact this
   have HN:=Lib.hid hN
   clear hN hB hlt hk
   generalize hx:bm fl=x at*
   have HX:=Lib.hid hx
   clear hx
   have g0:wr.cell? ⟨w.heap.size+1,0,none⟩=some (.int .u64 (lw x 0:Nat)):=hA.at (by omega);have g1:wr.cell? ⟨w.heap.size+1,1,none⟩=some (.int .u64 (lw x 1:Nat)):=hA.at (by omega);have g2:wr.cell? ⟨w.heap.size+1,2,none⟩=some (.int .u64 (lw x 2:Nat)):=hA.at (by omega);have g3:wr.cell? ⟨w.heap.size+1,3,none⟩=some (.int .u64 (lw x 3:Nat)):=hA.at (by omega);have g4:wr.cell? ⟨w.heap.size+1,4,none⟩=some (.int .u64 (lw x 4:Nat)):=hA.at (by omega);have g5:wr.cell? ⟨w.heap.size+1,5,none⟩=some (.int .u64 (lw x 5:Nat)):=hA.at (by omega);have g6:wr.cell? ⟨w.heap.size+1,6,none⟩=some (.int .u64 (lw x 6:Nat)):=hA.at (by omega);have g7:wr.cell? ⟨w.heap.size+1,7,none⟩=some (.int .u64 (lw x 7:Nat)):=hA.at (by omega)
   go_wp2_with (go_at_call 180;go_must (refine (xk x (8*64) (by omega) (by omega) HN.out _).mono ?_;rintro e w2 ⟨rfl,hb⟩;have hO1:=hO.below' hb;have hbel1:=Below.call hbel hb;have gf:=hO1.frozen;have o0:w2.cell? ⟨w.heap.size,0,none⟩=some (.int .u64 (lw 0 0:Nat)):=hO1.at (by omega);have o1:w2.cell? ⟨w.heap.size,1,none⟩=some (.int .u64 (lw 0 1:Nat)):=hO1.at (by omega);have o2:w2.cell? ⟨w.heap.size,2,none⟩=some (.int .u64 (lw 0 2:Nat)):=hO1.at (by omega);have o3:w2.cell? ⟨w.heap.size,3,none⟩=some (.int .u64 (lw 0 3:Nat)):=hO1.at (by omega);clear hb hO hA))
   exact bodyPost_ret (v:= .agg #[.int .u64 (lw (x%Lq) 0:Nat),.int .u64 (lw (x%Lq) 1:Nat),.int .u64 (lw (x%Lq) 2:Nat),.int .u64 (lw (x%Lq) 3:Nat)]) (by simp [results,Tryz.results118,go_sem,o0,o1,o2,o3]) rfl ⟨by rw [HX.out],(by repeat (first|(with_reducible refine Below.alloc' ?_ _)|(with_reducible refine Below.drew ?_)|(with_reducible refine below_drewN ?_ _)|((with_reducible refine Below.setCell ?_ ?_ _);rotate_left;(focus (first|exact Nat.le_refl _|(simp;done)|(simp;omega))))|(with_reducible assumption)|(with_reducible exact Below.refl _ _)))⟩
set_option maxHeartbeats 1000000 in
theorem FV (n:Nat) (w:World):
  Calls Tryz.prog 119 #[.agg #[.int .u64 (lw n 0:Nat),.int .u64 (lw n 1:Nat),.int .u64 (lw n 2:Nat),.int .u64 (lw n 3:Nat)]] w fun e w'=>∃v,e= .returned v∧w'.ownsRow w.heap.size 5 1 v 32 ((bq 32 n).map bV)∧Below w.heap.size w w':=by
 obtain ⟨i0,hi,hz0,hz1,hz2⟩:=info_parts CB
 go_enter Tryz.func119,Tryz.ntmps119
 go_wp2
 go_loopw [2,7] (fun v i wr=>∃k:Nat,k≤4∧i= .int .i64 k∧wr.ownsRow w.heap.size 5 1 v (8*k) ((bq (8*k) n).map bV)∧Below w.heap.size w wr) (fun _ i _=>4-(intOf i).toNat)
 case atStart=>exact ⟨0,by omega,rfl,⟨rfl,.inl ⟨rfl,rfl⟩⟩,(by repeat (first|(with_reducible refine Below.alloc' ?_ _)|(with_reducible refine Below.drew ?_)|(with_reducible refine below_drewN ?_ _)|((with_reducible refine Below.setCell ?_ ?_ _);rotate_left;(focus (first|exact Nat.le_refl _|(simp;done)|(simp;omega))))|(with_reducible assumption)|(with_reducible exact Below.refl _ _)))⟩
 case round=>
  obtain ⟨k,hk,rfl,hown,hbel⟩:=hrel
  by_cases hlt:k<4
  ·have hx:=X_ n k hlt
   have hw:=eG n k
   have HW:=Lib.hid (ir n k)
   have HI:=Lib.hid hi;have HZ0:=Lib.hid hz0;have HZ1:=Lib.hid hz1;have HZ2:=Lib.hid hz2
   clear hi hz0 hz1 hz2
   go_wp2_with (first|(go_at_call 178;go_must (refine (e_ hw _).mono ?_;rintro e w1 ⟨rfl,hB,hb⟩;have hown1:=EO hown hb;have hbel1:=Below.call hbel hb;have HB:=Lib.hid hB;clear hown hbel hB hb))|(at_builtin;go_must (refine wpList_append_own _ rfl (.tmp 10) (.tmp 12) 30 rfl w.heap.size 5 i0 (.int .u8 0) 1 1 Tryz.underlying30 HI.out HZ0.out HZ1.out HZ2.out rfl (by decide) _ (8*k) _ rfl hown1 ⟨wr.heap.size,0,none⟩ 8 8 ((bq 8 (lw n k)).map bV) rfl ?c1 ?c2 (Hd _) ?c3 ?c4 hbel1.size ?c5)))
   case c1=>simp [au]
   case c2=>
    intro j u hu
    have:=HB.out.cell j
    rw [po,Nat.zero_add,this];exact hu
   case c3=>unfold maxLen;omega
   case c4=>omega
   case c5=>
    intro v' w2 hown2 hgr _
    rw [←List.map_append,←HW.out,show 8*k+8=8*(k+1) from rfl] at hown2
    have hbel2:Below w.heap.size w w2:=hbel1.grown hgr hbel1.size (fun q hq=>by
     rcases hown1.2 with ⟨h,_⟩|⟨g,cap,cur,hv,hg,_⟩
     ·rw [h] at hq;simp [Value.ownBlock] at hq
     ·rw [hv] at hq;simp [Value.ownBlock] at hq;omega)
    clear hown1 hbel1 hgr HB HW HI HZ0 HZ1 HZ2 hw hx
    go_wp2
    go_roundw
    case rel=>exact ⟨k+1,by omega,by go_num,hown2,hbel2⟩
    case measure=>simp [intOf]<;>omega
  ·obtain rfl:k=4:=by omega
   have HO:=Lib.hid hown
   clear hown hi hz0 hz1 hz2
   go_wp2
   go_ret
   exact ⟨_,rfl,HO.out,hbel⟩
set_option maxHeartbeats 1000000 in
theorem FO (n k:Nat) (hk:k<256) (w:World):
  Calls Tryz.prog 126 #[.agg #[.int .u64 (lw n 0:Nat),.int .u64 (lw n 1:Nat),.int .u64 (lw n 2:Nat),.int .u64 (lw n 3:Nat)],.int .i64 k] w fun e w'=>e= .returned (.int .i64 (n/2^k%2:Nat))∧Below w.heap.size w w':=by
 have hx: [Value.int IntKind.u64 (lw n 0:Nat),Value.int IntKind.u64 (lw n 1:Nat),Value.int IntKind.u64 (lw n 2:Nat),Value.int IntKind.u64 (lw n 3:Nat)][k/64]?=some (.int .u64 (lw n (k/64):Nat)):=by
  have h:k/64=0∨k/64=1∨k/64=2∨k/64=3:=by omega
  rcases h with h|h|h|h<;>rw [h]<;>rfl
 have HB:Hid (bits BinOp.and IntKind.u64 (((lw n (k/64):Nat):Int)/2^(k%64)) 1=(n/2^k%2:Nat)):=by
  refine Lib.hid ?_
  have hq:lw n (k/64)/2^(k%64)<18446744073709551616:=Nat.lt_of_le_of_lt (Nat.div_le_self _ _) (eG _ _)
  have e:((lw n (k/64):Nat):Int)/2^(k%64)=((lw n (k/64)/2^(k%64):Nat):Int):=by simp
  rw [e,show (1:Int)=((1:Nat):Int) from rfl,u64_and_nat _ 1 hq (by omega),Nat.and_one_is_mod,CJ]
 have hl:=eG n (k/64)
 generalize lw n (k/64)=x at*
 obtain ⟨xi,hxi⟩:∃xi:Int,xi=(x:Int):=⟨_,rfl⟩
 rw [←hxi] at hx HB
 have hx0:0≤xi:=by omega
 have hx1:xi<18446744073709551616:=by omega
 clear hxi hl
 go_enter Tryz.func126,Tryz.ntmps126
 go_wp2
 go_ret
 refine ⟨DD (b:=(n/2^k%2:Nat)) ?_,(by repeat (first|(with_reducible refine Below.alloc' ?_ _)|(with_reducible refine Below.drew ?_)|(with_reducible refine below_drewN ?_ _)|((with_reducible refine Below.setCell ?_ ?_ _);rotate_left;(focus (first|exact Nat.le_refl _|(simp;done)|(simp;omega))))|(with_reducible assumption)|(with_reducible exact Below.refl _ _)))⟩
 rw [HB.out,IntWalk.wrap64_in];omega
def FF (f:Nat→Nat) (x:F):Prop:=FE f x.val
theorem P2 {f:Nat→Nat} {x:F} (hf:FF f x) (w:World):
  Calls Tryz.prog 116 #[.agg #[.int .u64 (f 0:Nat),.int .u64 (f 1:Nat),.int .u64 (f 2:Nat),.int .u64 (f 3:Nat),.int .u64 (f 4:Nat)]] w fun e w'=>∃h,e= .returned (.agg #[.int .u64 (h 0:Nat),.int .u64 (h 1:Nat),.int .u64 (h 2:Nat),.int .u64 (h 3:Nat),.int .u64 (h 4:Nat)])∧FF h (-x)∧Below w.heap.size w w':=sm hf w
theorem sZ {f g:Nat→Nat} {x y:F} (hf:FF f x) (hg:FF g y) (w:World):
  Calls Tryz.prog 107 #[.agg #[.int .u64 (f 0:Nat),.int .u64 (f 1:Nat),.int .u64 (f 2:Nat),.int .u64 (f 3:Nat),.int .u64 (f 4:Nat)],.agg #[.int .u64 (g 0:Nat),.int .u64 (g 1:Nat),.int .u64 (g 2:Nat),.int .u64 (g 3:Nat),.int .u64 (g 4:Nat)]] w fun e w'=>∃h,e= .returned (.agg #[.int .u64 (h 0:Nat),.int .u64 (h 1:Nat),.int .u64 (h 2:Nat),.int .u64 (h 3:Nat),.int .u64 (h 4:Nat)])∧FF h (x*y)∧Below w.heap.size w w':=gS hf hg w
theorem I_ {f g:Nat→Nat} {x y:F} (hf:FF f x) (hg:FF g y) (w:World):
  Calls Tryz.prog 113 #[.agg #[.int .u64 (f 0:Nat),.int .u64 (f 1:Nat),.int .u64 (f 2:Nat),.int .u64 (f 3:Nat),.int .u64 (f 4:Nat)],.agg #[.int .u64 (g 0:Nat),.int .u64 (g 1:Nat),.int .u64 (g 2:Nat),.int .u64 (g 3:Nat),.int .u64 (g 4:Nat)]] w fun e w'=>e= .returned (.bool (decide (x=y)))∧Below w.heap.size w w':=by
 refine (oB hf hg w).mono ?_
 rintro e w' ⟨rfl,hb⟩
 exact ⟨jg (by by_cases h:x=y<;>simp [h,Fin.val_inj]),hb⟩
theorem CG {f g:Nat→Nat} {x y:F} (hf:FF f x) (hg:FF g y) (h:x=y) (w:World):
  Calls Tryz.prog 113 #[.agg #[.int .u64 (f 0:Nat),.int .u64 (f 1:Nat),.int .u64 (f 2:Nat),.int .u64 (f 3:Nat),.int .u64 (f 4:Nat)],.agg #[.int .u64 (g 0:Nat),.int .u64 (g 1:Nat),.int .u64 (g 2:Nat),.int .u64 (g 3:Nat),.int .u64 (g 4:Nat)]] w fun e w'=>e= .returned (.bool true)∧Below w.heap.size w w':=by
 refine (I_ hf hg w).mono ?_
 rintro e w' ⟨rfl,hb⟩
 exact ⟨jg (by simp [h]),hb⟩
theorem Ky {f g:Nat→Nat} {x y:F} (hf:FF f x) (hg:FF g y) (h:x≠y) (w:World):
  Calls Tryz.prog 113 #[.agg #[.int .u64 (f 0:Nat),.int .u64 (f 1:Nat),.int .u64 (f 2:Nat),.int .u64 (f 3:Nat),.int .u64 (f 4:Nat)],.agg #[.int .u64 (g 0:Nat),.int .u64 (g 1:Nat),.int .u64 (g 2:Nat),.int .u64 (g 3:Nat),.int .u64 (g 4:Nat)]] w fun e w'=>e= .returned (.bool false)∧Below w.heap.size w w':=by
 refine (I_ hf hg w).mono ?_
 rintro e w' ⟨rfl,hb⟩
 exact ⟨jg (by simp [h]),hb⟩
theorem CU {f:Nat→Nat} {x:F} (hf:FF f x) (w:World):
  Calls Tryz.prog 176 #[.agg #[.int .u64 (f 0:Nat),.int .u64 (f 1:Nat),.int .u64 (f 2:Nat),.int .u64 (f 3:Nat),.int .u64 (f 4:Nat)]] w fun e w'=>e= .returned (.bool (decide (x.val%2=1)))∧Below w.heap.size w w':=GH hf w
theorem V1 {f:Nat→Nat} {x:F} (N T:Nat) (hT1:T≤256) (hT2:256≤T) (hN:N<2^T) (hf:FF f x) (w:World):
  Calls Tryz.prog 174 #[.agg #[.int .u64 (f 0:Nat),.int .u64 (f 1:Nat),.int .u64 (f 2:Nat),.int .u64 (f 3:Nat),.int .u64 (f 4:Nat)],.agg #[.int .u64 (lw N 0:Nat),.int .u64 (lw N 1:Nat),.int .u64 (lw N 2:Nat),.int .u64 (lw N 3:Nat)]] w fun e w'=>∃h,e= .returned (.agg #[.int .u64 (h 0:Nat),.int .u64 (h 1:Nat),.int .u64 (h 2:Nat),.int .u64 (h 3:Nat),.int .u64 (h 4:Nat)])∧FF h (aR x N)∧Below w.heap.size w w':=te N T hT1 hT2 hN hf w
theorem FF.zero:FF (fun _=>0) 0:=FE.zero
def PQ (i:Nat):Nat:=if i=0 then 1718705420411056 else if i=1 then 234908883556509 else if i=2 then 2233514472574048 else if i=3 then 2117202627021982 else 765476049583133
theorem FF.turn:FF PQ ni:=⟨⟨by decide,by decide,by decide,by decide,by decide⟩,by decide +kernel⟩
theorem Rm (w:World):Calls Tryz.prog 175 #[] w fun e w'=>∃h,e= .returned (.agg #[.int .u64 (h 0:Nat),.int .u64 (h 1:Nat),.int .u64 (h 2:Nat),.int .u64 (h 3:Nat),.int .u64 (h 4:Nat)])∧FF h ni∧Below w.heap.size w w':=by
 go_enter Tryz.func175,Tryz.ntmps175
 go_wp2
 exact bodyPost_ret (v:= .agg #[.int .u64 1718705420411056,.int .u64 234908883556509,.int .u64 2233514472574048,.int .u64 2117202627021982,.int .u64 765476049583133]) (by simp [results,Tryz.results175,go_sem]) rfl ⟨PQ,rfl,FF.turn,(by repeat (first|(with_reducible refine Below.alloc' ?_ _)|(with_reducible refine Below.drew ?_)|(with_reducible refine below_drewN ?_ _)|((with_reducible refine Below.setCell ?_ ?_ _);rotate_left;(focus (first|exact Nat.le_refl _|(simp;done)|(simp;omega))))|(with_reducible assumption)|(with_reducible exact Below.refl _ _)))⟩
theorem Uk {f:Nat→Nat} {x:F} (hf:FF f x) (w:World):
  Calls Tryz.prog 174 #[.agg #[.int .u64 (f 0:Nat),.int .u64 (f 1:Nat),.int .u64 (f 2:Nat),.int .u64 (f 3:Nat),.int .u64 (f 4:Nat)],.agg #[.int .u64 18446744073709551614,.int .u64 18446744073709551615,.int .u64 18446744073709551615,.int .u64 1152921504606846975]] w fun e w'=>∃h,e= .returned (.agg #[.int .u64 (h 0:Nat),.int .u64 (h 1:Nat),.int .u64 (h 2:Nat),.int .u64 (h 3:Nat),.int .u64 (h 4:Nat)])∧FF h (aR x ft)∧Below w.heap.size w w':=by
 have hP:=V1 ft (8*32) (by omega) (by omega) (by decide +kernel) hf w
 rw [show lw ft 0=18446744073709551614 from by decide +kernel,show lw ft 1=18446744073709551615 from by decide +kernel,show lw ft 2=18446744073709551615 from by decide +kernel,show lw ft 3=1152921504606846975 from by decide +kernel] at hP
 exact hP
theorem cH {f r:Nat→Nat} {A g o:Nat} {w:World}:∀W W':World,((W.cell? ⟨A,0,none⟩=some (.int .u64 (f 0:Nat))∧W.cell? ⟨A,1,none⟩=some (.int .u64 (f 1:Nat))∧W.cell? ⟨A,2,none⟩=some (.int .u64 (f 2:Nat))∧W.cell? ⟨A,3,none⟩=some (.int .u64 (f 3:Nat))∧W.cell? ⟨A,4,none⟩=some (.int .u64 (f 4:Nat)))∧(W.cell? ⟨g,0,none⟩=some (.int .u64 (r 0:Nat))∧W.cell? ⟨g,1,none⟩=some (.int .u64 (r 1:Nat))∧W.cell? ⟨g,2,none⟩=some (.int .u64 (r 2:Nat))∧W.cell? ⟨g,3,none⟩=some (.int .u64 (r 3:Nat))∧W.cell? ⟨g,4,none⟩=some (.int .u64 (r 4:Nat)))∧aj W A [.int .u64 (f 0:Nat),.int .u64 (f 1:Nat),.int .u64 (f 2:Nat),.int .u64 (f 3:Nat),.int .u64 (f 4:Nat)] 114∧aj W g [.int .u64 (r 0:Nat),.int .u64 (r 1:Nat),.int .u64 (r 2:Nat),.int .u64 (r 3:Nat),.int .u64 (r 4:Nat)] 114∧aj W (o) [.int .u64 0,.int .u64 0,.int .u64 0,.int .u64 0,.int .u64 0] 114∧Below w.heap.size w W)→Below W.heap.size W W'→((W'.cell? ⟨A,0,none⟩=some (.int .u64 (f 0:Nat))∧W'.cell? ⟨A,1,none⟩=some (.int .u64 (f 1:Nat))∧W'.cell? ⟨A,2,none⟩=some (.int .u64 (f 2:Nat))∧W'.cell? ⟨A,3,none⟩=some (.int .u64 (f 3:Nat))∧W'.cell? ⟨A,4,none⟩=some (.int .u64 (f 4:Nat)))∧(W'.cell? ⟨g,0,none⟩=some (.int .u64 (r 0:Nat))∧W'.cell? ⟨g,1,none⟩=some (.int .u64 (r 1:Nat))∧W'.cell? ⟨g,2,none⟩=some (.int .u64 (r 2:Nat))∧W'.cell? ⟨g,3,none⟩=some (.int .u64 (r 3:Nat))∧W'.cell? ⟨g,4,none⟩=some (.int .u64 (r 4:Nat)))∧aj W' A [.int .u64 (f 0:Nat),.int .u64 (f 1:Nat),.int .u64 (f 2:Nat),.int .u64 (f 3:Nat),.int .u64 (f 4:Nat)] 114∧aj W' g [.int .u64 (r 0:Nat),.int .u64 (r 1:Nat),.int .u64 (r 2:Nat),.int .u64 (r 3:Nat),.int .u64 (r 4:Nat)] 114∧aj W' (o) [.int .u64 0,.int .u64 0,.int .u64 0,.int .u64 0,.int .u64 0] 114∧Below w.heap.size w W'):=by
 rintro W W' ⟨h1,h2,h3,h4,h5,h6⟩ hb
 exact ⟨yb _ _ h1 hb,yb _ _ h2 hb,h3.below' hb,h4.below' hb,h5.below' hb,Below.call h6 hb⟩
theorem ib {f r:Nat→Nat} {A g o:Nat} {w W:World} (h:((W.cell? ⟨A,0,none⟩=some (.int .u64 (f 0:Nat))∧W.cell? ⟨A,1,none⟩=some (.int .u64 (f 1:Nat))∧W.cell? ⟨A,2,none⟩=some (.int .u64 (f 2:Nat))∧W.cell? ⟨A,3,none⟩=some (.int .u64 (f 3:Nat))∧W.cell? ⟨A,4,none⟩=some (.int .u64 (f 4:Nat)))∧(W.cell? ⟨g,0,none⟩=some (.int .u64 (r 0:Nat))∧W.cell? ⟨g,1,none⟩=some (.int .u64 (r 1:Nat))∧W.cell? ⟨g,2,none⟩=some (.int .u64 (r 2:Nat))∧W.cell? ⟨g,3,none⟩=some (.int .u64 (r 3:Nat))∧W.cell? ⟨g,4,none⟩=some (.int .u64 (r 4:Nat)))∧aj W A [.int .u64 (f 0:Nat),.int .u64 (f 1:Nat),.int .u64 (f 2:Nat),.int .u64 (f 3:Nat),.int .u64 (f 4:Nat)] 114∧aj W g [.int .u64 (r 0:Nat),.int .u64 (r 1:Nat),.int .u64 (r 2:Nat),.int .u64 (r 3:Nat),.int .u64 (r 4:Nat)] 114∧aj W (o) [.int .u64 0,.int .u64 0,.int .u64 0,.int .u64 0,.int .u64 0] 114∧Below w.heap.size w W)):((W.drew.cell? ⟨A,0,none⟩=some (.int .u64 (f 0:Nat))∧W.drew.cell? ⟨A,1,none⟩=some (.int .u64 (f 1:Nat))∧W.drew.cell? ⟨A,2,none⟩=some (.int .u64 (f 2:Nat))∧W.drew.cell? ⟨A,3,none⟩=some (.int .u64 (f 3:Nat))∧W.drew.cell? ⟨A,4,none⟩=some (.int .u64 (f 4:Nat)))∧(W.drew.cell? ⟨g,0,none⟩=some (.int .u64 (r 0:Nat))∧W.drew.cell? ⟨g,1,none⟩=some (.int .u64 (r 1:Nat))∧W.drew.cell? ⟨g,2,none⟩=some (.int .u64 (r 2:Nat))∧W.drew.cell? ⟨g,3,none⟩=some (.int .u64 (r 3:Nat))∧W.drew.cell? ⟨g,4,none⟩=some (.int .u64 (r 4:Nat)))∧aj W.drew A [.int .u64 (f 0:Nat),.int .u64 (f 1:Nat),.int .u64 (f 2:Nat),.int .u64 (f 3:Nat),.int .u64 (f 4:Nat)] 114∧aj W.drew g [.int .u64 (r 0:Nat),.int .u64 (r 1:Nat),.int .u64 (r 2:Nat),.int .u64 (r 3:Nat),.int .u64 (r 4:Nat)] 114∧aj W.drew (o) [.int .u64 0,.int .u64 0,.int .u64 0,.int .u64 0,.int .u64 0] 114∧Below w.heap.size w W.drew):=cH _ _ h (Below.drew (Below.refl _ _))
theorem Dq {f r:Nat→Nat} {A g o:Nat} {w W:World} (h3:aj W A [.int .u64 (f 0:Nat),.int .u64 (f 1:Nat),.int .u64 (f 2:Nat),.int .u64 (f 3:Nat),.int .u64 (f 4:Nat)] 114) (h4:aj W g [.int .u64 (r 0:Nat),.int .u64 (r 1:Nat),.int .u64 (r 2:Nat),.int .u64 (r 3:Nat),.int .u64 (r 4:Nat)] 114) (h5:aj W o [.int .u64 0,.int .u64 0,.int .u64 0,.int .u64 0,.int .u64 0] 114) (h6:Below w.heap.size w W):((W.cell? ⟨A,0,none⟩=some (.int .u64 (f 0:Nat))∧W.cell? ⟨A,1,none⟩=some (.int .u64 (f 1:Nat))∧W.cell? ⟨A,2,none⟩=some (.int .u64 (f 2:Nat))∧W.cell? ⟨A,3,none⟩=some (.int .u64 (f 3:Nat))∧W.cell? ⟨A,4,none⟩=some (.int .u64 (f 4:Nat)))∧(W.cell? ⟨g,0,none⟩=some (.int .u64 (r 0:Nat))∧W.cell? ⟨g,1,none⟩=some (.int .u64 (r 1:Nat))∧W.cell? ⟨g,2,none⟩=some (.int .u64 (r 2:Nat))∧W.cell? ⟨g,3,none⟩=some (.int .u64 (r 3:Nat))∧W.cell? ⟨g,4,none⟩=some (.int .u64 (r 4:Nat)))∧aj W A [.int .u64 (f 0:Nat),.int .u64 (f 1:Nat),.int .u64 (f 2:Nat),.int .u64 (f 3:Nat),.int .u64 (f 4:Nat)] 114∧aj W g [.int .u64 (r 0:Nat),.int .u64 (r 1:Nat),.int .u64 (r 2:Nat),.int .u64 (r 3:Nat),.int .u64 (r 4:Nat)] 114∧aj W (o) [.int .u64 0,.int .u64 0,.int .u64 0,.int .u64 0,.int .u64 0] 114∧Below w.heap.size w W):=
 ⟨⟨h3.cell 0,h3.cell 1,h3.cell 2,h3.cell 3,h3.cell 4⟩,⟨h4.cell 0,h4.cell 1,h4.cell 2,h4.cell 3,h4.cell 4⟩,h3,h4,h5,h6⟩
set_option maxHeartbeats 1000000 in
theorem Vu {f:Nat→Nat} {x:F} (hf:FF f x) (w:World):
  Calls Tryz.prog 112 #[.agg #[.int .u64 (f 0:Nat),.int .u64 (f 1:Nat),.int .u64 (f 2:Nat),.int .u64 (f 3:Nat),.int .u64 (f 4:Nat)]] w fun e w'=>∃h,e= .returned (.tuple #[.agg #[.int .u64 (h 0:Nat),.int .u64 (h 1:Nat),.int .u64 (h 2:Nat),.int .u64 (h 3:Nat),.int .u64 (h 4:Nat)],.int .i64 (bM x)])∧FF h (aT x)∧Below w.heap.size w w':=by
 have hbE:=K5
 go_enter Tryz.func112,Tryz.ntmps112
 go_upto_region 2 with (go_at_call 174;go_must (refine (Uk hf _).mono ?_;rintro e w1 ⟨r,rfl,hr,hb⟩;have hA:=((aj.new w #[.int .u64 (f 0:Nat),.int .u64 (f 1:Nat),.int .u64 (f 2:Nat),.int .u64 (f 3:Nat),.int .u64 (f 4:Nat)] 114).alloc _).below' hb;have hO:=(show aj _ (w.heap.size+1) [.int .u64 0,.int .u64 0,.int .u64 0,.int .u64 0,.int .u64 0] 114 from (by repeat (first|(with_reducible refine aj.drew ?_)|exact aj.new' (by simp)|(with_reducible refine aj.alloc ?_ _)))).below' hb;have hbel:Below w.heap.size w w1:=Below.call (by repeat (first|(with_reducible refine Below.alloc' ?_ _)|(with_reducible refine Below.drew ?_)|(with_reducible refine below_drewN ?_ _)|((with_reducible refine Below.setCell ?_ ?_ _);rotate_left;(focus (first|exact Nat.le_refl _|(simp;done)|(simp;omega))))|(with_reducible assumption)|(with_reducible exact Below.refl _ _))) hb;clear hb))
 refine dt (fun W=>((W.cell? ⟨w.heap.size,0,none⟩=some (.int .u64 (f 0:Nat))∧W.cell? ⟨w.heap.size,1,none⟩=some (.int .u64 (f 1:Nat))∧W.cell? ⟨w.heap.size,2,none⟩=some (.int .u64 (f 2:Nat))∧W.cell? ⟨w.heap.size,3,none⟩=some (.int .u64 (f 3:Nat))∧W.cell? ⟨w.heap.size,4,none⟩=some (.int .u64 (f 4:Nat)))∧(W.cell? ⟨w1.heap.size,0,none⟩=some (.int .u64 (r 0:Nat))∧W.cell? ⟨w1.heap.size,1,none⟩=some (.int .u64 (r 1:Nat))∧W.cell? ⟨w1.heap.size,2,none⟩=some (.int .u64 (r 2:Nat))∧W.cell? ⟨w1.heap.size,3,none⟩=some (.int .u64 (r 3:Nat))∧W.cell? ⟨w1.heap.size,4,none⟩=some (.int .u64 (r 4:Nat)))∧aj W w.heap.size [.int .u64 (f 0:Nat),.int .u64 (f 1:Nat),.int .u64 (f 2:Nat),.int .u64 (f 3:Nat),.int .u64 (f 4:Nat)] 114∧aj W w1.heap.size [.int .u64 (r 0:Nat),.int .u64 (r 1:Nat),.int .u64 (r 2:Nat),.int .u64 (r 3:Nat),.int .u64 (r 4:Nat)] 114∧aj W (w.heap.size+1) [.int .u64 0,.int .u64 0,.int .u64 0,.int .u64 0,.int .u64 0] 114∧Below w.heap.size w W)) ?_ (fun W0 hW=> ?_)
 ·exact Dq (hA.alloc _) (aj.new w1 _ _) (hO.alloc _) (Below.alloc' hbel _)
 have hg1:w.heap.size+1<w1.heap.size:=hO.lt
 clear hA hO hbel
 generalize w1.heap.size=g at*
 clear w1
 have hst1:=Lib.hid (cH (f:=f) (r:=r) (A:=w.heap.size) (g:=g) (o:=w.heap.size+1) (w:=w))
 have HS1:=Lib.hid (ib hW)
 clear hW
 have hst:=hst1
 by_cases e1:aR x ft*aR x ft=x
 ·have E1:=Lib.hid e1
  have HC:Hid (fC x=aR x ft):=Lib.hid (by unfold fC;rw [if_pos e1])
  have HR:Hid (bM x=0):=Lib.hid (by unfold bM;rw [HC.out,if_pos e1])
  have E2:=E1
  clear e1
  generalize aR x ft=y at*
  go_region_held3 (fun W=>((W.cell? ⟨w.heap.size,0,none⟩=some (.int .u64 (f 0:Nat))∧W.cell? ⟨w.heap.size,1,none⟩=some (.int .u64 (f 1:Nat))∧W.cell? ⟨w.heap.size,2,none⟩=some (.int .u64 (f 2:Nat))∧W.cell? ⟨w.heap.size,3,none⟩=some (.int .u64 (f 3:Nat))∧W.cell? ⟨w.heap.size,4,none⟩=some (.int .u64 (f 4:Nat)))∧(W.cell? ⟨g,0,none⟩=some (.int .u64 (r 0:Nat))∧W.cell? ⟨g,1,none⟩=some (.int .u64 (r 1:Nat))∧W.cell? ⟨g,2,none⟩=some (.int .u64 (r 2:Nat))∧W.cell? ⟨g,3,none⟩=some (.int .u64 (r 3:Nat))∧W.cell? ⟨g,4,none⟩=some (.int .u64 (r 4:Nat)))∧aj W w.heap.size [.int .u64 (f 0:Nat),.int .u64 (f 1:Nat),.int .u64 (f 2:Nat),.int .u64 (f 3:Nat),.int .u64 (f 4:Nat)] 114∧aj W g [.int .u64 (r 0:Nat),.int .u64 (r 1:Nat),.int .u64 (r 2:Nat),.int .u64 (r 3:Nat),.int .u64 (r 4:Nat)] 114∧aj W (w.heap.size+1) [.int .u64 0,.int .u64 0,.int .u64 0,.int .u64 0,.int .u64 0] 114∧Below w.heap.size w W)) (first|(exact HS1.out)|(first|assumption|(refine hst.out _ _ ?_ hb;assumption)|(refine hst.out _ _ ?_ (Below.alloc' (Below.refl _ _) _);assumption)|(refine hst.out _ _ ?_ (Below.drew (Below.refl _ _));assumption))) ((first|(go_at_call 107;(with_reducible refine (sZ hr hr _).mono ?_);rintro e wm ⟨m1,rfl,hm1,hb⟩)|(go_at_call 113;(with_reducible refine (CG hm1 hf E1.out _).mono ?_);rintro e ws ⟨rfl,hb⟩)))
  rename_i hh
  have HS2:=Lib.hid (ib hh)
  clear hh HS1 hst1
  go_wp2
  go_region_held3 (fun W=>((W.cell? ⟨w.heap.size,0,none⟩=some (.int .u64 (f 0:Nat))∧W.cell? ⟨w.heap.size,1,none⟩=some (.int .u64 (f 1:Nat))∧W.cell? ⟨w.heap.size,2,none⟩=some (.int .u64 (f 2:Nat))∧W.cell? ⟨w.heap.size,3,none⟩=some (.int .u64 (f 3:Nat))∧W.cell? ⟨w.heap.size,4,none⟩=some (.int .u64 (f 4:Nat)))∧(W.cell? ⟨g,0,none⟩=some (.int .u64 (r 0:Nat))∧W.cell? ⟨g,1,none⟩=some (.int .u64 (r 1:Nat))∧W.cell? ⟨g,2,none⟩=some (.int .u64 (r 2:Nat))∧W.cell? ⟨g,3,none⟩=some (.int .u64 (r 3:Nat))∧W.cell? ⟨g,4,none⟩=some (.int .u64 (r 4:Nat)))∧aj W w.heap.size [.int .u64 (f 0:Nat),.int .u64 (f 1:Nat),.int .u64 (f 2:Nat),.int .u64 (f 3:Nat),.int .u64 (f 4:Nat)] 114∧aj W g [.int .u64 (r 0:Nat),.int .u64 (r 1:Nat),.int .u64 (r 2:Nat),.int .u64 (r 3:Nat),.int .u64 (r 4:Nat)] 114∧aj W (w.heap.size+1) [.int .u64 0,.int .u64 0,.int .u64 0,.int .u64 0,.int .u64 0] 114∧Below w.heap.size w W)) (first|(exact HS2.out)|(first|assumption|(refine hst.out _ _ ?_ hb;assumption)|(refine hst.out _ _ ?_ (Below.alloc' (Below.refl _ _) _);assumption)|(refine hst.out _ _ ?_ (Below.drew (Below.refl _ _));assumption))) ((first|(go_at_call 107;(with_reducible refine (sZ hr hr _).mono ?_);rintro e wm ⟨m2,rfl,hm2,hb⟩)|(go_at_call 113;(with_reducible refine (CG hm2 hf E2.out _).mono ?_);rintro e ws ⟨rfl,hb⟩)))
  rename_i hh
  have hhH:=Lib.hid hh
  clear hh hst HS2
  by_cases hp:y.val%2=1
  ·have HV:Hid (aT x= -y):=Lib.hid (by unfold aT;rw [HC.out,if_pos E2.out,if_pos hp])
   have HP:Hid (decide (y.val%2=1)=true):=Lib.hid (decide_eq_true hp)
   clear hp
   have c0:=hhH.out.2.1.1;have c1:=hhH.out.2.1.2.1;have c2:=hhH.out.2.1.2.2.1;have c3:=hhH.out.2.1.2.2.2.1;have c4:=hhH.out.2.1.2.2.2.2
   have hne:¬g=w.heap.size+1:=by omega
   have hne2:¬w.heap.size+1=g:=by omega
   go_wp2_with (first | (go_at_call 176; go_must (refine (CU hr _).mono ?_; rintro e w2 ⟨rfl, hb⟩; rw [HP.out]; have h2 := Lib.hid (cH _ _ hhH.out hb); clear c0 c1 c2 c3 c4 hb; have c0 := h2.out.2.1.1; have c1 := h2.out.2.1.2.1; have c2 := h2.out.2.1.2.2.1; have c3 := h2.out.2.1.2.2.2.1; have c4 := h2.out.2.1.2.2.2.2; have rf := h2.out.2.2.2.1.frozen))         | (go_at_call 116; go_must (refine (P2 hr _).mono ?_; rintro e w3 ⟨q, rfl, hq, hb⟩; have h3 := cH _ _ h2.out hb; have hG := h3.2.2.2.1.frozen; have gc := h3.2.2.2.1.cell; have oc := h3.2.2.2.2.1.cell; have of := h3.2.2.2.2.1.frozen; have hbel := h3.2.2.2.2.2; clear c0 c1 c2 c3 c4 rf hb h2 h3)))
   exact bodyPost_ret (v:= .tuple #[.agg #[.int .u64 (q 0:Nat),.int .u64 (q 1:Nat),.int .u64 (q 2:Nat),.int .u64 (q 3:Nat),.int .u64 (q 4:Nat)],.int .i64 0]) (by simp [results,Tryz.results112,go_sem,oc]) rfl ⟨q,by rw [HR.out],by rw [HV.out];exact hq,(by repeat (first|(with_reducible refine Below.alloc' ?_ _)|(with_reducible refine Below.drew ?_)|(with_reducible refine below_drewN ?_ _)|((with_reducible refine Below.setCell ?_ ?_ _);rotate_left;(focus (first|exact Nat.le_refl _|(simp;done)|(simp;omega))))|(with_reducible assumption)|(with_reducible exact Below.refl _ _)))⟩
  ·have HV:Hid (aT x=y):=Lib.hid (by unfold aT;rw [HC.out,if_pos E2.out,if_neg hp])
   have HP:Hid (decide (y.val%2=1)=false):=Lib.hid (decide_eq_false hp)
   clear hp
   have c0:=hhH.out.2.1.1;have c1:=hhH.out.2.1.2.1;have c2:=hhH.out.2.1.2.2.1;have c3:=hhH.out.2.1.2.2.2.1;have c4:=hhH.out.2.1.2.2.2.2
   have hne:¬g=w.heap.size+1:=by omega
   have hne2:¬w.heap.size+1=g:=by omega
   go_wp2_with (first|(go_at_call 176;go_must (refine (CU hr _).mono ?_;rintro e w2 ⟨rfl,hb⟩;rw [HP.out];have h2:=cH _ _ hhH.out hb;clear c0 c1 c2 c3 c4 hb;have gc:=h2.2.2.2.1.cell;have oc:=h2.2.2.2.2.1.cell;have of:=h2.2.2.2.2.1.frozen;have hbel:=h2.2.2.2.2.2;clear h2)))
   exact bodyPost_ret (v:= .tuple #[.agg #[.int .u64 (r 0:Nat),.int .u64 (r 1:Nat),.int .u64 (r 2:Nat),.int .u64 (r 3:Nat),.int .u64 (r 4:Nat)],.int .i64 0]) (by simp [results,Tryz.results112,go_sem,oc]) rfl ⟨r,by rw [HR.out],by rw [HV.out];exact hr,(by repeat (first|(with_reducible refine Below.alloc' ?_ _)|(with_reducible refine Below.drew ?_)|(with_reducible refine below_drewN ?_ _)|((with_reducible refine Below.setCell ?_ ?_ _);rotate_left;(focus (first|exact Nat.le_refl _|(simp;done)|(simp;omega))))|(with_reducible assumption)|(with_reducible exact Below.refl _ _)))⟩
 ·have E1:=Lib.hid e1
  have HC:Hid (fC x=aR x ft*ni):=Lib.hid (by unfold fC;rw [if_neg e1])
  clear e1
  go_region_held3 (fun W=>((W.cell? ⟨w.heap.size,0,none⟩=some (.int .u64 (f 0:Nat))∧W.cell? ⟨w.heap.size,1,none⟩=some (.int .u64 (f 1:Nat))∧W.cell? ⟨w.heap.size,2,none⟩=some (.int .u64 (f 2:Nat))∧W.cell? ⟨w.heap.size,3,none⟩=some (.int .u64 (f 3:Nat))∧W.cell? ⟨w.heap.size,4,none⟩=some (.int .u64 (f 4:Nat)))∧(W.cell? ⟨g,0,none⟩=some (.int .u64 (r 0:Nat))∧W.cell? ⟨g,1,none⟩=some (.int .u64 (r 1:Nat))∧W.cell? ⟨g,2,none⟩=some (.int .u64 (r 2:Nat))∧W.cell? ⟨g,3,none⟩=some (.int .u64 (r 3:Nat))∧W.cell? ⟨g,4,none⟩=some (.int .u64 (r 4:Nat)))∧aj W w.heap.size [.int .u64 (f 0:Nat),.int .u64 (f 1:Nat),.int .u64 (f 2:Nat),.int .u64 (f 3:Nat),.int .u64 (f 4:Nat)] 114∧aj W g [.int .u64 (r 0:Nat),.int .u64 (r 1:Nat),.int .u64 (r 2:Nat),.int .u64 (r 3:Nat),.int .u64 (r 4:Nat)] 114∧aj W (w.heap.size+1) [.int .u64 0,.int .u64 0,.int .u64 0,.int .u64 0,.int .u64 0] 114∧Below w.heap.size w W)) (first|(exact HS1.out)|(first|assumption|(refine hst.out _ _ ?_ hb;assumption)|(refine hst.out _ _ ?_ (Below.alloc' (Below.refl _ _) _);assumption)|(refine hst.out _ _ ?_ (Below.drew (Below.refl _ _));assumption))) ((first|(go_at_call 107;(with_reducible refine (sZ hr hr _).mono ?_);rintro e wm ⟨m1,rfl,hm1,hb⟩)|(go_at_call 113;(with_reducible refine (Ky hm1 hf E1.out _).mono ?_);rintro e ws ⟨rfl,hb⟩)))
  rename_i hh
  have HS2:=Lib.hid (ib hh)
  have hh':=Lib.hid hh
  clear hh HS1 hst1 HS2
  have c0:=hh'.out.2.1.1;have c1:=hh'.out.2.1.2.1;have c2:=hh'.out.2.1.2.2.1;have c3:=hh'.out.2.1.2.2.2.1;have c4:=hh'.out.2.1.2.2.2.2
  go_wp2
  go_region_with ((first|(go_at_call 175;(with_reducible refine (Rm _).mono ?_);rintro e wt ⟨t,rfl,ht,hb⟩;have h2:=Lib.hid (cH _ _ (ib hh'.out) hb);clear c0 c1 c2 c3 c4 hb;have c0:=h2.out.2.1.1;have c1:=h2.out.2.1.2.1;have c2:=h2.out.2.1.2.2.1;have c3:=h2.out.2.1.2.2.2.1;have c4:=h2.out.2.1.2.2.2.2)|(go_at_call 107;(with_reducible refine (sZ hr ht _).mono ?_);rintro e wm ⟨q,rfl,hq,hb⟩;have h3:=Lib.hid (cH _ _ h2.out hb);clear c0 c1 c2 c3 c4 hb;have c0:=h3.out.2.1.1;have c1:=h3.out.2.1.2.1;have c2:=h3.out.2.1.2.2.1;have c3:=h3.out.2.1.2.2.2.1;have c4:=h3.out.2.1.2.2.2.2;have rf:=h3.out.2.2.2.1.frozen)))
  all_goals
   go_wp2
   refine dt (fun W=>((W.cell? ⟨w.heap.size,0,none⟩=some (.int .u64 (f 0:Nat))∧W.cell? ⟨w.heap.size,1,none⟩=some (.int .u64 (f 1:Nat))∧W.cell? ⟨w.heap.size,2,none⟩=some (.int .u64 (f 2:Nat))∧W.cell? ⟨w.heap.size,3,none⟩=some (.int .u64 (f 3:Nat))∧W.cell? ⟨w.heap.size,4,none⟩=some (.int .u64 (f 4:Nat)))∧(W.cell? ⟨g,0,none⟩=some (.int .u64 (q 0:Nat))∧W.cell? ⟨g,1,none⟩=some (.int .u64 (q 1:Nat))∧W.cell? ⟨g,2,none⟩=some (.int .u64 (q 2:Nat))∧W.cell? ⟨g,3,none⟩=some (.int .u64 (q 3:Nat))∧W.cell? ⟨g,4,none⟩=some (.int .u64 (q 4:Nat)))∧aj W w.heap.size [.int .u64 (f 0:Nat),.int .u64 (f 1:Nat),.int .u64 (f 2:Nat),.int .u64 (f 3:Nat),.int .u64 (f 4:Nat)] 114∧aj W g [.int .u64 (q 0:Nat),.int .u64 (q 1:Nat),.int .u64 (q 2:Nat),.int .u64 (q 3:Nat),.int .u64 (q 4:Nat)] 114∧aj W (w.heap.size+1) [.int .u64 0,.int .u64 0,.int .u64 0,.int .u64 0,.int .u64 0] 114∧Below w.heap.size w W)) ?_ (fun W hW=> ?_)
   ·have hbel:=h3.out.2.2.2.2.2
    exact Dq (((((h3.out.2.2.1.other ⟨g,0,none⟩ (by simp;omega) (.int .u64 (q 0:Nat))).other ⟨g,1,none⟩ (by simp;omega) (.int .u64 (q 1:Nat))).other ⟨g,2,none⟩ (by simp;omega) (.int .u64 (q 2:Nat))).other ⟨g,3,none⟩ (by simp;omega) (.int .u64 (q 3:Nat))).other ⟨g,4,none⟩ (by simp;omega) (.int .u64 (q 4:Nat))) (((((h3.out.2.2.2.1.set 0 (.int .u64 (q 0:Nat))).set 1 (.int .u64 (q 1:Nat))).set 2 (.int .u64 (q 2:Nat))).set 3 (.int .u64 (q 3:Nat))).set 4 (.int .u64 (q 4:Nat))) (((((h3.out.2.2.2.2.1.other ⟨g,0,none⟩ (by simp;omega) (.int .u64 (q 0:Nat))).other ⟨g,1,none⟩ (by simp;omega) (.int .u64 (q 1:Nat))).other ⟨g,2,none⟩ (by simp;omega) (.int .u64 (q 2:Nat))).other ⟨g,3,none⟩ (by simp;omega) (.int .u64 (q 3:Nat))).other ⟨g,4,none⟩ (by simp;omega) (.int .u64 (q 4:Nat))) (by exact (by repeat (first|(with_reducible refine Below.alloc' ?_ _)|(with_reducible refine Below.drew ?_)|(with_reducible refine below_drewN ?_ _)|((with_reducible refine Below.setCell ?_ ?_ _);rotate_left;(focus (first|exact Nat.le_refl _|(simp;done)|(simp;omega))))|(with_reducible assumption)|(with_reducible exact Below.refl _ _))))
   clear h2 h3 hh' c0 c1 c2 c3 c4 rf hst
   have HS2:=Lib.hid (ib hW)
   clear hW
   have hst1:=Lib.hid (cH (f:=f) (r:=q) (A:=w.heap.size) (g:=g) (o:=w.heap.size+1) (w:=w))
   have hst:=hst1
   by_cases e2:(aR x ft*ni)*(aR x ft*ni)=x
   ·have E2:=Lib.hid e2
    have HR:Hid (bM x=0):=Lib.hid (by unfold bM;rw [HC.out,if_pos e2])
    clear e2
    generalize aR x ft*ni=y at*
    clear hst1
    go_region_held3 (fun W=>((W.cell? ⟨w.heap.size,0,none⟩=some (.int .u64 (f 0:Nat))∧W.cell? ⟨w.heap.size,1,none⟩=some (.int .u64 (f 1:Nat))∧W.cell? ⟨w.heap.size,2,none⟩=some (.int .u64 (f 2:Nat))∧W.cell? ⟨w.heap.size,3,none⟩=some (.int .u64 (f 3:Nat))∧W.cell? ⟨w.heap.size,4,none⟩=some (.int .u64 (f 4:Nat)))∧(W.cell? ⟨g,0,none⟩=some (.int .u64 (q 0:Nat))∧W.cell? ⟨g,1,none⟩=some (.int .u64 (q 1:Nat))∧W.cell? ⟨g,2,none⟩=some (.int .u64 (q 2:Nat))∧W.cell? ⟨g,3,none⟩=some (.int .u64 (q 3:Nat))∧W.cell? ⟨g,4,none⟩=some (.int .u64 (q 4:Nat)))∧aj W w.heap.size [.int .u64 (f 0:Nat),.int .u64 (f 1:Nat),.int .u64 (f 2:Nat),.int .u64 (f 3:Nat),.int .u64 (f 4:Nat)] 114∧aj W g [.int .u64 (q 0:Nat),.int .u64 (q 1:Nat),.int .u64 (q 2:Nat),.int .u64 (q 3:Nat),.int .u64 (q 4:Nat)] 114∧aj W (w.heap.size+1) [.int .u64 0,.int .u64 0,.int .u64 0,.int .u64 0,.int .u64 0] 114∧Below w.heap.size w W)) (first|(exact HS2.out)|(first|assumption|(refine hst.out _ _ ?_ hb;assumption)|(refine hst.out _ _ ?_ (Below.alloc' (Below.refl _ _) _);assumption)|(refine hst.out _ _ ?_ (Below.drew (Below.refl _ _));assumption))) ((first|(go_at_call 107;(with_reducible refine (sZ hq hq _).mono ?_);rintro e wm ⟨m2,rfl,hm2,hb⟩)|(go_at_call 113;(with_reducible refine (CG hm2 hf E2.out _).mono ?_);rintro e ws ⟨rfl,hb⟩)))
    rename_i hh
    have hhH:=Lib.hid hh
    clear hh hst HS2
    by_cases hp:y.val%2=1
    ·have HV:Hid (aT x= -y):=Lib.hid (by unfold aT;rw [HC.out,if_pos E2.out,if_pos hp])
     have HP:Hid (decide (y.val%2=1)=true):=Lib.hid (decide_eq_true hp)
     clear hp
     have c0:=hhH.out.2.1.1;have c1:=hhH.out.2.1.2.1;have c2:=hhH.out.2.1.2.2.1;have c3:=hhH.out.2.1.2.2.2.1;have c4:=hhH.out.2.1.2.2.2.2
     have hne:¬g=w.heap.size+1:=by omega
     have hne2:¬w.heap.size+1=g:=by omega
     go_wp2_with (first | (go_at_call 176; go_must (refine (CU hq _).mono ?_; rintro e w2 ⟨rfl, hb⟩; rw [HP.out]; have h2 := Lib.hid (cH _ _ hhH.out hb); clear c0 c1 c2 c3 c4 hb; have c0 := h2.out.2.1.1; have c1 := h2.out.2.1.2.1; have c2 := h2.out.2.1.2.2.1; have c3 := h2.out.2.1.2.2.2.1; have c4 := h2.out.2.1.2.2.2.2; have rf := h2.out.2.2.2.1.frozen))             | (go_at_call 116; go_must (refine (P2 hq _).mono ?_; rintro e w3 ⟨z, rfl, hz, hb⟩; have h3 := cH _ _ h2.out hb; have hG := h3.2.2.2.1.frozen; have gc := h3.2.2.2.1.cell; have oc := h3.2.2.2.2.1.cell; have of := h3.2.2.2.2.1.frozen; have hbel := h3.2.2.2.2.2; clear c0 c1 c2 c3 c4 rf hb h2 h3)))
     exact bodyPost_ret (v:= .tuple #[.agg #[.int .u64 (z 0:Nat),.int .u64 (z 1:Nat),.int .u64 (z 2:Nat),.int .u64 (z 3:Nat),.int .u64 (z 4:Nat)],.int .i64 0]) (by simp [results,Tryz.results112,go_sem,oc]) rfl ⟨z,by rw [HR.out],by rw [HV.out];exact hz,(by repeat (first|(with_reducible refine Below.alloc' ?_ _)|(with_reducible refine Below.drew ?_)|(with_reducible refine below_drewN ?_ _)|((with_reducible refine Below.setCell ?_ ?_ _);rotate_left;(focus (first|exact Nat.le_refl _|(simp;done)|(simp;omega))))|(with_reducible assumption)|(with_reducible exact Below.refl _ _)))⟩
    ·have HV:Hid (aT x=y):=Lib.hid (by unfold aT;rw [HC.out,if_pos E2.out,if_neg hp])
     have HP:Hid (decide (y.val%2=1)=false):=Lib.hid (decide_eq_false hp)
     clear hp
     have c0:=hhH.out.2.1.1;have c1:=hhH.out.2.1.2.1;have c2:=hhH.out.2.1.2.2.1;have c3:=hhH.out.2.1.2.2.2.1;have c4:=hhH.out.2.1.2.2.2.2
     have hne:¬g=w.heap.size+1:=by omega
     have hne2:¬w.heap.size+1=g:=by omega
     go_wp2_with (first|(go_at_call 176;go_must (refine (CU hq _).mono ?_;rintro e w2 ⟨rfl,hb⟩;rw [HP.out];have h2:=cH _ _ hhH.out hb;clear c0 c1 c2 c3 c4 hb;have gc:=h2.2.2.2.1.cell;have oc:=h2.2.2.2.2.1.cell;have of:=h2.2.2.2.2.1.frozen;have hbel:=h2.2.2.2.2.2;clear h2)))
     exact bodyPost_ret (v:= .tuple #[.agg #[.int .u64 (q 0:Nat),.int .u64 (q 1:Nat),.int .u64 (q 2:Nat),.int .u64 (q 3:Nat),.int .u64 (q 4:Nat)],.int .i64 0]) (by simp [results,Tryz.results112,go_sem,oc]) rfl ⟨q,by rw [HR.out],by rw [HV.out];exact hq,(by repeat (first|(with_reducible refine Below.alloc' ?_ _)|(with_reducible refine Below.drew ?_)|(with_reducible refine below_drewN ?_ _)|((with_reducible refine Below.setCell ?_ ?_ _);rotate_left;(focus (first|exact Nat.le_refl _|(simp;done)|(simp;omega))))|(with_reducible assumption)|(with_reducible exact Below.refl _ _)))⟩
   ·have E2:=Lib.hid e2
    have HR:Hid (bM x=7):=Lib.hid (by unfold bM;rw [HC.out,if_neg e2])
    have HV:Hid (aT x=0):=Lib.hid (by unfold aT;rw [HC.out,if_neg e2])
    clear e2 hst1
    generalize aR x ft*ni=y at*
    go_region_held3 (fun W=>((W.cell? ⟨w.heap.size,0,none⟩=some (.int .u64 (f 0:Nat))∧W.cell? ⟨w.heap.size,1,none⟩=some (.int .u64 (f 1:Nat))∧W.cell? ⟨w.heap.size,2,none⟩=some (.int .u64 (f 2:Nat))∧W.cell? ⟨w.heap.size,3,none⟩=some (.int .u64 (f 3:Nat))∧W.cell? ⟨w.heap.size,4,none⟩=some (.int .u64 (f 4:Nat)))∧(W.cell? ⟨g,0,none⟩=some (.int .u64 (q 0:Nat))∧W.cell? ⟨g,1,none⟩=some (.int .u64 (q 1:Nat))∧W.cell? ⟨g,2,none⟩=some (.int .u64 (q 2:Nat))∧W.cell? ⟨g,3,none⟩=some (.int .u64 (q 3:Nat))∧W.cell? ⟨g,4,none⟩=some (.int .u64 (q 4:Nat)))∧aj W w.heap.size [.int .u64 (f 0:Nat),.int .u64 (f 1:Nat),.int .u64 (f 2:Nat),.int .u64 (f 3:Nat),.int .u64 (f 4:Nat)] 114∧aj W g [.int .u64 (q 0:Nat),.int .u64 (q 1:Nat),.int .u64 (q 2:Nat),.int .u64 (q 3:Nat),.int .u64 (q 4:Nat)] 114∧aj W (w.heap.size+1) [.int .u64 0,.int .u64 0,.int .u64 0,.int .u64 0,.int .u64 0] 114∧Below w.heap.size w W)) (first|(exact HS2.out)|(first|assumption|(refine hst.out _ _ ?_ hb;assumption)|(refine hst.out _ _ ?_ (Below.alloc' (Below.refl _ _) _);assumption)|(refine hst.out _ _ ?_ (Below.drew (Below.refl _ _));assumption))) ((first|(go_at_call 107;(with_reducible refine (sZ hq hq _).mono ?_);rintro e wm ⟨m2,rfl,hm2,hb⟩)|(go_at_call 113;(with_reducible refine (Ky hm2 hf E2.out _).mono ?_);rintro e ws ⟨rfl,hb⟩)))
    rename_i hh
    have oc:=hh.2.2.2.2.1.cell;have of:=hh.2.2.2.2.1.frozen;have hbel:=hh.2.2.2.2.2
    clear hh HS2 hst
    go_wp2
    exact bodyPost_ret (v:= .tuple #[.agg #[.int .u64 0,.int .u64 0,.int .u64 0,.int .u64 0,.int .u64 0],.int .i64 7]) (by simp [results,Tryz.results112,go_sem,oc]) rfl ⟨fun _=>0,by rw [HR.out];rfl,by rw [HV.out];exact FF.zero,(by repeat (first|(with_reducible refine Below.alloc' ?_ _)|(with_reducible refine Below.drew ?_)|(with_reducible refine below_drewN ?_ _)|((with_reducible refine Below.setCell ?_ ?_ _);rotate_left;(focus (first|exact Nat.le_refl _|(simp;done)|(simp;omega))))|(with_reducible assumption)|(with_reducible exact Below.refl _ _)))⟩
end Go.Proofs.YtknlbpjcjdenbaaGreat
namespace Go.Proofs.YtknlbpjcjdenbaaGreat
open Go Go.RowKit
set_option maxRecDepth 10000
theorem QG {η:bx} {A:Nat→Prop} {w:World} {n:Nat} {v:Value} (h:AV.H η A w (.agg [.ob (.x 2) n]) v):v= .agg #[.int .u64 (lw n 0:Nat),.int .u64 (lw n 1:Nat),.int .u64 (lw n 2:Nat),.int .u64 (lw n 3:Nat)]∧n<Lq:=by
 obtain ⟨cs,rfl,⟨h1,t,e2,⟨h3,rfl⟩,rfl⟩,_⟩:=h
 exact ⟨by rw [e2];rfl,h3⟩
theorem S4 {η:bx} {A:Nat→Prop} {w:World} {n:Nat} (h:n<Lq):AV.H η A w (.agg [.ob (.x 2) n]) (.agg #[.int .u64 (lw n 0:Nat),.int .u64 (lw n 1:Nat),.int .u64 (lw n 2:Nat),.int .u64 (lw n 3:Nat)]):=
 ⟨_,rfl,⟨_,[],rfl,⟨h,rfl⟩,rfl⟩,fun v hv=>by
  simp only [List.mem_cons,List.not_mem_nil,or_false] at hv
  rcases hv with rfl|rfl|rfl|rfl<;>rfl⟩
def Bm:GF:=fun l=>match l with
 | [.one (.ro .u8 b)]=>some ⟨[.agg [.ob (.x 2) (cl b)]],[],none⟩
 |_=>none
theorem wR:af 118 (ar Bm):=bp Tryz.func118 (by kernel_rfl) rfl fun l g h hp=>by
 unfold Bm at h
 split at h
 ·rename_i b
  cases h
  refine ⟨rfl,rfl,fun η w vs ⟨v1,t,e1,h1,e3⟩=> ?_⟩
  subst e3 e1
  obtain ⟨u,e,hR⟩:=h1
  cases List.singleton_inj.1 e
  obtain ⟨ad,c,rfl,hr⟩:=hR.rdb
  exact (LG w hr).mono fun e w' ⟨he,hb⟩=>⟨_,he,hb,fun _ _=>S4 (n:=cl b) (Nat.mod_lt _ iA)⟩
 ·cases h
def tJ:GF:=fun l=>match l with
 | [.agg [.ob (.x 2) n]]=>some ⟨[.one (.rw 0)],[(0,.row 5 .u8 (bq 32 n))],none⟩
 |_=>none
theorem uc:af 119 (ar tJ):=gX Tryz.func119 (by kernel_rfl) rfl fun l g h hp=>by
 unfold tJ at h
 split at h
 ·rename_i n
  cases h
  refine ⟨_,rfl,rfl,fun η w vs ⟨v1,t,e1,h1,e3⟩=> ?_⟩
  subst e3 e1
  obtain ⟨rfl,_⟩:=QG h1
  have e:(bq 32 n).length=32:=au _ _
  rw [e]
  exact FV n w
 ·cases h
def Hn:GF:=fun l=>match l with
 | [.agg [.ob (.x 2) n],.one (.ob .int k)]=>some ⟨[.one (.ob .int (tY n k))],[],some (Dj 0 k 255)⟩
 |_=>none
theorem E_ (n:Nat) (k:Int) (hp:0≤k∧k≤255) (w:World):Calls Tryz.prog 126 #[.agg #[.int .u64 (lw n 0:Nat),.int .u64 (lw n 1:Nat),.int .u64 (lw n 2:Nat),.int .u64 (lw n 3:Nat)],.int .i64 k] w fun e w'=>e= .returned (.int .i64 (tY n k))∧Below w.heap.size w w':=by
 obtain ⟨j,rfl⟩:∃j:Nat,k=j:=⟨k.toNat,by omega⟩
 rw [tY,if_pos hp]
 exact FO n j (by omega) w
theorem Bx:af 126 (ar Hn):=bp Tryz.func126 (by kernel_rfl) rfl fun l g h hp=>by
 unfold Hn at h
 split at h
 ·rename_i n k
  cases h
  refine ⟨rfl,rfl,fun η w vs ⟨v1,t,e1,h1,v2,t2,e2,h2,e3⟩=> ?_⟩
  subst e3 e2 e1
  obtain ⟨rfl,_⟩:=QG h1
  cases List.singleton_inj.1 (show [v2]= [_] from h2)
  exact (E_ n k hp w).mono fun e w' ⟨he,hb⟩=>⟨_,he,hb,fun _ _=>rfl⟩
 ·cases h
def GZ:GF:=fun l=>match l with
 | [.one (.ro .u8 a),.one (.ro .u8 b)]=>some ⟨[.one (.ob .bool (decide (a=b)))],[],none⟩
 |_=>none
theorem ka:af 26 (ar GZ):=bp Tryz.func26 (by kernel_rfl) rfl fun l g h hp=>by
 unfold GZ at h
 split at h
 ·rename_i a b
  cases h
  refine ⟨rfl,rfl,fun η w vs ⟨v1,t,e1,⟨u1,f1,h1⟩,v2,t2,e2,⟨u2,f2,h2⟩,e3⟩=> ?_⟩
  subst e3 e2 e1
  cases List.singleton_inj.1 f1
  cases List.singleton_inj.1 f2
  obtain ⟨ad,c,rfl,hr⟩:=h1.rdb
  obtain ⟨ad2,c2,rfl,hr2⟩:=h2.rdb
  exact (FK w hr hr2).mono fun e w' ⟨he,hb⟩=>⟨_,he,hb,fun _ _=>rfl⟩
 ·cases h
def lD:GF:=fun l=>match l with
 | [.one (.ob .u64 n)]=>some ⟨[.one (.rw 0)],[(0,.row 5 .u8 (bq 8 n.toNat))],none⟩
 |_=>none
theorem ko:af 178 (ar lD):=gX Tryz.func178 (by kernel_rfl) rfl fun l g h hp=>by
 unfold lD at h
 split at h
 ·rename_i n
  cases h
  refine ⟨_,rfl,rfl,fun η w vs ⟨v1,t,e1,h1,e3⟩=> ?_⟩
  subst e3 e1
  cases List.singleton_inj.1 (show [v1]= [_] from h1)
  refine (e_ n.toNat_lt w).mono fun e w' ⟨he,hB,hb⟩=>⟨_,he,?_,hb⟩
  have e:((bq 8 n.toNat).map bV).length=8:=by rw [List.length_map,au]
  rw [au]
  exact ⟨e,.inr ⟨_,8,_,rfl,Nat.le_refl _,hB,Nat.le_refl _,by unfold maxLen;omega,e,by rw [List.toList_toArray,List.take_of_length_le (by omega)]⟩⟩
 ·cases h
def De:GF:=fun l=>match l with
 | [.one (.bb l)]=>some ⟨[.one (.rw 0)],[(0,.row 5 .u8 l.flatten)],some (l.flatten.length≤16777216)⟩
 |_=>none
theorem qC:af 71 (ar De):=gX Tryz.func71 (by kernel_rfl) rfl fun l g h hp=>by
 unfold De at h
 split at h
 ·rename_i q
  cases h
  refine ⟨_,rfl,rfl,fun η w vs ⟨v1,t,e1,⟨a,c,f1,h1,h2,h3,h4⟩,e3⟩=> ?_⟩
  subst e3 e1
  cases List.singleton_inj.1 f1
  refine DG w ⟨rfl,h1,h2,fun i hi=> ?_⟩ (Nat.le_trans hp (by decide))
  obtain ⟨g,o,us,rfl,_,hr,hl,hi'⟩:=h4 (by omega)
  have hu:=hi' i hi (by omega)
  obtain ⟨ad,c2,e,hR⟩:=hu.rdb
  refine ⟨g,o,ad,_,c2,rfl,?_,hR⟩
  rw [←e]
  exact hr i _ (List.getElem?_eq_getElem (by omega))
 ·cases h
theorem Hp (w:World) (E:TypeId) (base:Nat) (hb:base≤w.heap.size):(w.alloc (.cells #[] E)).ownsRow base E 1 (.slice (some ⟨w.heap.size,0,none⟩) 0 0) 0 []:=
 ⟨rfl,.inr ⟨w.heap.size,0,#[],rfl,hb,(by show (w.heap.push _)[w.heap.size]?=_;simp),by omega,by simp,rfl,rfl⟩⟩
theorem ri (w:World) (d:Nat) (a:Option Addr) (l c:Nat):(Op.equalIn (d+1) 30 (.slice a l c) (.slice none 0 0)).run Tryz.prog w= .ok a.isNone w:=by
 cases a<;>simp [Op.equalIn,run_underlying Tryz.underlying30]
theorem yS (w:World) (a:Option Addr) (l c:Nat):(Op.equal 30 (.slice a l c) (.slice none 0 0)).run Tryz.prog w= .ok a.isNone w:=ri w 9999 a l c
theorem mz (a:Option Addr) (l c:Nat) (w:World):(binOp .eql 30 (.slice a l c) (.slice none 0 0)).run Tryz.prog w= .ok (.bool a.isNone) w:=by
 simp [binOp,yS w a l c]
set_option maxHeartbeats 1000000 in
theorem Gz {a:Option Addr} {n cap:Nat} {l:List UInt8} (w:World) (h:kK w a n cap l) (hm:n≤16777216):
  Calls Tryz.prog 50 #[.slice a n cap] w fun e w'=>∃v,e= .returned v∧w'.ownsRow w.heap.size 5 1 v n (l.map bV)∧Below w.heap.size w w':=by
 have hl:=h.hlen
 cases a with
 |none=>
  obtain rfl:=h.hnil rfl
  obtain rfl:n=0:=by have:=h.hcap;omega
  obtain rfl:l= []:=List.eq_nil_of_length_eq_zero hl
  have hq:=mz none 0 0
  rw [show (none:Option Addr).isNone=true from rfl] at hq
  go_enter Tryz.func50,Tryz.ntmps50
  go_wp2
  go_ret
  exact ⟨_,rfl,⟨rfl,.inl ⟨rfl,rfl⟩⟩,(by repeat (first|(with_reducible refine Below.alloc' ?_ _)|(with_reducible refine Below.drew ?_)|(with_reducible refine below_drewN ?_ _)|((with_reducible refine Below.setCell ?_ ?_ _);rotate_left;(focus (first|exact Nat.le_refl _|(simp;done)|(simp;omega))))|(with_reducible assumption)|(with_reducible exact Below.refl _ _)))⟩
 |some ad=>
  have HL:=Lib.hid hl;have HM:=Lib.hid hm
  clear hl hm
  have hq:=mz (some ad) n cap
  rw [show (some ad).isNone=false from rfl] at hq
  go_enter Tryz.func50,Tryz.ntmps50
  go_wp2_with (at_builtin;go_must (refine sJ _ rfl (.tmp 5) (.tmp 6) rfl w.heap.size _ 0 [] rfl (Hp w 5 w.heap.size (Nat.le_refl _)) _ _ _ l rfl (by exact h.below (by repeat (first|(with_reducible refine Below.alloc' ?_ _)|(with_reducible refine Below.drew ?_)|(with_reducible refine below_drewN ?_ _)|((with_reducible refine Below.setCell ?_ ?_ _);rotate_left;(focus (first|exact Nat.le_refl _|(simp;done)|(simp;omega))))|(with_reducible assumption)|(with_reducible exact Below.refl _ _)))) (by have:=HM.out;omega) (by simp) w (by exact (by repeat (first|(with_reducible refine Below.alloc' ?_ _)|(with_reducible refine Below.drew ?_)|(with_reducible refine below_drewN ?_ _)|((with_reducible refine Below.setCell ?_ ?_ _);rotate_left;(focus (first|exact Nat.le_refl _|(simp;done)|(simp;omega))))|(with_reducible assumption)|(with_reducible exact Below.refl _ _)))) ?_;intro v1 w1 hown hb1;rw [Nat.zero_add,List.nil_append] at hown;have HO:=Lib.hid hown;clear hown))
  go_wp2
  go_ret
  exact ⟨_,rfl,HO.out,hb1⟩
def mw:GF:=fun l=>match l with
 | [.one (.ro .u8 b)]=>some ⟨[.one (.rw 0)],[(0,.row 5 .u8 b)],some (b.length≤16777216)⟩
 |_=>none
theorem iN:af 50 (ar mw):=gX Tryz.func50 (by kernel_rfl) rfl fun l g h hp=>by
 unfold mw at h
 split at h
 ·rename_i b
  cases h
  refine ⟨_,rfl,rfl,fun η w vs ⟨v1,t,e1,⟨u1,f1,h1⟩,e3⟩=> ?_⟩
  subst e3 e1
  cases List.singleton_inj.1 f1
  obtain ⟨ad,c,rfl,hr⟩:=h1.rdb
  exact Gz w hr hp
 ·cases h
def AJ:GF:=fun l=>match l with
 | [.agg [.ob (.x 4) a]]=>some ⟨[.agg [.ob (.x 4) (aT a)],.one (.ob .int (bM a))],[],none⟩
 |_=>none
theorem xr:af 112 (ar AJ):=bp Tryz.func112 (by kernel_rfl) rfl fun l g h hp=>by
 unfold AJ at h
 split at h
 ·rename_i a
  cases h
  refine ⟨rfl,rfl,fun η w vs ⟨v1,t,e1,h1,e3⟩=> ?_⟩
  subst e3 e1
  obtain ⟨f,rfl,hf⟩:=gD h1
  refine (Vu (f:=f) (x:=a) hf w).mono fun e w' ⟨h,he,hh,hb⟩=>⟨_,he,hb,fun nx ηc=> ?_⟩
  exact ⟨_,rfl,_,_,rfl,gK hh (aT a) rfl,_,_,rfl,rfl,rfl⟩
 ·cases h
set_option maxRecDepth 10000
structure Q4 where
 x:F
 y:F
 z:F
 t:F
@[reducible] def Q4.av (q:Q4):AV:= .agg [.ob (.x 4) q.x,.ob (.x 4) q.y,.ob (.x 4) q.z,.ob (.x 4) q.t]
def F_:Q4:=⟨0,0,0,0⟩
def t_ (x y:F):Q4:=⟨x,y,fn 1,aO x y⟩
def aH (q:Q4):Q4:=if q.z=0 then t_ 0 (fn 1) else q
def lh (a b:Q4) (more:F):Q4:=
 let m:=aO (nM a.y a.x) (nM b.y b.x)
 let n:=aO (mX a.y a.x) (mX b.y b.x)
 let c:=aO (aO a.t more) b.t
 let z:=aO a.z b.z
 let z:=mX z z
 let e:=nM n m
 let f:=nM z c
 let g:=mX z c
 let h:=mX n m
 ⟨aO e f,aO g h,aO f g,aO e h⟩
def dy (more:F) (a:Q4) (n:Nat):Nat→Q4
 |0=>aH F_
 |j+1=>if tY n (252-(j:Int))=1 then lh (lh (dy more a n j) (dy more a n j) more) a more else lh (dy more a n j) (dy more a n j) more
def Rz:List (Nat×CF):= [(26,ar GZ),(50,ar mw),(71,ar De),(106,ar vP),(107,ar Hj),(108,ar K8),(110,ar Kc),(111,ar Ib),(112,ar AJ),(113,ar B5),(115,ar A9),(116,ar Kw),(118,ar Bm),(119,ar tJ),(126,ar Hn),(170,ar QS),(171,ar vL),(178,ar lD)]
theorem PG:∀p∈Rz,af p.1 p.2:=ag ka<|ag iN<|ag qC<|ag vN<|ag AZ<|ag BV<|ag B_<|ag Aq<|ag xr<|ag yx<|ag zv<|ag Cq<|ag wR<|ag uc<|ag Bx<|ag Gj<|ag uS<|ag ko fun p hp=>by cases hp
theorem Mf:az bi (ap Rz):=aD ax (br PG)
theorem Xy:vc bi (ap Rz) Tryz.f109.ntmps (ah Tryz.f109) ⟨aq 0 [],[],2000⟩ (aI bi Tryz.f109.ntmps [.cell 0 114] [.agg [.ob (.x 4) dE]] []):=by
 refine ⟨⟨rfl,?_⟩,trivial⟩
 show [dE]= [aO (lM (fn 121665)) (aY (fn 121666))]
 have h1:=PP
 have h2:fn 121666*aY (fn 121666)=1:=dn (by decide +kernel)
 have h3:(fn 121665+1:F)=fn 121666:=by decide +kernel
 rw [h3] at h1
 unfold aO lM
 rw [←h1]
 generalize aY (fn 121666)=i at h2 ⊢
 generalize (fn 121666:F)=w at h2 ⊢
 generalize dE=d
 refine congrArg (fun z=> [z]) ?_
 grind
theorem Na (x y:F):vc bi (ap Rz) Tryz.f114.ntmps (ah Tryz.f114) ⟨aq 0 [.agg [.ob (.x 4) x],.agg [.ob (.x 4) y]],[],2000⟩ (aI bi Tryz.f114.ntmps [.cell 4 116] [(t_ x y).av] []):=⟨⟨rfl,rfl⟩,⟨rfl,rfl⟩,⟨rfl,rfl⟩,⟨rfl,rfl⟩,trivial⟩
theorem Sd (a b:Q4) (d:F):vc bi (ap Rz) Tryz.f125.ntmps (ah Tryz.f125) ⟨aq 0 [a.av,b.av,.agg [.ob (.x 4) d]],[],2000⟩ (aI bi Tryz.f125.ntmps [.cell 6 116] [(lh a b d).av] []):=⟨⟨rfl,rfl⟩,⟨rfl,rfl⟩,⟨rfl,rfl⟩,⟨rfl,rfl⟩,trivial⟩
theorem Nj:vc bi (ap Rz) Tryz.f124.ntmps (ah Tryz.f124) ⟨aq 0 [],[],2000⟩ (aI bi Tryz.f124.ntmps [.cell 0 114] [.agg [.ob (.x 4) g8]] []):=by
 refine ⟨⟨rfl,?_⟩,trivial⟩
 refine congrArg (fun z=> [z]) ?_
 show g8=gI [89,241,178,38,148,155,214,235,86,177,131,130,154,20,224,0,48,209,243,238,242,128,142,25,231,252,223,86,220,217,6,36]
 decide +kernel
def WN:GF:=fun l=>match l with
 | []=>some ⟨[.agg [.ob (.x 4) dE]],[],none⟩
 |_=>none
theorem Jb:af 109 (ar WN):=ai ax Mf Tryz.func109 (by kernel_rfl) rfl (rs:= [.cell 0 114]) Tryz.results109 fun l g h hp=>by
 unfold WN at h
 split at h
 ·cases h;exact ⟨Nat.le_of_ble_eq_true rfl,rfl,rfl,rfl,Xy⟩
 ·cases h
def CD:GF:=fun l=>match l with
 | []=>some ⟨[.agg [.ob (.x 4) g8]],[],none⟩
 |_=>none
theorem yz:af 124 (ar CD):=ai ax Mf Tryz.func124 (by kernel_rfl) rfl (rs:= [.cell 0 114]) Tryz.results124 fun l g h hp=>by
 unfold CD at h
 split at h
 ·cases h;exact ⟨Nat.le_of_ble_eq_true rfl,rfl,rfl,rfl,Nj⟩
 ·cases h
def Bw:GF:=fun l=>match l with
 | [.agg [.ob (.x 4) x],.agg [.ob (.x 4) y]]=>some ⟨[(t_ x y).av],[],none⟩
 |_=>none
theorem zw:af 114 (ar Bw):=ai ax Mf Tryz.func114 (by kernel_rfl) rfl (rs:= [.cell 4 116]) Tryz.results114 fun l g h hp=>by
 unfold Bw at h
 split at h
 ·cases h;exact ⟨Nat.le_of_ble_eq_true rfl,rfl,rfl,rfl,Na _ _⟩
 ·cases h
def JI:GF:=fun l=>match l with
 | [.agg [.ob (.x 4) x,.ob (.x 4) y,.ob (.x 4) z,.ob (.x 4) t],.agg [.ob (.x 4) u,.ob (.x 4) v,.ob (.x 4) w,.ob (.x 4) s],.agg [.ob (.x 4) d]]=>some ⟨[(lh ⟨x,y,z,t⟩ ⟨u,v,w,s⟩ d).av],[],none⟩
 |_=>none
theorem zS:af 125 (ar JI):=ai ax Mf Tryz.func125 (by kernel_rfl) rfl (rs:= [.cell 6 116]) Tryz.results125 fun l g h hp=>by
 unfold JI at h
 split at h
 ·cases h;exact ⟨Nat.le_of_ble_eq_true rfl,rfl,rfl,rfl,Sd ⟨_,_,_,_⟩ ⟨_,_,_,_⟩ _⟩
 ·cases h
def Wu:List (Nat×CF):=(109,ar WN)::(114,ar Bw)::(124,ar CD)::(125,ar JI)::Rz
theorem P7:∀p∈Wu,af p.1 p.2:=ag Jb<|ag zw<|ag yz<|ag zS PG
theorem XB:az bi (ap Wu):=aD ax (br P7)
theorem Oj (q:Q4):vc bi (ap Wu) Tryz.f123.ntmps (ah Tryz.f123) ⟨aq 0 [q.av],[],2000⟩ (aI bi Tryz.f123.ntmps [.cell 2 116] [(aH q).av] []):=by
 refine ⟨fun h=> ?_,fun h=> ?_⟩
 ·have h:q.z=0:=of_decide_eq_true h
  rw [aH,if_pos h]
  exact ⟨⟨rfl,rfl⟩,⟨rfl,rfl⟩,⟨rfl,rfl⟩,⟨rfl,rfl⟩,trivial⟩
 ·have h:¬q.z=0:=of_decide_eq_false h
  rw [aH,if_neg h]
  exact ⟨⟨rfl,rfl⟩,⟨rfl,rfl⟩,⟨rfl,rfl⟩,⟨rfl,rfl⟩,trivial⟩
def Av:GF:=fun l=>match l with
 | [.agg [.ob (.x 4) x,.ob (.x 4) y,.ob (.x 4) z,.ob (.x 4) t]]=>some ⟨[(aH ⟨x,y,z,t⟩).av],[],none⟩
 |_=>none
theorem wJ:af 123 (ar Av):=ai ax XB Tryz.func123 (by kernel_rfl) rfl (rs:= [.cell 2 116]) Tryz.results123 fun l g h hp=>by
 unfold Av at h
 split at h
 ·cases h;exact ⟨Nat.le_of_ble_eq_true rfl,rfl,rfl,rfl,Oj ⟨_,_,_,_⟩⟩
 ·cases h
def TA:List (Nat×CF):=(123,ar Av)::Wu
theorem Pv:∀p∈TA,af p.1 p.2:=ag wJ P7
theorem SK:az bi (ap TA):=aD ax (br Pv)
theorem OP (a b:Q4):vc bi (ap TA) Tryz.f75.ntmps (ah Tryz.f75) ⟨aq 0 [a.av,b.av],[],2000⟩ (aI bi Tryz.f75.ntmps [.cell 4 116] [(lh (aH a) (aH b) g8).av] []):=⟨⟨rfl,rfl⟩,⟨rfl,rfl⟩,⟨rfl,rfl⟩,⟨rfl,rfl⟩,trivial⟩
def gz (a b:Q4):Bool:=wn (aO a.x b.z) (aO b.x a.z)&&wn (aO a.y b.z) (aO b.y a.z)
theorem N6 (a b:Q4):vc bi (ap TA) Tryz.f74.ntmps (ah Tryz.f74) ⟨aq 0 [a.av,b.av],[],2000⟩ (aI bi Tryz.f74.ntmps [.tmp 4] [.one (.ob .bool (gz (aH a) (aH b)))] []):=by
 refine ⟨fun h=>⟨h,?_,trivial⟩,fun h=>⟨h,?_,trivial⟩⟩
 ·show [gz (aH a) (aH b)]= [wn (aO (aH a).y (aH b).z) (aO (aH b).y (aH a).z)]
  rw [gz,show wn (aO (aH a).x (aH b).z) (aO (aH b).x (aH a).z)=true from h,Bool.true_and]
 ·show [gz (aH a) (aH b)]= [false]
  rw [gz,show wn (aO (aH a).x (aH b).z) (aO (aH b).x (aH a).z)=false from h,Bool.false_and]
theorem To (a:Q4) (n:Nat):vc bi (ap TA) Tryz.f73.ntmps (ah Tryz.f73) ⟨aq 0 [a.av,.agg [.ob (.x 2) n]],[],2000⟩ (aI bi Tryz.f73.ntmps [.cell 4 116] [(dy g8 (aH a) n 253).av] []):=by
 refine Or.inr ⟨{j:Nat // j≤253},fun j=>⟨[(7,.one (.ob .int (252-(j.val:Int))))],[(2176,.blk 116 [.ob (.x 4) (dy g8 (aH a) n j.val).x,.ob (.x 4) (dy g8 (aH a) n j.val).y,.ob (.x 4) (dy g8 (aH a) n j.val).z,.ob (.x 4) (dy g8 (aH a) n j.val).t])]⟩,fun j=>253-j.val,⟨0,by omega⟩,?_⟩
 refine ⟨rfl,⟨rfl,rfl⟩,⟨rfl,rfl⟩,⟨rfl,rfl⟩,⟨rfl,rfl⟩,fun j=>⟨fun h2=> ?_,fun h2=> ?_⟩⟩
 ·have h2:=of_decide_eq_true h2
  have hj:=j.2
  refine ⟨by omega,fun h3=> ?_,fun h3=> ?_⟩
  ·have h3:=of_decide_eq_true h3
   refine sd<|sj ⟨j.val+1,by omega⟩ ?_
   have e:dy g8 (aH a) n (j.val+1)=lh (lh (dy g8 (aH a) n j.val) (dy g8 (aH a) n j.val) g8) (aH a) g8:=by rw [dy,if_pos h3]
   exact sr (hp:=congrArg (fun z:Int=> [z]) (show (252:Int)-((j.val+1:Nat):Int)=252-(j.val:Int)-1 by omega)) ⟨⟨rfl,congrArg (fun q:Q4=> [q.x]) e⟩,⟨rfl,congrArg (fun q:Q4=> [q.y]) e⟩,⟨rfl,congrArg (fun q:Q4=> [q.z]) e⟩,⟨rfl,congrArg (fun q:Q4=> [q.t]) e⟩,trivial⟩
  ·have h3:=of_decide_eq_false h3
   refine sd<|sj ⟨j.val+1,by omega⟩ ?_
   have e:dy g8 (aH a) n (j.val+1)=lh (dy g8 (aH a) n j.val) (dy g8 (aH a) n j.val) g8:=by rw [dy,if_neg h3]
   exact sr (hp:=congrArg (fun z:Int=> [z]) (show (252:Int)-((j.val+1:Nat):Int)=252-(j.val:Int)-1 by omega)) ⟨⟨rfl,congrArg (fun q:Q4=> [q.x]) e⟩,⟨rfl,congrArg (fun q:Q4=> [q.y]) e⟩,⟨rfl,congrArg (fun q:Q4=> [q.z]) e⟩,⟨rfl,congrArg (fun q:Q4=> [q.t]) e⟩,trivial⟩
 ·have h2:=of_decide_eq_false h2
  have hj:=j.2
  rw [show j.val=253 by omega]
  exact ⟨⟨rfl,rfl⟩,⟨rfl,rfl⟩,⟨rfl,rfl⟩,⟨rfl,rfl⟩,trivial⟩
def KD:GF:=fun l=>match l with
 | [.agg [.ob (.x 4) x,.ob (.x 4) y,.ob (.x 4) z,.ob (.x 4) t],.agg [.ob (.x 2) n]]=>some ⟨[(dy g8 (aH ⟨x,y,z,t⟩) n 253).av],[],none⟩
 |_=>none
theorem AH:af 73 (ar KD):=ai ax SK Tryz.func73 (by kernel_rfl) rfl (rs:= [.cell 4 116]) Tryz.results73 fun l g h hp=>by
 unfold KD at h
 split at h
 ·cases h;exact ⟨Nat.le_of_ble_eq_true rfl,rfl,rfl,rfl,To ⟨_,_,_,_⟩ _⟩
 ·cases h
def zQ:GF:=fun l=>match l with
 | [.agg [.ob (.x 4) x,.ob (.x 4) y,.ob (.x 4) z,.ob (.x 4) t],.agg [.ob (.x 4) u,.ob (.x 4) v,.ob (.x 4) w,.ob (.x 4) s]]=>some ⟨[(lh (aH ⟨x,y,z,t⟩) (aH ⟨u,v,w,s⟩) g8).av],[],none⟩
 |_=>none
theorem yc:af 75 (ar zQ):=ai ax SK Tryz.func75 (by kernel_rfl) rfl (rs:= [.cell 4 116]) Tryz.results75 fun l g h hp=>by
 unfold zQ at h
 split at h
 ·cases h;exact ⟨Nat.le_of_ble_eq_true rfl,rfl,rfl,rfl,OP ⟨_,_,_,_⟩ ⟨_,_,_,_⟩⟩
 ·cases h
def BI:GF:=fun l=>match l with
 | [.agg [.ob (.x 4) x,.ob (.x 4) y,.ob (.x 4) z,.ob (.x 4) t],.agg [.ob (.x 4) u,.ob (.x 4) v,.ob (.x 4) w,.ob (.x 4) s]]=>some ⟨[.one (.ob .bool (gz (aH ⟨x,y,z,t⟩) (aH ⟨u,v,w,s⟩)))],[],none⟩
 |_=>none
theorem wO:af 74 (ar BI):=ai ax SK Tryz.func74 (by kernel_rfl) rfl (rs:= [.tmp 4]) Tryz.results74 fun l g h hp=>by
 unfold BI at h
 split at h
 ·cases h;exact ⟨Nat.le_of_ble_eq_true rfl,rfl,rfl,rfl,N6 ⟨_,_,_,_⟩ ⟨_,_,_,_⟩⟩
 ·cases h
def Ur:List (Nat×CF):=(73,ar KD)::(74,ar BI)::(75,ar zQ)::TA
theorem P9:∀p∈Ur,af p.1 p.2:=ag AH<|ag wO<|ag yc Pv
theorem TQ:az bi (ap Ur):=aD ax (br P9)
theorem IU {b:List UInt8} (h:b.length=32):(nP b).length=32∧bm (nP b)=dJ b:=⟨by rw [CY,h],Oz h⟩
def LK (q:Q3) (P:EP):Prop:=gr P q.x q.y q.z
def DB (q:Q4) (P:EP):Prop:=u9 P q.x q.y q.z q.t
theorem Lf:LK yV Cp.zero:=by
 have h:=gr.zero (c:=PA)
 rw [←F1] at h
 exact h
theorem vT {a b:Q3} {P Q:EP} (h:LK a P) (h':LK b Q):LK (tB dE a b) (P.add Q):=gr.add h h'
theorem yN (n k:Nat) (h:k≤255):tY n (k:Int)=((n/2^k%2:Nat):Int):=by
 rw [tY,if_pos (by omega),Int.toNat_natCast]
theorem Ez {a:Q3} {P:EP} (h:LK a P) (n:Nat) (hn:n<2^256):∀j,j≤256→LK (gO dE a n j) (Cp.mul (n/2^(256-j)) P)
 |0,_=>by
  rw [Nat.sub_zero,Nat.div_eq_of_lt hn]
  exact Lf
 |j+1,hj=>by
  have ih:=Ez h n hn j (by omega)
  obtain ⟨k,hk⟩:∃k,k=255-j:=⟨_,rfl⟩
  have e1:(255:Int)-(j:Int)=(k:Int):=by omega
  rw [gO,e1,yN n k (by omega),show 256-(j+1)=k by omega,rA]
  rw [show 256-j=k+1 by omega] at ih
  by_cases hb:n/2^k%2=1
  ·rw [if_pos hb,if_pos (by rw [hb];rfl)]
   exact vT (vT ih ih) h
  ·rw [if_neg hb,if_neg (by omega)]
   exact vT ih ih
theorem Id {a:Q3} {P:EP} (h:LK a P) (n:Nat) (hn:n<2^256):LK (gO dE a n 256) (Cp.mul n P):=by
 have:=Ez h n hn 256 (by omega)
 rwa [Nat.sub_self,Nat.pow_zero,Nat.div_one] at this
theorem LU (P:EP):rh P.x P.y=gv P:=by
 unfold rh
 split
 ·rename_i h;exact Mx h
 ·rename_i h;exact IM h
theorem NI {q:Q3} {P:EP} (h:LK q P):rh (aO q.x (aY q.z)) (aO q.y (aY q.z))=gv P:=by
 have h1:q.z*aY q.z=1:=dn h.z
 have ex:aO q.x (aY q.z)=P.x:=by
  unfold aO
  rw [h.x]
  generalize aY q.z=i at h1 ⊢
  generalize q.z=z at h1 ⊢
  generalize P.x=x
  grind
 have ey:aO q.y (aY q.z)=P.y:=by
  unfold aO
  rw [h.y]
  generalize aY q.z=i at h1 ⊢
  generalize q.z=z at h1 ⊢
  generalize P.y=x
  grind
 rw [ex,ey]
 exact LU P
def q3 (P:EP):Q3:=⟨P.x,P.y,fn 1⟩
theorem Vs (P:EP):LK (q3 P) P:=by
 have h:=gr.one P
 rw [←F1] at h
 exact h
theorem ol {a b:Q4} {P Q:EP} (h:DB a P) (h':DB b Q):DB (lh a b g8) (P.add Q):=
 u9.add h h' rfl rfl (by rw [SS];rfl) rfl rfl rfl rfl rfl
theorem p9 (P:EP):DB (t_ P.x P.y) P:=by
 have h:=u9.one P
 rw [←F1] at h
 exact h
theorem gC {q:Q4} {P:EP} (h:DB q P):aH q=q:=by
 rw [aH,if_neg h.p.z]
theorem DY:DB (aH F_) Cp.zero:=by
 rw [aH,if_pos (show F_.z=0 from rfl)]
 have h:=p9 Cp.zero
 rw [F1]
 exact h
theorem Da {a:Q4} {P:EP} (h:DB a P) (n:Nat) (hn:n<2^253):∀j,j≤253→DB (dy g8 a n j) (Cp.mul (n/2^(253-j)) P)
 |0,_=>by
  rw [Nat.sub_zero,Nat.div_eq_of_lt hn]
  exact DY
 |j+1,hj=>by
  have ih:=Da h n hn j (by omega)
  obtain ⟨k,hk⟩:∃k,k=252-j:=⟨_,rfl⟩
  have e1:(252:Int)-(j:Int)=(k:Int):=by omega
  rw [dy,e1,yN n k (by omega),show 253-(j+1)=k by omega,rA]
  rw [show 253-j=k+1 by omega] at ih
  by_cases hb:n/2^k%2=1
  ·rw [if_pos hb,if_pos (by rw [hb];rfl)]
   exact ol (ol ih ih) h
  ·rw [if_neg hb,if_neg (by omega)]
   exact ol ih ih
theorem o9 {a:Q4} {P:EP} (h:DB a P) (n:Nat) (hn:n<Lq):DB (dy g8 (aH a) n 253) (Cp.mul n P):=by
 rw [gC h]
 have:=Da h n (Nat.lt_trans hn (by decide +kernel)) 253 (by omega)
 rwa [Nat.sub_self,Nat.pow_zero,Nat.div_one] at this
theorem xd {a b:Q4} {P Q:EP} (h:DB a P) (h':DB b Q):gz (aH a) (aH b)=decide (P=Q):=by
 rw [gC h,gC h']
 have e:=gr.same h.p h'.p
 rw [Bool.eq_iff_iff,decide_eq_true_iff,←e]
 simp only [gz,wn,Bool.and_eq_true,decide_eq_true_iff]
 exact Iff.rfl
set_option maxRecDepth 10000
theorem EJ (b:List UInt8):vc bi (ap Ur) Tryz.f105.ntmps (ah Tryz.f105) ⟨aq 0 [.one (.ro .u8 b)],[],2000⟩ (aI bi Tryz.f105.ntmps [.cell 2 114,.tmp 3] [.agg [.ob (.x 4) (xI b)],.one (.ob .int (zE b))] []):=by
 refine ⟨fun h=> ?_,fun h=> ?_⟩
 ·have h:(!decide (bq 32 (gI b).val=b))=true:=h
  obtain ⟨a1,a2⟩:=ur (b:=b) fun k=>by
   rw [decide_eq_true ((iQ b).2 k)] at h
   cases h
  rw [a1,a2]
  exact ⟨⟨rfl,rfl⟩,rfl,trivial⟩
 ·have h:(!decide (bq 32 (gI b).val=b))=false:=h
  have h3:bq 32 (gI b).val=b:=of_decide_eq_true (by simpa using h)
  obtain ⟨a1,a2⟩:=Ei ((iQ b).1 h3)
  rw [a1,a2]
  exact ⟨⟨rfl,rfl⟩,rfl,trivial⟩
def qt:GF:=fun l=>match l with
 | [.one (.ro .u8 b)]=>some ⟨[.agg [.ob (.x 4) (xI b)],.one (.ob .int (zE b))],[],none⟩
 |_=>none
theorem q_:af 105 (ar qt):=ai ax TQ Tryz.func105 (by kernel_rfl) rfl (rs:= [.cell 2 114,.tmp 3]) Tryz.results105 fun l g h hp=>by
 unfold qt at h
 split at h
 ·cases h;exact ⟨Nat.le_of_ble_eq_true rfl,rfl,rfl,rfl,EJ _⟩
 ·cases h
def VL (b:List UInt8):Bool:=decide (b.length=32∧bm b<Lq)
def EL (b:List UInt8):Nat:=if VL b then bm b else 0
def KT (b:List UInt8):Int:=if VL b then 0 else 2
theorem Lx {b:List UInt8} (h:¬(b.length=32∧bm b<Lq)):EL b=0∧KT b=2:=by
 have e:VL b=false:=decide_eq_false h
 unfold EL KT
 rw [e]
 exact ⟨rfl,rfl⟩
theorem DQ {b:List UInt8} (h:b.length=32∧bm b<Lq):EL b=cl b∧KT b=0:=by
 have e:VL b=true:=decide_eq_true h
 unfold EL KT
 rw [e,o6 h.1,Nat.mod_eq_of_lt h.2]
 exact ⟨rfl,rfl⟩
theorem nq {b:List UInt8} (h:b.length=32):bq 32 (cl b)=b↔b.length=32∧bm b<Lq:=by
 have h32:=jY
 constructor
 ·intro k
  refine ⟨h,?_⟩
  have h2:=congrArg bm k
  have hl:=ly b
  rw [lW,Nat.mod_eq_of_lt (Nat.lt_trans hl (by decide +kernel))] at h2
  rw [←h2];exact hl
 ·rintro ⟨_,h2⟩
  rw [o6 h,Nat.mod_eq_of_lt h2,←h,Dd]
theorem FI (b:List UInt8):vc bi (ap Ur) Tryz.f69.ntmps (ah Tryz.f69) ⟨aq 0 [.one (.ro .u8 b)],[],2000⟩ (aI bi Tryz.f69.ntmps [.cell 2 121,.tmp 3] [.agg [.ob (.x 2) (EL b)],.one (.ob .int (KT b))] []):=by
 refine fun _=>⟨fun h=> ?_,fun h=>⟨fun h2=> ?_,fun h2=> ?_⟩⟩
 ·have h1:b.length≠32:=by have:=of_decide_eq_true h;omega
  obtain ⟨a1,a2⟩:=Lx (b:=b) fun k=>h1 k.1
  rw [a1,a2]
  exact ⟨⟨rfl,rfl⟩,rfl,trivial⟩
 ·have h1:b.length=32:=by have:=of_decide_eq_false h;omega
  have h2:(!decide (bq 32 (cl b)=b))=true:=h2
  obtain ⟨a1,a2⟩:=Lx (b:=b) fun k=>by
   rw [decide_eq_true ((nq h1).2 k)] at h2
   cases h2
  rw [a1,a2]
  exact ⟨⟨rfl,rfl⟩,rfl,trivial⟩
 ·have h1:b.length=32:=by have:=of_decide_eq_false h;omega
  have h2:(!decide (bq 32 (cl b)=b))=false:=h2
  have h3:bq 32 (cl b)=b:=of_decide_eq_true (by simpa using h2)
  obtain ⟨a1,a2⟩:=DQ ((nq h1).1 h3)
  rw [a1,a2]
  exact ⟨⟨rfl,rfl⟩,rfl,trivial⟩
theorem QZ (b:List UInt8):EL b<Lq:=by
 unfold EL
 split
 ·rename_i h;exact (of_decide_eq_true h).2
 ·exact iA
def qu:GF:=fun l=>match l with
 | [.one (.ro .u8 b)]=>some ⟨[.agg [.ob (.x 2) (EL b)],.one (.ob .int (KT b))],[],none⟩
 |_=>none
theorem qH:af 69 (ar qu):=ai ax TQ Tryz.func69 (by kernel_rfl) rfl (rs:= [.cell 2 121,.tmp 3]) Tryz.results69 fun l g h hp=>by
 unfold qu at h
 split at h
 ·cases h;exact ⟨Nat.le_of_ble_eq_true rfl,rfl,rfl,rfl,FI _⟩
 ·cases h
def Wz:List (Nat×CF):=(69,ar qu)::(105,ar qt)::Ur
theorem Pu:∀p∈Wz,af p.1 p.2:=ag qH<|ag q_ P9
theorem WK:az bi (ap Wz):=aD ax (br Pu)
def i_ (b:List UInt8):Q4:=if dx b=0 then t_ (dV b).x (dV b).y else F_
def WJ (y:F):F:=aO (nM (aO y y) (fn (UInt64.ofNat 1).toNat)) (aY (mX (aO (aO y y) dE) (fn (UInt64.ofNat 1).toNat)))
theorem oP (y:F):WJ y=xx y:=by
 show (y*y-fn 1)*aY (y*y*dE+fn 1)=(y*y-1)*aY (y*y*dE+1)
 rw [F1]
theorem nR {b:List UInt8} (h:dV b=Cp.zero∧dx b=12):i_ b=F_∧dx b=12:=⟨by rw [i_,h.2];rfl,h.2⟩
def Qa (o:Bool) (a b:F):F:=match o with |true=>a|false=>b
theorem Lh (o:Bool) (R:F):(if o=true then -R else R)=Qa o (lM R) R:=by cases o<;>rfl
theorem DU {b:List UInt8} {y:F} {o:Bool} (h1:b.length=32) (h2:dJ b<Pq) (hy:fn (dJ b)=y) (hr:bM (xx y)=0) (hs:zl b=o) (hx:¬(o=true∧aT (xx y)=0)):i_ b=t_ (Qa o (lM (aT (WJ y))) (aT (WJ y))) y∧dx b=0:=by
 obtain ⟨a1,a2,a3⟩:=uV h1 h2 hy hr hs hx
 have e:i_ b=t_ (dV b).x (dV b).y:=if_pos a1
 refine ⟨?_,a1⟩
 rw [e,a2,a3,oP,Lh]
theorem Ox (c:UInt8):(c&&&UInt8.ofNat 128≠UInt8.ofNat 0)↔(c.toNat/128%2 ==1)=true:=by
 have h:∀c:Nat,c<256→(decide (UInt8.ofNat c&&&UInt8.ofNat 128≠UInt8.ofNat 0))=(c/128%2 ==1):=by decide +kernel
 have:=h c.toNat c.toNat_lt
 rw [UInt8.ofNat_toNat] at this
 rw [←this,decide_eq_true_iff]
theorem Ob (c:UInt8):c&&& ~~~(UInt8.ofNat 128)=c&&&127:=by
 rw [show ~~~(UInt8.ofNat 128)=(127:UInt8) from by decide]
set_option maxHeartbeats 2000000 in
theorem SH (b:List UInt8):vc bi (ap Wz) Tryz.f67.ntmps (ah Tryz.f67) ⟨aq 0 [.one (.ro .u8 b)],[],2000⟩ (aI bi Tryz.f67.ntmps [.cell 2 116,.tmp 3] [(i_ b).av,.one (.ob .int (dx b))] []):=by
 refine fun hl=>⟨fun h=> ?_,fun h=> ?_⟩
 ·have h1:b.length≠32:=by have:=of_decide_eq_true h;omega
  obtain ⟨a1,a2⟩:=nR (wk h1)
  rw [a1,a2]
  exact ⟨⟨rfl,rfl⟩,⟨rfl,rfl⟩,⟨rfl,rfl⟩,⟨rfl,rfl⟩,rfl,trivial⟩
 ·have h1:b.length=32:=by have:=of_decide_eq_false h;omega
  clear h
  have h31:31<b.length:=by omega
  obtain ⟨c1,c2⟩:=IU h1
  have ec:b.set 31 (b.getD 31 0&&& ~~~(UInt8.ofNat 128))=nP b:=by rw [Ob];rfl
  refine ⟨h31,by show b.length≤16777216;omega,h31,h31,h31,h31,fun h=> ?_,fun h=> ?_⟩
  ·have h2:¬dJ b<Pq:=fun hlt=>by
    have h:decide (zE (b.set 31 (b.getD 31 0&&& ~~~(UInt8.ofNat 128)))≠0)=true:=h
    have e:LJ (nP b)=true:=decide_eq_true ⟨c1,by rw [c2];exact hlt⟩
    rw [ec,zE,e] at h
    cases h
   obtain ⟨a1,a2⟩:=nR (C7 h2)
   rw [a1,a2]
   exact ⟨⟨rfl,rfl⟩,⟨rfl,rfl⟩,⟨rfl,rfl⟩,⟨rfl,rfl⟩,rfl,trivial⟩
  ·have h2:dJ b<Pq:=by
    have h:decide (zE (b.set 31 (b.getD 31 0&&& ~~~(UInt8.ofNat 128)))≠0)=false:=h
    rw [ec,zE] at h
    cases e:LJ (nP b) with
    |false=>rw [e] at h;cases h
    |true=>
     have:=of_decide_eq_true e
     rw [←c2];exact this.2
   have hy:fn (dJ b)=xI (b.set 31 (b.getD 31 0&&& ~~~(UInt8.ofNat 128))):=by
    have e:LJ (nP b)=true:=decide_eq_true ⟨c1,by rw [c2];exact h2⟩
    rw [ec]
    unfold xI
    rw [e,c2]
    rfl
   clear h
   have hs:=xc h1
   have hodd:=Ox (b.getD 31 0)
   rw [←hs] at hodd
   obtain ⟨y,hyy⟩:∃y,y=xI (b.set 31 (b.getD 31 0&&& ~~~(UInt8.ofNat 128))):=⟨_,rfl⟩
   rw [←hyy] at hy
   refine ⟨fun h=> ?_,fun h=> ?_⟩
   ·have h3:¬bM (xx y)=0:=by
     rw [←oP,hyy]
     exact of_decide_eq_true h
    obtain ⟨a1,a2⟩:=nR (w_ h1 h2 hy h3)
    rw [a1,a2]
    exact ⟨h,⟨rfl,rfl⟩,⟨rfl,rfl⟩,⟨rfl,rfl⟩,⟨rfl,rfl⟩,rfl,trivial⟩
   ·have h3:bM (xx y)=0:=by
     rw [←oP,hyy]
     have:=of_decide_eq_false h
     exact Decidable.not_not.1 this
    have ho:zl b=decide (b.getD 31 0&&&UInt8.ofNat 128≠UInt8.ofNat 0):=by
     rw [Bool.eq_iff_iff,decide_eq_true_iff]
     exact hodd.symm
    refine ⟨fun h4=>⟨h,h4,fun h5=> ?_,fun h5=> ?_⟩,fun h4=>⟨h,h4,?_⟩⟩
    ·have h5:aT (xx y)=0:=by rw [←oP,hyy];exact of_decide_eq_true h5
     obtain ⟨a1,a2⟩:=nR (Ev h1 h2 hy h3 (hodd.1 (of_decide_eq_true h4)) h5)
     rw [a1,a2]
     exact ⟨⟨rfl,rfl⟩,⟨rfl,rfl⟩,⟨rfl,rfl⟩,⟨rfl,rfl⟩,rfl,trivial⟩
    ·have h5:¬aT (xx y)=0:=by rw [←oP,hyy];exact of_decide_eq_false h5
     obtain ⟨a1,a2⟩:=DU h1 h2 hy h3 ho fun k=>h5 k.2
     subst hyy
     rw [a1,a2]
     exact ⟨⟨rfl,rfl⟩,⟨rfl,rfl⟩,⟨rfl,rfl⟩,⟨rfl,rfl⟩,rfl,trivial⟩
    ·obtain ⟨a1,a2⟩:=DU h1 h2 hy h3 ho fun k=>by rw [show decide (b.getD 31 0&&&UInt8.ofNat 128≠UInt8.ofNat 0)=false from h4] at k;cases k.1
     subst hyy
     rw [a1,a2]
     exact ⟨⟨rfl,rfl⟩,⟨rfl,rfl⟩,⟨rfl,rfl⟩,⟨rfl,rfl⟩,rfl,trivial⟩
def Kj:GF:=fun l=>match l with
 | [.one (.ro .u8 b)]=>some ⟨[(i_ b).av,.one (.ob .int (dx b))],[],none⟩
 |_=>none
theorem Ci:af 67 (ar Kj):=ai ax WK Tryz.func67 (by kernel_rfl) rfl (rs:= [.cell 2 116,.tmp 3]) Tryz.results67 fun l g h hp=>by
 unfold Kj at h
 split at h
 ·cases h;exact ⟨Nat.le_of_ble_eq_true rfl,rfl,rfl,rfl,SH _⟩
 ·cases h
set_option maxRecDepth 10000
theorem Kk (x:UInt64) (n m:Nat) (h:64-n=m):bits BinOp.or IntKind.u64 (IntKind.u64.wrap ((x.toNat:Int)*2^m)) ((x.toNat:Int)/2^n)=((i7 x n).toNat:Int):=by
 subst h
 unfold i7
 rw [show uo (iz x n) (kA x (64-n))=uo (kA x (64-n)) (iz x n) from UInt64.or_comm _ _,←SA,←Oo,←O1]
theorem Mt (n m:Nat) (h1:1≤n) (h2:n≤63) (h:64-n=m):bits BinOp.and IntKind.u64 (IntKind.u64.wrap (-(n:Int))) 63=(m:Int):=by
 have e:IntKind.u64.wrap (-(n:Int))=((18446744073709551616-n:Nat):Int):=by rw [IntKind.wrap_u64];omega
 have e2:=u64_and_nat (18446744073709551616-n) 63 (by omega) (by omega)
 rw [e]
 refine e2.trans ?_
 rw [show (63:Nat)=2^6-1 from rfl,Nat.and_two_pow_sub_one_eq_mod]
 omega
set_option maxHeartbeats 400000 in
theorem Ji (x:UInt64) (n:Nat) (h1:1≤n) (h2:n≤63) (w:World):Calls Tryz.prog 212 #[.int .u64 (x.toNat:Int),.int .i64 (-(n:Int))] w fun e w'=>e= .returned (.int .u64 ((i7 x n).toNat:Int))∧w=w':=by
 obtain ⟨m,hm⟩:∃m:Nat,64-n=m:=⟨_,rfl⟩
 have e1:=Mt n m h1 h2 hm
 have HE:=Lib.hid (Kk x n m hm)
 have hw:IntKind.u64.wrap (64-(m:Int))=(n:Int):=by rw [IntKind.wrap_u64];omega
 have hm0:(0:Int)≤(m:Int):=by omega
 have hm1:(m:Int)≤63:=by omega
 have hn0:(0:Int)≤(n:Int):=by omega
 have hn1:(n:Int)≤63:=by omega
 clear hm h1 h2
 go_enter Tryz.func212,Tryz.ntmps212
 go_wp2
 go_ret
 exact ⟨DD (by rw [←HE.out,IntKind.wrap_u64]),rfl⟩
theorem EH (x:UInt64) (k:Int) (hp: -63≤k∧k≤ -1) (w:World):Calls Tryz.prog 212 #[.int .u64 (x.toNat:Int),.int .i64 k] w fun e w'=>e= .returned (.int .u64 ((i7 x (-k).toNat).toNat:Int))∧w=w':=by
 obtain ⟨n,rfl⟩:∃n:Nat,k= -(n:Int):=⟨(-k).toNat,by omega⟩
 rw [Int.neg_neg,Int.toNat_natCast]
 exact Ji x n (by omega) (by omega) w
def JP:GF:=fun l=>match l with
 | [.one (.ob .u64 x),.one (.ob .int k)]=>some ⟨[.one (.ob .u64 (i7 x (-k).toNat))],[],some (Dj (-63) k (-1))⟩
 |_=>none
theorem Bg:af 212 (ar JP):=bp Tryz.func212 (by kernel_rfl) rfl fun l g h hp=>by
 unfold JP at h
 split at h
 ·rename_i x k
  cases h
  refine ⟨rfl,rfl,fun η w vs ⟨v1,t,e1,h1,v2,t2,e2,h2,e3⟩=> ?_⟩
  subst e3 e2 e1
  cases List.singleton_inj.1 (show [v1]= [_] from h1)
  cases List.singleton_inj.1 (show [v2]= [_] from h2)
  exact (EH x k hp w).mono fun e w' ⟨he,hb⟩=>⟨_,he,by subst hb;exact Below.refl _ _,fun _ _=>rfl⟩
 ·cases h
theorem YI {p q:Prop} (hq:q) (hp:p:=by first |omega|exact And.intro (by omega) (by omega)|(simp only [List.length_set];omega)|exact And.intro (by omega) (by rw [List.length_set];omega)|(refine And.intro (And.intro ?_ ?_) ?_<;>omega)):p∧q:=⟨hp,hq⟩
def TD (a b c d e f g h:UInt8):Nat→List UInt8
 |0=> [a,b,c,d,e,f,g,h]
 |1=> [h,b,c,d,e,f,g,a]
 |2=> [h,g,c,d,e,f,b,a]
 |3=> [h,g,f,d,e,c,b,a]
 |_=> [h,g,f,e,d,c,b,a]
theorem OS (a b c d e f g h:UInt8):∀i,(TD a b c d e f g h i).length=8
 |0|1|2|3|_+4=>rfl
theorem NR (a b c d e f g h:UInt8) {i:Nat} (hi:i<4):TD a b c d e f g h (i+1)=((TD a b c d e f g h i).set (i:Int).toNat ((TD a b c d e f g h i).getD (7-(i:Int)).toNat 0)).set (7-(i:Int)).toNat ((TD a b c d e f g h i).getD (i:Int).toNat 0):=by
 have:i=0∨i=1∨i=2∨i=3:=by omega
 rcases this with rfl|rfl|rfl|rfl<;>rfl
theorem Q_ (a b c d e f g h:UInt8):vc bi (ap []) Tryz.f186.ntmps (ah Tryz.f186) ⟨aq 0 [.one (.rw 1000)],bW 1000 [.row 5 .u8 [a,b,c,d,e,f,g,h]],2000⟩ (nL bi Tryz.f186.ntmps [] [] [(1000,.row 5 .u8 [h,g,f,e,d,c,b,a])] [.row 5 .u8 [a,b,c,d,e,f,g,h]] []):=by
 refine ⟨⟨by show (-9223372036854775808:Int)≤8-1;omega,by show (8:Int)-1<9223372036854775808;omega⟩,fun _=>Or.inr ⟨{i:Nat // i≤4},fun i=>⟨[(2,.one (.ob .int (i.val:Int))),(3,.one (.ob .int (7-(i.val:Int))))],[(1000,.row 5 .u8 (TD a b c d e f g h i.val))]⟩,fun i=>4-i.val,⟨0,by omega⟩,?_⟩⟩
 refine ⟨rfl,rfl,rfl,fun i=>⟨fun h2=> ?_,fun h2=> ?_⟩⟩
 ·have h2:=of_decide_eq_true h2
  have hi:=i.2
  have hl:=OS a b c d e f g h i.val
  repeat refine YI ?_
  refine sj ⟨i.val+1,by omega⟩ ?_
  refine sr (hp:=congrArg (fun z:Int=> [z]) (by show ((i.val+1:Nat):Int)=(i.val:Int)+1;omega))<|sr (hp:=congrArg (fun z:Int=> [z]) (by show 7-((i.val+1:Nat):Int)=7-(i.val:Int)-1;omega)) ⟨NR a b c d e f g h (by omega),trivial⟩
 ·have h2:=of_decide_eq_false h2
  have hi:=i.2
  have e:i.val=4:=by omega
  rw [e]
  exact ⟨rfl,trivial⟩
theorem NP (b:List UInt8):vc bi (ap []) Tryz.f211.ntmps (ah Tryz.f211) ⟨aq 0 [.one (.ro .u8 b)],[],2000⟩ (aI bi Tryz.f211.ntmps [.tmp 2] [.one (.ob .u64 (gb b 8))] []):=by
 refine Or.inr ⟨{i:Nat // i≤8},fun i=>⟨[(4,.one (.ob .int (i.val:Int))),(2,.one (.ob .u64 (gb b i.val)))],[]⟩,fun i=>8-i.val,⟨0,Nat.zero_le _⟩,?_⟩
 refine ⟨rfl,rfl,fun i=>⟨fun h1=> ?_,fun h1=> ?_⟩⟩
 ·have h1:=of_decide_eq_true h1
  have hi:=i.2
  refine fun _=>⟨fun h2=> ?_,fun h2=> ?_⟩
  ·have h2:=of_decide_eq_true h2
   repeat refine sd ?_
   refine sj ⟨i.val+1,by omega⟩<|sr (hp:= ?_)<|sr (hp:= ?_) trivial
   ·show [gb b (i.val+1)]= [kA (gb b i.val) 8|||(b.getD i.val 0).toUInt64]
    rw [gb,if_pos (by omega)]
   ·show [((i.val+1:Nat):Int)]= [(i.val:Int)+1];simp
  ·have h2:=of_decide_eq_false h2
   repeat refine sd ?_
   refine sj ⟨i.val+1,by omega⟩<|sr (hp:= ?_)<|sr (hp:= ?_) trivial
   ·show [gb b (i.val+1)]= [kA (gb b i.val) 8]
    rw [gb,if_neg (by omega)]
   ·show [((i.val+1:Nat):Int)]= [(i.val:Int)+1];simp
 ·have h1:=of_decide_eq_false h1
  have hi:=i.2
  refine ⟨?_,trivial⟩
  show [gb b 8]= [gb b i.val]
  rw [show i.val=8 by omega]
set_option maxRecDepth 10000
theorem SN:az bi (ap []):=aD ax (br fun p hp=>by cases hp)
def Iu:GT:=fun l cs=>match l,cs with
 | [.one (.rw 1000)],[.row 5 .u8 [a,b,c,d,e,f,g,h]]=>some ⟨[],[(1000,.row 5 .u8 [h,g,f,e,d,c,b,a])],[],none⟩
 |_,_=>none
theorem BM:af 186 (qE Iu):=cW ax SN Tryz.func186 (by kernel_rfl) rfl (rs:= []) Tryz.results186 fun l cs g h hp=>by
 unfold Iu at h
 split at h
 ·cases h;exact ⟨Nat.le_of_ble_eq_true rfl,rfl,rfl,rfl,Q_ _ _ _ _ _ _ _ _⟩
 ·cases h
def Ax:GF:=fun l=>match l with
 | [.one (.ro .u8 b)]=>some ⟨[.one (.ob .u64 (gb b 8))],[],none⟩
 |_=>none
theorem yM:af 211 (ar Ax):=ai ax SN Tryz.func211 (by kernel_rfl) rfl (rs:= [.tmp 2]) Tryz.results211 fun l g h hp=>by
 unfold Ax at h
 split at h
 ·cases h;exact ⟨Nat.le_of_ble_eq_true rfl,rfl,rfl,rfl,NP _⟩
 ·cases h
theorem J8:vc bi (ap []) Tryz.f181.ntmps (ah Tryz.f181) ⟨aq 0 [],[],2000⟩ (aI bi Tryz.f181.ntmps [.cell 0 188] [.agg [.vec .u64 8 BD]] []):=
 ⟨rfl,rfl,trivial⟩
theorem Fl:vc bi (ap []) Tryz.f210.ntmps (ah Tryz.f210) ⟨aq 0 [],[],2000⟩ (aI bi Tryz.f210.ntmps [.cell 0 186] [.agg [.vec .u64 80 zR]] []):=
 ⟨rfl,rfl,trivial⟩
theorem tO:af 181 (ar kX):=ai ax SN Tryz.func181 (by kernel_rfl) rfl (rs:= [.cell 0 188]) Tryz.results181 fun l g h hp=>by
 unfold kX at h
 split at h
 ·cases h;exact ⟨Nat.le_of_ble_eq_true rfl,rfl,rfl,rfl,J8⟩
 ·cases h
theorem q7:af 210 (ar iM):=ai ax SN Tryz.func210 (by kernel_rfl) rfl (rs:= [.cell 0 186]) Tryz.results210 fun l g h hp=>by
 unfold iM at h
 split at h
 ·cases h;exact ⟨Nat.le_of_ble_eq_true rfl,rfl,rfl,rfl,Fl⟩
 ·cases h
def Wv:List (Nat×CF):= [(50,ar mw),(71,ar De),(178,ar lD),(181,ar kX),(186,qE Iu),(210,ar iM),(211,ar Ax),(212,ar JP)]
theorem Qq:∀p∈Wv,af p.1 p.2:=ag iN<|ag qC<|ag ko<|ag tO<|ag BM<|ag q7<|ag yM<|ag Bg fun p hp=>by cases hp
theorem Xf:az bi (ap Wv):=aD ax (br Qq)
theorem ME (x:UInt64):vc bi (ap Wv) Tryz.f127.ntmps (ah Tryz.f127) ⟨aq 0 [.one (.ob .u64 x)],[],2000⟩ (aI bi Tryz.f127.ntmps [.tmp 2] [.one (.rw 0)] [(0,.row 5 .u8 (ou x))]):=⟨rfl,trivial⟩
def A4:GF:=fun l=>match l with
 | [.one (.ob .u64 x)]=>some ⟨[.one (.rw 0)],[(0,.row 5 .u8 (ou x))],none⟩
 |_=>none
theorem yu:af 127 (ar A4):=ai ax Xf Tryz.func127 (by kernel_rfl) rfl (rs:= [.tmp 2]) Tryz.results127 fun l g h hp=>by
 unfold A4 at h
 split at h
 ·cases h;exact ⟨Nat.le_of_ble_eq_true rfl,rfl,rfl,rfl,ME _⟩
 ·cases h
def Ts:List (Nat×CF):=(127,ar A4)::Wv
theorem PI:∀p∈Ts,af p.1 p.2:=ag yu Qq
theorem SC:az bi (ap Ts):=aD ax (br PI)
theorem Nb (x:UInt32):vc bi (ap Ts) Tryz.f76.ntmps (ah Tryz.f76) ⟨aq 0 [.one (.ob .u32 x)],[],2000⟩ (aI bi Tryz.f76.ntmps [.tmp 2] [.one (.sub 0 4 4)] [(0,.row 5 .u8 (ou x.toUInt64))]):=by
 have hl:(ou x.toUInt64).length=8:=by simp [ou,au]
 refine ⟨⟨by decide,by show (4:Int)≤((ou x.toUInt64).length:Nat);omega⟩,rfl,by show 4=(ou x.toUInt64).length-4;omega,rfl,trivial⟩
def Ah:GF:=fun l=>match l with
 | [.one (.ob .u32 x)]=>some ⟨[.one (.sub 0 4 4)],[(0,.row 5 .u8 (ou x.toUInt64))],none⟩
 |_=>none
theorem wE:af 76 (ar Ah):=ai ax SC Tryz.func76 (by kernel_rfl) rfl (rs:= [.tmp 2]) Tryz.results76 fun l g h hp=>by
 unfold Ah at h
 split at h
 ·cases h;exact ⟨Nat.le_of_ble_eq_true rfl,rfl,rfl,rfl,Nb _⟩
 ·cases h
theorem N3 {l:List UInt8} (h:8≤l.length):gb l 8=Va (l.take 8):=by
 have:=CV l 8 (by omega) h
 exact UInt64.toNat_inj.1 (by rw [this.1,Va,UInt64.toNat_ofNat',Nat.mod_eq_of_lt this.2])
theorem M9 {b:List UInt8} (hb:128≤b.length) {i:Nat} (hi:i<16):gb (b.drop (8*(i:Int)).toNat) 8=cD (wL (ie b) 80) i:=by
 rw [show (8*(i:Int)).toNat=8*i by omega,N3 (by rw [List.length_drop];omega),PR _ hi]
 unfold cD ie
 rw [cA (by omega)]
abbrev Ux (b:List UInt8) (i:Nat):List UInt64:=dj 0 80 (cD (wL (ie b) 80)) (List.replicate 80 0) i
set_option maxHeartbeats 4000000 in
theorem Sj (h:List UInt64) (b:List UInt8) (hh:h.length=8) (hb:128≤b.length) (hb2:b.length≤16777216):vc bi (ap Ts) Tryz.f183.ntmps (ah Tryz.f183) ⟨aq 0 [.agg [.vec .u64 8 h],.one (.ro .u8 b)],[],2000⟩ (aI bi Tryz.f183.ntmps [.cell 4 188] [.agg [.vec .u64 8 (turn h (ie b))]] []):=by
 refine Or.inr ⟨{i:Nat // i≤80},fun i=>⟨[(22,.one (.ob .int (i.val:Int)))],[(2032,.blk 186 [.vec .u64 80 (Ux b i.val)])]⟩,fun i=>80-i.val,⟨0,by omega⟩,?_⟩
 refine ⟨rfl,rfl,eE (by simp),fun i=>⟨fun h1=>⟨fun h2=> ?_,fun h2=> ?_⟩,fun h1=> ?_⟩⟩
 ·have h1:=of_decide_eq_true h1
  have h2:=of_decide_eq_true h2
  have hi:=i.2
  repeat refine sd ?_
  refine sj ⟨i.val+1,by omega⟩<|sr<|sr ⟨?_,trivial⟩
  exact ((congrArg (fun z=>(Ux b i.val).set i.val z) (M9 hb (by omega))).trans bN).symm
 ·have h1:=of_decide_eq_true h1
  have h2:=of_decide_eq_false h2
  have hi:=i.2
  have k:=fun m (h0:0<m) (hm:m≤16)=>show (Ux b i.val).getD (Int.toNat ((i.val:Int)-(m:Nat))) 0=cD (wL (ie b) 80) (i.val-m) by rw [show Int.toNat ((i.val:Int)-(m:Nat))=i.val-m by omega,io (by omega),if_pos (by omega)]
  repeat refine sd ?_
  refine sj ⟨i.val+1,by omega⟩<|sr<|sr ⟨?_,trivial⟩
  refine ((congrArg (fun z=>(Ux b i.val).set i.val z) ?_).trans bN).symm
  rw [Py _ (by omega) (by omega),←k 16 (by omega) (by omega),←k 15 (by omega) (by omega),←k 7 (by omega) (by omega),←k 2 (by omega) (by omega)]
  rfl
 ·have h1:=of_decide_eq_false h1
  have hi:=i.2
  rw [show i.val=80 by omega,show Ux b 80=wL (ie b) 80 from (b_ (by omega)).trans (le (mR _ _))]
  refine Or.inr ⟨{t:Nat // t≤80},fun t=>⟨[(75,.one (.ob .int (t.val:Int)))],[(3144,.blk 188 [.vec .u64 8 (rL h (wL (ie b) 80) t.val)])]⟩,fun t=>80-t.val,⟨0,by omega⟩,?_⟩
  refine ⟨rfl,rfl,rfl,fun t=>⟨fun h1=> ?_,fun h1=> ?_⟩⟩
  ·have h1:=of_decide_eq_true h1
   have ht:=t.2
   repeat refine sd ?_
   refine sj ⟨t.val+1,by omega⟩<|sr<|sr ⟨?_,trivial⟩
   rfl
  have h1:=of_decide_eq_false h1
  have ht:=t.2
  rw [show t.val=80 by omega]
  refine Or.inr ⟨{t:Nat // t≤8},fun t=>⟨[(157,.one (.ob .int (t.val:Int)))],[(2000,.blk 188 [.vec .u64 8 (dj 0 8 (fun j=>up (cD h j) (cD (rL h (wL (ie b) 80) 80) j)) h t.val)])]⟩,fun t=>8-t.val,⟨0,by omega⟩,?_⟩
  refine ⟨rfl,rfl,eE hh,fun t=>⟨fun h1=> ?_,fun h1=> ?_⟩⟩
  ·have h1:=of_decide_eq_true h1
   have ht:=t.2
   repeat refine sd ?_
   refine sj ⟨t.val+1,by omega⟩<|sr<|sr ⟨?_,trivial⟩
   refine (congrArg (fun z=>(dj 0 8 (fun j=>up (cD h j) (cD (rL h (wL (ie b) 80) 80) j)) h t.val).set t.val z) ?_).trans bN |>.symm
   show up ((dj 0 8 _ h t.val).getD t.val 0) _=_
   rw [io (by omega),if_neg (by omega)]
   rfl
  have h1:=of_decide_eq_false h1
  have ht:=t.2
  rw [show t.val=8 by omega,b_ (by omega)]
  exact ⟨rfl,rfl,trivial⟩
def Jr:GF:=fun l=>match l with
 | [.agg [.vec .u64 8 h],.one (.ro .u8 b)]=>some ⟨[.agg [.vec .u64 8 (turn h (ie b))]],[],some (h.length=8∧128≤b.length∧b.length≤16777216)⟩
 |_=>none
theorem wG:af 183 (ar Jr):=ai ax SC Tryz.func183 (by kernel_rfl) rfl (rs:= [.cell 4 188]) Tryz.results183 fun l g h hp=>by
 unfold Jr at h
 split at h
 ·cases h;exact ⟨Nat.le_of_ble_eq_true rfl,rfl,rfl,rfl,Sj _ _ hp.1 hp.2.1 hp.2.2⟩
 ·cases h
set_option maxRecDepth 10000
theorem CZ (b:List UInt8):b++ [UInt8.ofNat 128]++List.replicate ((2*128-128/8-((b++ [UInt8.ofNat 128]).length:Int)%128)%128).toNat 0++List.replicate ((128:Int)/8-8).toNat 0++ou (UInt64.ofNat 8*UInt64.ofNat b.length)=bZ b:=by
 have e1:((2*128-128/8-((b++ [UInt8.ofNat 128]).length:Int)%128)%128).toNat=(240-(b.length+1)%128)%128:=by
  rw [List.length_append,List.length_singleton]
  omega
 have e2:UInt64.ofNat 8*UInt64.ofNat b.length=UInt64.ofNat (8*b.length):=by
  refine UInt64.toNat_inj.1 ?_
  rw [UInt64.toNat_mul,UInt64.toNat_ofNat',UInt64.toNat_ofNat',UInt64.toNat_ofNat']
  omega
 rw [e1,e2,show ((128:Int)/8-8).toNat=8 from rfl]
 simp only [bZ,List.append_assoc,List.singleton_append,List.cons_append]
 rfl
theorem VT (b:List UInt8) (hb:b.length≤8388608):vc bi (ap Ts) Tryz.f182.ntmps (ah Tryz.f182) ⟨aq 0 [.one (.ro .u8 b),.one (.ob .u64 (UInt64.ofNat b.length)),.one (.ob .int 128)],[],2000⟩ (aI bi Tryz.f182.ntmps [.tmp 6] [.one (.rw 0)] [(0,.row 5 .u8 (bZ b))]):=by
 have hl:(b++ [UInt8.ofNat 128]).length=b.length+1:=by rw [List.length_append];rfl
 have hp:=pQ b
 refine ⟨by show b.length≤16777216;omega,by show (b++ [UInt8.ofNat 128]).length≤_;omega,?_⟩
 repeat refine sd ?_
 refine fun _=> ?_
 repeat refine sd ?_
 exact ⟨Nat.le_trans (Nat.le_of_eq (congrArg List.length (CZ b))) (by omega),(CZ b).symm,trivial⟩
def SB:GF:=fun l=>match l with
 | [.one (.ro .u8 b),.one (.ob .u64 n),.one (.ob .int k)]=>some ⟨[.one (.rw 0)],[(0,.row 5 .u8 (bZ b))],some (n=UInt64.ofNat b.length∧k=(128:Int)∧b.length≤8388608)⟩
 |_=>none
theorem Gl:af 182 (ar SB):=ai ax SC Tryz.func182 (by kernel_rfl) rfl (rs:= [.tmp 6]) Tryz.results182 fun l g h hp=>by
 unfold SB at h
 split at h
 ·rename_i b n k
  cases h
  obtain ⟨h1,h2,h3⟩:=hp
  subst h1 h2
  exact ⟨Nat.le_of_ble_eq_true rfl,rfl,rfl,rfl,VT _ h3⟩
 ·cases h
def Xl:List (Nat×CF):=(182,ar SB)::(183,ar Jr)::Ts
theorem Vq:∀p∈Xl,af p.1 p.2:=ag Gl<|ag wG PI
theorem WO:az bi (ap Xl):=aD ax (br Vq)
set_option maxHeartbeats 1000000 in
theorem QW (q:List (List UInt8)) (hq:q.flatten.length≤8388608):vc bi (ap Xl) Tryz.f120.ntmps (ah Tryz.f120) ⟨aq 0 [.one (.bb q)],[],2000⟩ (aI bi Tryz.f120.ntmps [.tmp 2] [.one (.rw 0)] [(0,.row 5 .u8 (bh q.flatten))]):=by
 have hp:=pQ q.flatten
 refine ⟨by show q.flatten.length≤16777216;omega,Int.natCast_nonneg _,⟨rfl,rfl,hq⟩,fun _=> ?_⟩
 generalize q.flatten=m at hq hp ⊢
 refine Or.inr ⟨{i:Nat // 128*i≤(bZ m).length},fun i=>⟨[(5,.one (.ro .u8 ((bZ m).drop (128*i.val))))],[(2080,.blk 188 [.vec .u64 8 (ww (bZ m) i.val)])]⟩,fun i=>8388864-i.val,⟨0,by omega⟩,?_⟩
 refine ⟨rfl,rfl,rfl,fun i hl2=>⟨fun h1=> ?_,fun h1=> ?_⟩⟩
 ·have h1:=of_decide_eq_true h1
  have hi:=i.2
  obtain ⟨i,hi0⟩:=i
  dsimp only at hi h1 ⊢
  have hd:((bZ m).drop (128*i)).length=(bZ m).length-128*i:=List.length_drop
  rw [hd] at h1
  have hl64:128*i+128≤(bZ m).length:=by rw [hp] at h1 ⊢;omega
  refine ⟨⟨Dn _ _,by rw [hd];omega,by rw [hd];omega⟩,?_⟩
  refine ⟨⟨by decide,by show (128:Int)≤(((bZ m).drop (128*i)).length:Nat);rw [hd];omega⟩,⟨i+1,by omega⟩,(by show 8388864-(i+1)<8388864-i;omega),?_,rfl,rfl,trivial⟩
  show (bZ m).drop (128*(i+1))=((bZ m).drop (128*i)).drop 128
  rw [List.drop_drop]
  rfl
 have h1:=of_decide_eq_false h1
 have hi:=i.2
 have hd:((bZ m).drop (128*i.val)).length=(bZ m).length-128*i.val:=List.length_drop
 rw [hd] at h1
 rw [show i.val=(bZ m).length/128 by omega]
 refine Or.inr ⟨{t:Nat // t≤8},fun t=>⟨[(25,.one (.ob .int (t.val:Int))),(2,.one (.rw 0))],[(0,.row 5 .u8 (fD m t.val))]⟩,fun t=>8-t.val,⟨0,by omega⟩,?_⟩
 refine ⟨rfl,rfl,fun t=>⟨fun h1=> ?_,fun h1=> ?_⟩⟩
 ·have h1:=of_decide_eq_true h1
  have ht:=t.2
  repeat refine sd ?_
  have e4:fD m (t.val+1)=fD m t.val++ou ((ww (bZ m) ((bZ m).length/128)).getD t.val 0):=fY _ _
  refine ⟨?_,sd<|sj ⟨t.val+1,by omega⟩<|sr ⟨e4,trivial⟩⟩
  have:=ky m (t.val+1)
  show (fD m t.val++ou ((ww (bZ m) ((bZ m).length/128)).getD t.val 0)).length≤_
  rw [←e4];omega
 have h1:=of_decide_eq_false h1
 have ht:=t.2
 refine ⟨?_,trivial⟩
 show bh m=fD m t.val
 rw [show t.val=8 by omega]
 rfl
def KO:GF:=fun l=>match l with
 | [.one (.bb q)]=>some ⟨[.one (.rw 0)],[(0,.row 5 .u8 (bh q.flatten))],some (q.flatten.length≤8388608)⟩
 |_=>none
theorem Br:af 120 (ar KO):=ai ax WO Tryz.func120 (by kernel_rfl) rfl (rs:= [.tmp 2]) Tryz.results120 fun l g h hp=>by
 unfold KO at h
 split at h
 ·cases h;exact ⟨Nat.le_of_ble_eq_true rfl,rfl,rfl,rfl,QW _ hp⟩
 ·cases h
set_option maxRecDepth 10000
theorem N4 (w:World):Calls Tryz.prog 185 #[.int .u64 1,.int .u64 32] w fun e w'=>e= .returned (.tuple #[.int .u64 0,.int .u64 32])∧w=w':=by
 have h:=su (x:=1) (y:=32) ⟨by omega,by omega⟩ ⟨by omega,by omega⟩ w
 rw [show (1:Int)*32/18446744073709551616=0 by omega,show (1:Int)*32%18446744073709551616=32 by omega] at h
 go_enter Tryz.func185,Tryz.ntmps185
 go_wp2_with (go_at_call 206;go_must (refine h.mono ?_;rintro e w1 ⟨rfl,rfl⟩))
 go_ret2
 exact ⟨rfl,rfl⟩
def Kh:GF:=fun l=>match l with
 | [.one (.ob .u64 a),.one (.ob .u64 b)]=>some ⟨[.one (.ob .u64 0),.one (.ob .u64 32)],[],some (a=UInt64.ofNat 1∧b=UInt64.ofNat 32)⟩
 |_=>none
theorem Ct:af 185 (ar Kh):=bp Tryz.func185 (by kernel_rfl) rfl fun l g h hp=>by
 unfold Kh at h
 split at h
 ·rename_i a b
  cases h
  obtain ⟨rfl,rfl⟩:=hp
  refine ⟨rfl,rfl,fun η w vs ⟨v1,t,e1,h1,v2,t2,e2,h2,e3⟩=> ?_⟩
  subst e3 e2 e1
  cases List.singleton_inj.1 (show [v1]= [_] from h1)
  cases List.singleton_inj.1 (show [v2]= [_] from h2)
  exact (N4 w).mono fun e w' ⟨he,hb⟩=>⟨_,he,by subst hb;exact Below.refl _ _,fun _ _=>⟨_,rfl,_,_,rfl,rfl,_,_,rfl,rfl,rfl⟩⟩
 ·cases h
def WE:List (Nat×CF):= [(185,ar Kh)]
theorem TR:∀p∈WE,af p.1 p.2:=ag Ct fun p hp=>by cases hp
theorem Xo:az bi (ap WE):=aD ax (br TR)
def Xm (i:Nat):List UInt8:=List.replicate (2^i) 102++List.replicate (32-2^i) 0
theorem Jj:vc bi (ap WE) Tryz.f122.ntmps (ah Tryz.f122) ⟨aq 0 [.one (.ro .u8 [102]),.one (.ob .int 32)],[],2000⟩ (aI bi Tryz.f122.ntmps [.tmp 4] [.one (.rw 0)] [(0,.row 5 .u8 (List.replicate 32 102))]):=by
 refine ⟨fun h=>(by cases h),fun _=> ?_⟩
 refine sd (hp:=Int.natCast_nonneg _)<|sd (hp:=(by decide))<|sd (hp:=⟨rfl,rfl⟩)<|fun _=> ?_
 refine ⟨fun h=>absurd (of_decide_eq_true h) (by decide),fun h=>⟨h,fun h2=>absurd (of_decide_eq_true h2) (by decide),fun _=> ?_⟩⟩
 refine ⟨by decide,⟨by decide,rfl,by decide⟩,?_⟩
 refine Or.inr ⟨Fin 6,fun i=>⟨[(8,.one (.ob .int ((2^i.val:Nat):Int)))],[(2352,.row 5 .u8 (Xm i.val))]⟩,fun i=>5-i.val,0,?_⟩
 refine ⟨by rfl,by rfl,fun i=> ?_⟩
 have hc:i=0∨i=1∨i=2∨i=3∨i=4∨i=5:=by revert i;decide
 rcases hc with rfl|rfl|rfl|rfl|rfl|rfl
 ·exact fun _=>⟨fun _=>⟨⟨by decide,by decide⟩,⟨⟨by decide,by decide⟩,trivial⟩,⟨by decide,by decide⟩,1,by decide,by rfl,by rfl,trivial⟩,fun h=>absurd (by decide) (of_decide_eq_false h)⟩
 ·exact fun _=>⟨fun _=>⟨⟨by decide,by decide⟩,⟨⟨by decide,by decide⟩,trivial⟩,⟨by decide,by decide⟩,2,by decide,by rfl,by rfl,trivial⟩,fun h=>absurd (by decide) (of_decide_eq_false h)⟩
 ·exact fun _=>⟨fun _=>⟨⟨by decide,by decide⟩,⟨⟨by decide,by decide⟩,trivial⟩,⟨by decide,by decide⟩,3,by decide,by rfl,by rfl,trivial⟩,fun h=>absurd (by decide) (of_decide_eq_false h)⟩
 ·exact fun _=>⟨fun _=>⟨⟨by decide,by decide⟩,⟨⟨by decide,by decide⟩,trivial⟩,⟨by decide,by decide⟩,4,by decide,by rfl,by rfl,trivial⟩,fun h=>absurd (by decide) (of_decide_eq_false h)⟩
 ·exact fun _=>⟨fun _=>⟨⟨by decide,by decide⟩,⟨⟨by decide,by decide⟩,trivial⟩,⟨by decide,by decide⟩,5,by decide,by rfl,by rfl,trivial⟩,fun h=>absurd (by decide) (of_decide_eq_false h)⟩
 ·exact fun _=>⟨fun h=>absurd (of_decide_eq_true h) (by decide),fun _=>⟨by rfl,trivial⟩⟩
def vK:GF:=fun l=>match l with
 | [.one (.ro .u8 q),.one (.ob .int n)]=>some ⟨[.one (.rw 0)],[(0,.row 5 .u8 (List.replicate 32 102))],some (q= [102]∧n=(32:Int))⟩
 |_=>none
theorem vi:af 122 (ar vK):=ai ax Xo Tryz.func122 (by kernel_rfl) rfl (rs:= [.tmp 4]) Tryz.results122 fun l g h hp=>by
 unfold vK at h
 split at h
 ·rename_i q n
  cases h
  obtain ⟨rfl,h2⟩:=hp
  subst h2
  exact ⟨Nat.le_of_ble_eq_true rfl,rfl,rfl,rfl,Jj⟩
 ·cases h
def TC:List (Nat×CF):=(67,ar Kj)::(122,ar vK)::(120,ar KO)::Wz
theorem Qu:∀p∈TC,af p.1 p.2:=ag Ci<|ag vi<|ag Br Pu
theorem Sv:az bi (ap TC):=aD ax (br Qu)
theorem Jh (P:EP):i_ (gv P)=t_ P.x P.y∧dx (gv P)=0:=by
 obtain ⟨h1,h2⟩:=nZ P
 exact ⟨by rw [i_,if_pos h2,h1],h2⟩
theorem OB:vc bi (ap TC) Tryz.f72.ntmps (ah Tryz.f72) ⟨aq 0 [],[],2000⟩ (aI bi Tryz.f72.ntmps [.cell 0 116] [(t_ base.x base.y).av] []):=by
 have e:i_ ((List.replicate 32 102).set 0 88)=t_ base.x base.y:=by
  rw [←(Jh base).1,Hq]
  rfl
 refine ⟨⟨rfl,rfl⟩,by show (0:Nat)<32;decide,by show (0:Nat)<32;decide,⟨rfl,congrArg (fun q:Q4=> [q.x]) e.symm⟩,⟨rfl,congrArg (fun q:Q4=> [q.y]) e.symm⟩,⟨rfl,congrArg (fun q:Q4=> [q.z]) e.symm⟩,⟨rfl,congrArg (fun q:Q4=> [q.t]) e.symm⟩,trivial⟩
def Aa:GF:=fun l=>match l with
 | []=>some ⟨[(t_ base.x base.y).av],[],none⟩
 |_=>none
theorem zr:af 72 (ar Aa):=ai ax Sv Tryz.func72 (by kernel_rfl) rfl (rs:= [.cell 0 116]) Tryz.results72 fun l g h hp=>by
 unfold Aa at h
 split at h
 ·cases h;exact ⟨Nat.le_of_ble_eq_true rfl,rfl,rfl,rfl,OB⟩
 ·cases h
theorem IR (q:Q4):vc bi (ap TC) Tryz.f117.ntmps (ah Tryz.f117) ⟨aq 0 [q.av,.one (.ob .int 8)],[],2000⟩ (aI bi Tryz.f117.ntmps [.cell 4 116] [(dy g8 (aH q) 8 253).av] []):=by
 have e:cl (bq 8 (UInt64.ofNat (8:Int).toNat).toNat)=8:=by decide +kernel
 have e2:dy g8 (aH q) 8 253=dy g8 (aH ⟨q.x,q.y,q.z,q.t⟩) (cl (bq 8 (UInt64.ofNat (8:Int).toNat).toNat)) 253:=by rw [e]
 refine ⟨fun h=>absurd (of_decide_eq_true h) (by decide),fun h=>⟨h,fun h2=>absurd (of_decide_eq_true h2) (by decide),fun _=>⟨by decide,⟨rfl,congrArg (fun q:Q4=> [q.x]) e2⟩,⟨rfl,congrArg (fun q:Q4=> [q.y]) e2⟩,⟨rfl,congrArg (fun q:Q4=> [q.z]) e2⟩,⟨rfl,congrArg (fun q:Q4=> [q.t]) e2⟩,trivial⟩⟩⟩
def uv:GF:=fun l=>match l with
 | [.agg [.ob (.x 4) x,.ob (.x 4) y,.ob (.x 4) z,.ob (.x 4) t],.one (.ob .int k)]=>some ⟨[(dy g8 (aH ⟨x,y,z,t⟩) 8 253).av],[],some (k=(8:Int))⟩
 |_=>none
theorem uP:af 117 (ar uv):=ai ax Sv Tryz.func117 (by kernel_rfl) rfl (rs:= [.cell 4 116]) Tryz.results117 fun l g h hp=>by
 unfold uv at h
 split at h
 ·cases h
  cases (show _=(8:Int) from hp)
  exact ⟨Nat.le_of_ble_eq_true rfl,rfl,rfl,rfl,IR ⟨_,_,_,_⟩⟩
 ·cases h
theorem R5 (q:List (List UInt8)) (hq:q.flatten.length≤8388608):vc bi (ap TC) Tryz.f70.ntmps (ah Tryz.f70) ⟨aq 0 [.one (.bb q)],[],2000⟩ (aI bi Tryz.f70.ntmps [.cell 2 121] [.agg [.ob (.x 2) (cl (bh q.flatten))]] []):=⟨hq,⟨rfl,rfl⟩,trivial⟩
def IN:GF:=fun l=>match l with
 | [.one (.bb q)]=>some ⟨[.agg [.ob (.x 2) (cl (bh q.flatten))]],[],some (q.flatten.length≤8388608)⟩
 |_=>none
theorem Bl:af 70 (ar IN):=ai ax Sv Tryz.func70 (by kernel_rfl) rfl (rs:= [.cell 2 121]) Tryz.results70 fun l g h hp=>by
 unfold IN at h
 split at h
 ·cases h;exact ⟨Nat.le_of_ble_eq_true rfl,rfl,rfl,rfl,R5 _ hp⟩
 ·cases h
def Wi:List (Nat×CF):=(70,ar IN)::(72,ar Aa)::(117,ar uv)::TC
theorem PL:∀p∈Wi,af p.1 p.2:=ag Bl<|ag zr<|ag uP Qu
theorem WY:az bi (ap Wi):=aD ax (br PL)
def nc (q:Q4):Bool:=gz (aH (dy g8 (aH q) 8 253)) (aH F_)
theorem HH (q:Q4):vc bi (ap Wi) Tryz.f68.ntmps (ah Tryz.f68) ⟨aq 0 [q.av],[],2000⟩ (aI bi Tryz.f68.ntmps [.tmp 2] [.one (.ob .bool (nc q))] []):=⟨rfl,rfl,trivial⟩
def tx:GF:=fun l=>match l with
 | [.agg [.ob (.x 4) x,.ob (.x 4) y,.ob (.x 4) z,.ob (.x 4) t]]=>some ⟨[.one (.ob .bool (nc ⟨x,y,z,t⟩))],[],none⟩
 |_=>none
theorem tK:af 68 (ar tx):=ai ax WY Tryz.func68 (by kernel_rfl) rfl (rs:= [.tmp 2]) Tryz.results68 fun l g h hp=>by
 unfold tx at h
 split at h
 ·cases h;exact ⟨Nat.le_of_ble_eq_true rfl,rfl,rfl,rfl,HH ⟨_,_,_,_⟩⟩
 ·cases h
set_option maxRecDepth 10000
def xg (y:F):F:=aO (nM (aO y y) (fn (UInt64.ofNat 1).toNat)) (aY (mX (aO dE (aO y y)) (fn (UInt64.ofNat 1).toNat)))
theorem tj (y:F):xg y=xx y:=by
 show (y*y-fn 1)*aY (dE*(y*y)+fn 1)=(y*y-1)*aY (y*y*dE+1)
 rw [F1,show dE*(y*y)=y*y*dE by generalize dE=d;grind]
theorem lP {b:List UInt8} (h:dV b=Cp.zero∧dx b=12):qZ b=yV∧dx b=12:=by
 refine ⟨?_,h.2⟩
 unfold qZ
 rw [h.1,F1]
 show (⟨0,1,1⟩:Q3)=⟨0,fn 1,fn 1⟩
 rw [F1]
theorem TV (c:UInt8):(r8 c 7=UInt8.ofNat 1)↔(c.toNat/128%2 ==1)=true:=by
 have h:∀c:Nat,c<256→(decide (r8 (UInt8.ofNat c) 7=UInt8.ofNat 1))=(c/128%2 ==1):=by decide +kernel
 have:=h c.toNat c.toNat_lt
 rw [UInt8.ofNat_toNat] at this
 rw [←this,decide_eq_true_iff]
theorem UP {b:List UInt8} {y:F} (h1:b.length=32) (h2:dJ b<Pq) (hy:fn (dJ b)=y) (hr:bM (xx y)=0) (hs:zl b=true) (hx:¬aT (xx y)=0):qZ b=⟨lM (aT (xg y)),y,fn 1⟩∧dx b=0:=by
 obtain ⟨a1,a2,a3⟩:=uV h1 h2 hy hr hs (fun k=>hx k.2)
 refine ⟨?_,a1⟩
 unfold qZ
 rw [a2,a3,tj,if_pos rfl,lM]
theorem QA {b:List UInt8} {y:F} (h1:b.length=32) (h2:dJ b<Pq) (hy:fn (dJ b)=y) (hr:bM (xx y)=0) (hs:zl b=false):qZ b=⟨aT (xg y),y,fn 1⟩∧dx b=0:=by
 obtain ⟨a1,a2,a3⟩:=uV h1 h2 hy hr hs (fun k=>by cases k.1)
 refine ⟨?_,a1⟩
 unfold qZ
 rw [a2,a3,tj,if_neg Bool.false_ne_true]
set_option maxHeartbeats 2000000 in
theorem SU (b:List UInt8):vc gp (ap Wg) Tryz.f96.ntmps (ah Tryz.f96) ⟨aq 0 [.one (.ro .u8 b)],[],2000⟩ (aI gp Tryz.f96.ntmps [.cell 2 145,.tmp 3] [(qZ b).av,.one (.ob .int (dx b))] []):=by
 refine fun hl=>⟨fun h=> ?_,fun h=> ?_⟩
 ·have h1:b.length≠32:=by have:=of_decide_eq_true h;omega
  obtain ⟨a1,a2⟩:=lP (wk h1)
  rw [a1,a2]
  exact ⟨⟨rfl,rfl⟩,⟨rfl,rfl⟩,⟨rfl,rfl⟩,rfl,trivial⟩
 ·have h1:b.length=32:=by have:=of_decide_eq_false h;omega
  clear h
  have h31:31<b.length:=by omega
  obtain ⟨c1,c2⟩:=IU h1
  refine ⟨by show b.length≤_;omega,h31,h31,h31,h31,fun h=> ?_,fun h=> ?_⟩
  ·have h2:¬dJ b<Pq:=fun hlt=>by
    have h:decide (zE (nP b)≠0)=true:=h
    have e:LJ (nP b)=true:=decide_eq_true ⟨c1,by rw [c2];exact hlt⟩
    unfold zE at h
    rw [e] at h
    cases h
   obtain ⟨a1,a2⟩:=lP (C7 h2)
   rw [a1,a2]
   exact ⟨⟨rfl,rfl⟩,⟨rfl,rfl⟩,⟨rfl,rfl⟩,rfl,trivial⟩
  ·have h2:dJ b<Pq:=by
    have h:decide (zE (nP b)≠0)=false:=h
    unfold zE at h
    cases e:LJ (nP b) with
    |false=>rw [e] at h;cases h
    |true=>
     have:=of_decide_eq_true e
     rw [←c2];exact this.2
   have hy:fn (dJ b)=xI (nP b):=by
    have e:LJ (nP b)=true:=decide_eq_true ⟨c1,by rw [c2];exact h2⟩
    unfold xI
    rw [e,c2]
    rfl
   clear h
   have hs:=xc h1
   refine ⟨h31,fun h=> ?_,fun h=> ?_⟩
   ·have h3:¬bM (xx (xI (nP b)))=0:=by
     rw [←tj]
     exact of_decide_eq_true h
    obtain ⟨a1,a2⟩:=lP (w_ h1 h2 hy h3)
    rw [a1,a2]
    exact ⟨h,⟨rfl,rfl⟩,⟨rfl,rfl⟩,⟨rfl,rfl⟩,rfl,trivial⟩
   ·have h3:bM (xx (xI (nP b)))=0:=by
     rw [←tj]
     have:=of_decide_eq_false h
     exact Decidable.not_not.1 this
    have hodd:=TV (b.getD 31 0)
    rw [←hs] at hodd
    refine ⟨fun h4=>⟨h,h4,fun h5=> ?_,fun h5=>⟨fun h6=> ?_,fun h6=> ?_⟩⟩,fun h4=>⟨h,h4,fun h5=> ?_,fun h5=> ?_⟩⟩
    ·have h4:aT (xx (xI (nP b)))=0:=by rw [←tj];exact of_decide_eq_true h4
     obtain ⟨a1,a2⟩:=lP (Ev h1 h2 hy h3 (hodd.1 (of_decide_eq_true h5)) h4)
     rw [a1,a2]
     exact ⟨⟨rfl,rfl⟩,⟨rfl,rfl⟩,⟨rfl,rfl⟩,rfl,trivial⟩
    ·exact absurd (of_decide_eq_true h6) (of_decide_eq_false h5)
    ·have h5:zl b=false:=by
      cases e:zl b with
      |false=>rfl
      |true=>exact absurd (hodd.2 e) (of_decide_eq_false h5)
     obtain ⟨a1,a2⟩:=QA h1 h2 hy h3 h5
     rw [a1,a2]
     exact ⟨⟨rfl,rfl⟩,⟨rfl,rfl⟩,⟨rfl,rfl⟩,rfl,trivial⟩
    ·have h4:¬aT (xx (xI (nP b)))=0:=by rw [←tj];exact of_decide_eq_false h4
     obtain ⟨a1,a2⟩:=UP h1 h2 hy h3 (hodd.1 (of_decide_eq_true h5)) h4
     rw [a1,a2]
     exact ⟨⟨rfl,rfl⟩,⟨rfl,rfl⟩,⟨rfl,rfl⟩,rfl,trivial⟩
    ·have h5:zl b=false:=by
      cases e:zl b with
      |false=>rfl
      |true=>exact absurd (hodd.2 e) (of_decide_eq_false h5)
     obtain ⟨a1,a2⟩:=QA h1 h2 hy h3 h5
     rw [a1,a2]
     exact ⟨⟨rfl,rfl⟩,⟨rfl,rfl⟩,⟨rfl,rfl⟩,rfl,trivial⟩
def Kq:GF:=fun l=>match l with
 | [.one (.ro .u8 b)]=>some ⟨[(qZ b).av,.one (.ob .int (dx b))],[],none⟩
 |_=>none
theorem AI:af 96 (ar Kq):=ai dc WF Tryz.func96 (by kernel_rfl) rfl (rs:= [.cell 2 145,.tmp 3]) Tryz.results96 fun l g h hp=>by
 unfold Kq at h
 split at h
 ·cases h;exact ⟨Nat.le_of_ble_eq_true rfl,rfl,rfl,rfl,SU _⟩
 ·cases h
def Wp:List (Nat×CF):=(88,ar KW)::(89,ar JH)::(96,ar Kq)::Wg
theorem PM:∀p∈Wp,af p.1 p.2:=ag Cg<|ag AT<|ag AI Qz
theorem Xw:az gp (ap Wp):=aD dc (br PM)
theorem IJ:vc gp (ap Wp) Tryz.f87.ntmps (ah Tryz.f87) ⟨aq 0 [],[],2000⟩ (aI gp Tryz.f87.ntmps [.cell 0 145] [.agg [.ob (.x 1) base.x,.ob (.x 1) base.y,.ob (.x 1) (fn 1)]] []):=by
 have h2:fn 5*aY (fn 5)=1:=dn (by decide +kernel)
 have h3:fn 5*oZ=fn 4:=by decide +kernel
 have e:aO (fn (UInt64.ofNat 4).toNat) (aY (fn (UInt64.ofNat 5).toNat))=oZ:=by
  show fn 4*aY (fn 5)=oZ
  rw [←h3]
  generalize aY (fn 5)=i at h2 ⊢
  generalize (fn 5:F)=w at h2 ⊢
  generalize oZ=d
  grind
 have e2:bq 32 (aO (fn (UInt64.ofNat 4).toNat) (aY (fn (UInt64.ofNat 5).toNat))).val=gv base:=by
  rw [e]
  decide +kernel
 have e3:=nZ base
 have ex:qZ (bq 32 (aO (fn (UInt64.ofNat 4).toNat) (aY (fn (UInt64.ofNat 5).toNat))).val)=⟨base.x,base.y,fn 1⟩:=by
  rw [e2]
  unfold qZ
  rw [e3.1]
 exact ⟨⟨rfl,congrArg (fun q:Q3=> [q.x]) ex.symm⟩,⟨rfl,congrArg (fun q:Q3=> [q.y]) ex.symm⟩,⟨rfl,rfl⟩,trivial⟩
def uM:GF:=fun l=>match l with
 | []=>some ⟨[.agg [.ob (.x 1) base.x,.ob (.x 1) base.y,.ob (.x 1) (fn 1)]],[],none⟩
 |_=>none
theorem wb:af 87 (ar uM):=ai dc Xw Tryz.func87 (by kernel_rfl) rfl (rs:= [.cell 0 145]) Tryz.results87 fun l g h hp=>by
 unfold uM at h
 split at h
 ·cases h;exact ⟨Nat.le_of_ble_eq_true rfl,rfl,rfl,rfl,IJ⟩
 ·cases h
def Wl:List (Nat×CF):=(87,ar uM)::Wp
theorem VV:∀p∈Wl,af p.1 p.2:=ag wb PM
theorem UJ:az gp (ap Wl):=aD dc (br VV)
set_option maxRecDepth 10000
def DA (n:Nat):Q3:=gO dE ⟨base.x,base.y,fn 1⟩ n 256
def kJ (n:Nat):List UInt8:=rh (aO (DA n).x (aY (DA n).z)) (aO (DA n).y (aY (DA n).z))
theorem uG {n:Nat} (h:n<Lq):kJ n=gv (Cp.mul n base):=NI (Id (Vs base) n (Nat.lt_trans h (by decide +kernel)))
theorem KQ (seed:List UInt8) (hs:seed.length≤8388608):vc gp (ap Wl) Tryz.f82.ntmps (ah Tryz.f82) ⟨aq 0 [.one (.ro .u8 seed)],[],2000⟩ (aI gp Tryz.f82.ntmps [.tmp 2] [.one (.rw 0)] [(0,.row 5 .u8 (ll seed))]):=by
 have hl:=p8 seed
 refine ⟨hs,⟨⟨by decide,by show (32:Int)≤((bh seed).length:Nat);omega⟩,trivial⟩,?_,trivial⟩
 show ll seed=kJ (qA seed)
 rw [uG (K4 seed)]
 rfl
def tZ:GF:=fun l=>match l with
 | [.one (.ro .u8 seed)]=>some ⟨[.one (.rw 0)],[(0,.row 5 .u8 (ll seed))],some (seed.length≤8388608)⟩
 |_=>none
theorem vq:af 82 (ar tZ):=ai dc UJ Tryz.func82 (by kernel_rfl) rfl (rs:= [.tmp 2]) Tryz.results82 fun l g h hp=>by
 unfold tZ at h
 split at h
 ·cases h;exact ⟨Nat.le_of_ble_eq_true rfl,rfl,rfl,rfl,KQ _ hp⟩
 ·cases h
theorem pE (x y:F):(rh x y).length=32:=by
 unfold rh
 split
 ·rw [List.length_set,au]
 ·exact au _ _
theorem G2 (a b:List UInt8): [a,b].flatten=a++b:=by simp
theorem Mg (a b c:List UInt8): [a,b,c].flatten=a++(b++c):=by simp
theorem Sc (seed text:List UInt8) (hs:seed.length≤8388608) (ht:text.length≤8388000):vc gp (ap Wl) Tryz.f55.ntmps (ah Tryz.f55) ⟨aq 0 [.one (.ro .u8 seed),.one (.ro .u8 text)],[],2000⟩ (aI gp Tryz.f55.ntmps [.tmp 4] [.one (.rw 0)] [(0,.row 5 .u8 (fG seed text))]):=by
 have hl:=p8 seed
 have hl1:(32:Int)≤((bh seed).length:Nat):=by omega
 obtain ⟨T,eT⟩:∃T,T=((bh seed).drop 32).take ((bh seed).length-32):=⟨_,rfl⟩
 have hT:T=qP seed:=by rw [eT,List.take_of_length_le (by rw [List.length_drop];omega)];rfl
 have hT2:T.length=32:=by rw [hT,qP,List.length_drop];omega
 have h2: [T,text].flatten.length≤8388608:=by rw [G2,List.length_append];omega
 have h3:∀n m,[kJ n,kJ m,text].flatten.length≤8388608:=fun n m=>by
  have e1:(kJ n).length=32:=pE _ _
  have e2:(kJ m).length=32:=pE _ _
  rw [Mg,List.length_append,List.length_append];omega
 have h4:∀n m,[kJ n,bq 32 m].flatten.length≤16777216:=fun n m=>by
  have e1:(kJ n).length=32:=pE _ _
  rw [G2,List.length_append,au];omega
 have h5:∀n m,[kJ n,kJ m,text].flatten.length≤16777216:=fun n m=>Nat.le_trans (h3 n m) (by decide)
 have e1:kJ (cl (bh [T,text].flatten))=qR (qP seed) text:=by
  rw [uG (ly _),G2,hT]
  rfl
 have e2:kJ (qA seed)=ll seed:=uG (K4 seed)
 have eq:fG seed text= [kJ (cl (bh [T,text].flatten)),bq 32 (Jv (cl (bh [T,text].flatten)) (Lb (cl (bh [kJ (cl (bh [T,text].flatten)),kJ (qA seed),text].flatten)) (qA seed)))].flatten:=by
  rw [e1,e2,G2,G2,Mg,hT]
  rfl
 have n2:2≤1000:=by decide
 have n3:3≤1000:=by decide
 subst eT
 refine ⟨hs,⟨⟨by decide,hl1⟩,trivial⟩,⟨by decide,hl1⟩,⟨n2,Nat.le_trans h2 (by decide)⟩,h2,⟨n3,h5 _ _⟩,h3 _ _,⟨n2,h4 _ _⟩,eq,trivial⟩
def Hi:GF:=fun l=>match l with
 | [.one (.ro .u8 seed),.one (.ro .u8 text)]=>some ⟨[.one (.rw 0)],[(0,.row 5 .u8 (fG seed text))],some (seed.length≤8388608∧text.length≤8388000)⟩
 |_=>none
theorem AQ:af 55 (ar Hi):=ai dc UJ Tryz.func55 (by kernel_rfl) rfl (rs:= [.tmp 4]) Tryz.results55 fun l g h hp=>by
 unfold Hi at h
 split at h
 ·cases h;exact ⟨Nat.le_of_ble_eq_true rfl,rfl,rfl,rfl,Sc _ _ hp.1 hp.2⟩
 ·cases h
set_option maxRecDepth 10000
def Xe:List (Nat×CF):=(68,ar tx)::Wi
theorem T3:∀p∈Xe,af p.1 p.2:=ag tK PL
theorem XV:az bi (ap Xe):=aD ax (br T3)
theorem EV {a b:Q4} {P Q:EP} (h:DB a P) (h':DB b Q):gz a b=decide (P=Q):=by
 have:=xd h h'
 rwa [gC h,gC h'] at this
theorem sW (P:EP):nc (t_ P.x P.y)=decide (Cp.mul 8 P=Cp.zero):=by
 have h:=o9 (p9 P) 8 (by decide +kernel)
 unfold nc
 rw [gC h]
 exact EV h DY
theorem O5 (A R:EP) (s k:Nat) (hs:s<Lq) (hk:k<Lq):gz (aH (dy g8 (aH (t_ base.x base.y)) s 253)) (aH (lh (aH (t_ R.x R.y)) (aH (dy g8 (aH (t_ A.x A.y)) k 253)) g8))=decide (Cp.mul s base=Cp.add R (Cp.mul k A)):=by
 have h1:=o9 (p9 base) s hs
 have h2:=o9 (p9 A) k hk
 have h3:=p9 R
 rw [gC h3,gC h2]
 exact xd h1 (ol h3 h2)
theorem n9 {b:List UInt8} (h:dx b=0):i_ b=t_ (dV b).x (dV b).y:=if_pos h
theorem Hb {b:List UInt8} (h:dx b=0):b.length=32:=by
 by_cases k:b.length=32
 ·exact k
 ·rw [(wk k).2] at h;cases h
theorem U7 {b:List UInt8} (h:KT b=0):b.length=32∧bm b<Lq∧EL b=bm b:=by
 cases e:VL b with
 |false=>rw [KT,e] at h;cases h
 |true=>
  obtain ⟨h1,h2⟩:=of_decide_eq_true e
  exact ⟨h1,h2,by rw [EL,e];rfl⟩
theorem UQ {b:List UInt8} (hl:b.length=32) (h:KT b≠0):¬bm b<Lq:=fun k=>h (DQ ⟨hl,k⟩).2
theorem Is (pub sig:List UInt8) (q:List (List UInt8)) (hq:q.flatten.length≤8388000):vc bi (ap Xe) Tryz.f45.ntmps (ah Tryz.f45) ⟨aq 0 [.one (.ro .u8 pub),.one (.ro .u8 sig),.one (.bb q)],[],2000⟩ (aI bi Tryz.f45.ntmps [.tmp 6] [.one (.ob .int (iq pub sig q.flatten))] []):=by
 refine ⟨fun h1=> ?_,fun h1=> ?_⟩
 ·refine ⟨h1,?_,trivial⟩
  show [iq pub sig q.flatten]= [12]
  rw [iq,if_neg (of_decide_eq_true h1)]
 have c1:dx pub=0:=Decidable.not_not.1 (of_decide_eq_false h1)
 have l1:=Hb c1
 refine ⟨h1,fun h2=> ?_,fun h2=> ?_⟩
 ·refine ⟨?_,trivial⟩
  show [iq pub sig q.flatten]= [12]
  have h2:nc (i_ pub)=true:=h2
  rw [n9 c1,sW] at h2
  rw [iq,if_pos c1,if_pos (of_decide_eq_true h2)]
 have c2:¬Cp.mul 8 (dV pub)=Cp.zero:=by
  have h2:nc (i_ pub)=false:=h2
  rw [n9 c1,sW] at h2
  exact of_decide_eq_false h2
 refine fun hl=>⟨fun h3=> ?_,fun h3=> ?_⟩
 ·refine ⟨?_,trivial⟩
  show [iq pub sig q.flatten]= [3]
  have h3:sig.length≠64:=by have:=of_decide_eq_true h3;omega
  rw [iq,if_pos c1,if_neg c2,if_neg h3]
 have c3:sig.length=64:=by have:=of_decide_eq_false h3;omega
 have l2:(sig.take 32).length=32:=by rw [List.length_take];omega
 have l3:(sig.drop 32).length=32:=by rw [List.length_drop];omega
 have s1:(32:Int)≤(sig.length:Nat):=by omega
 refine ⟨⟨⟨by decide,s1⟩,trivial⟩,fun h4=> ?_,fun h4=> ?_⟩
 ·refine ⟨?_,trivial⟩
  show [iq pub sig q.flatten]= [3]
  have h4:¬dx (sig.take 32)=0:=of_decide_eq_true h4
  rw [iq,if_pos c1,if_neg c2,if_pos c3,if_neg h4]
 have c4:dx (sig.take 32)=0:=Decidable.not_not.1 (of_decide_eq_false h4)
 refine ⟨⟨by decide,s1⟩,fun h5=> ?_,fun h5=> ?_⟩
 ·refine ⟨?_,trivial⟩
  show [iq pub sig q.flatten]= [3]
  have h5:¬KT (sig.drop 32)=0:=of_decide_eq_true h5
  rw [iq,if_pos c1,if_neg c2,if_pos c3,if_pos c4,if_neg (UQ l3 h5)]
 have c5:KT (sig.drop 32)=0:=Decidable.not_not.1 (of_decide_eq_false h5)
 obtain ⟨_,c6,c7⟩:=U7 c5
 have hc: [sig.take 32,pub,q.flatten].flatten.length≤8388608:=by
  rw [Mg,List.length_append,List.length_append];omega
 have key:gz (aH (dy g8 (aH (t_ base.x base.y)) (EL (sig.drop 32)) 253)) (aH (lh (aH (i_ (sig.take 32))) (aH (dy g8 (aH (i_ pub)) (cl (bh [sig.take 32,pub,q.flatten].flatten)) 253)) g8))=decide (Cp.mul (bm (sig.drop 32)) base=Cp.add (dV (sig.take 32)) (Cp.mul (cl (bh (sig.take 32++(pub++q.flatten)))) (dV pub))):=by
  rw [n9 c4,n9 c1,O5 _ _ _ _ (QZ _) (ly _),c7,Mg]
 refine ⟨⟨⟨by decide,s1⟩,trivial⟩,by show q.flatten.length≤16777216;omega,hc,fun h6=> ?_,fun h6=> ?_⟩
 ·refine ⟨?_,trivial⟩
  show [iq pub sig q.flatten]= [3]
  replace h6:(!gz (aH (dy g8 (aH (t_ base.x base.y)) (EL (sig.drop 32)) 253)) (aH (lh (aH (i_ (sig.take 32))) (aH (dy g8 (aH (i_ pub)) (cl (bh [sig.take 32,pub,q.flatten].flatten)) 253)) g8)))=true:=h6
  rw [key] at h6
  rw [iq,if_pos c1,if_neg c2,if_pos c3,if_pos c4,if_pos c6,if_neg fun k=>by rw [decide_eq_true k] at h6;cases h6]
 ·refine ⟨?_,trivial⟩
  show [iq pub sig q.flatten]= [0]
  replace h6:(!gz (aH (dy g8 (aH (t_ base.x base.y)) (EL (sig.drop 32)) 253)) (aH (lh (aH (i_ (sig.take 32))) (aH (dy g8 (aH (i_ pub)) (cl (bh [sig.take 32,pub,q.flatten].flatten)) 253)) g8)))=false:=h6
  rw [key] at h6
  rw [iq,if_pos c1,if_neg c2,if_pos c3,if_pos c4,if_pos c6,if_pos (of_decide_eq_true (by simpa using h6))]
def wj:GF:=fun l=>match l with
 | [.one (.ro .u8 pub),.one (.ro .u8 sig),.one (.bb q)]=>some ⟨[.one (.ob .int (iq pub sig q.flatten))],[],some (q.flatten.length≤8388000)⟩
 |_=>none
theorem vm:af 45 (ar wj):=ai ax XV Tryz.func45 (by kernel_rfl) rfl (rs:= [.tmp 6]) Tryz.results45 fun l g h hp=>by
 unfold wj at h
 split at h
 ·cases h;exact ⟨Nat.le_of_ble_eq_true rfl,rfl,rfl,rfl,Is _ _ _ hp⟩
 ·cases h
set_option maxRecDepth 10000
theorem Uc:az bi (ap []):=aD ax (br fun p hp=>by cases hp)
def gP (c:List UInt8) (i:Nat):Nat→Nat
 |0=>0
 |k+1=>gP c i k+cK c (12*i+k)*2^k
theorem vl (c:List UInt8) (i:Nat):∀k,gP c i k<2^k
 |0=>by simp [gP]
 |k+1=>by
  have h:=vl c i k
  have hb:=j_ c (12*i+k)
  rw [gP,Nat.pow_succ]
  have:cK c (12*i+k)=0∨cK c (12*i+k)=1:=by omega
  rcases this with e|e<;>rw [e]<;>omega
theorem Oc (c:List UInt8) (i k:Nat) (hk:k<12):UInt16.ofNat (gP c i k)|||Sb (r8 (c.getD ((12*i+k)/8) 0) ((12*i+k)%8)&&&1).toUInt16 k=UInt16.ofNat (gP c i (k+1)):=by
 have h:=vl c i k
 have h2:=vl c i (k+1)
 have hb:=j_ c (12*i+k)
 have hp:2^k≤2^11:=Nat.pow_le_pow_right (by omega) (by omega)
 have hp2:2^(k+1)≤2^12:=Nat.pow_le_pow_right (by omega) (by omega)
 refine UInt16.toNat_inj.1 ?_
 rw [UInt16.toNat_or,Sb,UInt16.toNat_ofNat',UInt16.toNat_ofNat',UInt16.toNat_ofNat',UInt8.toNat_toUInt16,uJ,←cK]
 rw [Nat.mod_eq_of_lt (show gP c i k<2^16 by omega),Nat.mod_eq_of_lt (show gP c i (k+1)<2^16 by omega),gP]
 have:cK c (12*i+k)=0∨cK c (12*i+k)=1:=by omega
 rcases this with e|e
 ·rw [e,Nat.zero_mul,Nat.zero_mod,Nat.or_zero,Nat.add_zero]
 ·rw [e,Nat.one_mul,Nat.mod_eq_of_lt (show 2^k<2^16 by omega),Nat.or_comm]
  have h4:=Nat.shiftLeft_add_eq_or_of_lt h 1
  rw [Nat.shiftLeft_eq,Nat.one_mul] at h4
  omega
def Tz (c:List UInt8) (i:Nat):UInt16:=UInt16.ofNat (gP c i 12)
abbrev OR (c:List UInt8) (i:Nat):List UInt16:=dj 0 256 (Tz c) (List.replicate 256 0) i
theorem Ie (c:List UInt8) {i:Nat} (h:i<256):(OR c i).set i (UInt16.ofNat (gP c i 0))=OR c i:=by
 apply List.ext_getElem (by simp)
 intro j h1 h2
 rw [List.getElem_set]
 split
 ·rename_i e
  subst e
  simp only [dj,List.getElem_map,List.getElem_range]
  rw [if_neg (Nat.lt_irrefl _),List.getD_eq_getElem?_getD,List.getElem?_replicate]
  split<;>rfl
 ·rfl
theorem I0 (b:List UInt8) (hb:384≤b.length):vc bi (ap []) Tryz.f128.ntmps (ah Tryz.f128) ⟨aq 0 [.one (.ob .int 12),.one (.ro .u8 b)],[],2000⟩ (aI bi Tryz.f128.ntmps [.cell 4 135] [.agg [.vec .u16 256 ((List.range 256).map (Tz b))]] []):=by
 refine Or.inr ⟨{i:Nat // i≤256},fun i=>⟨[(8,.one (.ob .int (i.val:Int)))],[(2000,.blk 135 [.vec .u16 256 (OR b i.val)])]⟩,fun i=>256-i.val,⟨0,by omega⟩,?_⟩
 refine ⟨rfl,rfl,eE (by simp),fun i=>⟨fun h1=> ?_,fun h1=> ?_⟩⟩
 ·have h1:=of_decide_eq_true h1
  have hi:=i.2
  refine Or.inr ⟨{k:Nat // k≤12},fun k=>⟨[(12,.one (.ob .int (k.val:Int)))],[(2000,.blk 135 [.vec .u16 256 ((OR b i.val).set i.val (UInt16.ofNat (gP b i.val k.val)))])]⟩,fun k=>12-k.val,⟨0,by omega⟩,?_⟩
  refine ⟨rfl,rfl,Ie b (by omega),fun k=>⟨fun h2=> ?_,fun h2=> ?_⟩⟩
  ·have h2:=of_decide_eq_true h2
   have hk:=k.2
   repeat refine sd ?_
   refine sj ⟨k.val+1,by omega⟩<|sr<|sr ⟨?_,trivial⟩
   have e1:((i.val:Int)*12+(k.val:Int))/8=(((12*i.val+k.val)/8:Nat):Int):=by omega
   have e2:((i.val:Int)*12+(k.val:Int))%8=(((12*i.val+k.val)%8:Nat):Int):=by omega
   have e3:((OR b i.val).set i.val (UInt16.ofNat (gP b i.val k.val))).getD (i.val:Int).toNat 0=UInt16.ofNat (gP b i.val k.val):=by
    rw [Int.toNat_natCast,List.getD_eq_getElem?_getD,List.getElem?_set_self (by rw [mj];omega)]
    rfl
   have e4:=Oc b i.val k.val (by omega)
   show (OR b i.val).set i.val (UInt16.ofNat (gP b i.val (k.val+1)))=((OR b i.val).set i.val (UInt16.ofNat (gP b i.val k.val))).set (i.val:Int).toNat (((OR b i.val).set i.val (UInt16.ofNat (gP b i.val k.val))).getD (i.val:Int).toNat 0|||Sb (r8 (b.getD (((i.val:Int)*12+(k.val:Int))/8).toNat 0) (((i.val:Int)*12+(k.val:Int))%8).toNat&&&1).toUInt16 (k.val:Int).toNat)
   rw [e3,e1,e2,Int.toNat_natCast,Int.toNat_natCast,Int.toNat_natCast,Int.toNat_natCast,e4,List.set_set]
  ·have h2:=of_decide_eq_false h2
   have hk:=k.2
   rw [show k.val=12 by omega]
   repeat refine sd ?_
   exact sj ⟨i.val+1,by omega⟩<|sr<|sr ⟨bN.symm,trivial⟩
 ·have h1:=of_decide_eq_false h1
  have hi:=i.2
  rw [show i.val=256 by omega,show OR b 256=(List.range 256).map (Tz b) from b_ (by omega)]
  exact ⟨rfl,rfl,trivial⟩
def vD:GF:=fun l=>match l with
 | [.one (.ob .int d),.one (.ro .u8 b)]=>some ⟨[.agg [.vec .u16 256 ((List.range 256).map (Tz b))]],[],some (d=(12:Int)∧384≤b.length)⟩
 |_=>none
theorem tV:af 128 (ar vD):=ai ax Uc Tryz.func128 (by kernel_rfl) rfl (rs:= [.cell 4 135]) Tryz.results128 fun l g h hp=>by
 unfold vD at h
 split at h
 ·cases h
  obtain ⟨h1,h2⟩:=hp
  subst h1
  exact ⟨Nat.le_of_ble_eq_true rfl,rfl,rfl,rfl,I0 _ h2⟩
 ·cases h
def gd (f:List UInt16):Bool:=(List.range 256).all fun i=>decide ((f.getD i 0).toNat<3329)
theorem Vz (f:List UInt16):vc bi (ap []) Tryz.f79.ntmps (ah Tryz.f79) ⟨aq 0 [.agg [.vec .u16 256 f]],[],2000⟩ (aI bi Tryz.f79.ntmps [.tmp 2] [.one (.ob .bool (gd f))] []):=by
 refine Or.inr ⟨{i:Nat // i≤256∧∀j,j<i→(f.getD j 0).toNat<3329},fun i=>⟨[(6,.one (.ob .int (i.val:Int)))],[]⟩,fun i=>256-i.val,⟨0,by omega,fun j hj=>by omega⟩,?_⟩
 refine ⟨rfl,fun i=>⟨fun h1=> ?_,fun h1=> ?_⟩⟩
 ·have h1:=of_decide_eq_true h1
  obtain ⟨i,hi,hall⟩:=i
  dsimp only at h1 ⊢
  repeat refine sd ?_
  refine ⟨fun h2=> ?_,fun h2=> ?_⟩
  ·have h2:UInt16.ofNat 3329≤f.getD (i:Int).toNat 0:=of_decide_eq_true h2
   refine ⟨?_,trivial⟩
   show [gd f]= [false]
   refine congrArg (fun z=> [z]) ?_
   unfold gd
   rw [List.all_eq_false]
   refine ⟨i,List.mem_range.2 (by omega),?_⟩
   have:(3329:Nat)≤(f.getD i 0).toNat:=h2
   simp only [decide_eq_true_eq]
   omega
  ·have h2:¬UInt16.ofNat 3329≤f.getD (i:Int).toNat 0:=of_decide_eq_false h2
   have h3:(f.getD i 0).toNat<3329:=Nat.lt_of_not_le h2
   repeat refine sd ?_
   have hnew:∀j,j<i+1→(f.getD j 0).toNat<3329:=fun j hj=>by
    by_cases e:j<i
    ·exact hall j e
    ·rw [show j=i by omega];exact h3
   exact ⟨⟨i+1,by omega,hnew⟩,(by show 256-(i+1)<256-i;omega),by rfl,trivial⟩
 ·have h1:=of_decide_eq_false h1
  obtain ⟨i,hi,hall⟩:=i
  dsimp only at h1
  refine ⟨?_,trivial⟩
  show [gd f]= [true]
  refine congrArg (fun z=> [z]) ?_
  unfold gd
  rw [List.all_eq_true]
  intro j hj
  rw [List.mem_range] at hj
  exact decide_eq_true (hall j (by omega))
def RU:GF:=fun l=>match l with
 | [.agg [.vec .u16 256 f]]=>some ⟨[.one (.ob .bool (gd f))],[],none⟩
 |_=>none
theorem EQ:af 79 (ar RU):=ai ax Uc Tryz.func79 (by kernel_rfl) rfl (rs:= [.tmp 2]) Tryz.results79 fun l g h hp=>by
 unfold RU at h
 split at h
 ·cases h;exact ⟨Nat.le_of_ble_eq_true rfl,rfl,rfl,rfl,Vz _⟩
 ·cases h
def V9:List (Nat×CF):= [(79,ar RU),(128,ar vD)]
theorem PC:∀p∈V9,af p.1 p.2:=ag EQ<|ag tV fun p hp=>by cases hp
theorem Xh:az bi (ap V9):=aD ax (br PC)
def gk (b:List UInt8) (i:Nat):List UInt16:=(List.range 256).map (Tz (b.drop (384*i)))
theorem K9 {n m:Nat} (h:n≤m):DC (some (.lit (Int.ofNat n))) m:=⟨Int.natCast_nonneg _,Int.ofNat_le.2 h⟩
theorem MF (b:List UInt8) (hb:1152≤b.length):vc bi (ap V9) Tryz.f78.ntmps (ah Tryz.f78) ⟨aq 0 [.one (.ro .u8 b)],[],2000⟩ (aI bi Tryz.f78.ntmps [.cell 2 137] [.agg [.vec .u16 256 (gk b 0),.vec .u16 256 (gk b 1),.vec .u16 256 (gk b 2)]] []):=by
 refine Or.inl ⟨4,?_⟩
 have hd:∀i,(b.drop i).length=b.length-i:=fun i=>List.length_drop
 have hc:∀i,i≤768→384≤(b.drop i).length:=fun i hi=>by rw [hd];omega
 have l1:384≤b.length:=by omega
 have l2:768≤b.length:=by omega
 exact ⟨K9 (n:=0) (Nat.zero_le _),⟨rfl,hc 0 (by omega)⟩,K9 (n:=384) l1,⟨rfl,hc 384 (by omega)⟩,K9 (n:=768) l2,⟨rfl,hc 768 (by omega)⟩,rfl,rfl,rfl,rfl,rfl,rfl,trivial⟩
def Bi:GF:=fun l=>match l with
 | [.one (.ro .u8 b)]=>some ⟨[.agg [.vec .u16 256 (gk b 0),.vec .u16 256 (gk b 1),.vec .u16 256 (gk b 2)]],[],some (1152≤b.length)⟩
 |_=>none
theorem yh:af 78 (ar Bi):=ai ax Xh Tryz.func78 (by kernel_rfl) rfl (rs:= [.cell 2 137]) Tryz.results78 fun l g h hp=>by
 unfold Bi at h
 split at h
 ·cases h;exact ⟨Nat.le_of_ble_eq_true rfl,rfl,rfl,rfl,MF _ hp⟩
 ·cases h
def X0:List (Nat×CF):=(78,ar Bi)::V9
theorem TW:∀p∈X0,af p.1 p.2:=ag yh PC
theorem Xx:az bi (ap X0):=aD ax (br TW)
def BO (b:List UInt8):Int:=if b.length=1184 then (if gd (gk b 0)=true then (if gd (gk b 1)=true then (if gd (gk b 2)=true then 0 else 2) else 2) else 2) else 1
theorem Od (b:List UInt8):vc bi (ap X0) Tryz.f48.ntmps (ah Tryz.f48) ⟨aq 0 [.one (.ro .u8 b)],[],2000⟩ (aI bi Tryz.f48.ntmps [.tmp 2] [.one (.ob .int (BO b))] []):=by
 refine fun _=>⟨fun h=> ?_,fun h=> ?_⟩
 ·have h1:b.length≠1184:=by have:=of_decide_eq_true h;omega
  refine ⟨?_,trivial⟩
  show [BO b]= [1]
  rw [BO,if_neg h1]
 have h1:b.length=1184:=by have:=of_decide_eq_false h;omega
 refine ⟨by show 1152≤b.length;omega,Or.inl ⟨4,fun h2=> ?_,fun h2=>⟨fun h3=> ?_,fun h3=>⟨fun h4=> ?_,fun h4=> ?_⟩⟩⟩⟩
 ·refine ⟨?_,trivial⟩
  show [BO b]= [2]
  have h2:(!gd (gk b 0))=true:=h2
  rw [BO,if_pos h1,if_neg (by simpa using h2)]
 ·refine ⟨?_,trivial⟩
  show [BO b]= [2]
  have h2:(!gd (gk b 0))=false:=h2
  have h3:(!gd (gk b 1))=true:=h3
  rw [BO,if_pos h1,if_pos (by simpa using h2),if_neg (by simpa using h3)]
 ·refine ⟨?_,trivial⟩
  show [BO b]= [2]
  have h2:(!gd (gk b 0))=false:=h2
  have h3:(!gd (gk b 1))=false:=h3
  have h4:(!gd (gk b 2))=true:=h4
  rw [BO,if_pos h1,if_pos (by simpa using h2),if_pos (by simpa using h3),if_neg (by simpa using h4)]
 ·refine ⟨?_,trivial⟩
  show [BO b]= [0]
  have h2:(!gd (gk b 0))=false:=h2
  have h3:(!gd (gk b 1))=false:=h3
  have h4:(!gd (gk b 2))=false:=h4
  rw [BO,if_pos h1,if_pos (by simpa using h2),if_pos (by simpa using h3),if_pos (by simpa using h4)]
def AF:GF:=fun l=>match l with
 | [.one (.ro .u8 b)]=>some ⟨[.one (.ob .int (BO b))],[],none⟩
 |_=>none
theorem yB:af 48 (ar AF):=ai ax Xx Tryz.func48 (by kernel_rfl) rfl (rs:= [.tmp 2]) Tryz.results48 fun l g h hp=>by
 unfold AF at h
 split at h
 ·cases h;exact ⟨Nat.le_of_ble_eq_true rfl,rfl,rfl,rfl,Od _⟩
 ·cases h
end Go.Proofs.YtknlbpjcjdenbaaGreat
