/- What BB rests on, part 3 of 5: my own texts, put together (merge.py). -/
import Derived.Deep.RegionHeld3
import Derived.WalkKit
import Derived.ProofKit
import Derived.Lib.Hide
import Derived.OpenShut
import Derived.Deep.MidRow
import Derived.Test.YtnlhpncaldcllaaGreatRows
import Derived.WalkSpells
import Derived.StillTactics
import Derived.Laws.Pointers
import Derived.Laws.CopyOwn
import Derived.Laws.AppendOwnNone
import Derived.RowKit3
import Derived.BigQuiet
import Derived.Deep.QuietTactic
import Derived.Deep.LoopGhost
import Derived.Deep.DeepFit
import Derived.WalkLawsBesides
import Derived.Shelf.Spec.BitsCarry
import Derived.Laws.IdiomStrings
import Derived.Maps.RangeWalk
import Derived.Great.BuildSlice
import Derived.Lib.AppendZerosOnto
import Derived.Deep.DeepCutAuto
import Derived.Lib.SliceRun
import Derived.ShutString
import Derived.ChangeOld
import Derived.Test.YtnlhpncaldcllaaGreatZBBB
set_option maxRecDepth 100000
namespace Go.Proofs.YtnlhpncaldcllaaGreat
open Go Go.RowKit
def Np:Nat→TE:=sS [(3,⟨.k .int,1,[.ob .int (Kd.df .int)]⟩),(4,⟨.k .bool,1,[.ob .bool (Kd.df .bool)]⟩),(5,⟨.k .u8,1,[.ob .u8 (Kd.df .u8)]⟩),(9,⟨.k .str,1,[.ob .str (Kd.df .str)]⟩),(53,⟨.sl 3,1,[.cv (.slice none 0 0)]⟩),(33,⟨.k .int,1,[.ob .int (Kd.df .int)]⟩),(26,⟨.sl 5,1,[.cv (.slice none 0 0)]⟩),(29,⟨.st [(0,26),(1,26),(2,26),(3,26),(4,3),(5,26),(6,3),(7,26),(8,26),(9,4),(10,3)],11,[.cv (.slice none 0 0),.cv (.slice none 0 0),.cv (.slice none 0 0),.cv (.slice none 0 0),.ob .int (Kd.df .int),.cv (.slice none 0 0),.ob .int (Kd.df .int),.cv (.slice none 0 0),.cv (.slice none 0 0),.ob .bool (Kd.df .bool),.ob .int (Kd.df .int)]⟩),(23,⟨.ptr,1,[.cv (.pointer none)]⟩),(76,⟨.sl 26,1,[.cv (.slice none 0 0)]⟩),(58,⟨.st [(0,26),(1,3),(2,53),(3,53)],4,[.cv (.slice none 0 0),.ob .int (Kd.df .int),.cv (.slice none 0 0),.cv (.slice none 0 0)]⟩),(96,⟨.k .u64,1,[.ob .u64 (Kd.df .u64)]⟩),(120,⟨.arr 5 96,5,[.vec .u64 5 (List.replicate 5 (Kd.df .u64))]⟩),(122,⟨.st [(0,120)],5,[.vec .u64 5 (List.replicate 5 (Kd.df .u64))]⟩),(124,⟨.st [(0,122),(5,122),(10,122),(15,122)],20,[.vec .u64 5 (List.replicate 5 (Kd.df .u64)),.vec .u64 5 (List.replicate 5 (Kd.df .u64)),.vec .u64 5 (List.replicate 5 (Kd.df .u64)),.vec .u64 5 (List.replicate 5 (Kd.df .u64))]⟩),(127,⟨.arr 4 96,4,[.vec .u64 4 (List.replicate 4 (Kd.df .u64))]⟩),(129,⟨.st [(0,127)],4,[.vec .u64 4 (List.replicate 4 (Kd.df .u64))]⟩),(138,⟨.k .u32,1,[.ob .u32 (Kd.df .u32)]⟩),(139,⟨.k .u16,1,[.ob .u16 (Kd.df .u16)]⟩),(140,⟨.arr 256 139,256,[.vec .u16 256 (List.replicate 256 (Kd.df .u16))]⟩),(141,⟨.arr 256 139,256,[.vec .u16 256 (List.replicate 256 (Kd.df .u16))]⟩),(142,⟨.arr 3 141,768,[.vec .u16 768 (List.replicate 768 (Kd.df .u16))]⟩),(143,⟨.arr 3 141,768,[.vec .u16 768 (List.replicate 768 (Kd.df .u16))]⟩),(107,⟨.arr 32 5,32,[.vec .u8 32 (List.replicate 32 (Kd.df .u8))]⟩),(162,⟨.k .u64,1,[.ob .u64 (Kd.df .u64)]⟩),(176,⟨.arr 80 96,80,[.vec .u64 80 (List.replicate 80 (Kd.df .u64))]⟩),(178,⟨.arr 8 96,8,[.vec .u64 8 (List.replicate 8 (Kd.df .u64))]⟩)]
theorem pY:a8 Np:=Ho fun p hp=>by
 rcases List.mem_cons.1 hp with rfl|hp
 ·exact gv (k:= .int) rfl rfl rfl (by kernel_rfl) Tryz.underlying3 (bytes:=8) (by decide)
 rcases List.mem_cons.1 hp with rfl|hp
 ·exact gv (k:= .bool) rfl rfl rfl (by kernel_rfl) Tryz.underlying4 (bytes:=1) (by decide)
 rcases List.mem_cons.1 hp with rfl|hp
 ·exact gv (k:= .u8) rfl rfl rfl (by kernel_rfl) Tryz.underlying5 (bytes:=1) (by decide)
 rcases List.mem_cons.1 hp with rfl|hp
 ·exact gv (k:= .str) rfl rfl rfl (by kernel_rfl) Tryz.underlying9 (bytes:=16) (by decide)
 rcases List.mem_cons.1 hp with rfl|hp
 ·exact j2 (by kernel_rfl) Tryz.underlying53 (bytes:=24) (by decide)
 rcases List.mem_cons.1 hp with rfl|hp
 ·exact gv (k:= .int) rfl rfl rfl (by kernel_rfl) Tryz.underlying33 (bytes:=8) (by decide)
 rcases List.mem_cons.1 hp with rfl|hp
 ·exact j2 (by kernel_rfl) Tryz.underlying26 (bytes:=24) (by decide)
 rcases List.mem_cons.1 hp with rfl|hp
 ·exact dS (cells:= [.slice none 0 0]++([.slice none 0 0]++([.slice none 0 0]++([.slice none 0 0]++([.int .i64 0]++([.slice none 0 0]++([.int .i64 0]++([.slice none 0 0]++([.slice none 0 0]++([.bool false]++([.int .i64 0]++([]:List Value)))))))))))) (bytes:=200) (by kernel_rfl) Tryz.underlying29 ⟨_,rfl,rfl⟩ (fun η A w=>⟨[.slice none 0 0],_,rfl,⟨rfl,rfl⟩,⟨[.slice none 0 0],_,rfl,⟨rfl,rfl⟩,⟨[.slice none 0 0],_,rfl,⟨rfl,rfl⟩,⟨[.slice none 0 0],_,rfl,⟨rfl,rfl⟩,⟨[.int .i64 0],_,rfl,rfl,⟨[.slice none 0 0],_,rfl,⟨rfl,rfl⟩,⟨[.int .i64 0],_,rfl,rfl,⟨[.slice none 0 0],_,rfl,⟨rfl,rfl⟩,⟨[.slice none 0 0],_,rfl,⟨rfl,rfl⟩,⟨[.bool false],_,rfl,rfl,⟨[.int .i64 0],_,rfl,rfl,rfl⟩⟩⟩⟩⟩⟩⟩⟩⟩⟩⟩) rfl (fun k h=>by cases h) rfl (by decide)
 rcases List.mem_cons.1 hp with rfl|hp
 ·exact g8 (by kernel_rfl) Tryz.underlying23 (bytes:=8) (by decide)
 rcases List.mem_cons.1 hp with rfl|hp
 ·exact j2 (by kernel_rfl) Tryz.underlying76 (bytes:=24) (by decide)
 rcases List.mem_cons.1 hp with rfl|hp
 ·exact dS (cells:= [.slice none 0 0]++([.int .i64 0]++([.slice none 0 0]++([.slice none 0 0]++([]:List Value))))) (bytes:=80) (by kernel_rfl) Tryz.underlying58 ⟨_,rfl,rfl⟩ (fun η A w=>⟨[.slice none 0 0],_,rfl,⟨rfl,rfl⟩,⟨[.int .i64 0],_,rfl,rfl,⟨[.slice none 0 0],_,rfl,⟨rfl,rfl⟩,⟨[.slice none 0 0],_,rfl,⟨rfl,rfl⟩,rfl⟩⟩⟩⟩) rfl (fun k h=>by cases h) rfl (by decide)
 rcases List.mem_cons.1 hp with rfl|hp
 ·exact gv (k:= .u64) rfl rfl rfl (by kernel_rfl) Tryz.underlying96 (bytes:=8) (by decide)
 rcases List.mem_cons.1 hp with rfl|hp
 ·exact dS (cells:=List.replicate 5 (.int .u64 0)++([]:List Value)) (bytes:=40) (by kernel_rfl) Tryz.underlying120 rfl (fun η A w=>⟨List.replicate 5 (.int .u64 0),_,rfl,⟨List.length_replicate,ak (k:= .u64) rfl 5⟩,rfl⟩) rfl (fun k h=>by cases h) rfl (by decide)
 rcases List.mem_cons.1 hp with rfl|hp
 ·exact dS (cells:=List.replicate 5 (.int .u64 0)++([]:List Value)) (bytes:=40) (by kernel_rfl) Tryz.underlying122 ⟨_,rfl,rfl⟩ (fun η A w=>⟨List.replicate 5 (.int .u64 0),_,rfl,⟨List.length_replicate,ak (k:= .u64) rfl 5⟩,rfl⟩) rfl (fun k h=>by cases h) rfl (by decide)
 rcases List.mem_cons.1 hp with rfl|hp
 ·exact dS (cells:=List.replicate 5 (.int .u64 0)++(List.replicate 5 (.int .u64 0)++(List.replicate 5 (.int .u64 0)++(List.replicate 5 (.int .u64 0)++([]:List Value))))) (bytes:=160) (by kernel_rfl) Tryz.underlying124 ⟨_,rfl,rfl⟩ (fun η A w=>⟨List.replicate 5 (.int .u64 0),_,rfl,⟨List.length_replicate,ak (k:= .u64) rfl 5⟩,⟨List.replicate 5 (.int .u64 0),_,rfl,⟨List.length_replicate,ak (k:= .u64) rfl 5⟩,⟨List.replicate 5 (.int .u64 0),_,rfl,⟨List.length_replicate,ak (k:= .u64) rfl 5⟩,⟨List.replicate 5 (.int .u64 0),_,rfl,⟨List.length_replicate,ak (k:= .u64) rfl 5⟩,rfl⟩⟩⟩⟩) rfl (fun k h=>by cases h) rfl (by decide)
 rcases List.mem_cons.1 hp with rfl|hp
 ·exact dS (cells:=List.replicate 4 (.int .u64 0)++([]:List Value)) (bytes:=32) (by kernel_rfl) Tryz.underlying127 rfl (fun η A w=>⟨List.replicate 4 (.int .u64 0),_,rfl,⟨List.length_replicate,ak (k:= .u64) rfl 4⟩,rfl⟩) rfl (fun k h=>by cases h) rfl (by decide)
 rcases List.mem_cons.1 hp with rfl|hp
 ·exact dS (cells:=List.replicate 4 (.int .u64 0)++([]:List Value)) (bytes:=32) (by kernel_rfl) Tryz.underlying129 ⟨_,rfl,rfl⟩ (fun η A w=>⟨List.replicate 4 (.int .u64 0),_,rfl,⟨List.length_replicate,ak (k:= .u64) rfl 4⟩,rfl⟩) rfl (fun k h=>by cases h) rfl (by decide)
 rcases List.mem_cons.1 hp with rfl|hp
 ·exact gv (k:= .u32) rfl rfl rfl (by kernel_rfl) Tryz.underlying138 (bytes:=4) (by decide)
 rcases List.mem_cons.1 hp with rfl|hp
 ·exact gv (k:= .u16) rfl rfl rfl (by kernel_rfl) Tryz.underlying139 (bytes:=2) (by decide)
 rcases List.mem_cons.1 hp with rfl|hp
 ·exact dS (cells:=List.replicate 256 (.int .u16 0)++([]:List Value)) (bytes:=512) (by kernel_rfl) Tryz.underlying140 rfl (fun η A w=>⟨List.replicate 256 (.int .u16 0),_,rfl,⟨List.length_replicate,ak (k:= .u16) rfl 256⟩,rfl⟩) rfl (fun k h=>by cases h) rfl (by decide)
 rcases List.mem_cons.1 hp with rfl|hp
 ·exact dS (cells:=List.replicate 256 (.int .u16 0)++([]:List Value)) (bytes:=512) (by kernel_rfl) Tryz.underlying141 rfl (fun η A w=>⟨List.replicate 256 (.int .u16 0),_,rfl,⟨List.length_replicate,ak (k:= .u16) rfl 256⟩,rfl⟩) rfl (fun k h=>by cases h) rfl (by decide)
 rcases List.mem_cons.1 hp with rfl|hp
 ·exact dS (cells:=List.replicate 768 (.int .u16 0)++([]:List Value)) (bytes:=1536) (by kernel_rfl) Tryz.underlying142 rfl (fun η A w=>⟨List.replicate 768 (.int .u16 0),_,rfl,⟨List.length_replicate,ak (k:= .u16) rfl 768⟩,rfl⟩) rfl (fun k h=>by cases h) rfl (by decide)
 rcases List.mem_cons.1 hp with rfl|hp
 ·exact dS (cells:=List.replicate 768 (.int .u16 0)++([]:List Value)) (bytes:=1536) (by kernel_rfl) Tryz.underlying143 rfl (fun η A w=>⟨List.replicate 768 (.int .u16 0),_,rfl,⟨List.length_replicate,ak (k:= .u16) rfl 768⟩,rfl⟩) rfl (fun k h=>by cases h) rfl (by decide)
 rcases List.mem_cons.1 hp with rfl|hp
 ·exact dS (cells:=List.replicate 32 (.int .u8 0)++([]:List Value)) (bytes:=32) (by kernel_rfl) Tryz.underlying107 rfl (fun η A w=>⟨List.replicate 32 (.int .u8 0),_,rfl,⟨List.length_replicate,ak (k:= .u8) rfl 32⟩,rfl⟩) rfl (fun k h=>by cases h) rfl (by decide)
 rcases List.mem_cons.1 hp with rfl|hp
 ·exact gv (k:= .u64) rfl rfl rfl (by kernel_rfl) Tryz.underlying162 (bytes:=8) (by decide)
 rcases List.mem_cons.1 hp with rfl|hp
 ·exact dS (cells:=List.replicate 80 (.int .u64 0)++([]:List Value)) (bytes:=640) (by kernel_rfl) Tryz.underlying176 rfl (fun η A w=>⟨List.replicate 80 (.int .u64 0),_,rfl,⟨List.length_replicate,ak (k:= .u64) rfl 80⟩,rfl⟩) rfl (fun k h=>by cases h) rfl (by decide)
 rcases List.mem_cons.1 hp with rfl|hp
 ·exact dS (cells:=List.replicate 8 (.int .u64 0)++([]:List Value)) (bytes:=64) (by kernel_rfl) Tryz.underlying178 rfl (fun η A w=>⟨List.replicate 8 (.int .u64 0),_,rfl,⟨List.length_replicate,ak (k:= .u64) rfl 8⟩,rfl⟩) rfl (fun k h=>by cases h) rfl (by decide)
 cases hp
def e4:Cl:= .ob (.x 4) (0:F)
def bE (t:Nat):TE:=match Nat.beq t 122 with
 |true=>⟨.st [(0,120)],5,[e4]⟩
 |false=>match Nat.beq t 124 with
  |true=>⟨.st [(0,122),(5,122),(10,122),(15,122)],20,[e4,e4,e4,e4]⟩
  |false=>match Nat.beq t 129 with
   |true=>⟨.st [(0,127)],4,[.ob (.x 2) (0:Nat)]⟩
   |false=>Np t
theorem hU {η:aY} {A:Nat→Prop} {w:World} {cs z:List Value} {x:Cl} (h:x.H η A w cs) (e:z=cs):aO η A w [x] z:=by
 subst e
 exact ⟨z,[],(List.append_nil _).symm,h,rfl⟩
theorem n_ {η:aY} {A:Nat→Prop} {w:World}:e4.H η A w (List.replicate 5 (.int .u64 0)):=⟨fun _=>0,⟨by decide,by decide,by decide,by decide,by decide⟩,rfl,rfl⟩
theorem zU:(0:Nat)<Lq:=by unfold Lq;omega
theorem aF:a8 bE:=fun t=>by
 have lim:∀ {n:Nat} {cs:List Value},aU Kd.u64.rp (List.replicate n (0:UInt64)) cs→cs=List.replicate n (.int .u64 0):=fun {n cs} h=>by
  rw [uC.1 h,List.map_replicate];rfl
 by_cases e1:t=122
 ·subst e1
  rcases pY 122 with h|⟨i,d,z,h⟩
  ·cases h
  ·refine .inr ⟨i,d,z,dI h rfl rfl fun η A w=> ?_⟩
   obtain ⟨h1,r,e,⟨_,h2⟩,rfl⟩:=h.cells η A w
   exact hU n_ (by rw [e,List.append_nil];exact lim h2)
 ·by_cases e2:t=124
  ·subst e2
   rcases pY 124 with h|⟨i,d,z,h⟩
   ·cases h
   ·refine .inr ⟨i,d,z,dI h rfl rfl fun η A w=> ?_⟩
    obtain ⟨h1,r1,e1,⟨_,k1⟩,h2,r2,e2,⟨_,k2⟩,h3,r3,e3,⟨_,k3⟩,h4,r4,e4,⟨_,k4⟩,rfl⟩:=h.cells η A w
    have k1:=lim k1;have k2:=lim k2;have k3:=lim k3;have k4:=lim k4
    subst k1 k2 k3 k4 e4 e3 e2
    exact ⟨_,_,e1,n_,_,_,rfl,n_,_,_,rfl,n_,_,_,rfl,n_,rfl⟩
  ·by_cases e3:t=129
   ·subst e3
    rcases pY 129 with h|⟨i,d,z,h⟩
    ·cases h
    ·refine .inr ⟨i,d,z,dI h rfl rfl fun η A w=> ?_⟩
     obtain ⟨h1,r,e,⟨_,h2⟩,rfl⟩:=h.cells η A w
     refine hU (cs:=List.replicate 4 (.int .u64 0)) ⟨zU,rfl⟩ (by rw [e,List.append_nil];exact lim h2)
   ·have e:bE t=Np t:=by
     unfold bE
     rw [show Nat.beq t 122=false from by rw [←Bool.not_eq_true,Nat.beq_eq];exact e1,show Nat.beq t 124=false from by rw [←Bool.not_eq_true,Nat.beq_eq];exact e2,show Nat.beq t 129=false from by rw [←Bool.not_eq_true,Nat.beq_eq];exact e3]
    rcases pY t with h|⟨i,d,z,h⟩
    ·exact .inl (by rw [e];exact h)
    ·exact .inr ⟨i,d,z,dI h (by rw [e]) (by rw [e]) (by rw [e];exact h.cells)⟩
def Nq:Nat→TE:=sS [(3,⟨.k .int,1,[.ob .int (Kd.df .int)]⟩),(4,⟨.k .bool,1,[.ob .bool (Kd.df .bool)]⟩),(5,⟨.k .u8,1,[.ob .u8 (Kd.df .u8)]⟩),(9,⟨.k .str,1,[.ob .str (Kd.df .str)]⟩),(53,⟨.sl 3,1,[.cv (.slice none 0 0)]⟩),(33,⟨.k .int,1,[.ob .int (Kd.df .int)]⟩),(26,⟨.sl 5,1,[.cv (.slice none 0 0)]⟩),(29,⟨.st [(0,26),(1,26),(2,26),(3,26),(4,3),(5,26),(6,3),(7,26),(8,26),(9,4),(10,3)],11,[.cv (.slice none 0 0),.cv (.slice none 0 0),.cv (.slice none 0 0),.cv (.slice none 0 0),.ob .int (Kd.df .int),.cv (.slice none 0 0),.ob .int (Kd.df .int),.cv (.slice none 0 0),.cv (.slice none 0 0),.ob .bool (Kd.df .bool),.ob .int (Kd.df .int)]⟩),(23,⟨.ptr,1,[.cv (.pointer none)]⟩),(76,⟨.sl 26,1,[.cv (.slice none 0 0)]⟩),(58,⟨.st [(0,26),(1,3),(2,53),(3,53)],4,[.cv (.slice none 0 0),.ob .int (Kd.df .int),.cv (.slice none 0 0),.cv (.slice none 0 0)]⟩),(96,⟨.k .u64,1,[.ob .u64 (Kd.df .u64)]⟩),(120,⟨.arr 5 96,5,[.vec .u64 5 (List.replicate 5 (Kd.df .u64))]⟩),(122,⟨.st [(0,120)],5,[.vec .u64 5 (List.replicate 5 (Kd.df .u64))]⟩),(124,⟨.st [(0,122),(5,122),(10,122),(15,122)],20,[.vec .u64 5 (List.replicate 5 (Kd.df .u64)),.vec .u64 5 (List.replicate 5 (Kd.df .u64)),.vec .u64 5 (List.replicate 5 (Kd.df .u64)),.vec .u64 5 (List.replicate 5 (Kd.df .u64))]⟩),(127,⟨.arr 4 96,4,[.vec .u64 4 (List.replicate 4 (Kd.df .u64))]⟩),(129,⟨.st [(0,127)],4,[.vec .u64 4 (List.replicate 4 (Kd.df .u64))]⟩),(138,⟨.k .u32,1,[.ob .u32 (Kd.df .u32)]⟩),(139,⟨.k .u16,1,[.ob .u16 (Kd.df .u16)]⟩),(140,⟨.arr 256 139,256,[.vec .u16 256 (List.replicate 256 (Kd.df .u16))]⟩),(141,⟨.arr 256 139,256,[.vec .u16 256 (List.replicate 256 (Kd.df .u16))]⟩),(142,⟨.arr 3 141,768,[.vec .u16 768 (List.replicate 768 (Kd.df .u16))]⟩),(143,⟨.arr 3 141,768,[.vec .u16 768 (List.replicate 768 (Kd.df .u16))]⟩),(107,⟨.arr 32 5,32,[.vec .u8 32 (List.replicate 32 (Kd.df .u8))]⟩),(162,⟨.k .u64,1,[.ob .u64 (Kd.df .u64)]⟩),(176,⟨.arr 80 96,80,[.vec .u64 80 (List.replicate 80 (Kd.df .u64))]⟩),(178,⟨.arr 8 96,8,[.vec .u64 8 (List.replicate 8 (Kd.df .u64))]⟩),(81,⟨.sl 4,1,[.cv (.slice none 0 0)]⟩),(82,⟨.ptr,1,[.cv (.pointer none)]⟩),(84,⟨.st [(0,26),(1,3),(2,82),(3,26),(4,26),(5,81),(6,81)],7,[.cv (.slice none 0 0),.ob .int (Kd.df .int),.cv (.pointer none),.cv (.slice none 0 0),.cv (.slice none 0 0),.cv (.slice none 0 0),.cv (.slice none 0 0)]⟩),(157,⟨.st [(0,129),(4,26),(5,26)],6,[.vec .u64 4 (List.replicate 4 (Kd.df .u64)),.cv (.slice none 0 0),.cv (.slice none 0 0)]⟩),(216,⟨.st [(0,122),(5,122)],10,[.vec .u64 5 (List.replicate 5 (Kd.df .u64)),.vec .u64 5 (List.replicate 5 (Kd.df .u64))]⟩),(222,⟨.fn,1,[.cv (.nilFunc)]⟩),(256,⟨.fn,1,[.cv (.nilFunc)]⟩),(248,⟨.ptr,1,[.cv (.pointer none)]⟩),(264,⟨.ptr,1,[.cv (.pointer none)]⟩),(266,⟨.fn,1,[.cv (.nilFunc)]⟩),(268,⟨.st [(0,260),(25,3),(26,3)],27,[.vec .u64 25 (List.replicate 25 (Kd.df .u64)),.ob .int (Kd.df .int),.ob .int (Kd.df .int)]⟩),(270,⟨.ptr,1,[.cv (.pointer none)]⟩),(272,⟨.sl 139,1,[.cv (.slice none 0 0)]⟩),(273,⟨.arr 8 138,8,[.vec .u32 8 (List.replicate 8 (Kd.df .u32))]⟩),(274,⟨.arr 64 138,64,[.vec .u32 64 (List.replicate 64 (Kd.df .u32))]⟩),(276,⟨.ptr,1,[.cv (.pointer none)]⟩),(278,⟨.st [(0,273),(8,26),(9,96)],10,[.vec .u32 8 (List.replicate 8 (Kd.df .u32)),.cv (.slice none 0 0),.ob .u64 (Kd.df .u64)]⟩),(280,⟨.st [(0,276),(1,276)],2,[.cv (.pointer none),.cv (.pointer none)]⟩),(281,⟨.arr 64 5,64,[.vec .u8 64 (List.replicate 64 (Kd.df .u8))]⟩),(284,⟨.arr 25 96,25,[.vec .u64 25 (List.replicate 25 (Kd.df .u64))]⟩),(285,⟨.fn,1,[.cv (.nilFunc)]⟩),(287,⟨.arr 3 285,3,[.cv (.nilFunc),.cv (.nilFunc),.cv (.nilFunc)]⟩),(288,⟨.arr 24 96,24,[.vec .u64 24 (List.replicate 24 (Kd.df .u64))]⟩),(291,⟨.st [(0,248)],1,[.cv (.pointer none)]⟩),(251,⟨.arr 128 138,128,[.vec .u32 128 (List.replicate 128 (Kd.df .u32))]⟩),(260,⟨.arr 25 96,25,[.vec .u64 25 (List.replicate 25 (Kd.df .u64))]⟩),(37,⟨.ptr,1,[.cv (.pointer none)]⟩),(51,⟨.st [(0,3),(1,3),(2,3)],3,[.ob .int (Kd.df .int),.ob .int (Kd.df .int),.ob .int (Kd.df .int)]⟩),(49,⟨.sl 51,1,[.cv (.slice none 0 0)]⟩),(43,⟨.fn,1,[.cv (.nilFunc)]⟩),(87,⟨.fn,1,[.cv (.nilFunc)]⟩)]
theorem pZ:a8 Nq:=Ho fun p hp=>by
 rcases List.mem_cons.1 hp with rfl|hp
 ·exact gv (k:= .int) rfl rfl rfl (by kernel_rfl) Tryz.underlying3 (bytes:=8) (by decide)
 rcases List.mem_cons.1 hp with rfl|hp
 ·exact gv (k:= .bool) rfl rfl rfl (by kernel_rfl) Tryz.underlying4 (bytes:=1) (by decide)
 rcases List.mem_cons.1 hp with rfl|hp
 ·exact gv (k:= .u8) rfl rfl rfl (by kernel_rfl) Tryz.underlying5 (bytes:=1) (by decide)
 rcases List.mem_cons.1 hp with rfl|hp
 ·exact gv (k:= .str) rfl rfl rfl (by kernel_rfl) Tryz.underlying9 (bytes:=16) (by decide)
 rcases List.mem_cons.1 hp with rfl|hp
 ·exact j2 (by kernel_rfl) Tryz.underlying53 (bytes:=24) (by decide)
 rcases List.mem_cons.1 hp with rfl|hp
 ·exact gv (k:= .int) rfl rfl rfl (by kernel_rfl) Tryz.underlying33 (bytes:=8) (by decide)
 rcases List.mem_cons.1 hp with rfl|hp
 ·exact j2 (by kernel_rfl) Tryz.underlying26 (bytes:=24) (by decide)
 rcases List.mem_cons.1 hp with rfl|hp
 ·exact dS (cells:= [.slice none 0 0]++([.slice none 0 0]++([.slice none 0 0]++([.slice none 0 0]++([.int .i64 0]++([.slice none 0 0]++([.int .i64 0]++([.slice none 0 0]++([.slice none 0 0]++([.bool false]++([.int .i64 0]++([]:List Value)))))))))))) (bytes:=200) (by kernel_rfl) Tryz.underlying29 ⟨_,rfl,rfl⟩ (fun η A w=>⟨[.slice none 0 0],_,rfl,⟨rfl,rfl⟩,⟨[.slice none 0 0],_,rfl,⟨rfl,rfl⟩,⟨[.slice none 0 0],_,rfl,⟨rfl,rfl⟩,⟨[.slice none 0 0],_,rfl,⟨rfl,rfl⟩,⟨[.int .i64 0],_,rfl,rfl,⟨[.slice none 0 0],_,rfl,⟨rfl,rfl⟩,⟨[.int .i64 0],_,rfl,rfl,⟨[.slice none 0 0],_,rfl,⟨rfl,rfl⟩,⟨[.slice none 0 0],_,rfl,⟨rfl,rfl⟩,⟨[.bool false],_,rfl,rfl,⟨[.int .i64 0],_,rfl,rfl,rfl⟩⟩⟩⟩⟩⟩⟩⟩⟩⟩⟩) rfl (fun k h=>by cases h) rfl (by decide)
 rcases List.mem_cons.1 hp with rfl|hp
 ·exact g8 (by kernel_rfl) Tryz.underlying23 (bytes:=8) (by decide)
 rcases List.mem_cons.1 hp with rfl|hp
 ·exact j2 (by kernel_rfl) Tryz.underlying76 (bytes:=24) (by decide)
 rcases List.mem_cons.1 hp with rfl|hp
 ·exact dS (cells:= [.slice none 0 0]++([.int .i64 0]++([.slice none 0 0]++([.slice none 0 0]++([]:List Value))))) (bytes:=80) (by kernel_rfl) Tryz.underlying58 ⟨_,rfl,rfl⟩ (fun η A w=>⟨[.slice none 0 0],_,rfl,⟨rfl,rfl⟩,⟨[.int .i64 0],_,rfl,rfl,⟨[.slice none 0 0],_,rfl,⟨rfl,rfl⟩,⟨[.slice none 0 0],_,rfl,⟨rfl,rfl⟩,rfl⟩⟩⟩⟩) rfl (fun k h=>by cases h) rfl (by decide)
 rcases List.mem_cons.1 hp with rfl|hp
 ·exact gv (k:= .u64) rfl rfl rfl (by kernel_rfl) Tryz.underlying96 (bytes:=8) (by decide)
 rcases List.mem_cons.1 hp with rfl|hp
 ·exact dS (cells:=List.replicate 5 (.int .u64 0)++([]:List Value)) (bytes:=40) (by kernel_rfl) Tryz.underlying120 rfl (fun η A w=>⟨List.replicate 5 (.int .u64 0),_,rfl,⟨List.length_replicate,ak (k:= .u64) rfl 5⟩,rfl⟩) rfl (fun k h=>by cases h) rfl (by decide)
 rcases List.mem_cons.1 hp with rfl|hp
 ·exact dS (cells:=List.replicate 5 (.int .u64 0)++([]:List Value)) (bytes:=40) (by kernel_rfl) Tryz.underlying122 ⟨_,rfl,rfl⟩ (fun η A w=>⟨List.replicate 5 (.int .u64 0),_,rfl,⟨List.length_replicate,ak (k:= .u64) rfl 5⟩,rfl⟩) rfl (fun k h=>by cases h) rfl (by decide)
 rcases List.mem_cons.1 hp with rfl|hp
 ·exact dS (cells:=List.replicate 5 (.int .u64 0)++(List.replicate 5 (.int .u64 0)++(List.replicate 5 (.int .u64 0)++(List.replicate 5 (.int .u64 0)++([]:List Value))))) (bytes:=160) (by kernel_rfl) Tryz.underlying124 ⟨_,rfl,rfl⟩ (fun η A w=>⟨List.replicate 5 (.int .u64 0),_,rfl,⟨List.length_replicate,ak (k:= .u64) rfl 5⟩,⟨List.replicate 5 (.int .u64 0),_,rfl,⟨List.length_replicate,ak (k:= .u64) rfl 5⟩,⟨List.replicate 5 (.int .u64 0),_,rfl,⟨List.length_replicate,ak (k:= .u64) rfl 5⟩,⟨List.replicate 5 (.int .u64 0),_,rfl,⟨List.length_replicate,ak (k:= .u64) rfl 5⟩,rfl⟩⟩⟩⟩) rfl (fun k h=>by cases h) rfl (by decide)
 rcases List.mem_cons.1 hp with rfl|hp
 ·exact dS (cells:=List.replicate 4 (.int .u64 0)++([]:List Value)) (bytes:=32) (by kernel_rfl) Tryz.underlying127 rfl (fun η A w=>⟨List.replicate 4 (.int .u64 0),_,rfl,⟨List.length_replicate,ak (k:= .u64) rfl 4⟩,rfl⟩) rfl (fun k h=>by cases h) rfl (by decide)
 rcases List.mem_cons.1 hp with rfl|hp
 ·exact dS (cells:=List.replicate 4 (.int .u64 0)++([]:List Value)) (bytes:=32) (by kernel_rfl) Tryz.underlying129 ⟨_,rfl,rfl⟩ (fun η A w=>⟨List.replicate 4 (.int .u64 0),_,rfl,⟨List.length_replicate,ak (k:= .u64) rfl 4⟩,rfl⟩) rfl (fun k h=>by cases h) rfl (by decide)
 rcases List.mem_cons.1 hp with rfl|hp
 ·exact gv (k:= .u32) rfl rfl rfl (by kernel_rfl) Tryz.underlying138 (bytes:=4) (by decide)
 rcases List.mem_cons.1 hp with rfl|hp
 ·exact gv (k:= .u16) rfl rfl rfl (by kernel_rfl) Tryz.underlying139 (bytes:=2) (by decide)
 rcases List.mem_cons.1 hp with rfl|hp
 ·exact dS (cells:=List.replicate 256 (.int .u16 0)++([]:List Value)) (bytes:=512) (by kernel_rfl) Tryz.underlying140 rfl (fun η A w=>⟨List.replicate 256 (.int .u16 0),_,rfl,⟨List.length_replicate,ak (k:= .u16) rfl 256⟩,rfl⟩) rfl (fun k h=>by cases h) rfl (by decide)
 rcases List.mem_cons.1 hp with rfl|hp
 ·exact dS (cells:=List.replicate 256 (.int .u16 0)++([]:List Value)) (bytes:=512) (by kernel_rfl) Tryz.underlying141 rfl (fun η A w=>⟨List.replicate 256 (.int .u16 0),_,rfl,⟨List.length_replicate,ak (k:= .u16) rfl 256⟩,rfl⟩) rfl (fun k h=>by cases h) rfl (by decide)
 rcases List.mem_cons.1 hp with rfl|hp
 ·exact dS (cells:=List.replicate 768 (.int .u16 0)++([]:List Value)) (bytes:=1536) (by kernel_rfl) Tryz.underlying142 rfl (fun η A w=>⟨List.replicate 768 (.int .u16 0),_,rfl,⟨List.length_replicate,ak (k:= .u16) rfl 768⟩,rfl⟩) rfl (fun k h=>by cases h) rfl (by decide)
 rcases List.mem_cons.1 hp with rfl|hp
 ·exact dS (cells:=List.replicate 768 (.int .u16 0)++([]:List Value)) (bytes:=1536) (by kernel_rfl) Tryz.underlying143 rfl (fun η A w=>⟨List.replicate 768 (.int .u16 0),_,rfl,⟨List.length_replicate,ak (k:= .u16) rfl 768⟩,rfl⟩) rfl (fun k h=>by cases h) rfl (by decide)
 rcases List.mem_cons.1 hp with rfl|hp
 ·exact dS (cells:=List.replicate 32 (.int .u8 0)++([]:List Value)) (bytes:=32) (by kernel_rfl) Tryz.underlying107 rfl (fun η A w=>⟨List.replicate 32 (.int .u8 0),_,rfl,⟨List.length_replicate,ak (k:= .u8) rfl 32⟩,rfl⟩) rfl (fun k h=>by cases h) rfl (by decide)
 rcases List.mem_cons.1 hp with rfl|hp
 ·exact gv (k:= .u64) rfl rfl rfl (by kernel_rfl) Tryz.underlying162 (bytes:=8) (by decide)
 rcases List.mem_cons.1 hp with rfl|hp
 ·exact dS (cells:=List.replicate 80 (.int .u64 0)++([]:List Value)) (bytes:=640) (by kernel_rfl) Tryz.underlying176 rfl (fun η A w=>⟨List.replicate 80 (.int .u64 0),_,rfl,⟨List.length_replicate,ak (k:= .u64) rfl 80⟩,rfl⟩) rfl (fun k h=>by cases h) rfl (by decide)
 rcases List.mem_cons.1 hp with rfl|hp
 ·exact dS (cells:=List.replicate 8 (.int .u64 0)++([]:List Value)) (bytes:=64) (by kernel_rfl) Tryz.underlying178 rfl (fun η A w=>⟨List.replicate 8 (.int .u64 0),_,rfl,⟨List.length_replicate,ak (k:= .u64) rfl 8⟩,rfl⟩) rfl (fun k h=>by cases h) rfl (by decide)
 rcases List.mem_cons.1 hp with rfl|hp
 ·exact j2 (by kernel_rfl) Tryz.underlying81 (bytes:=24) (by decide)
 rcases List.mem_cons.1 hp with rfl|hp
 ·exact g8 (by kernel_rfl) Tryz.underlying82 (bytes:=8) (by decide)
 rcases List.mem_cons.1 hp with rfl|hp
 ·exact dS (cells:= [.slice none 0 0]++([.int .i64 0]++([.pointer none]++([.slice none 0 0]++([.slice none 0 0]++([.slice none 0 0]++([.slice none 0 0]++([]:List Value)))))))) (bytes:=136) (by kernel_rfl) Tryz.underlying84 ⟨_,rfl,rfl⟩ (fun η A w=>⟨[.slice none 0 0],_,rfl,⟨rfl,rfl⟩,⟨[.int .i64 0],_,rfl,rfl,⟨[.pointer none],_,rfl,⟨rfl,rfl⟩,⟨[.slice none 0 0],_,rfl,⟨rfl,rfl⟩,⟨[.slice none 0 0],_,rfl,⟨rfl,rfl⟩,⟨[.slice none 0 0],_,rfl,⟨rfl,rfl⟩,⟨[.slice none 0 0],_,rfl,⟨rfl,rfl⟩,rfl⟩⟩⟩⟩⟩⟩⟩) rfl (fun k h=>by cases h) rfl (by decide)
 rcases List.mem_cons.1 hp with rfl|hp
 ·exact dS (cells:=List.replicate 4 (.int .u64 0)++([.slice none 0 0]++([.slice none 0 0]++([]:List Value)))) (bytes:=80) (by kernel_rfl) Tryz.underlying157 ⟨_,rfl,rfl⟩ (fun η A w=>⟨List.replicate 4 (.int .u64 0),_,rfl,⟨List.length_replicate,ak (k:= .u64) rfl 4⟩,⟨[.slice none 0 0],_,rfl,⟨rfl,rfl⟩,⟨[.slice none 0 0],_,rfl,⟨rfl,rfl⟩,rfl⟩⟩⟩) rfl (fun k h=>by cases h) rfl (by decide)
 rcases List.mem_cons.1 hp with rfl|hp
 ·exact dS (cells:=List.replicate 5 (.int .u64 0)++(List.replicate 5 (.int .u64 0)++([]:List Value))) (bytes:=80) (by kernel_rfl) Tryz.underlying216 ⟨_,rfl,rfl⟩ (fun η A w=>⟨List.replicate 5 (.int .u64 0),_,rfl,⟨List.length_replicate,ak (k:= .u64) rfl 5⟩,⟨List.replicate 5 (.int .u64 0),_,rfl,⟨List.length_replicate,ak (k:= .u64) rfl 5⟩,rfl⟩⟩) rfl (fun k h=>by cases h) rfl (by decide)
 rcases List.mem_cons.1 hp with rfl|hp
 ·exact dS (cells:= [.nilFunc]++([]:List Value)) (bytes:=8) (by kernel_rfl) Tryz.underlying222 rfl (fun η A w=>⟨[.nilFunc],_,rfl,⟨rfl,rfl⟩,rfl⟩) rfl (fun k h=>by cases h) rfl (by decide)
 rcases List.mem_cons.1 hp with rfl|hp
 ·exact dS (cells:= [.nilFunc]++([]:List Value)) (bytes:=8) (by kernel_rfl) Tryz.underlying256 rfl (fun η A w=>⟨[.nilFunc],_,rfl,⟨rfl,rfl⟩,rfl⟩) rfl (fun k h=>by cases h) rfl (by decide)
 rcases List.mem_cons.1 hp with rfl|hp
 ·exact g8 (by kernel_rfl) Tryz.underlying248 (bytes:=8) (by decide)
 rcases List.mem_cons.1 hp with rfl|hp
 ·exact g8 (by kernel_rfl) Tryz.underlying264 (bytes:=8) (by decide)
 rcases List.mem_cons.1 hp with rfl|hp
 ·exact dS (cells:= [.nilFunc]++([]:List Value)) (bytes:=8) (by kernel_rfl) Tryz.underlying266 rfl (fun η A w=>⟨[.nilFunc],_,rfl,⟨rfl,rfl⟩,rfl⟩) rfl (fun k h=>by cases h) rfl (by decide)
 rcases List.mem_cons.1 hp with rfl|hp
 ·exact dS (cells:=List.replicate 25 (.int .u64 0)++([.int .i64 0]++([.int .i64 0]++([]:List Value)))) (bytes:=216) (by kernel_rfl) Tryz.underlying268 ⟨_,rfl,rfl⟩ (fun η A w=>⟨List.replicate 25 (.int .u64 0),_,rfl,⟨List.length_replicate,ak (k:= .u64) rfl 25⟩,⟨[.int .i64 0],_,rfl,rfl,⟨[.int .i64 0],_,rfl,rfl,rfl⟩⟩⟩) rfl (fun k h=>by cases h) rfl (by decide)
 rcases List.mem_cons.1 hp with rfl|hp
 ·exact g8 (by kernel_rfl) Tryz.underlying270 (bytes:=8) (by decide)
 rcases List.mem_cons.1 hp with rfl|hp
 ·exact j2 (by kernel_rfl) Tryz.underlying272 (bytes:=24) (by decide)
 rcases List.mem_cons.1 hp with rfl|hp
 ·exact dS (cells:=List.replicate 8 (.int .u32 0)++([]:List Value)) (bytes:=32) (by kernel_rfl) Tryz.underlying273 rfl (fun η A w=>⟨List.replicate 8 (.int .u32 0),_,rfl,⟨List.length_replicate,ak (k:= .u32) rfl 8⟩,rfl⟩) rfl (fun k h=>by cases h) rfl (by decide)
 rcases List.mem_cons.1 hp with rfl|hp
 ·exact dS (cells:=List.replicate 64 (.int .u32 0)++([]:List Value)) (bytes:=256) (by kernel_rfl) Tryz.underlying274 rfl (fun η A w=>⟨List.replicate 64 (.int .u32 0),_,rfl,⟨List.length_replicate,ak (k:= .u32) rfl 64⟩,rfl⟩) rfl (fun k h=>by cases h) rfl (by decide)
 rcases List.mem_cons.1 hp with rfl|hp
 ·exact g8 (by kernel_rfl) Tryz.underlying276 (bytes:=8) (by decide)
 rcases List.mem_cons.1 hp with rfl|hp
 ·exact dS (cells:=List.replicate 8 (.int .u32 0)++([.slice none 0 0]++([.int .u64 0]++([]:List Value)))) (bytes:=64) (by kernel_rfl) Tryz.underlying278 ⟨_,rfl,rfl⟩ (fun η A w=>⟨List.replicate 8 (.int .u32 0),_,rfl,⟨List.length_replicate,ak (k:= .u32) rfl 8⟩,⟨[.slice none 0 0],_,rfl,⟨rfl,rfl⟩,⟨[.int .u64 0],_,rfl,rfl,rfl⟩⟩⟩) rfl (fun k h=>by cases h) rfl (by decide)
 rcases List.mem_cons.1 hp with rfl|hp
 ·exact dS (cells:= [.pointer none]++([.pointer none]++([]:List Value))) (bytes:=16) (by kernel_rfl) Tryz.underlying280 ⟨_,rfl,rfl⟩ (fun η A w=>⟨[.pointer none],_,rfl,⟨rfl,rfl⟩,⟨[.pointer none],_,rfl,⟨rfl,rfl⟩,rfl⟩⟩) rfl (fun k h=>by cases h) rfl (by decide)
 rcases List.mem_cons.1 hp with rfl|hp
 ·exact dS (cells:=List.replicate 64 (.int .u8 0)++([]:List Value)) (bytes:=64) (by kernel_rfl) Tryz.underlying281 rfl (fun η A w=>⟨List.replicate 64 (.int .u8 0),_,rfl,⟨List.length_replicate,ak (k:= .u8) rfl 64⟩,rfl⟩) rfl (fun k h=>by cases h) rfl (by decide)
 rcases List.mem_cons.1 hp with rfl|hp
 ·exact dS (cells:=List.replicate 25 (.int .u64 0)++([]:List Value)) (bytes:=200) (by kernel_rfl) Tryz.underlying284 rfl (fun η A w=>⟨List.replicate 25 (.int .u64 0),_,rfl,⟨List.length_replicate,ak (k:= .u64) rfl 25⟩,rfl⟩) rfl (fun k h=>by cases h) rfl (by decide)
 rcases List.mem_cons.1 hp with rfl|hp
 ·exact dS (cells:= [.nilFunc]++([]:List Value)) (bytes:=8) (by kernel_rfl) Tryz.underlying285 rfl (fun η A w=>⟨[.nilFunc],_,rfl,⟨rfl,rfl⟩,rfl⟩) rfl (fun k h=>by cases h) rfl (by decide)
 rcases List.mem_cons.1 hp with rfl|hp
 ·exact dS (cells:= [.nilFunc]++([.nilFunc]++([.nilFunc]++([]:List Value)))) (bytes:=24) (by kernel_rfl) Tryz.underlying287 rfl (fun η A w=>⟨[.nilFunc],_,rfl,⟨rfl,rfl⟩,⟨[.nilFunc],_,rfl,⟨rfl,rfl⟩,⟨[.nilFunc],_,rfl,⟨rfl,rfl⟩,rfl⟩⟩⟩) rfl (fun k h=>by cases h) rfl (by decide)
 rcases List.mem_cons.1 hp with rfl|hp
 ·exact dS (cells:=List.replicate 24 (.int .u64 0)++([]:List Value)) (bytes:=192) (by kernel_rfl) Tryz.underlying288 rfl (fun η A w=>⟨List.replicate 24 (.int .u64 0),_,rfl,⟨List.length_replicate,ak (k:= .u64) rfl 24⟩,rfl⟩) rfl (fun k h=>by cases h) rfl (by decide)
 rcases List.mem_cons.1 hp with rfl|hp
 ·exact dS (cells:= [.pointer none]++([]:List Value)) (bytes:=8) (by kernel_rfl) Tryz.underlying291 ⟨_,rfl,rfl⟩ (fun η A w=>⟨[.pointer none],_,rfl,⟨rfl,rfl⟩,rfl⟩) rfl (fun k h=>by cases h) rfl (by decide)
 rcases List.mem_cons.1 hp with rfl|hp
 ·exact dS (cells:=List.replicate 128 (.int .u32 0)++([]:List Value)) (bytes:=512) (by kernel_rfl) Tryz.underlying251 rfl (fun η A w=>⟨List.replicate 128 (.int .u32 0),_,rfl,⟨List.length_replicate,ak (k:= .u32) rfl 128⟩,rfl⟩) rfl (fun k h=>by cases h) rfl (by decide)
 rcases List.mem_cons.1 hp with rfl|hp
 ·exact dS (cells:=List.replicate 25 (.int .u64 0)++([]:List Value)) (bytes:=200) (by kernel_rfl) Tryz.underlying260 rfl (fun η A w=>⟨List.replicate 25 (.int .u64 0),_,rfl,⟨List.length_replicate,ak (k:= .u64) rfl 25⟩,rfl⟩) rfl (fun k h=>by cases h) rfl (by decide)
 rcases List.mem_cons.1 hp with rfl|hp
 ·exact g8 (by kernel_rfl) Tryz.underlying37 (bytes:=8) (by decide)
 rcases List.mem_cons.1 hp with rfl|hp
 ·exact dS (cells:= [.int .i64 0]++([.int .i64 0]++([.int .i64 0]++([]:List Value)))) (bytes:=24) (by kernel_rfl) Tryz.underlying51 ⟨_,rfl,rfl⟩ (fun η A w=>⟨[.int .i64 0],_,rfl,rfl,⟨[.int .i64 0],_,rfl,rfl,⟨[.int .i64 0],_,rfl,rfl,rfl⟩⟩⟩) rfl (fun k h=>by cases h) rfl (by decide)
 rcases List.mem_cons.1 hp with rfl|hp
 ·exact j2 (by kernel_rfl) Tryz.underlying49 (bytes:=24) (by decide)
 rcases List.mem_cons.1 hp with rfl|hp
 ·exact dS (cells:= [.nilFunc]++([]:List Value)) (bytes:=8) (by kernel_rfl) Tryz.underlying43 rfl (fun η A w=>⟨[.nilFunc],_,rfl,⟨rfl,rfl⟩,rfl⟩) rfl (fun k h=>by cases h) rfl (by decide)
 rcases List.mem_cons.1 hp with rfl|hp
 ·exact dS (cells:= [.nilFunc]++([]:List Value)) (bytes:=8) (by kernel_rfl) Tryz.underlying87 rfl (fun η A w=>⟨[.nilFunc],_,rfl,⟨rfl,rfl⟩,rfl⟩) rfl (fun k h=>by cases h) rfl (by decide)
 cases hp
def am (t:Nat):TE:=match Nat.beq t 122 with
 |true=>⟨.st [(0,120)],5,[e4]⟩
 |false=>match Nat.beq t 124 with
  |true=>⟨.st [(0,122),(5,122),(10,122),(15,122)],20,[e4,e4,e4,e4]⟩
  |false=>match Nat.beq t 129 with
   |true=>⟨.st [(0,127)],4,[.ob (.x 2) (0:Nat)]⟩
   |false=>Nq t
theorem aj:a8 am:=fun t=>by
 have lim:∀ {n:Nat} {cs:List Value},aU Kd.u64.rp (List.replicate n (0:UInt64)) cs→cs=List.replicate n (.int .u64 0):=fun {n cs} h=>by
  rw [uC.1 h,List.map_replicate];rfl
 by_cases e1:t=122
 ·subst e1
  rcases pZ 122 with h|⟨i,d,z,h⟩
  ·cases h
  ·refine .inr ⟨i,d,z,dI h rfl rfl fun η A w=> ?_⟩
   obtain ⟨h1,r,e,⟨_,h2⟩,rfl⟩:=h.cells η A w
   exact hU n_ (by rw [e,List.append_nil];exact lim h2)
 ·by_cases e2:t=124
  ·subst e2
   rcases pZ 124 with h|⟨i,d,z,h⟩
   ·cases h
   ·refine .inr ⟨i,d,z,dI h rfl rfl fun η A w=> ?_⟩
    obtain ⟨h1,r1,e1,⟨_,k1⟩,h2,r2,e2,⟨_,k2⟩,h3,r3,e3,⟨_,k3⟩,h4,r4,e4,⟨_,k4⟩,rfl⟩:=h.cells η A w
    have k1:=lim k1;have k2:=lim k2;have k3:=lim k3;have k4:=lim k4
    subst k1 k2 k3 k4 e4 e3 e2
    exact ⟨_,_,e1,n_,_,_,rfl,n_,_,_,rfl,n_,_,_,rfl,n_,rfl⟩
  ·by_cases e3:t=129
   ·subst e3
    rcases pZ 129 with h|⟨i,d,z,h⟩
    ·cases h
    ·refine .inr ⟨i,d,z,dI h rfl rfl fun η A w=> ?_⟩
     obtain ⟨h1,r,e,⟨_,h2⟩,rfl⟩:=h.cells η A w
     refine hU (cs:=List.replicate 4 (.int .u64 0)) ⟨zU,rfl⟩ (by rw [e,List.append_nil];exact lim h2)
   ·have e:am t=Nq t:=by
     unfold am
     rw [show Nat.beq t 122=false from by rw [←Bool.not_eq_true,Nat.beq_eq];exact e1,show Nat.beq t 124=false from by rw [←Bool.not_eq_true,Nat.beq_eq];exact e2,show Nat.beq t 129=false from by rw [←Bool.not_eq_true,Nat.beq_eq];exact e3]
    rcases pZ t with h|⟨i,d,z,h⟩
    ·exact .inl (by rw [e];exact h)
    ·exact .inr ⟨i,d,z,dI h (by rw [e]) (by rw [e]) (by rw [e];exact h.cells)⟩
end Go.Proofs.YtnlhpncaldcllaaGreat
namespace Go.Proofs.YtnlhpncaldcllaaGreat
open Go.RowKit
def fV (f:Nat→Nat) (i:Nat):Value:= .int .u64 (f i:Nat)
theorem K9 (f:Nat→Value):row 5 f= [f 0,f 1,f 2,f 3,f 4]:=rfl
def kE (f:Nat→Nat) (c0 k i:Nat):Value:=if i<k then fV (bP f c0) i else fV f i
theorem sg (f:Nat→Nat) (c0 k:Nat):kE f c0 k k= .int .u64 (f k:Nat):=by unfold kE;rw [if_neg (by omega)];rfl
theorem nu (f:Nat→Nat) (c0 k:Nat):(row 5 (kE f c0 k)).set k (.int .u64 (bP f c0 k:Nat))=row 5 (kE f c0 (k+1)):=
 dA k _ (by unfold kE;rw [if_pos (by omega)];rfl) (fun i _ h=>by unfold kE;by_cases h1:i<k;rw [if_pos h1,if_pos (by omega)];rw [if_neg h1,if_neg (by omega)])
theorem kH (f:Nat→Nat) (c0:Nat):row 5 (kE f c0 0)=row 5 (fV f):=iw fun i _=>by unfold kE;rw [if_neg (by omega)]
theorem kF (f:Nat→Nat) (c0:Nat):row 5 (kE f c0 5)=row 5 (fV (bP f c0)):=iw fun i h=>by unfold kE;rw [if_pos h]
theorem oJ (x:Nat) (h:x<18446744073709551616):bits BinOp.and IntKind.u64 (x:Int) 2251799813685247=((x%2251799813685248:Nat):Int):=by
 rw [show (2251799813685247:Int)=((2251799813685247:Nat):Int) from rfl,u64_and_nat x 2251799813685247 h (by omega)]
 rw [show x&&&2251799813685247=x%2251799813685248 from Nat.and_two_pow_sub_one_eq_mod x 51]
theorem ip (f:Nat→Nat) (c0 k:Nat) (h:f k+cr f c0 k<18446744073709551616):
  ∃s:Int,IntKind.u64.wrap ((f k:Nat)+(cr f c0 k:Nat):Int)=s∧0≤s∧s<18446744073709551616∧bits BinOp.and IntKind.u64 s 2251799813685247=(bP f c0 k:Nat)∧s/2251799813685248=(cr f c0 (k+1):Nat):=by
 refine ⟨((f k+cr f c0 k:Nat):Int),by rw [c8];omega,by omega,by omega,oJ _ h,?_⟩
 show _=(((f k+cr f c0 k)/2251799813685248:Nat):Int)
 omega
set_option maxHeartbeats 1000000 in
theorem dD (f:Nat→Nat) (hf:∀i,i<5→f i≤9223372036854775808) (w:World):
  Calls Tryz.prog 227 #[.agg #[.int .u64 (f 0:Nat),.int .u64 (f 1:Nat),.int .u64 (f 2:Nat),.int .u64 (f 3:Nat),.int .u64 (f 4:Nat)]] w fun e w'=>e= .returned (.agg #[.int .u64 (cF f 0:Nat),.int .u64 (cF f 1:Nat),.int .u64 (cF f 2:Nat),.int .u64 (cF f 3:Nat),.int .u64 (cF f 4:Nat)])∧Below w.heap.size w w':=by
 have HF:=Lib.hid hf
 clear hf
 go_enter Tryz.func227,Tryz.ntmps227
 go_wp2
 refine dO (fun W=>ao W w.heap.size (row 5 (fV f)) 120∧ao W (w.heap.size+1) (row 5 (fV fun _=>0)) 122∧Below w.heap.size w W) ?_ (fun W hW=> ?_)
 ·exact ⟨(ao.new w _ _).alloc _,ao.new' (by simp),(by repeat (first|(with_reducible refine Below.alloc' ?_ _)|(with_reducible refine Below.drew ?_)|(with_reducible refine below_drewN ?_ _)|((with_reducible refine Below.setCell ?_ ?_ _);rotate_left;(focus (first|exact Nat.le_refl _|(simp;done)|(simp;omega))))|(with_reducible assumption)|(with_reducible exact Below.refl _ _)))⟩
 obtain ⟨hA,hO,hbel⟩:=hW
 refine wp_loop_rounds 3 ?_
 rw [rounds_succ]
 go_wp2
 go_loopw [3,7] (fun c i wr=>∃k:Nat,k≤5∧i= .int .i64 k∧c= .int .u64 (cr f 0 k:Nat)∧ao wr w.heap.size (row 5 (kE f 0 k)) 120∧ao wr (w.heap.size+1) (row 5 (fV fun _=>0)) 122∧Below w.heap.size w wr) (fun _ i _=>5-(intOf i).toNat)
 case atStart=>exact ⟨0,by omega,rfl,rfl,by rw [kH];exact hA,hO,hbel⟩
 clear hA hO hbel
 have hb1:∀k,k<5→f k+cr f 0 k<18446744073709551616:=fun k hk=>by
  have:=HF.out k hk;have:=oR f 0 HF.out (by omega) k (by omega);omega
 have HB1:=Lib.hid hb1
 clear hb1
 case round=>
  obtain ⟨k,hk,rfl,rfl,hA,hO,hbel⟩:=hrel
  by_cases hlt:k<5
  ·obtain ⟨s,hs,hs0,hs1,ha,hd⟩:=ip f 0 k (HB1.out k hlt)
   have hcell:=hA.at hlt
   rw [sg] at hcell
   have hfr:=hA.frozen k
   have HD:=Lib.hid hd
   have HA:=Lib.hid ((hA.set k (.int .u64 s)).set k (.int .u64 (bP f 0 k:Nat)))
   have HO:=Lib.hid ((hO.other ⟨w.heap.size,k,none⟩ (by simp) (.int .u64 s)).other ⟨w.heap.size,k,none⟩ (by simp) (.int .u64 (bP f 0 k:Nat)))
   clear hA hO hd
   go_wp2
   go_roundw
   case rel=>exact ⟨k+1,by omega,by go_num,by rw [HD.out],by have:=HA.out;rw [List.set_set,nu] at this;exact this,HO.out,(by repeat (first|(with_reducible refine Below.alloc' ?_ _)|(with_reducible refine Below.drew ?_)|(with_reducible refine below_drewN ?_ _)|((with_reducible refine Below.setCell ?_ ?_ _);rotate_left;(focus (first|exact Nat.le_refl _|(simp;done)|(simp;omega))))|(with_reducible assumption)|(with_reducible exact Below.refl _ _)))⟩
   case measure=>simp [intOf];omega
  ·obtain rfl:k=5:=by omega
   rw [kF] at hA
   have hm:IntKind.u64.wrap (((cr f 0 5:Nat):Int)*19)=((cr f 0 5*19:Nat):Int):=by
    have:=S6 f HF.out;rw [c8];omega
   have HC1:Hid (cr f 0 5*19≤77843):=Lib.hid (by have:=S6 f HF.out;omega)
   clear hlt hk HB1
   generalize hc1:cr f 0 5*19=c1 at*
   have HC:=Lib.hid hc1
   clear hc1
   go_wp2
   rw [rounds_succ]
   go_wp2
   clear hm
   go_loopw [3,7] (fun c i wr=>∃k:Nat,k≤5∧i= .int .i64 k∧c= .int .u64 (cr (bP f 0) c1 k:Nat)∧ao wr w.heap.size (row 5 (kE (bP f 0) c1 k)) 120∧ao wr (w.heap.size+1) (row 5 (fV fun _=>0)) 122∧Below w.heap.size w wr) (fun _ i _=>5-(intOf i).toNat)
   case atStart=>exact ⟨0,by omega,rfl,rfl,by rw [kH];exact hA,hO,hbel⟩
   clear hA hO hbel
   have hb2:∀k,k<5→bP f 0 k+cr (bP f 0) c1 k<18446744073709551616:=fun k hk=>by
    have:=dp f 0 k;have:=oR (bP f 0) c1 (fun i _=>by have:=dp f 0 i;omega) (by have:=HC1.out;omega) k (by omega);omega
   have HB2:=Lib.hid hb2
   clear hb2
   case round=>
    obtain ⟨k,hk,rfl,rfl,hA,hO,hbel⟩:=hrel
    by_cases hlt:k<5
    ·obtain ⟨s,hs,hs0,hs1,ha,hd⟩:=ip (bP f 0) c1 k (HB2.out k hlt)
     have hcell:=hA.at hlt
     rw [sg] at hcell
     have hfr:=hA.frozen k
     have HD:=Lib.hid hd
     have HA:=Lib.hid ((hA.set k (.int .u64 s)).set k (.int .u64 (bP (bP f 0) c1 k:Nat)))
     have HO:=Lib.hid ((hO.other ⟨w.heap.size,k,none⟩ (by simp) (.int .u64 s)).other ⟨w.heap.size,k,none⟩ (by simp) (.int .u64 (bP (bP f 0) c1 k:Nat)))
     clear hA hO hd
     go_wp2
     go_roundw
     case rel=>exact ⟨k+1,by omega,by go_num,by rw [HD.out],by have:=HA.out;rw [List.set_set,nu] at this;exact this,HO.out,(by repeat (first|(with_reducible refine Below.alloc' ?_ _)|(with_reducible refine Below.drew ?_)|(with_reducible refine below_drewN ?_ _)|((with_reducible refine Below.setCell ?_ ?_ _);rotate_left;(focus (first|exact Nat.le_refl _|(simp;done)|(simp;omega))))|(with_reducible assumption)|(with_reducible exact Below.refl _ _)))⟩
     case measure=>simp [intOf];omega
    ·obtain rfl:k=5:=by omega
     rw [kF] at hA
     have h5:=w_ (bP f 0) c1 (dp f 0) (by have:=HC1.out;omega) 5 (by omega)
     have h0:=dp (bP f 0) c1 0
     have hm:IntKind.u64.wrap (((cr (bP f 0) c1 5:Nat):Int)*19)=((cr (bP f 0) c1 5*19:Nat):Int):=by rw [c8];omega
     have hs:IntKind.u64.wrap (((bP (bP f 0) c1 0:Nat):Int)+((cr (bP f 0) c1 5*19:Nat):Int))=((cF f 0:Nat):Int):=by
      rw [c8];show _=((bP (bP f 0) (cr f 0 5*19) 0+cr (bP f 0) (cr f 0 5*19) 5*19:Nat):Int)
      rw [HC.out];omega
     rw [K9] at hA hO
     have hAc:=hA.cell;have hAf:=hA.frozen;have hOc:=hO.cell;have hOf:=hO.frozen
     unfold fV at hAc hOc
     rw [show bP (bP f 0) c1 1=cF f 1 from by rw [←HC.out];rfl,show bP (bP f 0) c1 2=cF f 2 from by rw [←HC.out];rfl,show bP (bP f 0) c1 3=cF f 3 from by rw [←HC.out];rfl,show bP (bP f 0) c1 4=cF f 4 from by rw [←HC.out];rfl] at hAc
     generalize cr (bP f 0) c1 5*19=c2 at*
     generalize cr (bP f 0) c1 5=c3 at*
     generalize bP (bP f 0) c1 0=p0 at*
     clear h5 h0 hA hO hlt hk HB2
     go_wp2
     rw [rounds_succ]
     go_wp2
     exact bodyPost_ret (v:= .agg #[.int .u64 (cF f 0:Nat),.int .u64 (cF f 1:Nat),.int .u64 (cF f 2:Nat),.int .u64 (cF f 3:Nat),.int .u64 (cF f 4:Nat)]) (by simp [results,Tryz.results227,go_sem,hOc]) rfl ⟨rfl,(by repeat (first|(with_reducible refine Below.alloc' ?_ _)|(with_reducible refine Below.drew ?_)|(with_reducible refine below_drewN ?_ _)|((with_reducible refine Below.setCell ?_ ?_ _);rotate_left;(focus (first|exact Nat.le_refl _|(simp;done)|(simp;omega))))|(with_reducible assumption)|(with_reducible exact Below.refl _ _)))⟩
structure FE (f:Nat→Nat) (n:Nat):Prop where
 lim:oH f
 num:val f%Pq=n
theorem FE.lt {f:Nat→Nat} {n:Nat} (h:FE f n):n<Pq:=by rw [←h.num];exact Nat.mod_lt _ wJ
theorem oH.lt {f:Nat→Nat} (h:oH f):∀i,i<5→f i<2251799813685268:=by
 intro i hi
 have hh:i=0∨i=1∨i=2∨i=3∨i=4:=by omega
 rcases hh with rfl|rfl|rfl|rfl|rfl
 ·exact h.l0
 ·have:=h.l1;omega
 ·have:=h.l2;omega
 ·have:=h.l3;omega
 ·have:=h.l4;omega
def j9 (f g:Nat→Nat) (i:Nat):Nat:=f i+g i
theorem Et (f g:Nat→Nat):val (j9 f g)=val f+val g:=by simp only [val,j9];omega
theorem jr {f g:Nat→Nat} (hf:oH f) (hg:oH g) (i:Nat) (hi:i<5):IntKind.u64.wrap ((f i:Nat)+(g i:Nat):Int)=(j9 f g i:Nat):=by
 have:=hf.lt i hi;have:=hg.lt i hi
 unfold j9;rw [c8];omega
set_option maxHeartbeats 1000000 in
theorem B2 {f g:Nat→Nat} {x y:Nat} (hf:FE f x) (hg:FE g y) (w:World):
  Calls Tryz.prog 168 #[.agg #[.int .u64 (f 0:Nat),.int .u64 (f 1:Nat),.int .u64 (f 2:Nat),.int .u64 (f 3:Nat),.int .u64 (f 4:Nat)],.agg #[.int .u64 (g 0:Nat),.int .u64 (g 1:Nat),.int .u64 (g 2:Nat),.int .u64 (g 3:Nat),.int .u64 (g 4:Nat)]] w fun e w'=>∃h,e= .returned (.agg #[.int .u64 (h 0:Nat),.int .u64 (h 1:Nat),.int .u64 (h 2:Nat),.int .u64 (h 3:Nat),.int .u64 (h 4:Nat)])∧FE h ((x+y)%Pq)∧Below w.heap.size w w':=by
 have s0:=jr hf.lim hg.lim 0 (by omega)
 have s1:=jr hf.lim hg.lim 1 (by omega)
 have s2:=jr hf.lim hg.lim 2 (by omega)
 have s3:=jr hf.lim hg.lim 3 (by omega)
 have s4:=jr hf.lim hg.lim 4 (by omega)
 have hb:∀i,i<5→j9 f g i≤9223372036854775808:=fun i hi=>by
  have:=hf.lim.lt i hi;have:=hg.lim.lt i hi;unfold j9;omega
 have HB:=Lib.hid hb
 have HR:Hid (FE (cF (j9 f g)) ((x+y)%Pq)):=Lib.hid ⟨qf _ hb,by rw [qg,Et,Nat.add_mod,hf.num,hg.num]⟩
 clear hb hf hg
 go_enter Tryz.func168,Tryz.ntmps168
 go_wp2
 refine wp_loop_rounds 6 ?_
 iterate 5 (rw [rounds_succ];go_wp2;go_region;go_wp2)
 rw [rounds_succ]
 go_wp2_with (go_at_call 227;go_must (refine (dD (j9 f g) HB.out _).mono ?_;rintro e w1 ⟨rfl,hb⟩;have hO:=(show ao _ (w.heap.size+1+1) [.int .u64 0,.int .u64 0,.int .u64 0,.int .u64 0,.int .u64 0] 122 from (by repeat (first|(with_reducible refine ao.drew ?_)|exact ao.new' (by simp)|(with_reducible refine ao.alloc ?_ _)))).below' hb;have hOc:=hO.cell;have hOf:=hO.frozen;have hbel:Below w.heap.size w w1:=Below.call (by repeat (first|(with_reducible refine Below.alloc' ?_ _)|(with_reducible refine Below.drew ?_)|(with_reducible refine below_drewN ?_ _)|((with_reducible refine Below.setCell ?_ ?_ _);rotate_left;(focus (first|exact Nat.le_refl _|(simp;done)|(simp;omega))))|(with_reducible assumption)|(with_reducible exact Below.refl _ _))) hb;clear hb hO))
 exact bodyPost_ret (v:= .agg #[.int .u64 (cF (j9 f g) 0:Nat),.int .u64 (cF (j9 f g) 1:Nat),.int .u64 (cF (j9 f g) 2:Nat),.int .u64 (cF (j9 f g) 3:Nat),.int .u64 (cF (j9 f g) 4:Nat)]) (by simp [results,Tryz.results168,go_sem,hOc]) rfl ⟨_,rfl,HR.out,(by repeat (first|(with_reducible refine Below.alloc' ?_ _)|(with_reducible refine Below.drew ?_)|(with_reducible refine below_drewN ?_ _)|((with_reducible refine Below.setCell ?_ ?_ _);rotate_left;(focus (first|exact Nat.le_refl _|(simp;done)|(simp;omega))))|(with_reducible assumption)|(with_reducible exact Below.refl _ _)))⟩
def kV (i:Nat):Nat:=if i=0 then 9007199254740916 else 9007199254740988
def gt (f g:Nat→Nat) (i:Nat):Nat:=f i+(kV i-g i)
theorem Hj {f g:Nat→Nat} (hg:oH g):val (gt f g)+val g=val f+4*Pq:=by
 have h0:=hg.l0;have h1:=hg.l1;have h2:=hg.l2;have h3:=hg.l3;have h4:=hg.l4
 simp only [val,gt,kV,if_true,if_neg (show ¬(1=0) by omega),if_neg (show ¬(2=0) by omega),if_neg (show ¬(3=0) by omega),if_neg (show ¬(4=0) by omega),Pq]
 omega
theorem j0 {f g:Nat→Nat} (hf:oH f) (hg:oH g) (i:Nat) (hi:i<5):IntKind.u64.wrap ((f i:Nat)+IntKind.u64.wrap ((kV i:Nat)-(g i:Nat)):Int)=(gt f g i:Nat):=by
 have:=hf.lt i hi;have:=hg.lt i hi
 have hk:9007199254740916≤kV i∧kV i≤9007199254740988:=by unfold kV;split<;>omega
 unfold gt;rw [c8,c8];omega
theorem Ks {a b x y:Nat} (h:a+b=x+4*Pq) (hy:b%Pq=y):a%Pq=(x%Pq+(Pq-y))%Pq:=by
 unfold Pq at *;omega
set_option maxHeartbeats 1000000 in
theorem o6 {f g:Nat→Nat} {x y:Nat} (hf:FE f x) (hg:FE g y) (w:World):
  Calls Tryz.prog 166 #[.agg #[.int .u64 (f 0:Nat),.int .u64 (f 1:Nat),.int .u64 (f 2:Nat),.int .u64 (f 3:Nat),.int .u64 (f 4:Nat)],.agg #[.int .u64 (g 0:Nat),.int .u64 (g 1:Nat),.int .u64 (g 2:Nat),.int .u64 (g 3:Nat),.int .u64 (g 4:Nat)]] w fun e w'=>∃h,e= .returned (.agg #[.int .u64 (h 0:Nat),.int .u64 (h 1:Nat),.int .u64 (h 2:Nat),.int .u64 (h 3:Nat),.int .u64 (h 4:Nat)])∧FE h ((x+(Pq-y))%Pq)∧Below w.heap.size w w':=by
 have s0:IntKind.u64.wrap ((f 0:Nat)+IntKind.u64.wrap (9007199254740916-(g 0:Nat)):Int)=(gt f g 0:Nat):=j0 hf.lim hg.lim 0 (by omega)
 have s1:IntKind.u64.wrap ((f 1:Nat)+IntKind.u64.wrap (9007199254740988-(g 1:Nat)):Int)=(gt f g 1:Nat):=j0 hf.lim hg.lim 1 (by omega)
 have s2:IntKind.u64.wrap ((f 2:Nat)+IntKind.u64.wrap (9007199254740988-(g 2:Nat)):Int)=(gt f g 2:Nat):=j0 hf.lim hg.lim 2 (by omega)
 have s3:IntKind.u64.wrap ((f 3:Nat)+IntKind.u64.wrap (9007199254740988-(g 3:Nat)):Int)=(gt f g 3:Nat):=j0 hf.lim hg.lim 3 (by omega)
 have s4:IntKind.u64.wrap ((f 4:Nat)+IntKind.u64.wrap (9007199254740988-(g 4:Nat)):Int)=(gt f g 4:Nat):=j0 hf.lim hg.lim 4 (by omega)
 have hb:∀i,i<5→gt f g i≤9223372036854775808:=fun i hi=>by
  have:=hf.lim.lt i hi
  have hk:kV i≤9007199254740988:=by unfold kV;split<;>omega
  unfold gt;omega
 have HB:=Lib.hid hb
 have HR:Hid (FE (cF (gt f g)) ((x+(Pq-y))%Pq)):=Lib.hid ⟨qf _ hb,by rw [qg,Ks (Hj hg.lim) hg.num,hf.num]⟩
 clear hb hf hg
 go_enter Tryz.func166,Tryz.ntmps166
 go_wp2
 refine wp_loop_rounds 6 ?_
 iterate 5 (rw [rounds_succ];go_wp2;(try go_region);go_wp2)
 rw [rounds_succ]
 go_wp2_with (go_at_call 227;go_must (refine (dD (gt f g) HB.out _).mono ?_;rintro e w1 ⟨rfl,hb⟩;have hO:=(show ao _ (w.heap.size+1+1) [.int .u64 0,.int .u64 0,.int .u64 0,.int .u64 0,.int .u64 0] 122 from (by repeat (first|(with_reducible refine ao.drew ?_)|exact ao.new' (by simp)|(with_reducible refine ao.alloc ?_ _)))).below' hb;have hOc:=hO.cell;have hOf:=hO.frozen;have hbel:Below w.heap.size w w1:=Below.call (by repeat (first|(with_reducible refine Below.alloc' ?_ _)|(with_reducible refine Below.drew ?_)|(with_reducible refine below_drewN ?_ _)|((with_reducible refine Below.setCell ?_ ?_ _);rotate_left;(focus (first|exact Nat.le_refl _|(simp;done)|(simp;omega))))|(with_reducible assumption)|(with_reducible exact Below.refl _ _))) hb;clear hb hO))
 exact bodyPost_ret (v:= .agg #[.int .u64 (cF (gt f g) 0:Nat),.int .u64 (cF (gt f g) 1:Nat),.int .u64 (cF (gt f g) 2:Nat),.int .u64 (cF (gt f g) 3:Nat),.int .u64 (cF (gt f g) 4:Nat)]) (by simp [results,Tryz.results166,go_sem,hOc]) rfl ⟨_,rfl,HR.out,(by repeat (first|(with_reducible refine Below.alloc' ?_ _)|(with_reducible refine Below.drew ?_)|(with_reducible refine below_drewN ?_ _)|((with_reducible refine Below.setCell ?_ ?_ _);rotate_left;(focus (first|exact Nat.le_refl _|(simp;done)|(simp;omega))))|(with_reducible assumption)|(with_reducible exact Below.refl _ _)))⟩
theorem FE.zero:FE (fun _=>0) 0:=⟨⟨by omega,by omega,by omega,by omega,by omega⟩,by decide +kernel⟩
theorem EF (w:World):(Instr.build 122 #[]).run Tryz.prog w= .ok (.agg #[.int .u64 0,.int .u64 0,.int .u64 0,.int .u64 0,.int .u64 0]) w:=by kernel_rfl
theorem xv {g:Nat→Nat} {y:Nat} (hg:FE g y) (w:World):
  Calls Tryz.prog 166 #[.agg #[.int .u64 0,.int .u64 0,.int .u64 0,.int .u64 0,.int .u64 0],.agg #[.int .u64 (g 0:Nat),.int .u64 (g 1:Nat),.int .u64 (g 2:Nat),.int .u64 (g 3:Nat),.int .u64 (g 4:Nat)]] w fun e w'=>∃h,e= .returned (.agg #[.int .u64 (h 0:Nat),.int .u64 (h 1:Nat),.int .u64 (h 2:Nat),.int .u64 (h 3:Nat),.int .u64 (h 4:Nat)])∧FE h ((Pq-y)%Pq)∧Below w.heap.size w w':=by
 have:=o6 FE.zero hg w
 rw [Nat.zero_add] at this;exact this
set_option maxHeartbeats 1000000 in
theorem oY {f:Nat→Nat} {x:Nat} (hf:FE f x) (w:World):
  Calls Tryz.prog 174 #[.agg #[.int .u64 (f 0:Nat),.int .u64 (f 1:Nat),.int .u64 (f 2:Nat),.int .u64 (f 3:Nat),.int .u64 (f 4:Nat)]] w fun e w'=>∃h,e= .returned (.agg #[.int .u64 (h 0:Nat),.int .u64 (h 1:Nat),.int .u64 (h 2:Nat),.int .u64 (h 3:Nat),.int .u64 (h 4:Nat)])∧FE h ((Pq-x)%Pq)∧Below w.heap.size w w':=by
 have hbE:=EF
 go_enter Tryz.func174,Tryz.ntmps174
 go_wp2_with (go_at_call 166;go_must (refine (xv hf _).mono ?_;rintro e w1 ⟨h,rfl,hr,hb⟩;have hO:=(show ao _ (w.heap.size+1) [.int .u64 0,.int .u64 0,.int .u64 0,.int .u64 0,.int .u64 0] 122 from (by repeat (first|(with_reducible refine ao.drew ?_)|exact ao.new' (by simp)|(with_reducible refine ao.alloc ?_ _)))).below' hb;have hOc:=hO.cell;have hOf:=hO.frozen;have hbel:Below w.heap.size w w1:=Below.call (by repeat (first|(with_reducible refine Below.alloc' ?_ _)|(with_reducible refine Below.drew ?_)|(with_reducible refine below_drewN ?_ _)|((with_reducible refine Below.setCell ?_ ?_ _);rotate_left;(focus (first|exact Nat.le_refl _|(simp;done)|(simp;omega))))|(with_reducible assumption)|(with_reducible exact Below.refl _ _))) hb;clear hb hO))
 exact bodyPost_ret (v:= .agg #[.int .u64 (h 0:Nat),.int .u64 (h 1:Nat),.int .u64 (h 2:Nat),.int .u64 (h 3:Nat),.int .u64 (h 4:Nat)]) (by simp [results,Tryz.results174,go_sem,hOc]) rfl ⟨_,rfl,hr,(by repeat (first|(with_reducible refine Below.alloc' ?_ _)|(with_reducible refine Below.drew ?_)|(with_reducible refine below_drewN ?_ _)|((with_reducible refine Below.setCell ?_ ?_ _);rotate_left;(focus (first|exact Nat.le_refl _|(simp;done)|(simp;omega))))|(with_reducible assumption)|(with_reducible exact Below.refl _ _)))⟩
def bW (n i:Nat):Nat:=if i=0 then n%2251799813685248 else if i=1 then n/2251799813685248 else 0
theorem zx (n:Nat):val (bW n)=n:=by
 simp only [val,bW,if_true,if_neg (show ¬(1=0) by omega),if_neg (show ¬(2=0) by omega),if_neg (show ¬(3=0) by omega),if_neg (show ¬(4=0) by omega),if_neg (show ¬(2=1) by omega),if_neg (show ¬(3=1) by omega),if_neg (show ¬(4=1) by omega)]
 omega
theorem FE.small {n:Nat} (hn:n<18446744073709551616):FE (bW n) n:=
 ⟨⟨by simp only [bW,if_true];omega,by simp [bW];omega,by simp [bW],by simp [bW],by simp [bW]⟩,by rw [zx,Nat.mod_eq_of_lt (by unfold Pq;omega)]⟩
set_option maxHeartbeats 1000000 in
theorem kU {n:Nat} (hn:n<18446744073709551616) (w:World):
  Calls Tryz.prog 164 #[.int .u64 n] w fun e w'=>e= .returned (.agg #[.int .u64 (bW n 0:Nat),.int .u64 (bW n 1:Nat),.int .u64 (bW n 2:Nat),.int .u64 (bW n 3:Nat),.int .u64 (bW n 4:Nat)])∧Below w.heap.size w w':=by
 have ha:=oJ n hn
 have HD:Hid ((n:Int)/2251799813685248=(bW n 1:Nat)):=Lib.hid (by simp [bW])
 have HE:Hid (((n%2251799813685248:Nat):Int)=(bW n 0:Nat)):=Lib.hid (by simp [bW])
 rw [HE.out] at ha
 clear hn
 go_enter Tryz.func164,Tryz.ntmps164
 go_wp2
 exact bodyPost_ret (v:= .agg #[.int .u64 (bW n 0:Nat),.int .u64 ((n:Int)/2251799813685248),.int .u64 0,.int .u64 0,.int .u64 0]) (by simp [results,Tryz.results164,go_sem]) rfl ⟨by rw [HD.out];rfl,(by repeat (first|(with_reducible refine Below.alloc' ?_ _)|(with_reducible refine Below.drew ?_)|(with_reducible refine below_drewN ?_ _)|((with_reducible refine Below.setCell ?_ ?_ _);rotate_left;(focus (first|exact Nat.le_refl _|(simp;done)|(simp;omega))))|(with_reducible assumption)|(with_reducible exact Below.refl _ _)))⟩
set_option maxHeartbeats 1000000 in
theorem xq (b:Bool) (f g:Nat→Nat) (w:World):
  Calls Tryz.prog 173 #[.bool b,.agg #[.int .u64 (f 0:Nat),.int .u64 (f 1:Nat),.int .u64 (f 2:Nat),.int .u64 (f 3:Nat),.int .u64 (f 4:Nat)],.agg #[.int .u64 (g 0:Nat),.int .u64 (g 1:Nat),.int .u64 (g 2:Nat),.int .u64 (g 3:Nat),.int .u64 (g 4:Nat)]] w fun e w'=>e= .returned (.agg #[.int .u64 ((if b then f else g) 0:Nat),.int .u64 ((if b then f else g) 1:Nat),.int .u64 ((if b then f else g) 2:Nat),.int .u64 ((if b then f else g) 3:Nat),.int .u64 ((if b then f else g) 4:Nat)])∧Below w.heap.size w w':=by
 cases b
 ·go_enter Tryz.func173,Tryz.ntmps173
  go_wp2
  exact bodyPost_ret (v:= .agg #[.int .u64 (g 0:Nat),.int .u64 (g 1:Nat),.int .u64 (g 2:Nat),.int .u64 (g 3:Nat),.int .u64 (g 4:Nat)]) (by simp [results,Tryz.results173,go_sem]) rfl ⟨rfl,(by repeat (first|(with_reducible refine Below.alloc' ?_ _)|(with_reducible refine Below.drew ?_)|(with_reducible refine below_drewN ?_ _)|((with_reducible refine Below.setCell ?_ ?_ _);rotate_left;(focus (first|exact Nat.le_refl _|(simp;done)|(simp;omega))))|(with_reducible assumption)|(with_reducible exact Below.refl _ _)))⟩
 ·go_enter Tryz.func173,Tryz.ntmps173
  go_wp2
  exact bodyPost_ret (v:= .agg #[.int .u64 (f 0:Nat),.int .u64 (f 1:Nat),.int .u64 (f 2:Nat),.int .u64 (f 3:Nat),.int .u64 (f 4:Nat)]) (by simp [results,Tryz.results173,go_sem]) rfl ⟨rfl,(by repeat (first|(with_reducible refine Below.alloc' ?_ _)|(with_reducible refine Below.drew ?_)|(with_reducible refine below_drewN ?_ _)|((with_reducible refine Below.setCell ?_ ?_ _);rotate_left;(focus (first|exact Nat.le_refl _|(simp;done)|(simp;omega))))|(with_reducible assumption)|(with_reducible exact Below.refl _ _)))⟩
def e_ (n:Nat):Nat:=n/18446744073709551616
def eE (n:Nat):Nat:=n%18446744073709551616
theorem GS (n a b:Nat) (_ha:a<18446744073709551616) (_hb:b<18446744073709551616) (h:n+a*b<340282366920938463463374607431768211456):
  lg (Gl a b) (eE n:Nat) 0=(eE (n+a*b):Nat)∧lg (Ox a b) (e_ n:Nat) (n7 (Gl a b) (eE n:Nat) 0)=(e_ (n+a*b):Nat):=by
 unfold lg n7 Gl Ox eE e_
 rw [show (a:Int)*(b:Int)=((a*b:Nat):Int) from by simp]
 generalize a*b=p at*
 constructor
 ·omega
 ·omega
theorem Oy (a b:Nat) (ha:a<18446744073709551616) (hb:b<18446744073709551616):Wd (Ox a b):=by
 have h5:a*b≤18446744073709551615*18446744073709551615:=Nat.mul_le_mul (by omega) (by omega)
 unfold Ox
 rw [show (a:Int)*(b:Int)=((a*b:Nat):Int) from by simp]
 generalize a*b=p at*
 exact ⟨by omega,by omega⟩
theorem Iy (n:Nat):Wd (eE n:Nat):=by unfold eE;exact ⟨by omega,by omega⟩
theorem PE {n:Nat} (h:n<340282366920938463463374607431768211456):Wd (e_ n:Nat):=by unfold e_;exact ⟨by omega,by omega⟩
set_option maxHeartbeats 1000000 in
theorem fL (n a b:Nat) (ha:a<18446744073709551616) (hb:b<18446744073709551616) (h:n+a*b<340282366920938463463374607431768211456) (w:World):
  Calls Tryz.prog 226 #[.agg #[.int .u64 (e_ n:Nat),.int .u64 (eE n:Nat)],.int .u64 a,.int .u64 b] w fun e w'=>e= .returned (.agg #[.int .u64 (e_ (n+a*b):Nat),.int .u64 (eE (n+a*b):Nat)])∧Below w.heap.size w w':=by
 have hn:=GS n a b ha hb h
 have h1:=fun w=>tc (yL a b) (Iy n) Cy.zero w
 have h2:=fun w=>tc (Oy a b ha hb) (PE (n:=n) (by omega)) (I1 (yL a b) (Iy n) Cy.zero) w
 rw [hn.1] at h1
 rw [hn.2] at h2
 have HM:=Lib.hid (fun w=>AY (x:=a) (y:=b) ⟨by omega,by omega⟩ ⟨by omega,by omega⟩ w)
 clear hn h ha hb
 go_enter Tryz.func226,Tryz.ntmps226
 go_wp2_with (go_at_call 198;go_must (refine (HM.out _).mono ?_;rintro e w1 ⟨rfl,rfl⟩))
 exact bodyPost_ret (v:= .agg #[.int .u64 (e_ (n+a*b):Nat),.int .u64 (eE (n+a*b):Nat)]) (by simp [results,Tryz.results226,go_sem]) rfl ⟨rfl,(by repeat (first|(with_reducible refine Below.alloc' ?_ _)|(with_reducible refine Below.drew ?_)|(with_reducible refine below_drewN ?_ _)|((with_reducible refine Below.setCell ?_ ?_ _);rotate_left;(focus (first|exact Nat.le_refl _|(simp;done)|(simp;omega))))|(with_reducible assumption)|(with_reducible exact Below.refl _ _)))⟩
theorem MI (x0 x1 x2 x3 x4:Value) (w:World):(Instr.index 120 (.agg #[x0,x1,x2,x3,x4]) (.int .i64 0)).run Tryz.prog w= .ok x0 w:=by kernel_rfl
theorem Q7 (x0 x1 x2 x3 x4:Value) (w:World):(Instr.index 120 (.agg #[x0,x1,x2,x3,x4]) (.int .i64 1)).run Tryz.prog w= .ok x1 w:=by kernel_rfl
theorem Q8 (x0 x1 x2 x3 x4:Value) (w:World):(Instr.index 120 (.agg #[x0,x1,x2,x3,x4]) (.int .i64 2)).run Tryz.prog w= .ok x2 w:=by kernel_rfl
theorem Q9 (x0 x1 x2 x3 x4:Value) (w:World):(Instr.index 120 (.agg #[x0,x1,x2,x3,x4]) (.int .i64 3)).run Tryz.prog w= .ok x3 w:=by kernel_rfl
theorem Q_ (x0 x1 x2 x3 x4:Value) (w:World):(Instr.index 120 (.agg #[x0,x1,x2,x3,x4]) (.int .i64 4)).run Tryz.prog w= .ok x4 w:=by kernel_rfl
theorem TB (f:Nat→Nat) (k:Nat) (hk:k<5) (w:World):(Instr.index 120 (.agg #[.int .u64 (f 0:Nat),.int .u64 (f 1:Nat),.int .u64 (f 2:Nat),.int .u64 (f 3:Nat),.int .u64 (f 4:Nat)]) (.int .i64 (k:Nat))).run Tryz.prog w= .ok (.int .u64 (f k:Nat)) w:=by
 have h:k=0∨k=1∨k=2∨k=3∨k=4:=by omega
 rcases h with rfl|rfl|rfl|rfl|rfl
 ·exact MI _ _ _ _ _ _
 ·exact Q7 _ _ _ _ _ _
 ·exact Q8 _ _ _ _ _ _
 ·exact Q9 _ _ _ _ _ _
 ·exact Q_ _ _ _ _ _ _
def eK (f g:Nat→Nat) (i j:Nat) (R:Nat→Nat) (k:Nat):Nat:=
 if k=(i+j)%5 then R k+(if 5≤i+j then f i*19 else f i)*g j else R k
def qm (f g:Nat→Nat) (i:Nat) (R:Nat→Nat):Nat→Nat→Nat
 |0=>R
 |j+1=>eK f g i j (qm f g i R j)
def w7 (f g:Nat→Nat):Nat→Nat→Nat
 |0=>fun _=>0
 |i+1=>qm f g i (w7 f g i) 5
def ke (f g:Nat→Nat) (i j:Nat):Nat→Nat:=qm f g i (w7 f g i) j
def d8 (R:Nat→Nat) (q:Nat):Value:=if q%2=0 then .int .u64 (e_ (R (q/2)):Nat) else .int .u64 (eE (R (q/2)):Nat)
theorem tN (f g:Nat→Nat) (i j:Nat):ke f g i (j+1)=eK f g i j (ke f g i j):=rfl
theorem w8 {f g R:Nat→Nat} {i j B:Nat} (hf:oH f) (hg:oH g) (hi:i<5) (hj:j<5) (h:∀k,R k≤B) (k:Nat):eK f g i j R k≤B+96342400000000000000000000000000:=by
 have h1:=hf.lt i hi
 have h2:=hg.lt j hj
 have h3:(if 5≤i+j then f i*19 else f i)≤42784196460020092:=by split<;>omega
 have h4:(if 5≤i+j then f i*19 else f i)*g j≤96342400000000000000000000000000:=Nat.le_trans (Nat.mul_le_mul h3 (show g j≤2251799813685268 by omega)) (by decide)
 have:=h k
 unfold eK
 generalize (if 5≤i+j then f i*19 else f i)*g j=z at*
 split<;>omega
theorem qn {f g R:Nat→Nat} {i B:Nat} (hf:oH f) (hg:oH g) (hi:i<5) (h:∀k,R k≤B):∀j,j≤5→∀k,qm f g i R j k≤B+j*96342400000000000000000000000000
 |0,_,k=>by have:=h k;simpa [qm] using this
 |j+1,hj,k=>by
  have:=w8 (j:=j) hf hg hi (by omega) (qn hf hg hi h j (by omega)) k
  show eK f g i j (qm f g i R j) k≤_
  omega
theorem Aj {f g:Nat→Nat} (hf:oH f) (hg:oH g):∀i,i≤5→∀k,w7 f g i k≤5*i*96342400000000000000000000000000
 |0,_,k=>by simp [w7]
 |i+1,hi,k=>by
  have:=qn hf hg (show i<5 by omega) (Aj hf hg i (by omega)) 5 (by omega) k
  show qm f g i (w7 f g i) 5 k≤_
  omega
theorem w9 {f g:Nat→Nat} (hf:oH f) (hg:oH g) (i j:Nat) (hi:i<5) (hj:j≤5) (k:Nat):ke f g i j k≤25*96342400000000000000000000000000:=by
 have:=qn hf hg hi (Aj hf hg i (by omega)) j hj k
 unfold ke
 have h2:5*i*96342400000000000000000000000000≤20*96342400000000000000000000000000:=Nat.mul_le_mul_right _ (by omega)
 have h3:j*96342400000000000000000000000000≤5*96342400000000000000000000000000:=Nat.mul_le_mul_right _ (by omega)
 omega
theorem qo (R:Nat→Nat) (m:Nat):d8 R (m*2)= .int .u64 (e_ (R m):Nat):=by
 unfold d8;rw [if_pos (by omega),show m*2/2=m from by omega]
theorem qp (R:Nat→Nat) (m:Nat):d8 R (m*2+1)= .int .u64 (eE (R m):Nat):=by
 unfold d8;rw [if_neg (by omega),show (m*2+1)/2=m from by omega]
theorem tM (R:Nat→Nat) (m v:Nat):((row 10 (d8 R)).set (m*2) (.int .u64 (e_ v:Nat))).set (m*2+1) (.int .u64 (eE v:Nat))=row 10 (d8 fun k=>if k=m then v else R k):=by
 rw [dA (g:=fun q=>if q=m*2 then .int .u64 (e_ v:Nat) else d8 R q) (m*2) _ (by simp) (fun i _ h=>by simp [h])]
 refine dA _ _ ?_ (fun i _ h=> ?_)
 ·rw [qp,if_pos rfl]
 ·by_cases h1:i=m*2
  ·subst h1;rw [if_pos rfl,qo,if_pos rfl]
  ·rw [if_neg h1]
   unfold d8
   simp only [if_neg (show ¬i/2=m by omega)]
theorem Ak (f g:Nat→Nat) (i j:Nat) (h:5≤i+j) (hi:i<5) (hj:j<5):ke f g i (j+1)=fun k=>if k=i+j-5 then ke f g i j (i+j-5)+f i*19*g j else ke f g i j k:=by
 rw [tN];funext k;unfold eK
 rw [show (i+j)%5=i+j-5 from by omega]
 by_cases hk:k=i+j-5
 ·subst hk;rw [if_pos rfl,if_pos rfl,if_pos h]
 ·rw [if_neg hk,if_neg hk]
theorem Al (f g:Nat→Nat) (i j:Nat) (h:¬5≤i+j):ke f g i (j+1)=fun k=>if k=i+j then ke f g i j (i+j)+f i*g j else ke f g i j k:=by
 rw [tN];funext k;unfold eK
 rw [show (i+j)%5=i+j from by omega]
 by_cases hk:k=i+j
 ·subst hk;rw [if_pos rfl,if_pos rfl,if_neg h]
 ·rw [if_neg hk,if_neg hk]
theorem RC (f:Nat→Value):row 10 f= [f 0,f 1,f 2,f 3,f 4,f 5,f 6,f 7,f 8,f 9]:=rfl
theorem NB (R:Nat→Nat):d8 R 0= .int .u64 (e_ (R 0):Nat):=rfl
theorem NC (R:Nat→Nat):d8 R 1= .int .u64 (eE (R 0):Nat):=rfl
theorem ND (R:Nat→Nat):d8 R 2= .int .u64 (e_ (R 1):Nat):=rfl
theorem NE (R:Nat→Nat):d8 R 3= .int .u64 (eE (R 1):Nat):=rfl
theorem NF (R:Nat→Nat):d8 R 4= .int .u64 (e_ (R 2):Nat):=rfl
theorem NG (R:Nat→Nat):d8 R 5= .int .u64 (eE (R 2):Nat):=rfl
theorem NH (R:Nat→Nat):d8 R 6= .int .u64 (e_ (R 3):Nat):=rfl
theorem NI (R:Nat→Nat):d8 R 7= .int .u64 (eE (R 3):Nat):=rfl
theorem NJ (R:Nat→Nat):d8 R 8= .int .u64 (e_ (R 4):Nat):=rfl
theorem NK (R:Nat→Nat):d8 R 9= .int .u64 (eE (R 4):Nat):=rfl
theorem Jx (f g:Nat→Nat):val (ke f g 5 0)%Pq=val f*val g%Pq:=by
 have e:val f*val g=(f 0*g 0+2251799813685248*((f 0*g 1+f 1*g 0)+2251799813685248*((f 0*g 2+f 1*g 1+f 2*g 0)+2251799813685248*((f 0*g 3+f 1*g 2+f 2*g 1+f 3*g 0)+2251799813685248*(f 0*g 4+f 1*g 3+f 2*g 2+f 3*g 1+f 4*g 0)))))+
   57896044618658097711785492504343953926634992332820282019728792003956564819968*((f 1*g 4+f 2*g 3+f 3*g 2+f 4*g 1)+2251799813685248*((f 2*g 4+f 3*g 3+f 4*g 2)+2251799813685248*((f 3*g 4+f 4*g 3)+2251799813685248*(f 4*g 4)))):=by
  unfold val;grind
 rw [e,dv]
 congr 1
 simp [val,ke,qm,w7,eK]
 grind
theorem Ra (x0 x1 x2 x3 x4 x5 x6 x7 x8 x9:Value) (w:World):(Instr.index 237 (.agg #[x0,x1,x2,x3,x4,x5,x6,x7,x8,x9]) (.int .i64 0)).run Tryz.prog w= .ok (.agg #[x0,x1]) w:=by kernel_rfl
theorem Rb (x0 x1 x2 x3 x4 x5 x6 x7 x8 x9:Value) (w:World):(Instr.index 237 (.agg #[x0,x1,x2,x3,x4,x5,x6,x7,x8,x9]) (.int .i64 1)).run Tryz.prog w= .ok (.agg #[x2,x3]) w:=by kernel_rfl
theorem Rc (x0 x1 x2 x3 x4 x5 x6 x7 x8 x9:Value) (w:World):(Instr.index 237 (.agg #[x0,x1,x2,x3,x4,x5,x6,x7,x8,x9]) (.int .i64 2)).run Tryz.prog w= .ok (.agg #[x4,x5]) w:=by kernel_rfl
theorem Rd (x0 x1 x2 x3 x4 x5 x6 x7 x8 x9:Value) (w:World):(Instr.index 237 (.agg #[x0,x1,x2,x3,x4,x5,x6,x7,x8,x9]) (.int .i64 3)).run Tryz.prog w= .ok (.agg #[x6,x7]) w:=by kernel_rfl
theorem Re (x0 x1 x2 x3 x4 x5 x6 x7 x8 x9:Value) (w:World):(Instr.index 237 (.agg #[x0,x1,x2,x3,x4,x5,x6,x7,x8,x9]) (.int .i64 4)).run Tryz.prog w= .ok (.agg #[x8,x9]) w:=by kernel_rfl
theorem TV (R:Nat→Nat) (k:Nat) (hk:k<5) (w:World):(Instr.index 237 (.agg #[.int .u64 (e_ (R 0):Nat),.int .u64 (eE (R 0):Nat),.int .u64 (e_ (R 1):Nat),.int .u64 (eE (R 1):Nat),.int .u64 (e_ (R 2):Nat),.int .u64 (eE (R 2):Nat),.int .u64 (e_ (R 3):Nat),.int .u64 (eE (R 3):Nat),.int .u64 (e_ (R 4):Nat),.int .u64 (eE (R 4):Nat)]) (.int .i64 (k:Nat))).run Tryz.prog w= .ok (.agg #[.int .u64 (e_ (R k):Nat),.int .u64 (eE (R k):Nat)]) w:=by
 have h:k=0∨k=1∨k=2∨k=3∨k=4:=by omega
 rcases h with rfl|rfl|rfl|rfl|rfl
 ·exact Ra _ _ _ _ _ _ _ _ _ _ _
 ·exact Rb _ _ _ _ _ _ _ _ _ _ _
 ·exact Rc _ _ _ _ _ _ _ _ _ _ _
 ·exact Rd _ _ _ _ _ _ _ _ _ _ _
 ·exact Re _ _ _ _ _ _ _ _ _ _ _
theorem Rg (n:Nat):bits BinOp.and IntKind.u64 (eE n:Nat) 2251799813685247=((n%2251799813685248:Nat):Int):=by
 rw [oJ _ (by unfold eE;omega)];unfold eE;omega
theorem QZ (n:Nat) (h:n<41538374868278621028243970633760768):bits BinOp.or IntKind.u64 (IntKind.u64.wrap ((e_ n:Nat)*8192:Int)) ((eE n:Nat)/2251799813685248:Int)=((n/2251799813685248:Nat):Int):=by
 have h1:e_ n<2251799813685248:=by unfold e_;omega
 have h2:eE n/2251799813685248<2^13:=by unfold eE;omega
 rw [c8,show ((e_ n:Nat)*8192:Int)%18446744073709551616=((e_ n*8192:Nat):Int) from by omega,show ((eE n:Nat):Int)/2251799813685248=((eE n/2251799813685248:Nat):Int) from by omega,u64_or_nat _ _ (by omega) (by omega)]
 have h3:=Nat.shiftLeft_add_eq_or_of_lt h2 (e_ n)
 rw [Nat.shiftLeft_eq] at h3
 rw [show e_ n*8192=e_ n*2^13 from rfl,←h3]
 unfold e_ eE;omega
theorem xt (n a:Nat) (ha:a<18446744073709551616) (h:n+a<340282366920938463463374607431768211456) (w:World):
  Calls Tryz.prog 226 #[.agg #[.int .u64 (e_ n:Nat),.int .u64 (eE n:Nat)],.int .u64 a,.int .u64 1] w fun e w'=>e= .returned (.agg #[.int .u64 (e_ (n+a):Nat),.int .u64 (eE (n+a):Nat)])∧Below w.heap.size w w':=by
 have:=fL n a 1 ha (by omega) (by omega) w
 rw [Nat.mul_one] at this;exact this
theorem xr (n a b:Nat) (hn:n<18446744073709551616) (ha:a<18446744073709551616) (hb:b<18446744073709551616) (h:n+a*b<340282366920938463463374607431768211456) (w:World):
  Calls Tryz.prog 226 #[.agg #[.int .u64 0,.int .u64 n],.int .u64 a,.int .u64 b] w fun e w'=>e= .returned (.agg #[.int .u64 (e_ (n+a*b):Nat),.int .u64 (eE (n+a*b):Nat)])∧Below w.heap.size w w':=by
 have:=fL n a b ha hb h w
 rw [show e_ n=0 from Nat.div_eq_of_lt hn,show eE n=n from Nat.mod_eq_of_lt hn] at this;exact this
def gp (R:Nat→Nat) (i:Nat):Nat:=
 if i=0 then (bP R 0 0+cr R 0 5*19)%2251799813685248 else if i=1 then bP R 0 1+(bP R 0 0+cr R 0 5*19)/2251799813685248 else bP R 0 i
theorem Gq (R:Nat→Nat):val (gp R)%Pq=val R%Pq:=by
 have h:=lL R 0
 rw [Nat.add_zero] at h
 rw [←h,dv]
 congr 1
 simp only [val,gp,if_true,if_neg (show ¬(1=0) by omega),if_neg (show ¬(2=0) by omega),if_neg (show ¬(3=0) by omega),if_neg (show ¬(4=0) by omega),if_neg (show ¬(2=1) by omega),if_neg (show ¬(3=1) by omega),if_neg (show ¬(4=1) by omega)]
 omega
theorem S7 (R:Nat→Nat) (h:∀k,R k≤25*96342400000000000000000000000000):∀k,cr R 0 k≤1100000000000000000
 |0=>by simp [cr]
 |k+1=>by have h1:=S7 R h k;have h2:=h k;rw [cr];omega
def uD (R:Nat→Nat) (k i:Nat):Value:=if i<k then .int .u64 (bP R 0 i:Nat) else .int .u64 0
theorem Gd (R:Nat→Nat) (k:Nat):(row 5 (uD R k)).set k (.int .u64 (bP R 0 k:Nat))=row 5 (uD R (k+1)):=
 dA k _ (by unfold uD;rw [if_pos (by omega)]) (fun i _ h=>by unfold uD;by_cases h1:i<k;rw [if_pos h1,if_pos (by omega)];rw [if_neg h1,if_neg (by omega)])
set_option maxHeartbeats 2000000 in
theorem fh {f g:Nat→Nat} {x y:Nat} (hf:FE f x) (hg:FE g y) (w:World):
  Calls Tryz.prog 165 #[.agg #[.int .u64 (f 0:Nat),.int .u64 (f 1:Nat),.int .u64 (f 2:Nat),.int .u64 (f 3:Nat),.int .u64 (f 4:Nat)],.agg #[.int .u64 (g 0:Nat),.int .u64 (g 1:Nat),.int .u64 (g 2:Nat),.int .u64 (g 3:Nat),.int .u64 (g 4:Nat)]] w fun e w'=>∃h,e= .returned (.agg #[.int .u64 (h 0:Nat),.int .u64 (h 1:Nat),.int .u64 (h 2:Nat),.int .u64 (h 3:Nat),.int .u64 (h 4:Nat)])∧FE h (x*y%Pq)∧Below w.heap.size w w':=by
 go_enter Tryz.func165,Tryz.ntmps165
 go_wp2
 refine dO (fun W=>ao W (w.heap.size+1) (row 5 (fV g)) 122∧ao W (w.heap.size+1+1+1) (row 10 (d8 (ke f g 0 0))) 237∧ao W (w.heap.size+1+1) (row 5 (fV fun _=>0)) 122∧Below w.heap.size w W) ?_ (fun W hW=> ?_)
 ·exact ⟨((ao.new' (by simp)).alloc _).alloc _,(by rw [show row 10 (d8 (ke f g 0 0))= [.int .u64 0,.int .u64 0,.int .u64 0,.int .u64 0,.int .u64 0,.int .u64 0,.int .u64 0,.int .u64 0,.int .u64 0,.int .u64 0] from by simp [row,List.range,List.range.loop,d8,ke,qm,w7,e_,eE]];exact ao.new' (by simp)),(by rw [show row 5 (fV fun _=>0)= [.int .u64 0,.int .u64 0,.int .u64 0,.int .u64 0,.int .u64 0] from rfl];exact (ao.new' (by simp)).alloc _),(by repeat (first|(with_reducible refine Below.alloc' ?_ _)|(with_reducible refine Below.drew ?_)|(with_reducible refine below_drewN ?_ _)|((with_reducible refine Below.setCell ?_ ?_ _);rotate_left;(focus (first|exact Nat.le_refl _|(simp;done)|(simp;omega))))|(with_reducible assumption)|(with_reducible exact Below.refl _ _)))⟩
 obtain ⟨hb1,hw1,ho1,hbl1⟩:=hW
 go_loopw [17] (fun i wr=>∃k:Nat,k≤5∧i= .int .i64 k∧ao wr (w.heap.size+1) (row 5 (fV g)) 122∧ao wr (w.heap.size+1+1+1) (row 10 (d8 (ke f g k 0))) 237∧ao wr (w.heap.size+1+1) (row 5 (fV fun _=>0)) 122∧Below w.heap.size w wr) (fun i _=>5-(intOf i).toNat)
 case atStart=>exact ⟨0,by omega,rfl,hb1,hw1,ho1,hbl1⟩
 case round=>
  clear hb1 hw1 ho1 hbl1 W
  obtain ⟨i,hi,rfl,hbB,hwB,hoB,hbl⟩:=hrel
  obtain ⟨wo,hwo⟩:∃wo:World,wo=wr:=⟨_,rfl⟩
  by_cases hlt:i<5
  ·have hx:=TB f i hlt
   have hdd:decide ((i:Int)<5)=true:=by simp;omega
   have hbc:=hbB.cell
   rw [K9] at hbc
   unfold fV at hbc
   go_wp2
   clear hx hbc
   go_loopw [23] (fun j wr=>∃k:Nat,k≤5∧j= .int .i64 k∧ao wr (w.heap.size+1) (row 5 (fV g)) 122∧ao wr (w.heap.size+1+1+1) (row 10 (d8 (ke f g i k))) 237∧ao wr (w.heap.size+1+1) (row 5 (fV fun _=>0)) 122∧Below w.heap.size w wr) (fun j _=>5-(intOf j).toNat)
   case atStart=>exact ⟨0,by omega,rfl,hbB,hwB,hoB,hbl⟩
   case round=>
    subst hwo
    clear hbB hwB hoB hbl
    obtain ⟨j,hj,rfl,hbB,hwB,hoB,hbl⟩:=hrel
    by_cases hlt':j<5
    ·have hy:=TB g j hlt'
     by_cases h5:5≤i+j
     ·have d5:decide ((5:Int)≤(i:Int)+(j:Int))=true:=by simp;omega
      have hm:i+j-5<5:=by omega
      have c1:wr.cell? ⟨w.heap.size+1+1+1,(i+j-5)*2,none⟩=some (.int .u64 (e_ (ke f g i j (i+j-5)):Nat)):=by rw [hwB.at (by omega),qo]
      have c2:wr.cell? ⟨w.heap.size+1+1+1,(i+j-5)*2+1,none⟩=some (.int .u64 (eE (ke f g i j (i+j-5)):Nat)):=by rw [hwB.at (by omega),qp]
      have h19:IntKind.u64.wrap ((f i:Nat)*19:Int)=((f i*19:Nat):Int):=by have:=hf.lim.lt i hlt;rw [c8];omega
      have hP:=fun W=>fL (ke f g i j (i+j-5)) (f i*19) (g j) (by have:=hf.lim.lt i hlt;omega) (by have:=hg.lim.lt j hlt';omega) (by
       have h1:=w9 hf.lim hg.lim i (j+1) (by omega) (by omega) (i+j-5)
       rw [Ak f g i j h5 hlt hlt'] at h1
       simp only [if_true] at h1
       omega) W
      have HP:=Lib.hid hP
      have HC:=Lib.hid (Ak f g i j h5 hlt hlt')
      have HB:=Lib.hid hbB;have HW:=Lib.hid hwB;have HO:=Lib.hid hoB
      clear hP hbB hwB hoB
      generalize hn:ke f g i j (i+j-5)+f i*19*g j=n at*
      clear hn
      generalize f i*19=a19 at*
      go_wp2_with (go_at_call 226;go_must (refine (HP.out _).mono ?_;rintro e w1 ⟨rfl,hb⟩;have hB1:=HB.out.below' hb;have hW1:=HW.out.below' hb;have hO1:=HO.out.below' hb;have hbl1:=Below.call hbl hb;have e1:=hW1.cell ((i+j-5)*2);have e2:=hW1.cell ((i+j-5)*2+1);rw [sA (by omega)] at e1 e2;have ef:=hW1.frozen;clear hb hbl c1 c2))
      go_roundw
      case rel=>exact ⟨j+1,by omega,by go_num,(hB1.other _ (by simp;omega) _).other _ (by simp;omega) _,by rw [HC.out,←tM];exact (hW1.set _ _).set _ _,(hO1.other _ (by simp) _).other _ (by simp) _,(by repeat (first|(with_reducible refine Below.alloc' ?_ _)|(with_reducible refine Below.drew ?_)|(with_reducible refine below_drewN ?_ _)|((with_reducible refine Below.setCell ?_ ?_ _);rotate_left;(focus (first|exact Nat.le_refl _|(simp;done)|(simp;omega))))|(with_reducible assumption)|(with_reducible exact Below.refl _ _)))⟩
      case measure=>simp [intOf];omega
     ·have d5:decide ((5:Int)≤(i:Int)+(j:Int))=false:=by simp;omega
      have hm:i+j<5:=by omega
      have c1:wr.cell? ⟨w.heap.size+1+1+1,(i+j)*2,none⟩=some (.int .u64 (e_ (ke f g i j (i+j)):Nat)):=by rw [hwB.at (by omega),qo]
      have c2:wr.cell? ⟨w.heap.size+1+1+1,(i+j)*2+1,none⟩=some (.int .u64 (eE (ke f g i j (i+j)):Nat)):=by rw [hwB.at (by omega),qp]
      have hP:=fun W=>fL (ke f g i j (i+j)) (f i) (g j) (by have:=hf.lim.lt i hlt;omega) (by have:=hg.lim.lt j hlt';omega) (by
       have h1:=w9 hf.lim hg.lim i (j+1) (by omega) (by omega) (i+j)
       rw [Al f g i j h5] at h1
       simp only [if_true] at h1
       omega) W
      have HP:=Lib.hid hP
      have HC:=Lib.hid (Al f g i j h5)
      have HB:=Lib.hid hbB;have HW:=Lib.hid hwB;have HO:=Lib.hid hoB
      clear hP hbB hwB hoB
      generalize hn:ke f g i j (i+j)+f i*g j=n at*
      clear hn
      go_wp2_with (go_at_call 226;go_must (refine (HP.out _).mono ?_;rintro e w1 ⟨rfl,hb⟩;have hB1:=HB.out.below' hb;have hW1:=HW.out.below' hb;have hO1:=HO.out.below' hb;have hbl1:=Below.call hbl hb;have e1:=hW1.cell ((i+j)*2);have e2:=hW1.cell ((i+j)*2+1);rw [sA (by omega)] at e1 e2;have ef:=hW1.frozen;clear hb hbl c1 c2))
      go_roundw
      case rel=>exact ⟨j+1,by omega,by go_num,(hB1.other _ (by simp;omega) _).other _ (by simp;omega) _,by rw [HC.out,←tM];exact (hW1.set _ _).set _ _,(hO1.other _ (by simp) _).other _ (by simp) _,(by repeat (first|(with_reducible refine Below.alloc' ?_ _)|(with_reducible refine Below.drew ?_)|(with_reducible refine below_drewN ?_ _)|((with_reducible refine Below.setCell ?_ ?_ _);rotate_left;(focus (first|exact Nat.le_refl _|(simp;done)|(simp;omega))))|(with_reducible assumption)|(with_reducible exact Below.refl _ _)))⟩
      case measure=>simp [intOf];omega
    ·obtain rfl:j=5:=by omega
     clear hlt' hj
     go_wp2
     go_roundw
     case rel=>exact ⟨i+1,by omega,by go_num,hbB,hwB,hoB,hbl⟩
     case measure=>simp [intOf];omega
  ·obtain rfl:i=5:=by omega
   clear hwo hlt hi hbB
   have hR:∀k,ke f g 5 0 k≤25*96342400000000000000000000000000:=w9 hf.lim hg.lim 4 5 (by omega) (by omega)
   have HV:=Lib.hid (Jx f g)
   have HF:=Lib.hid hf;have HG:=Lib.hid hg
   clear hf hg
   generalize ke f g 5 0=R at*
   rw [RC] at hwB
   rw [K9] at hoB
   unfold fV at hoB
   simp only [NB,NC,ND,NE,NF,NG,NH,NI,NJ,NK] at hwB
   have hwc:=hwB.cell
   have hwlt:=hwB.lt
   have HR:=Lib.hid hR
   have HO:=Lib.hid hoB
   clear hR hwB hoB
   go_wp2
   clear hwc
   obtain ⟨wo,rfl⟩:∃wo:World,wo=wr:=⟨_,rfl⟩
   have hB0:Below w.heap.size w (wo.alloc (.cells #[.int .u64 0,.int .u64 0,.int .u64 0,.int .u64 0,.int .u64 0] 120)):=(by repeat (first|(with_reducible refine Below.alloc' ?_ _)|(with_reducible refine Below.drew ?_)|(with_reducible refine below_drewN ?_ _)|((with_reducible refine Below.setCell ?_ ?_ _);rotate_left;(focus (first|exact Nat.le_refl _|(simp;done)|(simp;omega))))|(with_reducible assumption)|(with_reducible exact Below.refl _ _)))
   have hL0:ao (wo.alloc (.cells #[.int .u64 0,.int .u64 0,.int .u64 0,.int .u64 0,.int .u64 0] 120)) wo.heap.size (row 5 (uD R 0)) 120:=ao.new wo _ _
   have hO0:=(HO.out).alloc (.cells #[.int .u64 0,.int .u64 0,.int .u64 0,.int .u64 0,.int .u64 0] 120)
   have HO1:=Lib.hid hO0
   have hwl:w.heap.size+1+1<wo.heap.size:=HO.out.lt
   have hwz:w.heap.size≤wo.heap.size:=by omega
   clear HO hO0 hbl hwlt
   go_loopw [11,61] (fun c i wx=>∃k:Nat,k≤5∧i= .int .i64 k∧c= .int .u64 (cr R 0 k:Nat)∧ao wx wo.heap.size (row 5 (uD R k)) 120∧Hid (ao wx (w.heap.size+1+1) [.int .u64 0,.int .u64 0,.int .u64 0,.int .u64 0,.int .u64 0] 122)∧Below w.heap.size w wx) (fun _ i _=>5-(intOf i).toNat)
   case atStart=>exact ⟨0,by omega,rfl,rfl,hL0,HO1,hB0⟩
   case round=>
    clear hL0 HO1 hB0
    obtain ⟨k,hk,rfl,rfl,hL,HO,hbel⟩:=hrel
    by_cases hlt:k<5
    ·have hx:=TV R k hlt
     have hcr:=S7 R HR.out k
     have hRk:=HR.out k
     have hP:=fun W=>xt (R k) (cr R 0 k) (by omega) (by omega) W
     have hlo:bits BinOp.and IntKind.u64 (eE (R k+cr R 0 k):Nat) 2251799813685247=((bP R 0 k:Nat):Int):=Rg _
     have hhi:bits BinOp.or IntKind.u64 (IntKind.u64.wrap ((e_ (R k+cr R 0 k):Nat)*8192:Int)) ((eE (R k+cr R 0 k):Nat)/2251799813685248:Int)=((cr R 0 (k+1):Nat):Int):=QZ _ (by omega)
     have HP:=Lib.hid hP
     have HL:=Lib.hid hL
     have hLs:=hL.lt
     have hOs:=HO.out.lt
     clear hcr hRk hP hL
     generalize hn:R k+cr R 0 k=n at*
     clear hn
     go_wp2_with (go_at_call 226;go_must (refine (HP.out _).mono ?_;rintro e w1 ⟨rfl,hb⟩;have hV1:=(ao.new wr #[.int .u64 (e_ (R k):Nat),.int .u64 (eE (R k):Nat)] 236).below' hb;have hL1:=(HL.out.alloc _).below' hb;have hO1:=(HO.out.alloc _).below' hb;have hbl1:=Below.call (show Below w.heap.size w _ from (by repeat (first|(with_reducible refine Below.alloc' ?_ _)|(with_reducible refine Below.drew ?_)|(with_reducible refine below_drewN ?_ _)|((with_reducible refine Below.setCell ?_ ?_ _);rotate_left;(focus (first|exact Nat.le_refl _|(simp;done)|(simp;omega))))|(with_reducible assumption)|(with_reducible exact Below.refl _ _)))) hb;have vc:=hV1.cell;have vf:=hV1.frozen;have lc:=hL1.at hlt;have lf:=hL1.frozen k;rw [show uD R k k= .int .u64 0 from if_neg (by omega)] at lc;have hne:¬wo.heap.size=wr.heap.size:=(by omega);have hne2:¬wr.heap.size=wo.heap.size:=(by omega);have HL1:=Lib.hid hL1;have HO1:=Lib.hid hO1;clear hb hV1 hL1 hO1 HL HO))
     go_roundw
     case rel=>exact ⟨k+1,by omega,by go_num,rfl,by have:=((HL1.out.other ⟨wr.heap.size,0,none⟩ (by simp;omega) (.int .u64 (e_ n:Nat))).other ⟨wr.heap.size,1,none⟩ (by simp;omega) (.int .u64 (eE n:Nat))).set k (.int .u64 (bP R 0 k:Nat));rw [Gd] at this;exact this,((HO1.out.other _ (by simp;omega) _).other _ (by simp;omega) _).other _ (by simp;omega) _,(by repeat (first|(with_reducible refine Below.alloc' ?_ _)|(with_reducible refine Below.drew ?_)|(with_reducible refine below_drewN ?_ _)|((with_reducible refine Below.setCell ?_ ?_ _);rotate_left;(focus (first|exact Nat.le_refl _|(simp;done)|(simp;omega))))|(with_reducible assumption)|(with_reducible exact Below.refl _ _)))⟩
     case measure=>simp [intOf];omega
    ·obtain rfl:k=5:=by omega
     have hcr:=S7 R HR.out 5
     have hL5:row 5 (uD R 5)= [.int .u64 (bP R 0 0:Nat),.int .u64 (bP R 0 1:Nat),.int .u64 (bP R 0 2:Nat),.int .u64 (bP R 0 3:Nat),.int .u64 (bP R 0 4:Nat)]:=rfl
     rw [hL5] at hL
     clear hL5
     have hp:=dp R 0
     have HP0:=Lib.hid (fun W=>xr (bP R 0 0) (cr R 0 5) 19 (by have:=hp 0;omega) (by omega) (by omega) (by have:=hp 0;omega) W)
     have hlo:bits BinOp.and IntKind.u64 (eE (bP R 0 0+cr R 0 5*19):Nat) 2251799813685247=((gp R 0:Nat):Int):=Rg _
     have hhi:IntKind.u64.wrap ((bP R 0 1:Nat)+bits BinOp.or IntKind.u64 (IntKind.u64.wrap ((e_ (bP R 0 0+cr R 0 5*19):Nat)*8192:Int)) ((eE (bP R 0 0+cr R 0 5*19):Nat)/2251799813685248:Int):Int)=((gp R 1:Nat):Int):=by
      rw [QZ _ (by have:=hp 0;omega),c8]
      have:=hp 0;have:=hp 1
      show _=((bP R 0 1+(bP R 0 0+cr R 0 5*19)/2251799813685248:Nat):Int)
      omega
     have hbd:∀i,i<5→gp R i≤9223372036854775808:=fun i _=>by
      have:=hp 0;have:=hp 1;have:=hp i
      unfold gp;split
      ·omega
      ·split<;>omega
     have HQ:Hid (FE (cF (gp R)) (x*y%Pq)):=Lib.hid ⟨qf _ hbd,by rw [qg,Gq,HV.out,Nat.mul_mod,HF.out.num,HG.out.num]⟩
     have HBD:=Lib.hid hbd
     rw [show bP R 0 2=gp R 2 from rfl,show bP R 0 3=gp R 3 from rfl,show bP R 0 4=gp R 4 from rfl] at hL
     have HL:=Lib.hid hL
     clear hcr hp hbd hL hk hlt
     have hLc:=HL.out.cell
     have hLf:=HL.out.frozen
     have hLl:=HL.out.lt
     have hOl:=HO.out.lt
     generalize bP R 0 0+cr R 0 5*19=n at*
     go_wp2_with (first             | (go_at_call 226; go_must (refine (HP0.out _).mono ?_; rintro e w1 ⟨rfl, hb⟩; have hL1 := HL.out.below' hb; have lc := hL1.cell; have lf := hL1.frozen; have hO1 := HO.out.below' hb; have hbl1 := Below.call hbel hb; have HL1 := Lib.hid hL1; have HO1 := Lib.hid hO1; have hlt1 := hL1.lt; have hot1 := hO1.lt; have hne : ¬ wo.heap.size = w1.heap.size := (by omega); have hne2 : ¬ w1.heap.size = wo.heap.size := (by omega); clear hb hL1 hO1 HL HO HP0))             | (go_at_call 227; go_must (refine (dD (gp R) HBD.out _).mono ?_; rintro e w2 ⟨rfl, hb⟩; have hO2 := (((HO1.out.other ⟨wo.heap.size, 0, none⟩ (by simp; omega) (.int .u64 (gp R 0 : Nat))).other ⟨wo.heap.size, 1, none⟩ (by simp; omega) (.int .u64 (gp R 1 : Nat))).alloc _).below' hb; have oc := hO2.cell; have of := hO2.frozen; have hbl2 := Below.call (show Below w.heap.size w _ from (by repeat (first | (with_reducible refine Below.alloc' ?_ _) | (with_reducible refine Below.drew ?_) | (with_reducible refine below_drewN ?_ _) | ((with_reducible refine Below.setCell ?_ ?_ _); rotate_left; (focus (first | exact Nat.le_refl _ | (simp; done) | (simp; omega)))) | (with_reducible assumption) | (with_reducible exact Below.refl _ _)))) hb; clear hb hO2 lc lf)))
     exact bodyPost_ret (v:= .agg #[.int .u64 (cF (gp R) 0:Nat),.int .u64 (cF (gp R) 1:Nat),.int .u64 (cF (gp R) 2:Nat),.int .u64 (cF (gp R) 3:Nat),.int .u64 (cF (gp R) 4:Nat)]) (by simp [results,Tryz.results165,go_sem,oc]) rfl ⟨_,rfl,HQ.out,(by repeat (first|(with_reducible refine Below.alloc' ?_ _)|(with_reducible refine Below.drew ?_)|(with_reducible refine below_drewN ?_ _)|((with_reducible refine Below.setCell ?_ ?_ _);rotate_left;(focus (first|exact Nat.le_refl _|(simp;done)|(simp;omega))))|(with_reducible assumption)|(with_reducible exact Below.refl _ _)))⟩
theorem vm (x N j:Nat):(x^(N/2^(j+1))%Pq)*(x^(N/2^(j+1))%Pq)%Pq=x^(2*(N/2^(j+1)))%Pq:=by
 rw [←Nat.mul_mod,←Nat.pow_add];congr 2;omega
theorem pg (N j:Nat):N/2^j=2*(N/2^(j+1))+N/2^j%2:=by
 rw [Nat.pow_succ,←Nat.div_div_eq_div_mul];omega
theorem EV (N j:Nat) (x:Int) (hx:x=(lw N (j/64):Nat)):(bits BinOp.and IntKind.u64 (x/2^(j%64)) 1 ==1)=decide (N/2^j%2=1):=by
 subst hx
 have hq:lw N (j/64)/2^(j%64)<18446744073709551616:=Nat.lt_of_le_of_lt (Nat.div_le_self _ _) (b6 _ _)
 rw [show ((lw N (j/64):Nat):Int)/2^(j%64)=((lw N (j/64)/2^(j%64):Nat):Int) from by simp,show (1:Int)=((1:Nat):Int) from rfl,u64_and_nat _ 1 hq (by omega),Nat.and_one_is_mod,yJ]
 generalize N/2^j%2=b
 by_cases hb:b=1
 ·subst hb;simp
 ·rw [decide_eq_false hb,beq_eq_false_iff_ne];omega
theorem KS (x N j:Nat) (h:N/2^j%2=1):x^(N/2^j)%Pq=(x^(N/2^(j+1))%Pq)*(x^(N/2^(j+1))%Pq)%Pq*x%Pq:=by
 have e:N/2^j=2*(N/2^(j+1))+1:=by have:=pg N j;omega
 rw [vm,e,Nat.pow_succ]
 generalize x^(2*(N/2^(j+1)))=y
 rw [Nat.mul_mod (y%Pq),Nat.mod_mod,←Nat.mul_mod]
set_option maxHeartbeats 1000000 in
theorem pu {f:Nat→Nat} {x:Nat} (N T:Nat) (hT1:T≤256) (hT2:256≤T) (hN:N<2^T) (hf:FE f x) (w:World):
  Calls Tryz.prog 228 #[.agg #[.int .u64 (f 0:Nat),.int .u64 (f 1:Nat),.int .u64 (f 2:Nat),.int .u64 (f 3:Nat),.int .u64 (f 4:Nat)],.agg #[.int .u64 (lw N 0:Nat),.int .u64 (lw N 1:Nat),.int .u64 (lw N 2:Nat),.int .u64 (lw N 3:Nat)]] w fun e w'=>∃h,e= .returned (.agg #[.int .u64 (h 0:Nat),.int .u64 (h 1:Nat),.int .u64 (h 2:Nat),.int .u64 (h 3:Nat),.int .u64 (h 4:Nat)])∧FE h (x^N%Pq)∧Below w.heap.size w w':=by
 have HN:=Lib.hid hN;have HF:=Lib.hid hf
 clear hN hf
 go_enter Tryz.func228,Tryz.ntmps228
 go_upto_region 2 with (go_at_call 164;go_must (refine (kU (n:=1) (by omega) _).mono ?_;rintro e w1 ⟨rfl,hb⟩))
 refine dO (fun W=>ao W w.heap.size [.int .u64 (f 0:Nat),.int .u64 (f 1:Nat),.int .u64 (f 2:Nat),.int .u64 (f 3:Nat),.int .u64 (f 4:Nat)] 122∧ao W (w.heap.size+1) (row 4 (wV N)) 127∧ao W (w.heap.size+1+1) [.int .u64 0,.int .u64 0,.int .u64 0,.int .u64 0,.int .u64 0] 122∧(∃h,FE h (x^(N/2^T)%Pq)∧ao W w1.heap.size [.int .u64 (h 0:Nat),.int .u64 (h 1:Nat),.int .u64 (h 2:Nat),.int .u64 (h 3:Nat),.int .u64 (h 4:Nat)] 122)∧Below w.heap.size w W) ?_ (fun W hW=> ?_)
 ·refine ⟨(((ao.new w _ _).alloc _).alloc _ |>.below' hb).alloc _,(((ao.new' (by simp)).alloc _).below' hb).alloc _,((ao.new' (by simp)).below' hb).alloc _,⟨bW 1,?_,ao.new w1 _ _⟩,Below.alloc' (Below.call (by repeat (first|(with_reducible refine Below.alloc' ?_ _)|(with_reducible refine Below.drew ?_)|(with_reducible refine below_drewN ?_ _)|((with_reducible refine Below.setCell ?_ ?_ _);rotate_left;(focus (first|exact Nat.le_refl _|(simp;done)|(simp;omega))))|(with_reducible assumption)|(with_reducible exact Below.refl _ _))) hb) _⟩
  rw [Nat.div_eq_of_lt HN.out,Nat.pow_zero]
  exact FE.small (by omega)
 have hs1:w.heap.size+1+1<w1.heap.size:=by have:=hb.size;simp at this;omega
 obtain ⟨hA,hK,hO,hH,hbel⟩:=hW
 clear hb
 generalize w1.heap.size=g at*
 clear w1
 go_wp2
 go_loopw [6] (fun i wr=>∃k:Nat,k≤256∧i= .int .i64 ((k:Int)-1)∧ao wr w.heap.size [.int .u64 (f 0:Nat),.int .u64 (f 1:Nat),.int .u64 (f 2:Nat),.int .u64 (f 3:Nat),.int .u64 (f 4:Nat)] 122∧ao wr (w.heap.size+1) (row 4 (wV N)) 127∧ao wr (w.heap.size+1+1) [.int .u64 0,.int .u64 0,.int .u64 0,.int .u64 0,.int .u64 0] 122∧(∃h,FE h (x^(N/2^k)%Pq)∧ao wr g [.int .u64 (h 0:Nat),.int .u64 (h 1:Nat),.int .u64 (h 2:Nat),.int .u64 (h 3:Nat),.int .u64 (h 4:Nat)] 122)∧Below w.heap.size w wr) (fun i _=>(intOf i+1).toNat)
 case atStart=>exact ⟨T,by omega,by congr 1;omega,hA,hK,hO,hH,hbel⟩
 case round=>
  clear hA hK hO hH hbel W
  obtain ⟨k,hk,rfl,hA,hK,hO,⟨h,hh,hH⟩,hbel⟩:=hrel
  by_cases hk0:k=0
  ·subst hk0
   rw [Nat.pow_zero,Nat.div_one] at hh
   have hHc:=hH.cell;have hOc:=hO.cell;have hOf:=hO.frozen
   rw [show (((0:Nat):Int)-1)= -1 from rfl]
   clear hA hK hO hH hk
   go_wp2
   exact bodyPost_ret (v:= .agg #[.int .u64 (h 0:Nat),.int .u64 (h 1:Nat),.int .u64 (h 2:Nat),.int .u64 (h 3:Nat),.int .u64 (h 4:Nat)]) (by simp [results,Tryz.results228,go_sem,hOc]) rfl ⟨_,rfl,hh,(by repeat (first|(with_reducible refine Below.alloc' ?_ _)|(with_reducible refine Below.drew ?_)|(with_reducible refine below_drewN ?_ _)|((with_reducible refine Below.setCell ?_ ?_ _);rotate_left;(focus (first|exact Nat.le_refl _|(simp;done)|(simp;omega))))|(with_reducible assumption)|(with_reducible exact Below.refl _ _)))⟩
  ·obtain ⟨j,rfl⟩:∃j,k=j+1:=⟨k-1,by omega⟩
   rw [show (((j+1:Nat):Int)-1)=(j:Int) from by omega]
   have hj4:j/64<4:=by omega
   obtain ⟨xi,hxi⟩:∃xi:Int,xi=(lw N (j/64):Nat):=⟨_,rfl⟩
   have HD:=Lib.hid (EV N j xi hxi)
   have hx0:0≤xi:=by omega
   have hx1:xi<18446744073709551616:=by have:=b6 N (j/64);omega
   have HK:=Lib.hid (show ∀W,ao W (w.heap.size+1) (row 4 (wV N)) 127→W.cell? ⟨w.heap.size+1,j/64,none⟩=some (.int .u64 xi) from fun W h=>by rw [h.at hj4,hxi];rfl)
   have hHc:=hH.cell
   have HA0:=Lib.hid hA;have HK0:=Lib.hid hK;have HO0:=Lib.hid hO;have HH0:=Lib.hid hH
   clear hxi hA hK hO hH hk0
   by_cases hb:N/2^j%2=1
   ·have hd:(bits BinOp.and IntKind.u64 (xi/2^(j%64)) 1 ==1)=true:=by rw [HD.out,decide_eq_true hb]
    have HB:=Lib.hid hb
    clear hb
    go_wp2_with (go_at_call 165;first |((with_reducible refine (fh hh hh _).mono ?_);rintro e w1 ⟨h1,rfl,hh1,hb1⟩;have hH1:=HH0.out.below' hb1;have hHf:=hH1.frozen;have hHc1:=hH1.cell;have kc:=HK.out _ (HK0.out.below' hb1);have ac:=(HA0.out.below' hb1).cell;have hg1:¬g=w.heap.size+1:=(by omega);have hg2:¬g=w.heap.size:=(by omega);have hg3:¬w.heap.size+1=g:=(by omega);have hg4:¬w.heap.size=g:=(by omega);have HA1:=Lib.hid (HA0.out.below' hb1);have HK1:=Lib.hid (HK0.out.below' hb1);have HO1:=Lib.hid (HO0.out.below' hb1);have HH1:=Lib.hid hH1;have hbel1:=Below.call hbel hb1;clear hb1 hH1 hHc HA0 HK0 HO0 HH0 hbel)|((with_reducible refine (fh hh1 HF.out _).mono ?_);rintro e w2 ⟨h2,rfl,hh2,hb2⟩;have hH2:=(((((HH1.out.set 0 (.int .u64 (h1 0:Nat))).set 1 (.int .u64 (h1 1:Nat))).set 2 (.int .u64 (h1 2:Nat))).set 3 (.int .u64 (h1 3:Nat))).set 4 (.int .u64 (h1 4:Nat))).below' hb2;have hHf2:=hH2.frozen;have hHc2:=hH2.cell;have HH2:=Lib.hid hH2;have HA2:=Lib.hid ((((((HA1.out.other ⟨g,0,none⟩ (by simp;omega) (.int .u64 (h1 0:Nat))).other ⟨g,1,none⟩ (by simp;omega) (.int .u64 (h1 1:Nat))).other ⟨g,2,none⟩ (by simp;omega) (.int .u64 (h1 2:Nat))).other ⟨g,3,none⟩ (by simp;omega) (.int .u64 (h1 3:Nat))).other ⟨g,4,none⟩ (by simp;omega) (.int .u64 (h1 4:Nat))).below' hb2);have HK2:=Lib.hid ((((((HK1.out.other ⟨g,0,none⟩ (by simp;omega) (.int .u64 (h1 0:Nat))).other ⟨g,1,none⟩ (by simp;omega) (.int .u64 (h1 1:Nat))).other ⟨g,2,none⟩ (by simp;omega) (.int .u64 (h1 2:Nat))).other ⟨g,3,none⟩ (by simp;omega) (.int .u64 (h1 3:Nat))).other ⟨g,4,none⟩ (by simp;omega) (.int .u64 (h1 4:Nat))).below' hb2);have HO2:=Lib.hid ((((((HO1.out.other ⟨g,0,none⟩ (by simp;omega) (.int .u64 (h1 0:Nat))).other ⟨g,1,none⟩ (by simp;omega) (.int .u64 (h1 1:Nat))).other ⟨g,2,none⟩ (by simp;omega) (.int .u64 (h1 2:Nat))).other ⟨g,3,none⟩ (by simp;omega) (.int .u64 (h1 3:Nat))).other ⟨g,4,none⟩ (by simp;omega) (.int .u64 (h1 4:Nat))).below' hb2);have hbel2:=Below.call (show Below w.heap.size w _ from (by repeat (first|(with_reducible refine Below.alloc' ?_ _)|(with_reducible refine Below.drew ?_)|(with_reducible refine below_drewN ?_ _)|((with_reducible refine Below.setCell ?_ ?_ _);rotate_left;(focus (first|exact Nat.le_refl _|(simp;done)|(simp;omega))))|(with_reducible assumption)|(with_reducible exact Below.refl _ _)))) hb2;clear hb2 hH2 hHc1 hHf kc ac HA1 HK1 HO1 HH1 hbel1))
    go_roundw
    case rel=>exact ⟨j,by omega,rfl,(((((HA2.out.other ⟨g,0,none⟩ (by simp;omega) (.int .u64 (h2 0:Nat))).other ⟨g,1,none⟩ (by simp;omega) (.int .u64 (h2 1:Nat))).other ⟨g,2,none⟩ (by simp;omega) (.int .u64 (h2 2:Nat))).other ⟨g,3,none⟩ (by simp;omega) (.int .u64 (h2 3:Nat))).other ⟨g,4,none⟩ (by simp;omega) (.int .u64 (h2 4:Nat))),(((((HK2.out.other ⟨g,0,none⟩ (by simp;omega) (.int .u64 (h2 0:Nat))).other ⟨g,1,none⟩ (by simp;omega) (.int .u64 (h2 1:Nat))).other ⟨g,2,none⟩ (by simp;omega) (.int .u64 (h2 2:Nat))).other ⟨g,3,none⟩ (by simp;omega) (.int .u64 (h2 3:Nat))).other ⟨g,4,none⟩ (by simp;omega) (.int .u64 (h2 4:Nat))),(((((HO2.out.other ⟨g,0,none⟩ (by simp;omega) (.int .u64 (h2 0:Nat))).other ⟨g,1,none⟩ (by simp;omega) (.int .u64 (h2 1:Nat))).other ⟨g,2,none⟩ (by simp;omega) (.int .u64 (h2 2:Nat))).other ⟨g,3,none⟩ (by simp;omega) (.int .u64 (h2 3:Nat))).other ⟨g,4,none⟩ (by simp;omega) (.int .u64 (h2 4:Nat))),⟨h2,by rw [KS x N j HB.out];exact hh2,(((((HH2.out.set 0 (.int .u64 (h2 0:Nat))).set 1 (.int .u64 (h2 1:Nat))).set 2 (.int .u64 (h2 2:Nat))).set 3 (.int .u64 (h2 3:Nat))).set 4 (.int .u64 (h2 4:Nat)))⟩,(by repeat (first|(with_reducible refine Below.alloc' ?_ _)|(with_reducible refine Below.drew ?_)|(with_reducible refine below_drewN ?_ _)|((with_reducible refine Below.setCell ?_ ?_ _);rotate_left;(focus (first|exact Nat.le_refl _|(simp;done)|(simp;omega))))|(with_reducible assumption)|(with_reducible exact Below.refl _ _)))⟩
    case measure=>simp [intOf]<;>omega
   ·have hd:(bits BinOp.and IntKind.u64 (xi/2^(j%64)) 1 ==1)=false:=by rw [HD.out,decide_eq_false hb]
    have HB:Hid (N/2^j%2=0):=Lib.hid (by omega)
    clear hb
    go_wp2_with (go_at_call 165;first |((with_reducible refine (fh hh hh _).mono ?_);rintro e w1 ⟨h1,rfl,hh1,hb1⟩;have hH1:=HH0.out.below' hb1;have hHf:=hH1.frozen;have hHc1:=hH1.cell;have kc:=HK.out _ (HK0.out.below' hb1);have ac:=(HA0.out.below' hb1).cell;have hg1:¬g=w.heap.size+1:=(by omega);have hg2:¬g=w.heap.size:=(by omega);have hg3:¬w.heap.size+1=g:=(by omega);have hg4:¬w.heap.size=g:=(by omega);have HA1:=Lib.hid (HA0.out.below' hb1);have HK1:=Lib.hid (HK0.out.below' hb1);have HO1:=Lib.hid (HO0.out.below' hb1);have HH1:=Lib.hid hH1;have hbel1:=Below.call hbel hb1;clear hb1 hH1 hHc HA0 HK0 HO0 HH0 hbel))
    go_roundw
    case rel=>exact ⟨j,by omega,rfl,(((((HA1.out.other ⟨g,0,none⟩ (by simp;omega) (.int .u64 (h1 0:Nat))).other ⟨g,1,none⟩ (by simp;omega) (.int .u64 (h1 1:Nat))).other ⟨g,2,none⟩ (by simp;omega) (.int .u64 (h1 2:Nat))).other ⟨g,3,none⟩ (by simp;omega) (.int .u64 (h1 3:Nat))).other ⟨g,4,none⟩ (by simp;omega) (.int .u64 (h1 4:Nat))),(((((HK1.out.other ⟨g,0,none⟩ (by simp;omega) (.int .u64 (h1 0:Nat))).other ⟨g,1,none⟩ (by simp;omega) (.int .u64 (h1 1:Nat))).other ⟨g,2,none⟩ (by simp;omega) (.int .u64 (h1 2:Nat))).other ⟨g,3,none⟩ (by simp;omega) (.int .u64 (h1 3:Nat))).other ⟨g,4,none⟩ (by simp;omega) (.int .u64 (h1 4:Nat))),(((((HO1.out.other ⟨g,0,none⟩ (by simp;omega) (.int .u64 (h1 0:Nat))).other ⟨g,1,none⟩ (by simp;omega) (.int .u64 (h1 1:Nat))).other ⟨g,2,none⟩ (by simp;omega) (.int .u64 (h1 2:Nat))).other ⟨g,3,none⟩ (by simp;omega) (.int .u64 (h1 3:Nat))).other ⟨g,4,none⟩ (by simp;omega) (.int .u64 (h1 4:Nat))),⟨h1,by rw [pg,HB.out,Nat.add_zero,←vm];exact hh1,(((((HH1.out.set 0 (.int .u64 (h1 0:Nat))).set 1 (.int .u64 (h1 1:Nat))).set 2 (.int .u64 (h1 2:Nat))).set 3 (.int .u64 (h1 3:Nat))).set 4 (.int .u64 (h1 4:Nat)))⟩,(by repeat (first|(with_reducible refine Below.alloc' ?_ _)|(with_reducible refine Below.drew ?_)|(with_reducible refine below_drewN ?_ _)|((with_reducible refine Below.setCell ?_ ?_ _);rotate_left;(focus (first|exact Nat.le_refl _|(simp;done)|(simp;omega))))|(with_reducible assumption)|(with_reducible exact Below.refl _ _)))⟩
    case measure=>simp [intOf]<;>omega
set_option maxHeartbeats 1000000 in
theorem B3 {f:Nat→Nat} {x:Nat} (hf:FE f x) (w:World):
  Calls Tryz.prog 169 #[.agg #[.int .u64 (f 0:Nat),.int .u64 (f 1:Nat),.int .u64 (f 2:Nat),.int .u64 (f 3:Nat),.int .u64 (f 4:Nat)]] w fun e w'=>∃h,e= .returned (.agg #[.int .u64 (h 0:Nat),.int .u64 (h 1:Nat),.int .u64 (h 2:Nat),.int .u64 (h 3:Nat),.int .u64 (h 4:Nat)])∧FE h (x^eW%Pq)∧Below w.heap.size w w':=by
 have hP:=fun W=>pu eW (8*32) (by omega) (by omega) (by decide +kernel) hf W
 rw [show lw eW 0=18446744073709551595 from by decide +kernel,show lw eW 1=18446744073709551615 from by decide +kernel,show lw eW 2=18446744073709551615 from by decide +kernel,show lw eW 3=9223372036854775807 from by decide +kernel] at hP
 have HP:=Lib.hid hP
 clear hP
 go_enter Tryz.func169,Tryz.ntmps169
 go_wp2_with (go_at_call 228;go_must (refine (HP.out _).mono ?_;rintro e w1 ⟨h,rfl,hr,hb⟩;have hO:=(show ao _ (w.heap.size+1) [.int .u64 0,.int .u64 0,.int .u64 0,.int .u64 0,.int .u64 0] 122 from (by repeat (first|(with_reducible refine ao.drew ?_)|exact ao.new' (by simp)|(with_reducible refine ao.alloc ?_ _)))).below' hb;have hOc:=hO.cell;have hOf:=hO.frozen;have hbel:Below w.heap.size w w1:=Below.call (by repeat (first|(with_reducible refine Below.alloc' ?_ _)|(with_reducible refine Below.drew ?_)|(with_reducible refine below_drewN ?_ _)|((with_reducible refine Below.setCell ?_ ?_ _);rotate_left;(focus (first|exact Nat.le_refl _|(simp;done)|(simp;omega))))|(with_reducible assumption)|(with_reducible exact Below.refl _ _))) hb;clear hb hO))
 exact bodyPost_ret (v:= .agg #[.int .u64 (h 0:Nat),.int .u64 (h 1:Nat),.int .u64 (h 2:Nat),.int .u64 (h 3:Nat),.int .u64 (h 4:Nat)]) (by simp [results,Tryz.results169,go_sem,hOc]) rfl ⟨_,rfl,hr,(by repeat (first|(with_reducible refine Below.alloc' ?_ _)|(with_reducible refine Below.drew ?_)|(with_reducible refine below_drewN ?_ _)|((with_reducible refine Below.setCell ?_ ?_ _);rotate_left;(focus (first|exact Nat.le_refl _|(simp;done)|(simp;omega))))|(with_reducible assumption)|(with_reducible exact Below.refl _ _)))⟩
def dg (n i:Nat):Nat:=n/2^(51*i)%2251799813685248
theorem iM (n i:Nat):dg n i<2251799813685248:=Nat.mod_lt _ (by omega)
theorem QP (f:Nat→Nat) (h:∀i,f i<2251799813685248) (i:Nat) (hi:i<5):dg (val f) i=f i:=by
 have h0:=h 0;have h1:=h 1;have h2:=h 2;have h3:=h 3;have h4:=h 4
 have hh:i=0∨i=1∨i=2∨i=3∨i=4:=by omega
 unfold dg val
 rcases hh with rfl|rfl|rfl|rfl|rfl<;>simp only [Nat.reduceMul,Nat.reducePow]<;>omega
theorem CD (f:Nat→Nat) (c0:Nat):val (bP f c0)<57896044618658097711785492504343953926634992332820282019728792003956564819968:=by
 have h0:=dp f c0 0;have h1:=dp f c0 1;have h2:=dp f c0 2;have h3:=dp f c0 3;have h4:=dp f c0 4
 unfold val;omega
theorem qr (f:Nat→Nat) (c0:Nat):cr f c0 5=(val f+c0)/57896044618658097711785492504343953926634992332820282019728792003956564819968∧val (bP f c0)=(val f+c0)%57896044618658097711785492504343953926634992332820282019728792003956564819968:=by
 have h1:=lL f c0
 have h2:=CD f c0
 omega
theorem oH.val {f:Nat→Nat} (h:oH f):val f<57896044618658097711785492504343953926634992332820282019728792003956564819968+20:=by
 have:=h.l0;have:=h.l1;have:=h.l2;have:=h.l3;have:=h.l4
 unfold Go.Proofs.YtnlhpncaldcllaaGreat.val;omega
theorem DD {f:Nat→Nat} {x:Nat} (h:FE f x):val (bP f (cr f 19 5*19))=x:=by
 have h1:=h.lim.val
 rw [(qr f _).2,(qr f 19).1,←h.num]
 unfold Pq
 generalize val f=v at*
 by_cases hv:v<57896044618658097711785492504343953926634992332820282019728792003956564819949
 ·rw [Nat.div_eq_of_lt (show v+19<57896044618658097711785492504343953926634992332820282019728792003956564819968 by omega),Nat.mod_eq_of_lt hv,Nat.mod_eq_of_lt (by omega)]
  omega
 ·rw [show (v+19)/57896044618658097711785492504343953926634992332820282019728792003956564819968=1 by omega]
  omega
theorem Iw {f:Nat→Nat} {x:Nat} (h:FE f x) (i:Nat) (hi:i<5):bP f (cr f 19 5*19) i=dg x i:=by
 rw [←DD h];exact (QP _ (dp _ _) i hi).symm
theorem FE.carry {f:Nat→Nat} {x:Nat} (h:FE f x):FE (cF f) x:=⟨qf f (fun i hi=>by have:=h.lim.lt i hi;omega),by rw [qg,h.num]⟩
theorem FE.sum_lt {f:Nat→Nat} {x:Nat} (h:FE f x) (c0 k:Nat) (hc:c0≤19) (hk:k<5):f k+cr f c0 k<18446744073709551616:=by
 have h1:=h.lim.lt k hk
 have h2:=oR f c0 (fun i hi=>by have:=h.lim.lt i hi;omega) (by omega) k (by omega)
 omega
set_option maxHeartbeats 1000000 in
theorem iB {f:Nat→Nat} {x:Nat} (hf:FE f x) (w:World):
  Calls Tryz.prog 230 #[.agg #[.int .u64 (f 0:Nat),.int .u64 (f 1:Nat),.int .u64 (f 2:Nat),.int .u64 (f 3:Nat),.int .u64 (f 4:Nat)]] w fun e w'=>e= .returned (.agg #[.int .u64 (dg x 0:Nat),.int .u64 (dg x 1:Nat),.int .u64 (dg x 2:Nat),.int .u64 (dg x 3:Nat),.int .u64 (dg x 4:Nat)])∧Below w.heap.size w w':=by
 have hb1:∀i,i<5→f i≤9223372036854775808:=fun i hi=>by have:=hf.lim.lt i hi;omega
 have hb2:∀i,i<5→cF f i≤9223372036854775808:=fun i hi=>by have:=hf.carry.lim.lt i hi;omega
 have HB1:=Lib.hid hb1;have HB2:=Lib.hid hb2
 have HE:=Lib.hid hf.carry.carry
 clear hb1 hb2 hf
 have fld:∀(x0 x1 x2 x3 x4:Value) (w:World),(Instr.field 122 (.agg #[x0,x1,x2,x3,x4]) 0).run Tryz.prog w= .ok (.agg #[x0,x1,x2,x3,x4]) w:=fun _ _ _ _ _ _=>by kernel_rfl
 go_enter Tryz.func230,Tryz.ntmps230
 go_upto_region 3 with (go_at_call 227;first |((with_reducible refine (dD f HB1.out _).mono ?_);rintro e w1 ⟨rfl,hb1⟩;have hO1:=(show ao _ (w.heap.size+1) [.int .u64 0,.int .u64 0,.int .u64 0,.int .u64 0,.int .u64 0] 120 from (by repeat (first|(with_reducible refine ao.drew ?_)|exact ao.new' (by simp)|(with_reducible refine ao.alloc ?_ _)))).below' hb1;have hbel1:Below w.heap.size w w1:=Below.call (by repeat (first|(with_reducible refine Below.alloc' ?_ _)|(with_reducible refine Below.drew ?_)|(with_reducible refine below_drewN ?_ _)|((with_reducible refine Below.setCell ?_ ?_ _);rotate_left;(focus (first|exact Nat.le_refl _|(simp;done)|(simp;omega))))|(with_reducible assumption)|(with_reducible exact Below.refl _ _))) hb1;clear hb1)|((with_reducible refine (dD (cF f) HB2.out _).mono ?_);rintro e w2 ⟨rfl,hb2⟩;have hL2:=(ao.new w1 #[.int .u64 (cF f 0:Nat),.int .u64 (cF f 1:Nat),.int .u64 (cF f 2:Nat),.int .u64 (cF f 3:Nat),.int .u64 (cF f 4:Nat)] 120).below' hb2;have hO2:=(hO1.alloc _).below' hb2;have hbel2:Below w.heap.size w w2:=Below.call (show Below w.heap.size w _ from (by repeat (first|(with_reducible refine Below.alloc' ?_ _)|(with_reducible refine Below.drew ?_)|(with_reducible refine below_drewN ?_ _)|((with_reducible refine Below.setCell ?_ ?_ _);rotate_left;(focus (first|exact Nat.le_refl _|(simp;done)|(simp;omega))))|(with_reducible assumption)|(with_reducible exact Below.refl _ _)))) hb2;have lc:=hL2.cell;have lf:=hL2.frozen;have hg:w.heap.size+1<w1.heap.size:=hO1.lt;clear hb2 hbel1 hO1))
 refine dO (fun W=>ao W w1.heap.size (row 5 (fV (cF (cF f)))) 120∧ao W (w.heap.size+1) [.int .u64 0,.int .u64 0,.int .u64 0,.int .u64 0,.int .u64 0] 120∧Below w.heap.size w W) ?_ (fun W hW=> ?_)
 ·exact ⟨(((((hL2.set 0 (.int .u64 (cF (cF f) 0:Nat))).set 1 (.int .u64 (cF (cF f) 1:Nat))).set 2 (.int .u64 (cF (cF f) 2:Nat))).set 3 (.int .u64 (cF (cF f) 3:Nat))).set 4 (.int .u64 (cF (cF f) 4:Nat))),(((((hO2.other _ (by simp;omega) _).other _ (by simp;omega) _).other _ (by simp;omega) _).other _ (by simp;omega) _).other _ (by simp;omega) _),(by repeat (first|(with_reducible refine Below.alloc' ?_ _)|(with_reducible refine Below.drew ?_)|(with_reducible refine below_drewN ?_ _)|((with_reducible refine Below.setCell ?_ ?_ _);rotate_left;(focus (first|exact Nat.le_refl _|(simp;done)|(simp;omega))))|(with_reducible assumption)|(with_reducible exact Below.refl _ _)))⟩
 obtain ⟨hA,hO,hbel⟩:=hW
 clear hbel2 lc lf hL2 hO2
 generalize w1.heap.size=g at*
 clear w1 w2
 generalize cF (cF f)=G at*
 have HS:=Lib.hid (fun k hk=>HE.out.sum_lt 19 k (by omega) hk)
 go_wp2
 go_loopw [4,14] (fun c i wr=>∃k:Nat,k≤5∧i= .int .i64 k∧c= .int .u64 (cr G 19 k:Nat)∧ao wr g (row 5 (fV G)) 120∧ao wr (w.heap.size+1) [.int .u64 0,.int .u64 0,.int .u64 0,.int .u64 0,.int .u64 0] 120∧Below w.heap.size w wr) (fun _ i _=>5-(intOf i).toNat)
 case atStart=>exact ⟨0,by omega,rfl,rfl,hA,hO,hbel⟩
 case round=>
  clear hA hO hbel W
  obtain ⟨k,hk,rfl,rfl,hA,hO,hbel⟩:=hrel
  by_cases hlt:k<5
  ·obtain ⟨s,hs,hs0,hs1,ha,hd⟩:=ip G 19 k (HS.out k hlt)
   have hcell:wr.cell? ⟨g,k,none⟩=some (.int .u64 (G k:Nat)):=hA.at hlt
   have HD:=Lib.hid hd
   have HA:=Lib.hid hA;have HO:=Lib.hid hO
   clear hA hO hd ha
   go_wp2
   go_roundw
   case rel=>exact ⟨k+1,by omega,by go_num,by rw [HD.out],HA.out,HO.out,hbel⟩
   case measure=>simp [intOf];omega
  ·obtain rfl:k=5:=by omega
   have h5:cr G 19 5≤1:=by
    have:=HE.out.lim.val
    rw [(qr G 19).1];omega
   have hm:IntKind.u64.wrap (((cr G 19 5:Nat):Int)*19)=((cr G 19 5*19:Nat):Int):=by rw [c8];omega
   have HW:=Lib.hid (fun i hi=>Iw HE.out i hi)
   have h19:cr G 19 5*19≤19:=by omega
   have HS2:=Lib.hid (fun k hk=>HE.out.sum_lt (cr G 19 5*19) k h19 hk)
   clear h5 h19 hlt hk HS
   generalize cr G 19 5*19=c1 at*
   go_wp2
   clear hm
   go_loopw [4,26] (fun c i wr=>∃k:Nat,k≤5∧i= .int .i64 k∧c= .int .u64 (cr G c1 k:Nat)∧ao wr g (row 5 (kE G c1 k)) 120∧ao wr (w.heap.size+1) [.int .u64 0,.int .u64 0,.int .u64 0,.int .u64 0,.int .u64 0] 120∧Below w.heap.size w wr) (fun _ i _=>5-(intOf i).toNat)
   case atStart=>exact ⟨0,by omega,rfl,rfl,by rw [kH];exact hA,hO,hbel⟩
   clear hA hO hbel
   case round=>
    obtain ⟨k,hk,rfl,rfl,hA,hO,hbel⟩:=hrel
    by_cases hlt:k<5
    ·obtain ⟨s,hs,hs0,hs1,ha,hd⟩:=ip G c1 k (HS2.out k hlt)
     have hcell:=hA.at hlt
     rw [sg] at hcell
     have hfr:=hA.frozen k
     have HD:=Lib.hid hd
     have HA:=Lib.hid ((hA.set k (.int .u64 s)).set k (.int .u64 (bP G c1 k:Nat)))
     have HO:=Lib.hid ((hO.other ⟨g,k,none⟩ (by simp;omega) (.int .u64 s)).other ⟨g,k,none⟩ (by simp;omega) (.int .u64 (bP G c1 k:Nat)))
     clear hA hO hd
     go_wp2
     go_roundw
     case rel=>exact ⟨k+1,by omega,by go_num,by rw [HD.out],by have:=HA.out;rw [List.set_set,nu] at this;exact this,HO.out,(by repeat (first|(with_reducible refine Below.alloc' ?_ _)|(with_reducible refine Below.drew ?_)|(with_reducible refine below_drewN ?_ _)|((with_reducible refine Below.setCell ?_ ?_ _);rotate_left;(focus (first|exact Nat.le_refl _|(simp;done)|(simp;omega))))|(with_reducible assumption)|(with_reducible exact Below.refl _ _)))⟩
     case measure=>simp [intOf];omega
    ·obtain rfl:k=5:=by omega
     rw [kF,K9] at hA
     unfold fV at hA
     rw [HW.out 0 (by omega),HW.out 1 (by omega),HW.out 2 (by omega),HW.out 3 (by omega),HW.out 4 (by omega)] at hA
     have hAc:=hA.cell;have hOc:=hO.cell;have hOf:=hO.frozen
     clear hA hO
     go_wp2
     exact bodyPost_ret (v:= .agg #[.int .u64 (dg x 0:Nat),.int .u64 (dg x 1:Nat),.int .u64 (dg x 2:Nat),.int .u64 (dg x 3:Nat),.int .u64 (dg x 4:Nat)]) (by simp [results,Tryz.results230,go_sem,hOc]) rfl ⟨rfl,(by repeat (first|(with_reducible refine Below.alloc' ?_ _)|(with_reducible refine Below.drew ?_)|(with_reducible refine below_drewN ?_ _)|((with_reducible refine Below.setCell ?_ ?_ _);rotate_left;(focus (first|exact Nat.le_refl _|(simp;done)|(simp;omega))))|(with_reducible assumption)|(with_reducible exact Below.refl _ _)))⟩
theorem uv (g:Nat) (f:Nat→Nat) {w w':World} (h:w.cell? ⟨g,0,none⟩=some (.int .u64 (f 0:Nat))∧w.cell? ⟨g,1,none⟩=some (.int .u64 (f 1:Nat))∧w.cell? ⟨g,2,none⟩=some (.int .u64 (f 2:Nat))∧w.cell? ⟨g,3,none⟩=some (.int .u64 (f 3:Nat))∧w.cell? ⟨g,4,none⟩=some (.int .u64 (f 4:Nat))) (hb:Below w.heap.size w w'):w'.cell? ⟨g,0,none⟩=some (.int .u64 (f 0:Nat))∧w'.cell? ⟨g,1,none⟩=some (.int .u64 (f 1:Nat))∧w'.cell? ⟨g,2,none⟩=some (.int .u64 (f 2:Nat))∧w'.cell? ⟨g,3,none⟩=some (.int .u64 (f 3:Nat))∧w'.cell? ⟨g,4,none⟩=some (.int .u64 (f 4:Nat)):=by
 obtain ⟨h0,h1,h2,h3,h4⟩:=h
 exact ⟨by rw [hb.cell (cz h0)];exact h0,by rw [hb.cell (cz h1)];exact h1,by rw [hb.cell (cz h2)];exact h2,by rw [hb.cell (cz h3)];exact h3,by rw [hb.cell (cz h4)];exact h4⟩
theorem JN (x:Nat):dg x 0%2=x%2:=by simp only [dg,Nat.mul_zero,Nat.pow_zero,Nat.div_one];omega
theorem KB (x:Nat):(bits BinOp.and IntKind.u64 (dg x 0:Nat) 1 ==1)=decide (x%2=1):=by
 have h:=iM x 0
 rw [show (1:Int)=((1:Nat):Int) from rfl,u64_and_nat _ 1 (by omega) (by omega),Nat.and_one_is_mod,JN]
 generalize hb:x%2=b
 by_cases h1:b=1
 ·subst h1;simp
 ·rw [decide_eq_false h1,beq_eq_false_iff_ne];omega
set_option maxHeartbeats 1000000 in
theorem oZ {f:Nat→Nat} {x:Nat} (hf:FE f x) (w:World):
  Calls Tryz.prog 194 #[.agg #[.int .u64 (f 0:Nat),.int .u64 (f 1:Nat),.int .u64 (f 2:Nat),.int .u64 (f 3:Nat),.int .u64 (f 4:Nat)]] w fun e w'=>e= .returned (.bool (decide (x%2=1)))∧Below w.heap.size w w':=by
 have HO:=Lib.hid (KB x)
 have hi:=MI
 go_enter Tryz.func194,Tryz.ntmps194
 go_wp2_with (go_at_call 230;go_must (refine (iB hf _).mono ?_;rintro e w1 ⟨rfl,hb⟩;have hbel:Below w.heap.size w w1:=Below.call (by repeat (first|(with_reducible refine Below.alloc' ?_ _)|(with_reducible refine Below.drew ?_)|(with_reducible refine below_drewN ?_ _)|((with_reducible refine Below.setCell ?_ ?_ _);rotate_left;(focus (first|exact Nat.le_refl _|(simp;done)|(simp;omega))))|(with_reducible assumption)|(with_reducible exact Below.refl _ _))) hb;clear hb))
 go_ret
 exact ⟨gW HO.out,(by repeat (first|(with_reducible refine Below.alloc' ?_ _)|(with_reducible refine Below.drew ?_)|(with_reducible refine below_drewN ?_ _)|((with_reducible refine Below.setCell ?_ ?_ _);rotate_left;(focus (first|exact Nat.le_refl _|(simp;done)|(simp;omega))))|(with_reducible assumption)|(with_reducible exact Below.refl _ _)))⟩
theorem NU {x y:Nat} (hx:x<Pq) (hy:y<Pq) (h:∀i,i<5→dg x i=dg y i):x=y:=by
 have key:∀n,n<Pq→val (dg n)=n:=by
  intro n hn
  unfold Pq at hn
  simp only [val,dg,Nat.reduceMul,Nat.reducePow]
  omega
 rw [←key x hx,←key y hy]
 simp only [val,h 0 (by omega),h 1 (by omega),h 2 (by omega),h 3 (by omega),h 4 (by omega)]
set_option maxHeartbeats 1000000 in
theorem mq {f g:Nat→Nat} {x y:Nat} (hf:FE f x) (hg:FE g y) (w:World):
  Calls Tryz.prog 171 #[.agg #[.int .u64 (f 0:Nat),.int .u64 (f 1:Nat),.int .u64 (f 2:Nat),.int .u64 (f 3:Nat),.int .u64 (f 4:Nat)],.agg #[.int .u64 (g 0:Nat),.int .u64 (g 1:Nat),.int .u64 (g 2:Nat),.int .u64 (g 3:Nat),.int .u64 (g 4:Nat)]] w fun e w'=>e= .returned (.bool (decide (x=y)))∧Below w.heap.size w w':=by
 have HE:Hid (([((dg x 0:Nat):Int),(dg x 1:Nat),(dg x 2:Nat),(dg x 3:Nat),(dg x 4:Nat)] == [((dg y 0:Nat):Int),(dg y 1:Nat),(dg y 2:Nat),(dg y 3:Nat),(dg y 4:Nat)])=decide (x=y)):=by
  refine Lib.hid ?_
  by_cases h:x=y
  ·subst h;simp
  ·rw [decide_eq_false h,beq_eq_false_iff_ne]
   intro h'
   simp only [List.cons.injEq,Int.natCast_inj,and_true] at h'
   refine h (NU hf.lt hg.lt fun i hi=> ?_)
   have hh:i=0∨i=1∨i=2∨i=3∨i=4:=by omega
   rcases hh with rfl|rfl|rfl|rfl|rfl<;>simp [h']
 have hq:∀w:World,(Op.equalIn 10000 120 (.agg #[.int .u64 (dg x 0:Nat),.int .u64 (dg x 1:Nat),.int .u64 (dg x 2:Nat),.int .u64 (dg x 3:Nat),.int .u64 (dg x 4:Nat)]) (.agg #[.int .u64 (dg y 0:Nat),.int .u64 (dg y 1:Nat),.int .u64 (dg y 2:Nat),.int .u64 (dg y 3:Nat),.int .u64 (dg y 4:Nat)])).run Tryz.prog w= .ok ([((dg x 0:Nat):Int),(dg x 1:Nat),(dg x 2:Nat),(dg x 3:Nat),(dg x 4:Nat)] == [((dg y 0:Nat):Int),(dg y 1:Nat),(dg y 2:Nat),(dg y 3:Nat),(dg y 4:Nat)]) w:=
  fun w=>My w 9998 120 96 5 .u64 Tryz.underlying120 Tryz.underlying96 (fun _=>by kernel_rfl) [((dg x 0:Nat):Int),(dg x 1:Nat),(dg x 2:Nat),(dg x 3:Nat),(dg x 4:Nat)] [((dg y 0:Nat):Int),(dg y 1:Nat),(dg y 2:Nat),(dg y 3:Nat),(dg y 4:Nat)] rfl rfl
 generalize ([((dg x 0:Nat):Int),(dg x 1:Nat),(dg x 2:Nat),(dg x 3:Nat),(dg x 4:Nat)] == [((dg y 0:Nat):Int),(dg y 1:Nat),(dg y 2:Nat),(dg y 3:Nat),(dg y 4:Nat)])=q at*
 have HF:=Lib.hid hf;have HG:=Lib.hid hg
 clear hf hg
 go_enter Tryz.func171,Tryz.ntmps171
 go_wp2
 refine dO (fun W=>(W.cell? ⟨w.heap.size,0,none⟩=some (.int .u64 (f 0:Nat))∧W.cell? ⟨w.heap.size,1,none⟩=some (.int .u64 (f 1:Nat))∧W.cell? ⟨w.heap.size,2,none⟩=some (.int .u64 (f 2:Nat))∧W.cell? ⟨w.heap.size,3,none⟩=some (.int .u64 (f 3:Nat))∧W.cell? ⟨w.heap.size,4,none⟩=some (.int .u64 (f 4:Nat)))∧(W.cell? ⟨w.heap.size+1,0,none⟩=some (.int .u64 (g 0:Nat))∧W.cell? ⟨w.heap.size+1,1,none⟩=some (.int .u64 (g 1:Nat))∧W.cell? ⟨w.heap.size+1,2,none⟩=some (.int .u64 (g 2:Nat))∧W.cell? ⟨w.heap.size+1,3,none⟩=some (.int .u64 (g 3:Nat))∧W.cell? ⟨w.heap.size+1,4,none⟩=some (.int .u64 (g 4:Nat)))∧Below w.heap.size w W) ?_ (fun W0 hW=> ?_)
 ·exact ⟨⟨((ao.new w _ _).alloc _).cell 0,((ao.new w _ _).alloc _).cell 1,((ao.new w _ _).alloc _).cell 2,((ao.new w _ _).alloc _).cell 3,((ao.new w _ _).alloc _).cell 4⟩,⟨(ao.new' (by simp)).cell 0,(ao.new' (by simp)).cell 1,(ao.new' (by simp)).cell 2,(ao.new' (by simp)).cell 3,(ao.new' (by simp)).cell 4⟩,(by repeat (first|(with_reducible refine Below.alloc' ?_ _)|(with_reducible refine Below.drew ?_)|(with_reducible refine below_drewN ?_ _)|((with_reducible refine Below.setCell ?_ ?_ _);rotate_left;(focus (first|exact Nat.le_refl _|(simp;done)|(simp;omega))))|(with_reducible assumption)|(with_reducible exact Below.refl _ _)))⟩
 have hst:∀W W':World,((W.cell? ⟨w.heap.size,0,none⟩=some (.int .u64 (f 0:Nat))∧W.cell? ⟨w.heap.size,1,none⟩=some (.int .u64 (f 1:Nat))∧W.cell? ⟨w.heap.size,2,none⟩=some (.int .u64 (f 2:Nat))∧W.cell? ⟨w.heap.size,3,none⟩=some (.int .u64 (f 3:Nat))∧W.cell? ⟨w.heap.size,4,none⟩=some (.int .u64 (f 4:Nat)))∧(W.cell? ⟨w.heap.size+1,0,none⟩=some (.int .u64 (g 0:Nat))∧W.cell? ⟨w.heap.size+1,1,none⟩=some (.int .u64 (g 1:Nat))∧W.cell? ⟨w.heap.size+1,2,none⟩=some (.int .u64 (g 2:Nat))∧W.cell? ⟨w.heap.size+1,3,none⟩=some (.int .u64 (g 3:Nat))∧W.cell? ⟨w.heap.size+1,4,none⟩=some (.int .u64 (g 4:Nat)))∧Below w.heap.size w W)→Below W.heap.size W W'→((W'.cell? ⟨w.heap.size,0,none⟩=some (.int .u64 (f 0:Nat))∧W'.cell? ⟨w.heap.size,1,none⟩=some (.int .u64 (f 1:Nat))∧W'.cell? ⟨w.heap.size,2,none⟩=some (.int .u64 (f 2:Nat))∧W'.cell? ⟨w.heap.size,3,none⟩=some (.int .u64 (f 3:Nat))∧W'.cell? ⟨w.heap.size,4,none⟩=some (.int .u64 (f 4:Nat)))∧(W'.cell? ⟨w.heap.size+1,0,none⟩=some (.int .u64 (g 0:Nat))∧W'.cell? ⟨w.heap.size+1,1,none⟩=some (.int .u64 (g 1:Nat))∧W'.cell? ⟨w.heap.size+1,2,none⟩=some (.int .u64 (g 2:Nat))∧W'.cell? ⟨w.heap.size+1,3,none⟩=some (.int .u64 (g 3:Nat))∧W'.cell? ⟨w.heap.size+1,4,none⟩=some (.int .u64 (g 4:Nat)))∧Below w.heap.size w W'):=by
  rintro W W' ⟨h1,h2,h3⟩ hb
  exact ⟨uv _ _ h1 hb,uv _ _ h2 hb,Below.call h3 hb⟩
 have hst':=Lib.hid hst;have HS0:=Lib.hid (show (fun W=>(W.cell? ⟨w.heap.size,0,none⟩=some (.int .u64 (f 0:Nat))∧W.cell? ⟨w.heap.size,1,none⟩=some (.int .u64 (f 1:Nat))∧W.cell? ⟨w.heap.size,2,none⟩=some (.int .u64 (f 2:Nat))∧W.cell? ⟨w.heap.size,3,none⟩=some (.int .u64 (f 3:Nat))∧W.cell? ⟨w.heap.size,4,none⟩=some (.int .u64 (f 4:Nat)))∧(W.cell? ⟨w.heap.size+1,0,none⟩=some (.int .u64 (g 0:Nat))∧W.cell? ⟨w.heap.size+1,1,none⟩=some (.int .u64 (g 1:Nat))∧W.cell? ⟨w.heap.size+1,2,none⟩=some (.int .u64 (g 2:Nat))∧W.cell? ⟨w.heap.size+1,3,none⟩=some (.int .u64 (g 3:Nat))∧W.cell? ⟨w.heap.size+1,4,none⟩=some (.int .u64 (g 4:Nat)))∧Below w.heap.size w W) W0.drew from ⟨hW.1,hW.2.1,hW.2.2.drew⟩)
 clear hst hW
 have hst:=hst'
 clear hst'
 go_region_held3 (fun W=>(W.cell? ⟨w.heap.size,0,none⟩=some (.int .u64 (f 0:Nat))∧W.cell? ⟨w.heap.size,1,none⟩=some (.int .u64 (f 1:Nat))∧W.cell? ⟨w.heap.size,2,none⟩=some (.int .u64 (f 2:Nat))∧W.cell? ⟨w.heap.size,3,none⟩=some (.int .u64 (f 3:Nat))∧W.cell? ⟨w.heap.size,4,none⟩=some (.int .u64 (f 4:Nat)))∧(W.cell? ⟨w.heap.size+1,0,none⟩=some (.int .u64 (g 0:Nat))∧W.cell? ⟨w.heap.size+1,1,none⟩=some (.int .u64 (g 1:Nat))∧W.cell? ⟨w.heap.size+1,2,none⟩=some (.int .u64 (g 2:Nat))∧W.cell? ⟨w.heap.size+1,3,none⟩=some (.int .u64 (g 3:Nat))∧W.cell? ⟨w.heap.size+1,4,none⟩=some (.int .u64 (g 4:Nat)))∧Below w.heap.size w W) (first|(exact HS0.out)|(first|assumption|(refine hst.out _ _ ?_ hb;assumption)|(refine hst.out _ _ ?_ (Below.alloc' (Below.refl _ _) _);assumption)|(refine hst.out _ _ ?_ (Below.drew (Below.refl _ _));assumption))) ((go_at_call 230;first |((with_reducible refine (iB HF.out _).mono ?_);rintro e w1 ⟨rfl,hb⟩)|((with_reducible refine (iB HG.out _).mono ?_);rintro e w1 ⟨rfl,hb⟩)))
 go_wp2
 go_ret
 have hf:∀W:World,((W.cell? ⟨w.heap.size,0,none⟩=some (.int .u64 (f 0:Nat))∧W.cell? ⟨w.heap.size,1,none⟩=some (.int .u64 (f 1:Nat))∧W.cell? ⟨w.heap.size,2,none⟩=some (.int .u64 (f 2:Nat))∧W.cell? ⟨w.heap.size,3,none⟩=some (.int .u64 (f 3:Nat))∧W.cell? ⟨w.heap.size,4,none⟩=some (.int .u64 (f 4:Nat)))∧(W.cell? ⟨w.heap.size+1,0,none⟩=some (.int .u64 (g 0:Nat))∧W.cell? ⟨w.heap.size+1,1,none⟩=some (.int .u64 (g 1:Nat))∧W.cell? ⟨w.heap.size+1,2,none⟩=some (.int .u64 (g 2:Nat))∧W.cell? ⟨w.heap.size+1,3,none⟩=some (.int .u64 (g 3:Nat))∧W.cell? ⟨w.heap.size+1,4,none⟩=some (.int .u64 (g 4:Nat)))∧Below w.heap.size w W)→Below w.heap.size w W:=fun W h=>h.2.2
 exact ⟨gW HE.out,hf _ (by assumption)⟩
theorem rJ (x y:Nat) (s t:Nat) (hs:s≤64) (ht:t+s=64) (hx:x<18446744073709551616):
  bits BinOp.and IntKind.u64 (bits BinOp.or IntKind.u64 ((x:Int)/2^s) (IntKind.u64.wrap ((y:Int)*2^t))) 2251799813685247=((x/2^s+y*2^t%18446744073709551616)%2251799813685248:Nat):=by
 have h0:x/2^s<2^t:=by
  apply Nat.div_lt_of_lt_mul
  rw [←Nat.pow_add,show s+t=64 from by omega];exact hx
 have h1:2^t≤2^64:=Nat.pow_le_pow_right (by omega) (by omega)
 rw [c8,show ((x:Int)/2^s)=((x/2^s:Nat):Int) from by simp,show ((y:Int)*2^t)%18446744073709551616=((y*2^t%18446744073709551616:Nat):Int) from by simp,u64_or_nat _ _ (by omega) (Nat.mod_lt _ (by omega))]
 have e:y*2^t%18446744073709551616=(y%2^s)*2^t:=by
  rw [show (18446744073709551616:Nat)=2^t*2^s from by rw [←Nat.pow_add,ht],Nat.mul_comm y,Nat.mul_mod_mul_left,Nat.mul_comm]
 have h2:y%2^s*2^t<18446744073709551616:=by rw [←e];exact Nat.mod_lt _ (by omega)
 have h3:x/2^s|||y%2^s*2^t=x/2^s+y%2^s*2^t:=by
  have h4:=Nat.shiftLeft_add_eq_or_of_lt h0 (y%2^s)
  rw [Nat.shiftLeft_eq] at h4
  rw [Nat.or_comm,←h4,Nat.add_comm]
 rw [e,h3]
 apply oJ
 rw [←h3]
 exact Nat.or_lt_two_pow (n:=64) (by omega) h2
theorem T1 (n:Nat):bits BinOp.and IntKind.u64 (lw n 0:Nat) 2251799813685247=(dg n 0:Nat):=by
 rw [oJ _ (b6 _ _)];simp only [lw,dg,Nat.mul_zero,Nat.pow_zero,Nat.div_one];omega
theorem T2 (n:Nat):bits BinOp.and IntKind.u64 (bits BinOp.or IntKind.u64 ((lw n 0:Nat)/2251799813685248) (IntKind.u64.wrap ((lw n 1:Nat)*8192))) 2251799813685247=(dg n 1:Nat):=by
 have h:=rJ (lw n 0) (lw n 1) 51 13 (by omega) (by omega) (b6 _ _)
 have e:(((lw n 0:Nat):Int)/2^51)=(lw n 0:Nat)/2251799813685248:=rfl
 refine Eq.trans (show _=_ from h) ?_
 congr 1
 simp only [lw,dg,Nat.reduceMul,Nat.reducePow];omega
theorem T3 (n:Nat):bits BinOp.and IntKind.u64 (bits BinOp.or IntKind.u64 ((lw n 1:Nat)/274877906944) (IntKind.u64.wrap ((lw n 2:Nat)*67108864))) 2251799813685247=(dg n 2:Nat):=by
 have h:=rJ (lw n 1) (lw n 2) 38 26 (by omega) (by omega) (b6 _ _)
 refine Eq.trans (show _=_ from h) ?_
 congr 1
 simp only [lw,dg,Nat.reduceMul,Nat.reducePow];omega
theorem T4 (n:Nat):bits BinOp.and IntKind.u64 (bits BinOp.or IntKind.u64 ((lw n 2:Nat)/33554432) (IntKind.u64.wrap ((lw n 3:Nat)*549755813888))) 2251799813685247=(dg n 3:Nat):=by
 have h:=rJ (lw n 2) (lw n 3) 25 39 (by omega) (by omega) (b6 _ _)
 refine Eq.trans (show _=_ from h) ?_
 congr 1
 simp only [lw,dg,Nat.reduceMul,Nat.reducePow];omega
theorem T5 (n:Nat):bits BinOp.and IntKind.u64 ((lw n 3:Nat)/4096) 2251799813685247=(dg n 4:Nat):=by
 have:=b6 n 3
 rw [show ((lw n 3:Nat):Int)/4096=((lw n 3/4096:Nat):Int) from by simp,oJ _ (by omega)]
 simp only [lw,dg,Nat.reduceMul,Nat.reducePow];omega
theorem NV (n:Nat):val (dg n)=n%57896044618658097711785492504343953926634992332820282019728792003956564819968:=by
 simp only [val,dg,Nat.reduceMul,Nat.reducePow];omega
theorem FE.of (n:Nat):FE (dg n) (n%57896044618658097711785492504343953926634992332820282019728792003956564819968%Pq):=
 ⟨⟨by have:=iM n 0;omega,iM _ _,iM _ _,iM _ _,iM _ _⟩,by rw [NV]⟩
theorem CX:row 4 (wV 0)= [.int .u64 0,.int .u64 0,.int .u64 0,.int .u64 0]:=by simp only [CW,RZ]
set_option maxHeartbeats 1000000 in
theorem E_ {a:Option Addr} {n cap:Nat} {l:List UInt8} (w:World) (h:iS w a n cap l):
  Calls Tryz.prog 201 #[.slice a n cap] w fun e w'=>e= .returned (.agg #[.int .u64 (dg (bo (first l 32)) 0:Nat),.int .u64 (dg (bo (first l 32)) 1:Nat),.int .u64 (dg (bo (first l 32)) 2:Nat),.int .u64 (dg (bo (first l 32)) 3:Nat),.int .u64 (dg (bo (first l 32)) 4:Nat)])∧Below w.heap.size w w':=by
 have hlen:=o8 l 32
 generalize hfl:first l 32=fl at*
 have HF:=Lib.hid hfl;have HL:=Lib.hid hlen
 clear hfl hlen
 go_enter Tryz.func201,Tryz.ntmps201
 go_wp2_with (go_at_call 191;go_must (refine (o7 32 (by omega) _ (h.below (by repeat (first|(with_reducible refine Below.alloc' ?_ _)|(with_reducible refine Below.drew ?_)|(with_reducible refine below_drewN ?_ _)|((with_reducible refine Below.setCell ?_ ?_ _);rotate_left;(focus (first|exact Nat.le_refl _|(simp;done)|(simp;omega))))|(with_reducible assumption)|(with_reducible exact Below.refl _ _))))).mono ?_;rintro e w1 ⟨rfl,hB,hb⟩))
 rw [HF.out] at hB
 have hB1:ao w1 (w.heap.size+1) (fl.map bV) 5:=by simpa using hB
 clear hB
 have hg:w.heap.size+1<w1.heap.size:=hB1.lt
 refine dO (fun W=>ao W w1.heap.size (row 4 (wV (bo (fl.take 0)))) 127∧ao W w.heap.size [.int .u64 0,.int .u64 0,.int .u64 0,.int .u64 0,.int .u64 0] 122∧ao W (w.heap.size+1) (fl.map bV) 5∧Below w.heap.size w W) ?_ (fun W hW=> ?_)
 ·refine ⟨?_,((ao.new w _ _).below' hb).alloc _,hB1.alloc _,Below.alloc' (Below.call (by repeat (first|(with_reducible refine Below.alloc' ?_ _)|(with_reducible refine Below.drew ?_)|(with_reducible refine below_drewN ?_ _)|((with_reducible refine Below.setCell ?_ ?_ _);rotate_left;(focus (first|exact Nat.le_refl _|(simp;done)|(simp;omega))))|(with_reducible assumption)|(with_reducible exact Below.refl _ _))) hb) _⟩
  rw [List.take_zero,show bo []=0 from rfl,CX]
  exact ao.new w1 _ _
 obtain ⟨hA,hO,hB2,hbel⟩:=hW
 clear hb h hB1
 generalize w1.heap.size=g at*
 clear w1
 go_wp2
 go_loopw [9] (fun i wr=>∃k:Nat,k≤32∧i= .int .i64 k∧ao wr g (row 4 (wV (bo (fl.take k)))) 127∧ao wr w.heap.size [.int .u64 0,.int .u64 0,.int .u64 0,.int .u64 0,.int .u64 0] 122∧ao wr (w.heap.size+1) (fl.map bV) 5∧Below w.heap.size w wr) (fun i _=>32-(intOf i).toNat)
 case atStart=>exact ⟨0,by omega,rfl,hA,hO,hB2,hbel⟩
 case round=>
  clear hA hO hB2 hbel W
  obtain ⟨k,hk,rfl,hA,hO,hB,hbel⟩:=hrel
  by_cases hlt:k<32
  ·have hkl:k<fl.length:=by rw [HL.out];exact hlt
   have hcb:wr.cell? ⟨w.heap.size+1,k,none⟩=some (.int .u8 (fl[k].toNat:Int)):=by rw [hB.cell];simp [hkl,bV]
   have HT:=Lib.hid (jE fl k hkl)
   have hn:=dF fl k
   have HC:=Lib.hid (fl[k].toNat_lt)
   generalize bo (fl.take k)=x at*
   generalize fl[k].toNat=c at*
   obtain ⟨ci,hci⟩:∃ci:Int,ci=(c:Int):=⟨_,rfl⟩
   have HI:=Lib.hid hci
   rw [←hci] at hcb
   have hc0:0≤ci:=by omega
   have hc1:ci<256:=by have:=HC.out;omega
   clear hci
   have hq:k/8<4:=by omega
   have ca:wr.cell? ⟨g,k/8,none⟩=some (.int .u64 (lw x (k/8):Nat)):=hA.at hq
   have cf:=hA.frozen (k/8)
   have HN:=Lib.hid hn
   have HS:=Lib.hid (uY x k c ci HI.out HN.out HC.out)
   have HO:=Lib.hid hO;have HB:=Lib.hid hB;have HA:=Lib.hid hA
   clear hn hO hB hA
   go_wp2
   go_region
   rw [HS.out]
   have hA2:=HA.out.set (k/8) (wV (x+c*256^k) (k/8))
   rw [dA (g:=wV (x+c*256^k)) _ _ rfl (fun i _ hi=>by unfold wV;rw [uZ x k c i HN.out HC.out hi])] at hA2
   have hO2:=HO.out.other ⟨g,k/8,none⟩ (by simp;omega) (wV (x+c*256^k) (k/8))
   have hB2:=HB.out.other ⟨g,k/8,none⟩ (by simp;omega) (wV (x+c*256^k) (k/8))
   have HA2:=Lib.hid hA2;have HO2:=Lib.hid hO2;have HB2:=Lib.hid hB2
   clear hA2 hO2 hB2 ca cf hcb
   go_wp2
   go_roundw
   case rel=>exact ⟨k+1,by omega,by go_num,by rw [HT.out];exact HA2.out.drew,HO2.out.drew,HB2.out.drew,(by repeat (first|(with_reducible refine Below.alloc' ?_ _)|(with_reducible refine Below.drew ?_)|(with_reducible refine below_drewN ?_ _)|((with_reducible refine Below.setCell ?_ ?_ _);rotate_left;(focus (first|exact Nat.le_refl _|(simp;done)|(simp;omega))))|(with_reducible assumption)|(with_reducible exact Below.refl _ _)))⟩
   case measure=>simp [intOf]<;>omega
  ·obtain rfl:k=32:=by omega
   rw [List.take_of_length_le (by rw [HL.out];omega)] at hA
   clear hB hlt hk
   generalize hx:bo fl=x at*
   have HX:=Lib.hid hx
   clear hx
   have g0:wr.cell? ⟨g,0,none⟩=some (.int .u64 (lw x 0:Nat)):=hA.at (by omega);have g1:wr.cell? ⟨g,1,none⟩=some (.int .u64 (lw x 1:Nat)):=hA.at (by omega);have g2:wr.cell? ⟨g,2,none⟩=some (.int .u64 (lw x 2:Nat)):=hA.at (by omega);have g3:wr.cell? ⟨g,3,none⟩=some (.int .u64 (lw x 3:Nat)):=hA.at (by omega)
   have hOc:=hO.cell;have hOf:=hO.frozen
   have e0:=T1 x;have e1:=T2 x;have e2:=T3 x;have e3:=T4 x;have e4:=T5 x
   clear hA hO
   go_wp2
   exact bodyPost_ret (v:= .agg #[.int .u64 (dg x 0:Nat),.int .u64 (dg x 1:Nat),.int .u64 (dg x 2:Nat),.int .u64 (dg x 3:Nat),.int .u64 (dg x 4:Nat)]) (by simp [results,Tryz.results201,go_sem,hOc]) rfl ⟨by rw [HX.out],(by repeat (first|(with_reducible refine Below.alloc' ?_ _)|(with_reducible refine Below.drew ?_)|(with_reducible refine below_drewN ?_ _)|((with_reducible refine Below.setCell ?_ ?_ _);rotate_left;(focus (first|exact Nat.le_refl _|(simp;done)|(simp;omega))))|(with_reducible assumption)|(with_reducible exact Below.refl _ _)))⟩
structure iT (w:World) (a:Option Addr) (n cap:Nat) (ls:List (List UInt8)):Prop where
 hlen:ls.length=n
 hcap:n≤cap
 hmax:cap≤maxLen
 get:∀i (h:i<ls.length),∃b o sa sn sc,a=some ⟨b,o,none⟩∧w.cell? ⟨b,o+i,none⟩=some (.slice sa sn sc)∧iS w sa sn sc ls[i]
theorem iT.cases {w:World} {a:Option Addr} {n cap:Nat} {ls:List (List UInt8)} (h:iT w a n cap ls):
  (n=0∧ls= [])∨∃b o,0<n∧a=some ⟨b,o,none⟩∧∀i (hi:i<ls.length),∃sa sn sc,w.cell? ⟨b,o+i,none⟩=some (.slice sa sn sc)∧iS w sa sn sc ls[i]:=by
 by_cases h0:n=0
 ·exact .inl ⟨h0,List.eq_nil_of_length_eq_zero (by rw [h.hlen,h0])⟩
 ·obtain ⟨b,o,_,_,_,ha,_,_⟩:=h.get 0 (by have:=h.hlen;omega)
  refine .inr ⟨b,o,by omega,ha,fun i hi=> ?_⟩
  obtain ⟨b',o',sa,sn,sc,ha',hc,hr⟩:=h.get i hi
  rw [ha] at ha'
  simp at ha'
  obtain ⟨rfl,rfl⟩:=ha'
  exact ⟨sa,sn,sc,hc,hr⟩
def iF (ls:List (List UInt8)) (k:Nat):Nat:=(ls.take k).flatten.length
theorem pk (ls:List (List UInt8)) (k:Nat) (h:k<ls.length):iF ls (k+1)=iF ls k+ls[k].length:=by
 unfold iF;rw [List.take_succ_eq_append_getElem h,List.flatten_append,List.length_append,List.flatten_singleton]
theorem B5 (ls:List (List UInt8)) (k:Nat) (h:k<ls.length):(ls.take (k+1)).flatten=(ls.take k).flatten++ls[k]:=by
 rw [List.take_succ_eq_append_getElem h,List.flatten_append,List.flatten_singleton]
theorem AN (ls:List (List UInt8)) (k:Nat):iF ls k≤ls.flatten.length:=by
 unfold iF
 conv=>rhs;rw [←List.take_append_drop k ls,List.flatten_append,List.length_append]
 omega
set_option maxHeartbeats 4000000 in
theorem FU (n:Nat) (hn:n≤70368744177664) (w:World):
  Calls Tryz.prog 231 #[.slice none 0 0,.int .i64 n] w fun e w'=>∃v,e= .returned v∧w'.ownsRow w.heap.size 5 1 v 0 []∧Below w.heap.size w w':=by
 obtain ⟨i0,hi,hz0,hz1,hz2⟩:=info_parts yx
 by_cases h0:n=0
 ·subst h0
  go_enter Tryz.func231,Tryz.ntmps231
  go_wp2
  go_ret
  exact ⟨_,rfl,World.ownsRow_nil _ _ _ _,Below.refl _ _⟩
 ·have h1:¬((n:Int)<0):=by omega
  have h4:(n:Int)>0:=by omega
  have hrz:∀ty,(Builtin.append_ #[26,3] ty #[.slice none 0 0,.int .i64 (n:Int)]).run Tryz.prog w=
    .ok (.slice (some ⟨w.heap.size,0,none⟩) n (grownCap w n 0 5)) (w.drew.alloc (.cells (([]:List Value).toArray++Builtin.zeroCells (Value.int .u8 0).cells n++Builtin.zeroCells (Value.int .u8 0).cells (grownCap w n 0 5-n)) 5)):=fun ty=>by
   have h:=Lib.run_append_grow_zeros w 26 3 ty 5 i0 (.int .u8 0) .i64 .i64 Tryz.underlying26 Tryz.underlying3 hi hz0 none 0 0 [] (run_firstCells_none w.drew i0.size 0 0 0) n (by omega) (by omega) (by omega) (by omega)
    (by rw [hz2];omega)
    (by rw [Nat.zero_add];exact growslice_fits (by omega) (by rw [hz2];omega))
   rw [Nat.zero_add] at h
   exact h
  have hGn:n≤grownCap w n 0 5:=grownCap_ge w _ _ _
  obtain ⟨G,hG⟩:∃G,G=grownCap w n 0 5:=⟨_,rfl⟩
  rw [←hG] at hrz hGn
  have hGm:G≤maxLen:=by
   have:=grownCap_le_maxLen w n 0 5 (by unfold maxLen;omega)
   rw [←hG] at this;exact this
  have hG63:G≤9223372036854775807:=by unfold maxLen at hGm;omega
  obtain ⟨O,hO⟩:∃O,O=Obj.cells (([]:List Value).toArray++Builtin.zeroCells (Value.int .u8 0).cells n++Builtin.zeroCells (Value.int .u8 0).cells (G-n)) 5 (0,0):=⟨_,rfl⟩
  rw [←hO] at hrz
  have hown:World.ownsRow (w.alloc O).drew w.heap.size 5 1 (.slice (some ⟨w.heap.size,0,none⟩) 0 G) 0 []:=by
   rw [hO]
   refine World.ownsRow_made w.drew _ G (Nat.le_refl _) hGm ?_
   simp [size_zeroCells,Value.cells];omega
  have HO:=Lib.hid hown
  clear hG hown hi hz0 hz1 hz2 hGm hO
  go_enter Tryz.func231,Tryz.ntmps231
  go_wp2_with (at_builtin;refine Lib.wpList_append_run _ rfl _ _ _ _ rfl _ _ rfl rfl _ _ (hrz _) ?_)
  all_goals (go_ret;exact ⟨_,rfl,HO.out,(by repeat (first|(with_reducible refine Below.alloc' ?_ _)|(with_reducible refine Below.drew ?_)|(with_reducible refine below_drewN ?_ _)|((with_reducible refine Below.setCell ?_ ?_ _);rotate_left;(focus (first|exact Nat.le_refl _|(simp;done)|(simp;omega))))|(with_reducible assumption)|(with_reducible exact Below.refl _ _)))⟩)
set_option maxHeartbeats 4000000 in
theorem me {a:Option Addr} {n cap:Nat} {ls:List (List UInt8)} (w:World) (h:iT w a n cap ls) (hs:ls.flatten.length≤70368744177664):
  Calls Tryz.prog 176 #[.slice a n cap] w fun e w'=>∃v,e= .returned v∧w'.ownsRow w.heap.size 5 1 v ls.flatten.length (ls.flatten.map bV)∧Below w.heap.size w w':=by
 have HL:=Lib.hid h.hlen
 have HS:=Lib.hid hs
 have hm63:(n:Int)≤9223372036854775807:=by have:=h.hcap;have:=h.hmax;unfold maxLen at *;omega
 have HR:=Lib.hid h
 clear h
 go_enter Tryz.func176,Tryz.ntmps176
 go_wp2
 go_loopw [3,11] (fun s i wr=>∃k:Nat,k≤n∧i= .int .i64 k∧s= .int .i64 (iF ls k:Nat)∧Below w.heap.size w wr) (fun _ i _=>n-(intOf i).toNat)
 case atStart=>exact ⟨0,by omega,rfl,rfl,Below.refl _ _⟩
 case round=>
  obtain ⟨k,hk,rfl,rfl,hbel⟩:=hrel
  by_cases hlt:k<n
  ·rcases HR.out.cases with ⟨h0,_⟩|⟨b,o,_,rfl,hget⟩
   ·omega
   ·have hkl:k<ls.length:=by rw [HL.out];exact hlt
    obtain ⟨sa,sn,sc,hc,hr⟩:=hget k hkl
    have hc2:wr.cell? ⟨b,o+k,none⟩=some (.slice sa sn sc):=by rw [hbel.cell (cz hc)];exact hc
    have e1:=pk ls k hkl
    rw [hr.hlen] at e1
    have h2:=AN ls (k+1)
    have hsum:iF ls k+sn≤70368744177664:=by have:=HS.out;omega
    have HE:=Lib.hid e1
    have hcp:=hr.hcap
    have hsn:sn≤70368744177664:=by omega
    clear h2 e1 hc hr hget
    generalize iF ls k=s at*
    have hw:IntKind.i64.wrap ((s:Int)+(sn:Int))=((s+sn:Nat):Int):=by rw [IntKind.wrap_i64];omega
    have hpos:decide (((s+sn:Nat):Int)<0)=false:=by simp;omega
    go_wp2
    go_roundw
    case rel=>exact ⟨k+1,by omega,by go_num,by rw [HE.out,Int.natCast_add],(by repeat (first|(with_reducible refine Below.alloc' ?_ _)|(with_reducible refine Below.drew ?_)|(with_reducible refine below_drewN ?_ _)|((with_reducible refine Below.setCell ?_ ?_ _);rotate_left;(focus (first|exact Nat.le_refl _|(simp;done)|(simp;omega))))|(with_reducible assumption)|(with_reducible exact Below.refl _ _)))⟩
    case measure=>simp [intOf];omega
  ·obtain rfl:k=n:=by omega
   have HT:Hid (iF ls k=ls.flatten.length):=Lib.hid (by unfold iF;rw [List.take_of_length_le (by rw [HL.out];omega)])
   obtain ⟨wo,rfl⟩:∃wo:World,wo=wr:=⟨_,rfl⟩
   have HS2:Hid (iF ls k≤70368744177664):=Lib.hid (by rw [HT.out];exact HS.out)
   go_wp2_with (go_at_call 231;go_must (refine (FU _ HS2.out _).mono ?_;rintro e w1 ⟨v,rfl,hown,hb⟩;have hbel1:=Below.call hbel hb;have hown1:World.ownsRow w1 w.heap.size 5 1 v (iF ls 0) ((ls.take 0).flatten.map bV):=⟨hown.1,by rcases hown.2 with h|⟨g,c,cur,h1,h2,h3⟩;exact .inl h;exact .inr ⟨g,c,cur,h1,Nat.le_trans hbel.size h2,h3⟩⟩;clear hown hb))
   clear hlt
   go_loopw [6,27] (fun s i wr=>∃j:Nat,j≤k∧i= .int .i64 j∧wr.ownsRow w.heap.size 5 1 s (iF ls j) ((ls.take j).flatten.map bV)∧Below w.heap.size w wr) (fun _ i _=>k-(intOf i).toNat)
   case atStart=>exact ⟨0,by omega,rfl,hown1,hbel1⟩
   case round=>
    clear hown1 hbel1 hbel
    obtain ⟨j,hj,rfl,hown,hbel⟩:=hrel
    by_cases hlt:j<k
    ·rcases HR.out.cases with ⟨h0,_⟩|⟨b,o,_,rfl,hget⟩
     ·omega
     ·have hkl:j<ls.length:=by rw [HL.out];exact hlt
      obtain ⟨sa,sn,sc,hc,hr⟩:=hget j hkl
      have hc2:wr.cell? ⟨b,o+j,none⟩=some (.slice sa sn sc):=by rw [hbel.cell (cz hc)];exact hc
      have e1:=pk ls j hkl
      rw [hr.hlen] at e1
      have h2:=AN ls (j+1)
      have hsum:iF ls j+sn≤70368744177664:=by have:=HS.out;omega
      have HE:=Lib.hid e1
      have HF:=Lib.hid (B5 ls j hkl)
      have HRD:=Lib.hid (hr.below hbel)
      clear h2 e1 hc hr hget
      go_wp2_with (at_builtin;refine oK _ rfl (.tmp 31) (.tmp 32) rfl w.heap.size _ (iF ls j) ((ls.take j).flatten) rfl hown sa sn sc ls[j] rfl HRD.out hsum hbel.size w hbel ?_;intro v' w2 hown2 hbel2;have HO2:Hid (w2.ownsRow w.heap.size 5 1 v' (iF ls (j+1)) ((ls.take (j+1)).flatten.map bV)):=Lib.hid (by rw [HE.out,HF.out];exact hown2);clear hown2)
      go_roundw
      case rel=>exact ⟨j+1,by omega,by go_num,HO2.out,hbel2⟩
      case measure=>simp [intOf];omega
    ·obtain rfl:j=k:=by omega
     have hO:=Lib.hid (show wr.ownsRow w.heap.size 5 1 _ ls.flatten.length (ls.flatten.map bV) from by
      have:=hown
      rw [HT.out,List.take_of_length_le (by rw [HL.out];omega)] at this;exact this)
     clear hown
     go_wp2
     go_ret
     exact ⟨_,rfl,hO.out,hbel⟩
set_option maxHeartbeats 4000000 in
theorem Af {a:Option Addr} {n cap:Nat} {ls:List (List UInt8)} (w:World) (h:iT w a n cap ls) (hs:ls.flatten.length≤70368744177664):
  Calls Tryz.prog 102 #[.slice a n cap] w fun e w'=>∃v,e= .returned v∧w'.ownsRow w.heap.size 5 1 v ls.flatten.length (ls.flatten.map bV)∧Below w.heap.size w w':=by
 go_enter Tryz.func102,Tryz.ntmps102
 go_wp2_with (go_at_call 176;go_must (refine (me _ h hs).mono ?_;rintro e w1 ⟨v,rfl,ho,hb⟩;have HO:=Lib.hid ho;clear ho))
 go_ret
 exact ⟨_,rfl,HO.out,hb⟩
inductive gx (w:World):List Value→List (List UInt8)→Prop
 |nil:gx w [] []
 |cons {sa:Option Addr} {sn sc:Nat} {l:List UInt8} {cs:List Value} {ls:List (List UInt8)}:iS w sa sn sc l→gx w cs ls→gx w (.slice sa sn sc::cs) (l::ls)
theorem gx.get {w:World} {cs:List Value} {ls:List (List UInt8)} (h:gx w cs ls):∀i (hi:i<ls.length),∃sa sn sc,cs[i]?=some (.slice sa sn sc)∧iS w sa sn sc ls[i]:=by
 induction h with
 |nil=>intro i hi;simp at hi
 |cons h1 _ ih=>
  intro i hi
  cases i with
  |zero=>exact ⟨_,_,_,rfl,h1⟩
  |succ i=>obtain ⟨sa,sn,sc,h2,h3⟩:=ih i (by simpa using hi);exact ⟨sa,sn,sc,by simpa using h2,by simpa using h3⟩
theorem iT.blk {w:World} {g E n:Nat} {cs:List Value} {ls:List (List UInt8)} (h:ao w g cs E) (hr:gx w cs ls) (hn:ls.length=n) (hm:n≤maxLen):iT w (some ⟨g,0,none⟩) n n ls:=
 ⟨hn,Nat.le_refl _,hm,fun i hi=>by
  obtain ⟨sa,sn,sc,h2,h3⟩:=hr.get i hi
  exact ⟨g,0,sa,sn,sc,rfl,by rw [Nat.zero_add,h.cell];exact h2,h3⟩⟩
theorem sb (a b t:Nat) (ht:t≤64) (ha:a<2^t):bits BinOp.or IntKind.u64 (a:Int) (IntKind.u64.wrap ((b:Int)*2^t))=((a+b*2^t)%18446744073709551616:Nat):=by
 obtain ⟨s,hs⟩:∃s,t+s=64:=⟨64-t,by omega⟩
 have h1:2^t≤2^64:=Nat.pow_le_pow_right (by omega) ht
 have e:b*2^t%18446744073709551616=(b%2^s)*2^t:=by
  rw [show (18446744073709551616:Nat)=2^t*2^s from by rw [←Nat.pow_add,hs],Nat.mul_comm b,Nat.mul_mod_mul_left,Nat.mul_comm]
 have h2:b%2^s*2^t<18446744073709551616:=by rw [←e];exact Nat.mod_lt _ (by omega)
 have h3:a|||b%2^s*2^t=a+b%2^s*2^t:=by
  have h4:=Nat.shiftLeft_add_eq_or_of_lt ha (b%2^s)
  rw [Nat.shiftLeft_eq] at h4
  rw [Nat.or_comm,←h4,Nat.add_comm]
 have h5:a|||b%2^s*2^t<18446744073709551616:=Nat.or_lt_two_pow (n:=64) (by omega) h2
 rw [h3] at h5
 rw [c8,show ((b:Int)*2^t)%18446744073709551616=((b*2^t%18446744073709551616:Nat):Int) from by simp,u64_or_nat _ _ (by omega) (Nat.mod_lt _ (by omega)),Nat.add_mod,e,h3,Nat.mod_eq_of_lt (show a<18446744073709551616 by omega),Nat.mod_eq_of_lt h5]
theorem by0 (n:Nat):bits BinOp.or IntKind.u64 (dg n 0:Nat) (IntKind.u64.wrap ((dg n 1:Nat)*2251799813685248))=(lw n 0:Nat):=by
 have h:=sb (dg n 0) (dg n 1) 51 (by omega) (iM _ _)
 refine Eq.trans (show _=_ from h) ?_
 congr 1
 simp only [lw,dg,Nat.reduceMul,Nat.reducePow];omega
theorem by1 (n:Nat):bits BinOp.or IntKind.u64 ((dg n 1:Nat)/8192) (IntKind.u64.wrap ((dg n 2:Nat)*274877906944))=(lw n 1:Nat):=by
 have:=iM n 1
 have h:=sb (dg n 1/8192) (dg n 2) 38 (by omega) (by omega)
 refine Eq.trans (show _=_ from h) ?_
 congr 1
 simp only [lw,dg,Nat.reduceMul,Nat.reducePow];omega
theorem TO (n:Nat):bits BinOp.or IntKind.u64 ((dg n 2:Nat)/67108864) (IntKind.u64.wrap ((dg n 3:Nat)*33554432))=(lw n 2:Nat):=by
 have:=iM n 2
 have h:=sb (dg n 2/67108864) (dg n 3) 25 (by omega) (by omega)
 refine Eq.trans (show _=_ from h) ?_
 congr 1
 simp only [lw,dg,Nat.reduceMul,Nat.reducePow];omega
theorem TP (n:Nat) (hn:n<Pq):bits BinOp.or IntKind.u64 ((dg n 3:Nat)/549755813888) (IntKind.u64.wrap ((dg n 4:Nat)*4096))=(lw n 3:Nat):=by
 have:=iM n 3
 have h:=sb (dg n 3/549755813888) (dg n 4) 12 (by omega) (by omega)
 refine Eq.trans (show _=_ from h) ?_
 congr 1
 unfold Pq at hn
 simp only [lw,dg,Nat.reduceMul,Nat.reducePow];omega
theorem Jp (n:Nat): [aV 8 (lw n 0),aV 8 (lw n 1),aV 8 (lw n 2),aV 8 (lw n 3)].flatten=aV 32 n:=by
 rw [show (32:Nat)=8*(3+1) from rfl,fj,show 8*3=8*(2+1) from rfl,fj,show 8*2=8*(1+1) from rfl,fj,show 8*1=8*(0+1) from rfl,fj]
 simp [aV]
theorem iS.of8 {w:World} {g:Nat} {n:Nat} (h:ao w g ((aV 8 n).map bV) 5):iS w (some ⟨g,0,none⟩) 8 8 (aV 8 n):=
 iS.blk [] (by rw [List.append_nil];exact h) (ar _ _) (Nat.le_refl _) (by unfold maxLen;omega)
theorem u_ {w:World} {B' B E n:Nat} {v:Value} {xs:List Value} (h:w.ownsRow B' E 1 v n xs) (hB:B≤B'):w.ownsRow B E 1 v n xs:=by
 obtain ⟨h1,h2⟩:=h
 refine ⟨h1,?_⟩
 rcases h2 with h2|⟨g,cap,cur,hv,hg,r⟩
 ·exact .inl h2
 ·exact .inr ⟨g,cap,cur,hv,Nat.le_trans hB hg,r⟩
set_option maxHeartbeats 1000000 in
theorem uf {f:Nat→Nat} {x:Nat} (hf:FE f x) (w:World):
  Calls Tryz.prog 193 #[.agg #[.int .u64 (f 0:Nat),.int .u64 (f 1:Nat),.int .u64 (f 2:Nat),.int .u64 (f 3:Nat),.int .u64 (f 4:Nat)]] w fun e w'=>∃v,e= .returned v∧w'.ownsRow w.heap.size 5 1 v 32 ((aV 32 x).map bV)∧Below w.heap.size w w':=by
 have e0:=by0 x;have e1:=by1 x;have e2:=TO x;have e3:=TP x hf.lt
 have HFL:=Lib.hid (Jp x)
 have HW0:=Lib.hid (b6 x 0);have HW1:=Lib.hid (b6 x 1);have HW2:=Lib.hid (b6 x 2);have HW3:=Lib.hid (b6 x 3)
 have HF:=Lib.hid hf
 clear hf
 go_enter Tryz.func193,Tryz.ntmps193
 go_upto_region 2 with (go_at_call 230;go_must (refine (iB HF.out _).mono ?_;rintro e w1 ⟨rfl,hb⟩;have hbel:Below w.heap.size w w1:=Below.call (by repeat (first|(with_reducible refine Below.alloc' ?_ _)|(with_reducible refine Below.drew ?_)|(with_reducible refine below_drewN ?_ _)|((with_reducible refine Below.setCell ?_ ?_ _);rotate_left;(focus (first|exact Nat.le_refl _|(simp;done)|(simp;omega))))|(with_reducible assumption)|(with_reducible exact Below.refl _ _))) hb;clear hb))
 refine dO (fun W=>(W.cell? ⟨w1.heap.size,0,none⟩=some (.int .u64 (dg x 0:Nat))∧W.cell? ⟨w1.heap.size,1,none⟩=some (.int .u64 (dg x 1:Nat))∧W.cell? ⟨w1.heap.size,2,none⟩=some (.int .u64 (dg x 2:Nat))∧W.cell? ⟨w1.heap.size,3,none⟩=some (.int .u64 (dg x 3:Nat))∧W.cell? ⟨w1.heap.size,4,none⟩=some (.int .u64 (dg x 4:Nat)))∧Below w.heap.size w W) ?_ (fun W0 hW=> ?_)
 ·exact ⟨⟨(ao.new w1 _ _).cell 0,(ao.new w1 _ _).cell 1,(ao.new w1 _ _).cell 2,(ao.new w1 _ _).cell 3,(ao.new w1 _ _).cell 4⟩,(by repeat (first|(with_reducible refine Below.alloc' ?_ _)|(with_reducible refine Below.drew ?_)|(with_reducible refine below_drewN ?_ _)|((with_reducible refine Below.setCell ?_ ?_ _);rotate_left;(focus (first|exact Nat.le_refl _|(simp;done)|(simp;omega))))|(with_reducible assumption)|(with_reducible exact Below.refl _ _)))⟩
 clear hbel
 generalize w1.heap.size=g at*
 clear w1
 have hst:∀W W':World,((W.cell? ⟨g,0,none⟩=some (.int .u64 (dg x 0:Nat))∧W.cell? ⟨g,1,none⟩=some (.int .u64 (dg x 1:Nat))∧W.cell? ⟨g,2,none⟩=some (.int .u64 (dg x 2:Nat))∧W.cell? ⟨g,3,none⟩=some (.int .u64 (dg x 3:Nat))∧W.cell? ⟨g,4,none⟩=some (.int .u64 (dg x 4:Nat)))∧Below w.heap.size w W)→Below W.heap.size W W'→((W'.cell? ⟨g,0,none⟩=some (.int .u64 (dg x 0:Nat))∧W'.cell? ⟨g,1,none⟩=some (.int .u64 (dg x 1:Nat))∧W'.cell? ⟨g,2,none⟩=some (.int .u64 (dg x 2:Nat))∧W'.cell? ⟨g,3,none⟩=some (.int .u64 (dg x 3:Nat))∧W'.cell? ⟨g,4,none⟩=some (.int .u64 (dg x 4:Nat)))∧Below w.heap.size w W'):=by
  rintro W W' ⟨h1,h3⟩ hb
  exact ⟨uv _ _ h1 hb,Below.call h3 hb⟩
 have hst':=Lib.hid hst;have HS0:=Lib.hid (show (fun W=>(W.cell? ⟨g,0,none⟩=some (.int .u64 (dg x 0:Nat))∧W.cell? ⟨g,1,none⟩=some (.int .u64 (dg x 1:Nat))∧W.cell? ⟨g,2,none⟩=some (.int .u64 (dg x 2:Nat))∧W.cell? ⟨g,3,none⟩=some (.int .u64 (dg x 3:Nat))∧W.cell? ⟨g,4,none⟩=some (.int .u64 (dg x 4:Nat)))∧Below w.heap.size w W) W0.drew from ⟨hW.1,hW.2.drew⟩)
 clear hst hW
 have hst:=hst'
 clear hst'
 have hF:∀W:World,((W.cell? ⟨g,0,none⟩=some (.int .u64 (dg x 0:Nat))∧W.cell? ⟨g,1,none⟩=some (.int .u64 (dg x 1:Nat))∧W.cell? ⟨g,2,none⟩=some (.int .u64 (dg x 2:Nat))∧W.cell? ⟨g,3,none⟩=some (.int .u64 (dg x 3:Nat))∧W.cell? ⟨g,4,none⟩=some (.int .u64 (dg x 4:Nat)))∧Below w.heap.size w W)→Below w.heap.size w W:=fun W h=>h.2
 go_region_held3 (fun W=>(W.cell? ⟨g,0,none⟩=some (.int .u64 (dg x 0:Nat))∧W.cell? ⟨g,1,none⟩=some (.int .u64 (dg x 1:Nat))∧W.cell? ⟨g,2,none⟩=some (.int .u64 (dg x 2:Nat))∧W.cell? ⟨g,3,none⟩=some (.int .u64 (dg x 3:Nat))∧W.cell? ⟨g,4,none⟩=some (.int .u64 (dg x 4:Nat)))∧Below w.heap.size w W) (first|(exact HS0.out)|(first|assumption|(refine hst.out _ _ ?_ hb;assumption)|(refine hst.out _ _ ?_ (Below.alloc' (Below.refl _ _) _);assumption)|(refine hst.out _ _ ?_ (Below.drew (Below.refl _ _));assumption))) ((first|(go_at_call 200;first |((with_reducible refine (dk HW0.out _).mono ?_);rintro e w1 ⟨rfl,hB,hb⟩;have C1:=Lib.hid hb.size;have R0:=Lib.hid (iS.of8 hB);clear hB)|((with_reducible refine (dk HW1.out _).mono ?_);rintro e w2 ⟨rfl,hB,hb⟩;have C2:=Lib.hid hb.size;have R1:=Lib.hid (iS.of8 hB);have Q0:=Lib.hid (R0.out.below hb);clear hB)|((with_reducible refine (dk HW2.out _).mono ?_);rintro e w3 ⟨rfl,hB,hb⟩;have C3:=Lib.hid hb.size;have R2:=Lib.hid (iS.of8 hB);have Q1:=Lib.hid (R1.out.below hb);have P0:=Lib.hid (Q0.out.below hb);clear hB)|((with_reducible refine (dk HW3.out _).mono ?_);rintro e w4 ⟨rfl,hB,hb⟩;have C4:=Lib.hid hb.size;have R3:=Lib.hid (iS.of8 hB);have Q2:=Lib.hid (R2.out.below hb);have P1:=Lib.hid (Q1.out.below hb);have N0:=Lib.hid (P0.out.below hb);clear hB))|(go_at_call 102;refine (Af (ls:= [aV 8 (lw x 0),aV 8 (lw x 1),aV 8 (lw x 2),aV 8 (lw x 3)]) _ (iT.blk (n:=4) (ao.new _ _ _) (gx.cons (N0.out.below (Below.alloc' (Below.refl _ _) _)) (gx.cons (P1.out.below (Below.alloc' (Below.refl _ _) _)) (gx.cons (Q2.out.below (Below.alloc' (Below.refl _ _) _)) (gx.cons (R3.out.below (Below.alloc' (Below.refl _ _) _)) gx.nil)))) rfl (by unfold maxLen;omega)) (by rw [HFL.out,ar];omega)).mono ?_;rintro e w5 ⟨v,rfl,ho,hb⟩;rw [HFL.out,ar] at ho;replace ho:=u_ (B:=w4.heap.size) ho (Below.alloc' (Below.refl _ _) _).size;have HO:=Lib.hid ho;clear ho)))
 all_goals
  go_wp2
  go_ret
  refine ⟨v,rfl,u_ HO.out ?_,hF _ (by assumption)⟩
  have c0:=HS0.out.2.size;have c1:=C1.out;have c2:=C2.out;have c3:=C3.out;have c4:=C4.out
  omega
end Go.Proofs.YtnlhpncaldcllaaGreat
namespace Go.Proofs.YtnlhpncaldcllaaGreat
open Go Go.RowKit
set_option maxRecDepth 10000
theorem aN {f : Nat} {fn : Func} {c : Code} (hf : Tryz.prog.funcs[f]? = some fn) (hn : (fn.name == "runtime.NumGoroutine") = false) (hb : fn.body = some c) {G : GF}
  (hG:∀l g,G l=some g→aW g.pre→g.us= []∧d6 g.outs=true∧∀η w vs,bp η (fun _=>True) w l vs→Calls Tryz.prog f vs.toArray w fun e w'=>∃v,e= .returned v∧Below w.heap.size w w'∧∀nx ηc,bF ηc (fun _=>True) w' (g.outs.map (AV.rn nx)) v):ab f (aq G):=by
 refine ⟨⟨fn,c,hf,hn,hb⟩,fun nx args sl H ds res rd qs h hq hp η w vs hH hv hfree=> ?_⟩
 obtain ⟨l,rd1,h1,hl⟩:=fB hH h hv
 split at h1
 ·split at h1
  ·rename_i outs us p e3
   have:=lq h1
   subst this
   obtain ⟨g1,g2,g3⟩:=hG _ _ e3 hp
   cases (show us= [] from g1)
   refine (g3 η w vs (cR hl)).mono fun e w' ⟨v,he,hbl,ho⟩=> ?_
   obtain ⟨η',hR⟩:=bj.many (ηc:=fun _=>none) (Ac:=fun _=>True) (pre:=p) hH hfree (us:= []) rfl hbl (fun p hp=>by cases hp) (fun p hp=>by cases hp) (fun p hp=>by cases hp) g2 (ho nx _)
   exact ⟨v,η',he,hR⟩
  ·cases h1
 ·cases h1
theorem dY {f : Nat} {fn : Func} {c : Code} (hf : Tryz.prog.funcs[f]? = some fn) (hn : (fn.name == "runtime.NumGoroutine") = false) (hb : fn.body = some c) {G : GF}
  (hG:∀l g,G l=some g→aW g.pre→∃q:List UInt8,g.outs= [.one (.rw 0)]∧g.us= [(0,.row 5 .u8 q)]∧∀η w vs,bp η (fun _=>True) w l vs→Calls Tryz.prog f vs.toArray w fun e w'=>∃v,e= .returned v∧w'.ownsRow w.heap.size 5 1 v q.length (q.map bV)∧Below w.heap.size w w'):ab f (aq G):=by
 refine ⟨⟨fn,c,hf,hn,hb⟩,fun nx args sl H ds res rd qs h hq hp η w vs hH hv hfree=> ?_⟩
 obtain ⟨l,rd1,h1,hl⟩:=fB hH h hv
 split at h1
 ·split at h1
  ·rename_i outs us p e3
   have:=lq h1
   subst this
   obtain ⟨q,g1,g2,g3⟩:=hG _ _ e3 hp
   cases (show outs=_ from g1)
   cases (show us=_ from g2)
   refine (g3 η w vs (cR hl)).mono fun e w' ⟨v,he,ho,hbl⟩=> ?_
   have hge:∀g,qL v=some g→w.heap.size≤g:=fun g hg=>by
    rcases ho.2 with ⟨rfl,_⟩|⟨g',cap,cur,rfl,h4,_⟩
    ·cases hg
    ·cases hg;exact h4
   have ho0:w'.ownsRow 0 5 1 v q.length (q.map bV):=⟨ho.1,ho.2.imp_right fun ⟨g',cap,cur,h4,h5,h6⟩=>⟨g',cap,cur,h4,Nat.zero_le _,h6⟩⟩
   have h1c:v.oneCell'=true:=by rcases ho.2 with ⟨rfl,_⟩|⟨g',cap,cur,rfl,_⟩<;>rfl
   obtain ⟨η',hR⟩:=bj.many (ηc:=fun b=>if b=nx then some v else none) (Ac:=fun _=>True) (pre:=p) hH hfree (us:= [(0,.row 5 .u8 q)]) rfl hbl
    (fun p hp=>by
     rw [List.mem_singleton] at hp
     subst hp
     exact ⟨v,_,if_pos rfl,lF.2 rfl,ho0⟩)
    (fun p hp r hr hne=>by
     rw [List.mem_singleton] at hp hr
     subst hp hr
     exact absurd rfl hne)
    (fun p hp g hg=>by
     rw [List.mem_singleton] at hp
     subst hp
     refine hge g ?_
     replace hg:(if nx+0=nx then some v else none).bind qL=some g:=hg
     rw [if_pos (Nat.add_zero nx)] at hg
     exact hg) (outs:= [.one (.rw 0)]) rfl (v:=v) ⟨v,if_pos rfl,rfl,h1c⟩
   exact ⟨v,η',he,hR⟩
  ·cases h1
 ·cases h1
theorem d_ {η:aY} {A:Nat→Prop} {w:World} {x:F} {v:Value} (h:AV.H η A w (.agg [.ob (.x 4) x]) v):∃f,v= .agg #[.int .u64 (f 0:Nat),.int .u64 (f 1:Nat),.int .u64 (f 2:Nat),.int .u64 (f 3:Nat),.int .u64 (f 4:Nat)]∧FE f x.val:=by
 obtain ⟨cs,rfl,⟨h1,t,e2,⟨f,h3,h4,rfl⟩,rfl⟩,_⟩:=h
 exact ⟨f,by rw [e2];rfl,h3,h4⟩
theorem eX {η:aY} {A:Nat→Prop} {w:World} {f:Nat→Nat} {n:Nat} (h:FE f n) (x:F) (e:n=x.val):AV.H η A w (.agg [.ob (.x 4) x]) (.agg #[.int .u64 (f 0:Nat),.int .u64 (f 1:Nat),.int .u64 (f 2:Nat),.int .u64 (f 3:Nat),.int .u64 (f 4:Nat)]):=
 ⟨_,rfl,⟨_,[],rfl,⟨f,h.lim,h.num.trans e,rfl⟩,rfl⟩,fun v hv=>by
  simp only [List.mem_cons,List.not_mem_nil,or_false] at hv
  rcases hv with rfl|rfl|rfl|rfl|rfl<;>rfl⟩
def Fj:GF:=fun l=>match l with
 | [.agg [.ob (.x 4) a],.agg [.ob (.x 4) b]]=>some ⟨[.agg [.ob (.x 4) (sZ a b)]],[],none⟩
 |_=>none
theorem xd:ab 168 (aq Fj):=aN Tryz.func168 (by kernel_rfl) rfl fun l g h hp=>by
 unfold Fj at h
 split at h
 ·rename_i a b
  cases h
  refine ⟨rfl,rfl,fun η w vs ⟨v1,t,e1,h1,v2,t2,e2,h2,e3⟩=> ?_⟩
  subst e3 e2 e1
  obtain ⟨f,rfl,hf⟩:=d_ h1
  obtain ⟨g,rfl,hg⟩:=d_ h2
  exact (B2 hf hg w).mono fun e w' ⟨h,he,hh,hb⟩=>⟨_,he,hb,fun _ _=>eX hh (sZ a b) (F.add_val _ _).symm⟩
 ·cases h
theorem Iz (a b:F):(a.val+(Pq-b.val))%Pq=(wn a b).val:=by rw [Nat.add_comm];rfl
def Fp:GF:=fun l=>match l with
 | [.agg [.ob (.x 4) a],.agg [.ob (.x 4) b]]=>some ⟨[.agg [.ob (.x 4) (wn a b)]],[],none⟩
 |_=>none
theorem xj:ab 166 (aq Fp):=aN Tryz.func166 (by kernel_rfl) rfl fun l g h hp=>by
 unfold Fp at h
 split at h
 ·rename_i a b
  cases h
  refine ⟨rfl,rfl,fun η w vs ⟨v1,t,e1,h1,v2,t2,e2,h2,e3⟩=> ?_⟩
  subst e3 e2 e1
  obtain ⟨f,rfl,hf⟩:=d_ h1
  obtain ⟨g,rfl,hg⟩:=d_ h2
  exact (o6 hf hg w).mono fun e w' ⟨h,he,hh,hb⟩=>⟨_,he,hb,fun _ _=>eX hh (wn a b) (Iz a b)⟩
 ·cases h
def Fm:GF:=fun l=>match l with
 | [.agg [.ob (.x 4) a]]=>some ⟨[.agg [.ob (.x 4) (DG a)]],[],none⟩
 |_=>none
theorem xg:ab 174 (aq Fm):=aN Tryz.func174 (by kernel_rfl) rfl fun l g h hp=>by
 unfold Fm at h
 split at h
 ·rename_i a
  cases h
  refine ⟨rfl,rfl,fun η w vs ⟨v1,t,e1,h1,e3⟩=> ?_⟩
  subst e3 e1
  obtain ⟨f,rfl,hf⟩:=d_ h1
  exact (oY hf w).mono fun e w' ⟨h,he,hh,hb⟩=>⟨_,he,hb,fun _ _=>eX hh (DG a) rfl⟩
 ·cases h
def Fl:GF:=fun l=>match l with
 | [.agg [.ob (.x 4) a],.agg [.ob (.x 4) b]]=>some ⟨[.agg [.ob (.x 4) (bH a b)]],[],none⟩
 |_=>none
theorem xf:ab 165 (aq Fl):=aN Tryz.func165 (by kernel_rfl) rfl fun l g h hp=>by
 unfold Fl at h
 split at h
 ·rename_i a b
  cases h
  refine ⟨rfl,rfl,fun η w vs ⟨v1,t,e1,h1,v2,t2,e2,h2,e3⟩=> ?_⟩
  subst e3 e2 e1
  obtain ⟨f,rfl,hf⟩:=d_ h1
  obtain ⟨g,rfl,hg⟩:=d_ h2
  exact (fh hf hg w).mono fun e w' ⟨h,he,hh,hb⟩=>⟨_,he,hb,fun _ _=>eX hh (bH a b) (F.mul_val _ _).symm⟩
 ·cases h
def Fk:GF:=fun l=>match l with
 | [.agg [.ob (.x 4) a]]=>some ⟨[.agg [.ob (.x 4) (bk a)]],[],none⟩
 |_=>none
theorem xe:ab 169 (aq Fk):=aN Tryz.func169 (by kernel_rfl) rfl fun l g h hp=>by
 unfold Fk at h
 split at h
 ·rename_i a
  cases h
  refine ⟨rfl,rfl,fun η w vs ⟨v1,t,e1,h1,e3⟩=> ?_⟩
  subst e3 e1
  obtain ⟨f,rfl,hf⟩:=d_ h1
  exact (B3 hf w).mono fun e w' ⟨h,he,hh,hb⟩=>⟨_,he,hb,fun _ _=>eX hh (bk a) rfl⟩
 ·cases h
def qX:GF:=fun l=>match l with
 | [.one (.ob .u64 n)]=>some ⟨[.agg [.ob (.x 4) (fn n.toNat)]],[],none⟩
 |_=>none
theorem qE:ab 164 (aq qX):=aN Tryz.func164 (by kernel_rfl) rfl fun l g h hp=>by
 unfold qX at h
 split at h
 ·rename_i n
  cases h
  refine ⟨rfl,rfl,fun η w vs ⟨v1,t,e1,h1,e3⟩=> ?_⟩
  subst e3 e1
  cases List.singleton_inj.1 (show [v1]= [_] from h1)
  exact (kU n.toNat_lt w).mono fun e w' ⟨he,hb⟩=>⟨_,he,hb,fun _ _=>eX (FE.small n.toNat_lt) (fn n.toNat) (Nat.mod_eq_of_lt (Nat.lt_trans n.toNat_lt (by decide +kernel))).symm⟩
 ·cases h
def xN:GF:=fun l=>match l with
 | [.agg [.ob (.x 4) a],.agg [.ob (.x 4) b]]=>some ⟨[.one (.ob .bool (qI a b))],[],none⟩
 |_=>none
theorem uc:ab 171 (aq xN):=aN Tryz.func171 (by kernel_rfl) rfl fun l g h hp=>by
 unfold xN at h
 split at h
 ·rename_i a b
  cases h
  refine ⟨rfl,rfl,fun η w vs ⟨v1,t,e1,h1,v2,t2,e2,h2,e3⟩=> ?_⟩
  subst e3 e2 e1
  obtain ⟨f,rfl,hf⟩:=d_ h1
  obtain ⟨g,rfl,hg⟩:=d_ h2
  refine (mq hf hg w).mono fun e w' ⟨he,hb⟩=>⟨_,he,hb,fun _ _=> ?_⟩
  show [Value.bool _]= [Value.bool _]
  refine congrArg (fun z=> [Value.bool z]) (decide_eq_decide.2 ⟨fun h=>F.ext' h,fun h=>congrArg Fin.val h⟩)
 ·cases h
def Fo:GF:=fun l=>match l with
 | [.agg [.ob (.x 4) a]]=>some ⟨[.one (.ob .bool (decide (Fin.val (n:=Pq) a%2=1)))],[],none⟩
 |_=>none
theorem xh:ab 194 (aq Fo):=aN Tryz.func194 (by kernel_rfl) rfl fun l g h hp=>by
 unfold Fo at h
 split at h
 ·rename_i a
  cases h
  refine ⟨rfl,rfl,fun η w vs ⟨v1,t,e1,h1,e3⟩=> ?_⟩
  subst e3 e1
  obtain ⟨f,rfl,hf⟩:=d_ h1
  exact (oZ hf w).mono fun e w' ⟨he,hb⟩=>⟨_,he,hb,fun _ _=>rfl⟩
 ·cases h
def xL:GF:=fun l=>match l with
 | [.one (.ob .bool y),.agg [.ob (.x 4) a],.agg [.ob (.x 4) b]]=>some ⟨[.agg [.ob (.x 4) (match y with |true=>a|false=>b)]],[],none⟩
 |_=>none
theorem t_:ab 173 (aq xL):=aN Tryz.func173 (by kernel_rfl) rfl fun l g h hp=>by
 unfold xL at h
 split at h
 ·rename_i y a b
  cases h
  refine ⟨rfl,rfl,fun η w vs ⟨v0,t0,e0,h0,v1,t,e1,h1,v2,t2,e2,h2,e3⟩=> ?_⟩
  subst e3 e2 e1 e0
  cases List.singleton_inj.1 (show [v0]= [_] from h0)
  obtain ⟨f,rfl,hf⟩:=d_ h1
  obtain ⟨g,rfl,hg⟩:=d_ h2
  refine (xq y f g w).mono fun e w' ⟨he,hb⟩=>⟨_,he,hb,fun _ _=> ?_⟩
  cases y
  ·exact eX hg b rfl
  ·exact eX hf a rfl
 ·cases h
def qW:GF:=fun l=>match l with
 | [.agg [.ob (.x 4) a]]=>some ⟨[.one (.rw 0)],[(0,.row 5 .u8 (aV 32 (Fin.val (n:=Pq) a)))],none⟩
 |_=>none
theorem qz:ab 193 (aq qW):=dY Tryz.func193 (by kernel_rfl) rfl fun l g h hp=>by
 unfold qW at h
 split at h
 ·rename_i a
  cases h
  refine ⟨_,rfl,rfl,fun η w vs ⟨v1,t,e1,h1,e3⟩=> ?_⟩
  subst e3 e1
  obtain ⟨f,rfl,hf⟩:=d_ h1
  rw [ar]
  exact uf hf w
 ·cases h
def N8:GF:=fun l=>match l with
 | [.one (.ro .u8 b)]=>some ⟨[.agg [.ob (.x 4) (jo b)]],[],none⟩
 |_=>none
theorem BX:ab 201 (aq N8):=aN Tryz.func201 (by kernel_rfl) rfl fun l g h hp=>by
 unfold N8 at h
 split at h
 ·rename_i b
  cases h
  refine ⟨rfl,rfl,fun η w vs ⟨v1,t,e1,h1,e3⟩=> ?_⟩
  subst e3 e1
  obtain ⟨u,e,hR⟩:=h1
  cases List.singleton_inj.1 e
  obtain ⟨ad,c,rfl,hr⟩:=hR.rdb
  refine (E_ w hr).mono fun e w' ⟨he,hb⟩=>⟨_,he,hb,fun _ _=>eX (FE.of _) (jo b) ?_⟩
  show bo (b.take 32++List.replicate (32-b.length) 0)%pV%Pq=bo (b.take 32)%pV%Pq
  rw [AM]
 ·cases h
set_option maxRecDepth 10000
def bO (b:List UInt8) (n:Nat):List UInt8:=b.take n++List.replicate (n-b.length) 0
theorem ki (b:List UInt8) (n:Nat):(bO b n).length=n:=by simp [bO];omega
def aB (b:List UInt8):List UInt8:=((bO b 32).set 0 ((bO b 32).getD 0 0&&&248)).set 31 ((((bO b 32).set 0 ((bO b 32).getD 0 0&&&248)).getD 31 0&&&127)|||64)
theorem iX (b:List UInt8):(aB b).length=32:=by simp [aB,ki]
structure lm where
 x2:F
 z2:F
 x3:F
 z3:F
def lm.swp (s:lm):lm:=⟨s.x3,s.z3,s.x2,s.z2⟩
def lm.step (u:F) (s:lm):lm:=
 let a:=s.x2+s.z2
 let aa:=a*a
 let b:=s.x2-s.z2
 let bb:=b*b
 let e:=aa-bb
 let da:=(s.x3-s.z3)*a
 let cb:=(s.x3+s.z3)*b
 ⟨aa*bb,e*(aa+fn 121665*e),(da+cb)*(da+cb),u*((da-cb)*(da-cb))⟩
def gI (k:List UInt8) (u:F):Nat→lm×Nat
 |0=>(⟨1,0,u,1⟩,0)
 |m+1=>(((if (gI k u m).2≠cI k (254-m) then (gI k u m).1.swp else (gI k u m).1).step u),cI k (254-m))
def Ce (s:lm×Nat):lm:=if s.2=1 then s.1.swp else s.1
def dP (k u:List UInt8):F:=(Ce (gI (aB k) (jo u) 255)).x2*bk (Ce (gI (aB k) (jo u) 255)).z2
theorem tA (l:List UInt8):(dG l).length=l.length+1+(240-(l.length+1)%128)%128+8+8:=by
 simp only [dG,List.length_append,List.length_cons,List.length_replicate,fF,List.length_reverse,ar];omega
theorem nT (b:List UInt64) {j:Nat}:∀ {t:Nat},j<t→ax (wL b t) j=if j<16 then ax b j else It (wL b j) j
 |0,h=>by omega
 |t+1,h=>by
  by_cases e:j<t
  ·rw [←nT b e]
   unfold ax
   rw [wL,List.getD_eq_getElem?_getD,List.getElem?_append_left (by rw [nS];omega)]
   rfl
  ·obtain rfl:j=t:=by omega
   unfold ax
   rw [wL,List.getD_eq_getElem?_getD,List.getElem?_append_right (by rw [nS];omega),nS,Nat.sub_self]
   rfl
theorem RY (b:List UInt64) {j:Nat} (h:j<16):ax (wL b 80) j=ax b j:=by rw [nT b (by omega),if_pos h]
theorem RW (b:List UInt64) {j t:Nat} (h:j<t) (ht:t≤80):ax (wL b t) j=ax (wL b 80) j:=by rw [nT b h,nT b (Nat.lt_of_lt_of_le h ht)]
theorem RX (b:List UInt64) {j:Nat} (h:16≤j) (h2:j<80):ax (wL b 80) j=up (up (up (ax (wL b 80) (j-16)) (TG (ax (wL b 80) (j-15)))) (ax (wL b 80) (j-7))) (TH (ax (wL b 80) (j-2))):=by
 rw [nT b h2,if_neg (by omega)]
 unfold It
 have k:=fun m (h1:0<m)=>RW b (j:=j-m) (t:=j) (by omega) (by omega)
 rw [k 16 (by omega),k 15 (by omega),k 7 (by omega),k 2 (by omega)]
abbrev jb (b:List UInt8) (k:Nat):List UInt8:=((List.range k).map fun i=>fF (ax (Oi (dG b) ((dG b).length/128)) i)).flatten
theorem nr (b:List UInt8) (k:Nat):(jb b k).length=8*k:=by
 induction k with
 |zero=>rfl
 |succ k ih=>rw [jb,jd,List.length_append,ih,EC];omega
theorem cP (l:List UInt8):(aM l).length=64:=nr l 8
end Go.Proofs.YtnlhpncaldcllaaGreat
namespace Go.Proofs.YtnlhpncaldcllaaGreat
open Go.RowKit
end Go.Proofs.YtnlhpncaldcllaaGreat
namespace Go.Proofs.YtnlhpncaldcllaaGreat
end Go.Proofs.YtnlhpncaldcllaaGreat
namespace Go.Proofs.YtnlhpncaldcllaaGreat
open Go.RowKit
end Go.Proofs.YtnlhpncaldcllaaGreat
namespace Go.Proofs.YtnlhpncaldcllaaGreat
open Go Go.RowKit
set_option maxRecDepth 10000
set_option maxRecDepth 10000
theorem IW:Lq<256^32:=by decide +kernel
set_option maxRecDepth 10000
set_option maxRecDepth 10000
set_option maxRecDepth 10000
set_option maxRecDepth 10000
section
variable {η:aY} {A:Nat→Prop} {w:World}
end
theorem g_:0<Lq:=by unfold Lq;omega
def zr (a b:Nat):Nat:=(a+b)%Lq
def C5 (a b:Nat):Nat:=a*b%Lq
def bK (l:List UInt8):Nat:=bo (bO l 64)%Lq
def C0 (x:Nat) (k:Int):Int:=if 0≤k∧k≤255 then ((x/2^k.toNat%2:Nat):Int) else 0
end Go.Proofs.YtnlhpncaldcllaaGreat
namespace Go.Proofs.YtnlhpncaldcllaaGreat
open Go.RowKit
theorem Wd.lw (n i:Nat):Wd (lw n i:Nat):=⟨by omega,by have:=b6 n i;omega⟩
theorem Cy.cy (a b i:Nat):Cy (cy a b i:Nat):=⟨by omega,by have:=QK a b i;omega⟩
theorem Cy.bw (a b i:Nat):Cy (bw a b i:Nat):=⟨by omega,by have:=QJ a b i;omega⟩
theorem I3 (a b i:Nat):lg (lw a i:Nat) (lw b i:Nat) (cy a b i:Nat)=(lw (a+b) i:Nat):=by
 have:=(td a b i).1;unfold lg;omega
theorem I2 (a b i:Nat):n7 (lw a i:Nat) (lw b i:Nat) (cy a b i:Nat)=(cy a b (i+1):Nat):=by
 have:=(td a b i).2;unfold n7;omega
theorem p7 (a b i j:Nat) (hj:i+1=j) (w:World):(callFunc 199 #[.int .u64 (lw a i:Nat),.int .u64 (lw b i:Nat),.int .u64 (cy a b i:Nat)]).run Tryz.prog w= .ok (.value (.tuple #[.int .u64 (lw (a+b) i:Nat),.int .u64 (cy a b j:Nat)])) w:=by
 rw [tc (Wd.lw a i) (Wd.lw b i) (Cy.cy a b i),I3,I2,hj]
theorem IY (a b:Nat) (w:World):(callFunc 199 #[.int .u64 (lw a 0:Nat),.int .u64 (lw b 0:Nat),.int .u64 0]).run Tryz.prog w= .ok (.value (.tuple #[.int .u64 (lw (a+b) 0:Nat),.int .u64 (cy a b 1:Nat)])) w:=by
 have:=p7 a b 0 1 rfl w
 rw [JA] at this;exact this
theorem OZ (a b i j:Nat) (hj:i+1=j) (hi:i<4) (hb:b<2^256) (w:World):(callFunc 257 #[.int .u64 (lw a i:Nat),.int .u64 (lw b i:Nat),.int .u64 (bw a b i:Nat)]).run Tryz.prog w= .ok (.value (.tuple #[.int .u64 (lw (a+2^256-b) i:Nat),.int .u64 (bw a b j:Nat)])) w:=by
 have:=Hk a b i hi hb
 have e1:Lh (lw a i:Nat) (lw b i:Nat) (bw a b i:Nat)=(lw (a+2^256-b) i:Nat):=this.1
 have e2:Lg (lw a i:Nat) (lw b i:Nat) (bw a b i:Nat)=(bw a b (i+1):Nat):=this.2
 rw [RH (Wd.lw a i) (Wd.lw b i) (Cy.bw a b i),e1,e2,hj]
theorem NZ (x0 x1 x2 x3:Value) (w:World):(Instr.field 129 (.agg #[x0,x1,x2,x3]) 0).run Tryz.prog w= .ok (.agg #[x0,x1,x2,x3]) w:=by kernel_rfl
theorem ME (x0 x1 x2 x3:Value) (w:World):(Instr.index 127 (.agg #[x0,x1,x2,x3]) (.int .i64 0)).run Tryz.prog w= .ok x0 w:=by kernel_rfl
theorem MF (x0 x1 x2 x3:Value) (w:World):(Instr.index 127 (.agg #[x0,x1,x2,x3]) (.int .i64 1)).run Tryz.prog w= .ok x1 w:=by kernel_rfl
theorem MG (x0 x1 x2 x3:Value) (w:World):(Instr.index 127 (.agg #[x0,x1,x2,x3]) (.int .i64 2)).run Tryz.prog w= .ok x2 w:=by kernel_rfl
theorem MH (x0 x1 x2 x3:Value) (w:World):(Instr.index 127 (.agg #[x0,x1,x2,x3]) (.int .i64 3)).run Tryz.prog w= .ok x3 w:=by kernel_rfl
set_option maxHeartbeats 400000 in
theorem vj (a b:Nat) (w:World):
  Calls Tryz.prog 196 #[.agg #[.int .u64 (lw a 0:Nat),.int .u64 (lw a 1:Nat),.int .u64 (lw a 2:Nat),.int .u64 (lw a 3:Nat)],.agg #[.int .u64 (lw b 0:Nat),.int .u64 (lw b 1:Nat),.int .u64 (lw b 2:Nat),.int .u64 (lw b 3:Nat)]] w fun e w'=>e= .returned (.agg #[.int .u64 (lw (a+b) 0:Nat),.int .u64 (lw (a+b) 1:Nat),.int .u64 (lw (a+b) 2:Nat),.int .u64 (lw (a+b) 3:Nat)])∧Below w.heap.size w w':=by
 have h0:=IY a b
 have h1:=p7 a b 1 2 rfl
 have h2:=p7 a b 2 3 rfl
 have h3:=p7 a b 3 4 rfl
 have i0:=ME
 have i1:=MF
 have i2:=MG
 have i3:=MH
 go_enter Tryz.func196,Tryz.ntmps196
 go_wp2
 refine wp_loop_rounds 5 ?_
 iterate 5 (rw [rounds_succ];go_wp2_with fail)
 exact bodyPost_ret (v:= .agg #[.int .u64 (lw (a+b) 0:Nat),.int .u64 (lw (a+b) 1:Nat),.int .u64 (lw (a+b) 2:Nat),.int .u64 (lw (a+b) 3:Nat)]) (by simp [results,Tryz.results196,go_sem]) rfl ⟨rfl,(by repeat (first|(with_reducible refine Below.alloc' ?_ _)|(with_reducible refine Below.drew ?_)|(with_reducible refine below_drewN ?_ _)|((with_reducible refine Below.setCell ?_ ?_ _);rotate_left;(focus (first|exact Nat.le_refl _|(simp;done)|(simp;omega))))|(with_reducible assumption)|(with_reducible exact Below.refl _ _)))⟩
set_option maxHeartbeats 400000 in
theorem Cx (w:World):
  Calls Tryz.prog 256 #[] w fun e w'=>e= .returned (.agg #[.int .u64 (lw Lq 0:Nat),.int .u64 (lw Lq 1:Nat),.int .u64 (lw Lq 2:Nat),.int .u64 (lw Lq 3:Nat)])∧Below w.heap.size w w':=by
 have e0:lw Lq 0=0x5812631a5cf5d3ed:=by decide +kernel
 have e1:lw Lq 1=0x14def9dea2f79cd6:=by decide +kernel
 have e2:lw Lq 2=0:=by decide +kernel
 have e3:lw Lq 3=0x1000000000000000:=by decide +kernel
 rw [e0,e1,e2,e3]
 clear e0 e1 e2 e3
 go_enter Tryz.func256,Tryz.ntmps256
 go_wp2
 exact bodyPost_ret (v:= .agg #[.int .u64 0x5812631a5cf5d3ed,.int .u64 0x14def9dea2f79cd6,.int .u64 0,.int .u64 0x1000000000000000]) (by simp [results,Tryz.results256,go_sem]) rfl ⟨rfl,(by repeat (first|(with_reducible refine Below.alloc' ?_ _)|(with_reducible refine Below.drew ?_)|(with_reducible refine below_drewN ?_ _)|((with_reducible refine Below.setCell ?_ ?_ _);rotate_left;(focus (first|exact Nat.le_refl _|(simp;done)|(simp;omega))))|(with_reducible assumption)|(with_reducible exact Below.refl _ _)))⟩
theorem Mk:Lq<2^256:=by unfold Lq;omega
theorem TN (a:Nat) (ha:a<2^256):bw a Lq 4=if a<Lq then 1 else 0:=by
 unfold bw
 rw [Nat.mod_eq_of_lt ha,Nat.mod_eq_of_lt Mk]
def cd (a:Nat):Nat:=a+2^256-Lq
theorem Sl (n k:Nat) (hk:k<4) (w:World):(Instr.index 127 (.agg #[.int .u64 (lw n 0:Nat),.int .u64 (lw n 1:Nat),.int .u64 (lw n 2:Nat),.int .u64 (lw n 3:Nat)]) (.int .i64 (k:Nat))).run Tryz.prog w= .ok (.int .u64 (lw n k:Nat)) w:=by
 have h:k=0∨k=1∨k=2∨k=3:=by omega
 rcases h with rfl|rfl|rfl|rfl
 ·exact ME _ _ _ _ _
 ·exact MF _ _ _ _ _
 ·exact MG _ _ _ _ _
 ·exact MH _ _ _ _ _
def DL (n m k:Nat) (i:Nat):Value:=if i<k then wV n i else wV m i
theorem Kq (n m k:Nat):(row 4 (DL n m k)).set k (.int .u64 (lw n k:Nat))=row 4 (DL n m (k+1)):=
 dA k _ (by unfold DL;rw [if_pos (by omega)];rfl) (fun i _ h=>by unfold DL;by_cases h1:i<k;rw [if_pos h1,if_pos (by omega)];rw [if_neg h1,if_neg (by omega)])
theorem Gk (n m:Nat):row 4 (DL n m 0)=row 4 (wV m):=iw fun i _=>by unfold DL;rw [if_neg (by omega)]
theorem Gj (n m:Nat):row 4 (DL n m 4)=row 4 (wV n):=iw fun i h=>by unfold DL;rw [if_pos h]
theorem Oz (n m k:Nat):DL n m k k= .int .u64 (lw m k:Nat):=by unfold DL;rw [if_neg (by omega)];rfl
set_option maxHeartbeats 400000 in
theorem uB (a:Nat) (ha:a<2^256) (w:World):
  Calls Tryz.prog 239 #[.agg #[.int .u64 (lw a 0:Nat),.int .u64 (lw a 1:Nat),.int .u64 (lw a 2:Nat),.int .u64 (lw a 3:Nat)]] w fun e w'=>e= .returned (.tuple #[.agg #[.int .u64 (lw (cd a) 0:Nat),.int .u64 (lw (cd a) 1:Nat),.int .u64 (lw (cd a) 2:Nat),.int .u64 (lw (cd a) 3:Nat)],.bool (decide (a<Lq))])∧Below w.heap.size w w':=by
 have fs:=NZ
 have HD:Hid ((((bw a Lq 4:Nat):Int) ==1)=decide (a<Lq)):=by
  refine Lib.hid ?_
  rw [TN a ha];split<;>simp_all
 go_enter Tryz.func239,Tryz.ntmps239
 go_wp2_with (go_at_call 256;refine (Cx _).mono ?_;rintro e w1 ⟨rfl,hb⟩)
 have hB0:ao w1 w.heap.size (row 4 (DL (cd a) a 0)) 129:=by
  rw [Gk,CW]
  exact (((ao.new w _ _).alloc _).below' hb)
 have hbel:Below w.heap.size w w1:=Below.call (by repeat (first|(with_reducible refine Below.alloc' ?_ _)|(with_reducible refine Below.drew ?_)|(with_reducible refine below_drewN ?_ _)|((with_reducible refine Below.setCell ?_ ?_ _);rotate_left;(focus (first|exact Nat.le_refl _|(simp;done)|(simp;omega))))|(with_reducible assumption)|(with_reducible exact Below.refl _ _))) hb
 have hO:ao w1 (w.heap.size+1) (row 4 fun _=> .int .u64 0) 129:=(ao.new' (by simp)).below' hb
 clear hb
 go_wp2
 go_loopw [4,9] (fun c i wr=>∃k:Nat,k≤4∧i= .int .i64 k∧c= .int .u64 (bw a Lq k:Nat)∧ao wr w.heap.size (row 4 (DL (cd a) a k)) 129∧ao wr (w.heap.size+1) (row 4 fun _=> .int .u64 0) 129∧Below w.heap.size w wr) (fun _ i _=>4-(intOf i).toNat)
 case atStart=>exact ⟨0,by omega,rfl,by rw [Jo];rfl,hB0,hO,hbel⟩
 case round=>
  obtain ⟨k,hk,rfl,rfl,hB,hO',hbl⟩:=hrel
  by_cases hlt:k<4
  ·have hx:=Sl Lq k hlt
   have hs:∀w:World,_:=OZ a Lq k (k+1) rfl hlt Mk
   rw [show a+2^256-Lq=cd a from rfl] at hs
   have hcell:=hB.at hlt
   rw [Oz] at hcell
   have hfr:=hB.frozen k
   have HB:=Lib.hid (hB.set k (.int .u64 (lw (cd a) k:Nat)))
   have HO:=Lib.hid (hO'.other ⟨w.heap.size,k,none⟩ (by simp) (.int .u64 (lw (cd a) k:Nat)))
   clear hB hO' hB0 hO
   go_wp2
   go_roundw
   case rel=>exact ⟨k+1,by omega,by go_num,rfl,by have:=HB.out;rw [Kq] at this;exact this,HO.out,hbl.setCell (Nat.le_refl _) _⟩
   case measure=>simp [intOf];omega
  ·obtain rfl:k=4:=by omega
   rw [Gj] at hB
   have h0:wr.cell? ⟨w.heap.size,0,none⟩=some (.int .u64 (lw (cd a) 0:Nat)):=hB.at (by omega)
   have h1:wr.cell? ⟨w.heap.size,1,none⟩=some (.int .u64 (lw (cd a) 1:Nat)):=hB.at (by omega)
   have h2:wr.cell? ⟨w.heap.size,2,none⟩=some (.int .u64 (lw (cd a) 2:Nat)):=hB.at (by omega)
   have h3:wr.cell? ⟨w.heap.size,3,none⟩=some (.int .u64 (lw (cd a) 3:Nat)):=hB.at (by omega)
   have o0:wr.cell? ⟨w.heap.size+1,0,none⟩=some (.int .u64 0):=hO'.at (by omega)
   have o1:wr.cell? ⟨w.heap.size+1,1,none⟩=some (.int .u64 0):=hO'.at (by omega)
   have o2:wr.cell? ⟨w.heap.size+1,2,none⟩=some (.int .u64 0):=hO'.at (by omega)
   have o3:wr.cell? ⟨w.heap.size+1,3,none⟩=some (.int .u64 0):=hO'.at (by omega)
   have f0:=hO'.frozen
   clear hB hO' hB0 hO hlt hk
   go_wp2
   exact bodyPost_ret (v:= .tuple #[.agg #[.int .u64 (lw (cd a) 0:Nat),.int .u64 (lw (cd a) 1:Nat),.int .u64 (lw (cd a) 2:Nat),.int .u64 (lw (cd a) 3:Nat)],.bool ((bw a Lq 4:Int) ==1)]) (by simp [results,Tryz.results239,go_sem,o0,o1,o2,o3]) rfl ⟨by rw [HD.out],(by repeat (first|(with_reducible refine Below.alloc' ?_ _)|(with_reducible refine Below.drew ?_)|(with_reducible refine below_drewN ?_ _)|((with_reducible refine Below.setCell ?_ ?_ _);rotate_left;(focus (first|exact Nat.le_refl _|(simp;done)|(simp;omega))))|(with_reducible assumption)|(with_reducible exact Below.refl _ _)))⟩
theorem lJ (a i:Nat) (hi:i<4) (ha:a<2^256) (h:¬a<Lq):lw (cd a) i=lw (a-Lq) i:=by
 unfold cd
 rw [←Ov (a+2^256-Lq) i hi]
 generalize (2:Nat)^256=P at*
 rw [show a+P-Lq=(a-Lq)+P from by omega,Nat.add_mod_right,Nat.mod_eq_of_lt (by omega)]
set_option maxHeartbeats 400000 in
theorem uV (a:Nat) (ha:a<2^256) (w:World):
  Calls Tryz.prog 197 #[.agg #[.int .u64 (lw a 0:Nat),.int .u64 (lw a 1:Nat),.int .u64 (lw a 2:Nat),.int .u64 (lw a 3:Nat)]] w fun e w'=>e= .returned (.agg #[.int .u64 (lw (once a) 0:Nat),.int .u64 (lw (once a) 1:Nat),.int .u64 (lw (once a) 2:Nat),.int .u64 (lw (once a) 3:Nat)])∧Below w.heap.size w w':=by
 by_cases hl:a<Lq
 ·rw [show once a=a from if_pos hl]
  have hd:decide (a<Lq)=true:=by simp [hl]
  clear hl
  go_enter Tryz.func197,Tryz.ntmps197
  go_wp2_with (go_at_call 239;go_must (refine (uB a ha _).mono ?_;rintro e w1 ⟨rfl,hb⟩;obtain ⟨hc,hf⟩:=z8 hb;have hz:=hb.size;simp at hz;have hz1:w.heap.size<w1.heap.size:=(by omega);have hz2:w.heap.size+1<w1.heap.size:=(by omega)))
  have hbel:Below w.heap.size w w1:=Below.call (by repeat (first|(with_reducible refine Below.alloc' ?_ _)|(with_reducible refine Below.drew ?_)|(with_reducible refine below_drewN ?_ _)|((with_reducible refine Below.setCell ?_ ?_ _);rotate_left;(focus (first|exact Nat.le_refl _|(simp;done)|(simp;omega))))|(with_reducible assumption)|(with_reducible exact Below.refl _ _))) hb
  exact bodyPost_ret (v:= .agg #[.int .u64 (lw a 0:Nat),.int .u64 (lw a 1:Nat),.int .u64 (lw a 2:Nat),.int .u64 (lw a 3:Nat)]) (by simp [results,Tryz.results197,go_sem,hc,hz2]) rfl ⟨rfl,(by repeat (first|(with_reducible refine Below.alloc' ?_ _)|(with_reducible refine Below.drew ?_)|(with_reducible refine below_drewN ?_ _)|((with_reducible refine Below.setCell ?_ ?_ _);rotate_left;(focus (first|exact Nat.le_refl _|(simp;done)|(simp;omega))))|(with_reducible assumption)|(with_reducible exact Below.refl _ _)))⟩
 ·have e0:=lJ a 0 (by omega) ha hl
  have e1:=lJ a 1 (by omega) ha hl
  have e2:=lJ a 2 (by omega) ha hl
  have e3:=lJ a 3 (by omega) ha hl
  rw [show once a=a-Lq from if_neg hl,←e0,←e1,←e2,←e3]
  clear e0 e1 e2 e3
  have hd:decide (a<Lq)=false:=by simp;omega
  clear hl
  go_enter Tryz.func197,Tryz.ntmps197
  go_wp2_with (go_at_call 239;go_must (refine (uB a ha _).mono ?_;rintro e w1 ⟨rfl,hb⟩;obtain ⟨hc,hf⟩:=z8 hb;have hz:=hb.size;simp at hz;have hz1:w.heap.size<w1.heap.size:=(by omega);have hz2:w.heap.size+1<w1.heap.size:=(by omega)))
  have hbel:Below w.heap.size w w1:=Below.call (by repeat (first|(with_reducible refine Below.alloc' ?_ _)|(with_reducible refine Below.drew ?_)|(with_reducible refine below_drewN ?_ _)|((with_reducible refine Below.setCell ?_ ?_ _);rotate_left;(focus (first|exact Nat.le_refl _|(simp;done)|(simp;omega))))|(with_reducible assumption)|(with_reducible exact Below.refl _ _))) hb
  refine bodyPost_ret (v:= .agg #[.int .u64 (lw (cd a) 0:Nat),.int .u64 (lw (cd a) 1:Nat),.int .u64 (lw (cd a) 2:Nat),.int .u64 (lw (cd a) 3:Nat)]) ?_ ?_ ?_
  ·simp [results,Tryz.results197,go_sem,hc,hz2]
  ·rfl
  ·exact ⟨rfl,(by repeat (first|(with_reducible refine Below.alloc' ?_ _)|(with_reducible refine Below.drew ?_)|(with_reducible refine below_drewN ?_ _)|((with_reducible refine Below.setCell ?_ ?_ _);rotate_left;(focus (first|exact Nat.le_refl _|(simp;done)|(simp;omega))))|(with_reducible assumption)|(with_reducible exact Below.refl _ _)))⟩
theorem GG (r N j:Nat):bits BinOp.or IntKind.u64 (lw (r+r) 0:Nat) (bits BinOp.and IntKind.u64 ((lw N (j/64):Nat)/2^(j%64)) 1)=(lw (r+r+N/2^j%2) 0:Nat):=by
 have h0:=b6 N (j/64)
 have h1:=b6 (r+r) 0
 have hb:N/2^j%2<2:=Nat.mod_lt _ (by omega)
 have hq:lw N (j/64)/2^(j%64)<18446744073709551616:=Nat.lt_of_le_of_lt (Nat.div_le_self _ _) h0
 have e:((lw N (j/64):Nat):Int)/2^(j%64)=((lw N (j/64)/2^(j%64):Nat):Int):=by simp
 rw [e,show (1:Int)=((1:Nat):Int) from rfl,u64_and_nat _ 1 hq (by omega),Nat.and_one_is_mod,yJ,u64_or_nat _ _ h1 (by omega),(Gf r _ hb).1]
 congr 1
 have he:=Ko r
 generalize lw (r+r) 0=x at*
 generalize N/2^j%2=b at*
 obtain ⟨y,rfl⟩:∃y,x=2*y:=⟨x/2,by omega⟩
 rw [show 2*y=y<<<1 from by rw [Nat.shiftLeft_eq];omega,Nat.shiftLeft_add_eq_or_of_lt (by omega)]
set_option maxHeartbeats 1000000 in
theorem k9 (N T:Nat) (hT1:T≤512) (hT2:512≤T) (hN:N<2^T) (w:World):
  Calls Tryz.prog 192 #[.agg #[.int .u64 (lw N 0:Nat),.int .u64 (lw N 1:Nat),.int .u64 (lw N 2:Nat),.int .u64 (lw N 3:Nat),.int .u64 (lw N 4:Nat),.int .u64 (lw N 5:Nat),.int .u64 (lw N 6:Nat),.int .u64 (lw N 7:Nat)]] w fun e w'=>e= .returned (.agg #[.int .u64 (lw (N%Lq) 0:Nat),.int .u64 (lw (N%Lq) 1:Nat),.int .u64 (lw (N%Lq) 2:Nat),.int .u64 (lw (N%Lq) 3:Nat)])∧Below w.heap.size w w':=by
 have HN:=Lib.hid hN
 clear hN
 go_enter Tryz.func192,Tryz.ntmps192
 go_wp2
 refine dO (fun W=>ao W w.heap.size (row 8 (wV N)) 178∧ao W (w.heap.size+1) (row 4 (wV (N/2^T%Lq))) 129∧Below w.heap.size w W) ?_ (fun W hW=> ?_)
 ·refine ⟨(ao.new w _ _).alloc _,?_,(by repeat (first|(with_reducible refine Below.alloc' ?_ _)|(with_reducible refine Below.drew ?_)|(with_reducible refine below_drewN ?_ _)|((with_reducible refine Below.setCell ?_ ?_ _);rotate_left;(focus (first|exact Nat.le_refl _|(simp;done)|(simp;omega))))|(with_reducible assumption)|(with_reducible exact Below.refl _ _)))⟩
  rw [Nat.div_eq_of_lt HN.out]
  exact ao.new' (by simp)
 obtain ⟨hA,hO,hbel⟩:=hW
 go_loopw [3] (fun i wr=>∃k:Nat,k≤512∧i= .int .i64 ((k:Int)-1)∧ao wr w.heap.size (row 8 (wV N)) 178∧ao wr (w.heap.size+1) (row 4 (wV (N/2^k%Lq))) 129∧Below w.heap.size w wr) (fun i _=>(intOf i+1).toNat)
 case atStart=>exact ⟨T,by omega,by congr 1;omega,hA,hO,hbel⟩
 case round=>
  clear hA hO hbel W
  obtain ⟨k,hk,rfl,hA,hO,hbel⟩:=hrel
  by_cases hk0:k=0
  ·subst hk0
   rw [Nat.pow_zero,Nat.div_one] at hO
   clear hA hk
   have ez:(((0:Nat):Int)-1)= -1:=rfl
   rw [ez]
   clear ez
   generalize hx:N%Lq=x at*
   have HX:=Lib.hid hx
   clear hx
   have gf:=hO.frozen
   have g0:wr.cell? ⟨w.heap.size+1,0,none⟩=some (.int .u64 (lw x 0:Nat)):=hO.at (by omega);have g1:wr.cell? ⟨w.heap.size+1,1,none⟩=some (.int .u64 (lw x 1:Nat)):=hO.at (by omega);have g2:wr.cell? ⟨w.heap.size+1,2,none⟩=some (.int .u64 (lw x 2:Nat)):=hO.at (by omega);have g3:wr.cell? ⟨w.heap.size+1,3,none⟩=some (.int .u64 (lw x 3:Nat)):=hO.at (by omega)
   clear hO
   go_wp2
   exact bodyPost_ret (v:= .agg #[.int .u64 (lw x 0:Nat),.int .u64 (lw x 1:Nat),.int .u64 (lw x 2:Nat),.int .u64 (lw x 3:Nat)]) (by simp [results,Tryz.results192,go_sem,g0,g1,g2,g3]) rfl ⟨by rw [HX.out],(by repeat (first|(with_reducible refine Below.alloc' ?_ _)|(with_reducible refine Below.drew ?_)|(with_reducible refine below_drewN ?_ _)|((with_reducible refine Below.setCell ?_ ?_ _);rotate_left;(focus (first|exact Nat.le_refl _|(simp;done)|(simp;omega))))|(with_reducible assumption)|(with_reducible exact Below.refl _ _)))⟩
  ·obtain ⟨j,rfl⟩:∃j,k=j+1:=⟨k-1,by omega⟩
   have ej:(((j+1:Nat):Int)-1)=(j:Int):=by omega
   rw [ej]
   clear ej hk0
   have hr:N/2^(j+1)%Lq<Lq:=Nat.mod_lt _ (by unfold Lq;omega)
   have HS:=Lib.hid (sw N j)
   have HB:=Lib.hid (GG (N/2^(j+1)%Lq) N j)
   have hbit:N/2^j%2<2:=Nat.mod_lt _ (by omega)
   have HL:=Lib.hid (Gf (N/2^(j+1)%Lq) _ hbit)
   generalize hrr:N/2^(j+1)%Lq=r at*
   clear hrr
   have h0:wr.cell? ⟨w.heap.size+1,0,none⟩=some (.int .u64 (lw r 0:Nat)):=hO.at (by omega);have h1:wr.cell? ⟨w.heap.size+1,1,none⟩=some (.int .u64 (lw r 1:Nat)):=hO.at (by omega);have h2:wr.cell? ⟨w.heap.size+1,2,none⟩=some (.int .u64 (lw r 2:Nat)):=hO.at (by omega);have h3:wr.cell? ⟨w.heap.size+1,3,none⟩=some (.int .u64 (lw r 3:Nat)):=hO.at (by omega)
   go_wp2_with (go_at_call 196;go_must (refine (vj r r _).mono ?_;rintro e w1 ⟨rfl,hb⟩;have hO1:=hO.below' hb;have hA1:=hA.below' hb;have hbel1:=hbel.trans (hb.mono hbel.size);have gf:=hO1.frozen;have g0:w1.cell? ⟨w.heap.size+1,0,none⟩=some (.int .u64 (lw r 0:Nat)):=hO1.at (by omega);have g1:w1.cell? ⟨w.heap.size+1,1,none⟩=some (.int .u64 (lw r 1:Nat)):=hO1.at (by omega);have g2:w1.cell? ⟨w.heap.size+1,2,none⟩=some (.int .u64 (lw r 2:Nat)):=hO1.at (by omega);have g3:w1.cell? ⟨w.heap.size+1,3,none⟩=some (.int .u64 (lw r 3:Nat)):=hO1.at (by omega);clear hb hO hA hbel h0 h1 h2 h3))
   refine dO (fun W=>ao W w.heap.size (row 8 (wV N)) 178∧ao W (w.heap.size+1) (row 4 (wV (r+r))) 129∧Below w.heap.size w W) ?_ (fun W hW=> ?_)
   ·exact ⟨(((hA1.other _ (by simp) _).other _ (by simp) _).other _ (by simp) _).other _ (by simp) _,(((hO1.set 0 _).set 1 _).set 2 _).set 3 _,(by repeat (first|(with_reducible refine Below.alloc' ?_ _)|(with_reducible refine Below.drew ?_)|(with_reducible refine below_drewN ?_ _)|((with_reducible refine Below.setCell ?_ ?_ _);rotate_left;(focus (first|exact Nat.le_refl _|(simp;done)|(simp;omega))))|(with_reducible assumption)|(with_reducible exact Below.refl _ _)))⟩
   obtain ⟨hA2,hO2,hbel2⟩:=hW
   clear hA1 hO1 hbel1 gf g0 g1 g2 g3
   have c0:W.cell? ⟨w.heap.size+1,0,none⟩=some (.int .u64 (lw (r+r) 0:Nat)):=hO2.at (by omega)
   have cf:=hO2.frozen 0
   have hj:j/64<8:=by omega
   have c1:W.cell? ⟨w.heap.size,j/64,none⟩=some (.int .u64 (lw N (j/64):Nat)):=hA2.at hj
   have hw0:(0:Int)≤(lw N (j/64):Nat):=by omega
   have hw1:((lw N (j/64):Nat):Int)<18446744073709551616:=by have:=b6 N (j/64);omega
   go_region
   rw [HB.out]
   have hO3:ao W (w.heap.size+1) (row 4 (fun i=>if i=0 then wV (r+r) 0 else wV (r+r+N/2^j%2) i)) 129:=by
    rw [iw (g:=wV (r+r))]
    ·exact hO2
    ·intro i _
     cases i with
     |zero=>rfl
     |succ i=>unfold wV;simp only [Nat.add_eq_zero_iff,Nat.succ_ne_self,and_false,if_false];rw [HL.out.2]
   have o1:W.cell? ⟨w.heap.size+1,1,none⟩=some (.int .u64 (lw (r+r+N/2^j%2) 1:Nat)):=hO3.at (by omega)
   have o2:W.cell? ⟨w.heap.size+1,2,none⟩=some (.int .u64 (lw (r+r+N/2^j%2) 2:Nat)):=hO3.at (by omega)
   have o3:W.cell? ⟨w.heap.size+1,3,none⟩=some (.int .u64 (lw (r+r+N/2^j%2) 3:Nat)):=hO3.at (by omega)
   have hO4:=hO3.set 0 (wV (r+r+N/2^j%2) 0)
   rw [dA (g:=wV (r+r+N/2^j%2)) 0 _ rfl (fun i _ h=>by rw [if_neg h])] at hO4
   clear hO2 hO3 c1 hw0 hw1 hj HB HL
   have hA4:=hA2.other ⟨w.heap.size+1,0,none⟩ (by simp) (wV (r+r+N/2^j%2) 0)
   have hbel4:Below w.heap.size w (W.setCell ⟨w.heap.size+1,0,none⟩ (wV (r+r+N/2^j%2) 0)):=(by repeat (first|(with_reducible refine Below.alloc' ?_ _)|(with_reducible refine Below.drew ?_)|(with_reducible refine below_drewN ?_ _)|((with_reducible refine Below.setCell ?_ ?_ _);rotate_left;(focus (first|exact Nat.le_refl _|(simp;done)|(simp;omega))))|(with_reducible assumption)|(with_reducible exact Below.refl _ _)))
   have hbd:r+r+N/2^j%2<2^256:=by unfold Lq at hr;omega
   rw [show 2*r+N/2^j%2=r+r+N/2^j%2 from by omega] at HS
   generalize hx:r+r+N/2^j%2=x at*
   clear hx
   unfold wV at hO4 hA4 hbel4
   go_wp2_with (go_at_call 197;go_must (refine (uV x hbd _).mono ?_;rintro e w2 ⟨rfl,hb⟩;have hO5:=(ao.drew hO4).below' hb;have hA5:=(ao.drew hA4).below' hb;have hbel5:=(Below.drew hbel4).trans (hb.mono (Below.drew hbel4).size);have gf:=hO5.frozen;have g0:w2.cell? ⟨w.heap.size+1,0,none⟩=some (.int .u64 (lw x 0:Nat)):=hO5.at (by omega);have g1:w2.cell? ⟨w.heap.size+1,1,none⟩=some (.int .u64 (lw x 1:Nat)):=hO5.at (by omega);have g2:w2.cell? ⟨w.heap.size+1,2,none⟩=some (.int .u64 (lw x 2:Nat)):=hO5.at (by omega);have g3:w2.cell? ⟨w.heap.size+1,3,none⟩=some (.int .u64 (lw x 3:Nat)):=hO5.at (by omega);clear hb hO4 hA4 hbel4 o1 o2 o3 c0 cf hA2 hbel2))
   go_roundw
   case rel=>
    refine ⟨j,by omega,by first |rfl|(congr 1;omega),(((hA5.other _ (by simp) _).other _ (by simp) _).other _ (by simp) _).other _ (by simp) _,?_,(by repeat (first|(with_reducible refine Below.alloc' ?_ _)|(with_reducible refine Below.drew ?_)|(with_reducible refine below_drewN ?_ _)|((with_reducible refine Below.setCell ?_ ?_ _);rotate_left;(focus (first|exact Nat.le_refl _|(simp;done)|(simp;omega))))|(with_reducible assumption)|(with_reducible exact Below.refl _ _)))⟩
    rw [←HS.out]
    exact (((hO5.set 0 _).set 1 _).set 2 _).set 3 _
   case measure=>simp [intOf]<;>omega
theorem Tm (f:Nat→Value):row 8 f= [f 0,f 1,f 2,f 3,f 4,f 5,f 6,f 7]:=rfl
theorem pC:row 8 (wV 0)= [.int .u64 0,.int .u64 0,.int .u64 0,.int .u64 0,.int .u64 0,.int .u64 0,.int .u64 0,.int .u64 0]:=by
 simp only [Tm,RZ]
set_option maxHeartbeats 1000000 in
theorem Ix {a:Option Addr} {n cap:Nat} {l:List UInt8} (w:World) (h:iS w a n cap l):
  Calls Tryz.prog 117 #[.slice a n cap] w fun e w'=>e= .returned (.agg #[.int .u64 (lw (bo (first l 64)%Lq) 0:Nat),.int .u64 (lw (bo (first l 64)%Lq) 1:Nat),.int .u64 (lw (bo (first l 64)%Lq) 2:Nat),.int .u64 (lw (bo (first l 64)%Lq) 3:Nat)])∧Below w.heap.size w w':=by
 have hlen:=o8 l 64
 generalize hfl:first l 64=fl at*
 have HF:=Lib.hid hfl;have HL:=Lib.hid hlen
 clear hfl hlen
 go_enter Tryz.func117,Tryz.ntmps117
 go_wp2_with (go_at_call 191;go_must (refine (o7 64 (by omega) _ (h.below (by repeat (first|(with_reducible refine Below.alloc' ?_ _)|(with_reducible refine Below.drew ?_)|(with_reducible refine below_drewN ?_ _)|((with_reducible refine Below.setCell ?_ ?_ _);rotate_left;(focus (first|exact Nat.le_refl _|(simp;done)|(simp;omega))))|(with_reducible assumption)|(with_reducible exact Below.refl _ _))))).mono ?_;rintro e w1 ⟨rfl,hB,hb⟩))
 have hbel:Below w.heap.size w w1:=Below.call (by repeat (first|(with_reducible refine Below.alloc' ?_ _)|(with_reducible refine Below.drew ?_)|(with_reducible refine below_drewN ?_ _)|((with_reducible refine Below.setCell ?_ ?_ _);rotate_left;(focus (first|exact Nat.le_refl _|(simp;done)|(simp;omega))))|(with_reducible assumption)|(with_reducible exact Below.refl _ _))) hb
 have hO:ao w1 w.heap.size (row 4 (wV 0)) 129:=by
  simp only [CW,RZ]
  exact ((ao.new w _ _).alloc _).below' hb
 have hA:ao w1 (w.heap.size+1) (row 8 (wV (bo (fl.take 0)))) 178:=by
  rw [List.take_zero,show bo []=0 from rfl,pC]
  exact (ao.new' (by simp)).below' hb
 rw [HF.out] at hB
 clear hb h
 have hB:ao w1 (w.heap.size+1+1) (fl.map bV) 5:=by simpa using hB
 go_loopw [9] (fun i wr=>∃k:Nat,k≤64∧i= .int .i64 k∧ao wr (w.heap.size+1) (row 8 (wV (bo (fl.take k)))) 178∧ao wr w.heap.size (row 4 (wV 0)) 129∧ao wr (w.heap.size+1+1) (fl.map bV) 5∧Below w.heap.size w wr) (fun i _=>64-(intOf i).toNat)
 case atStart=>exact ⟨0,by omega,rfl,hA,hO,hB,hbel⟩
 case round=>
  clear hA hO hB hbel
  obtain ⟨k,hk,rfl,hA,hO,hB,hbel⟩:=hrel
  by_cases hlt:k<64
  ·have hkl:k<fl.length:=by rw [HL.out];exact hlt
   have hcb:wr.cell? ⟨w.heap.size+1+1,k,none⟩=some (.int .u8 (fl[k].toNat:Int)):=by rw [hB.cell];simp [hkl,bV]
   have HT:=Lib.hid (jE fl k hkl)
   have hn:=dF fl k
   have HC:=Lib.hid (fl[k].toNat_lt)
   generalize bo (fl.take k)=x at*
   generalize fl[k].toNat=c at*
   obtain ⟨ci,hci⟩:∃ci:Int,ci=(c:Int):=⟨_,rfl⟩
   have HI:=Lib.hid hci
   rw [←hci] at hcb
   have hc0:0≤ci:=by omega
   have hc1:ci<256:=by have:=HC.out;omega
   clear hci
   have hq:k/8<8:=by omega
   have ca:wr.cell? ⟨w.heap.size+1,k/8,none⟩=some (.int .u64 (lw x (k/8):Nat)):=hA.at hq
   have cf:=hA.frozen (k/8)
   have HN:=Lib.hid hn
   have HS:=Lib.hid (uY x k c ci HI.out HN.out HC.out)
   have HO:=Lib.hid hO;have HB:=Lib.hid hB;have HA:=Lib.hid hA
   clear hn hO hB hA
   go_wp2
   go_region
   rw [HS.out]
   have hA2:=HA.out.set (k/8) (wV (x+c*256^k) (k/8))
   rw [dA (g:=wV (x+c*256^k)) _ _ rfl (fun i _ hi=>by unfold wV;rw [uZ x k c i HN.out HC.out hi])] at hA2
   have hO2:=HO.out.other ⟨w.heap.size+1,k/8,none⟩ (by simp) (wV (x+c*256^k) (k/8))
   have hB2:=HB.out.other ⟨w.heap.size+1,k/8,none⟩ (by simp) (wV (x+c*256^k) (k/8))
   have HA2:=Lib.hid hA2;have HO2:=Lib.hid hO2;have HB2:=Lib.hid hB2
   clear hA2 hO2 hB2 ca cf hcb
   go_wp2
   go_roundw
   case rel=>exact ⟨k+1,by omega,by go_num,by rw [HT.out];exact HA2.out.drew,HO2.out.drew,HB2.out.drew,(by repeat (first|(with_reducible refine Below.alloc' ?_ _)|(with_reducible refine Below.drew ?_)|(with_reducible refine below_drewN ?_ _)|((with_reducible refine Below.setCell ?_ ?_ _);rotate_left;(focus (first|exact Nat.le_refl _|(simp;done)|(simp;omega))))|(with_reducible assumption)|(with_reducible exact Below.refl _ _)))⟩
   case measure=>simp [intOf]<;>omega
  ·obtain rfl:k=64:=by omega
   rw [List.take_of_length_le (by rw [HL.out];omega)] at hA
   have hN:bo fl<2^(8*64):=by have:=Gb fl;rw [HL.out,OK] at this;exact this
   have HN:=Lib.hid hN
   clear hN hB hlt hk
   generalize hx:bo fl=x at*
   have HX:=Lib.hid hx
   clear hx
   have g0:wr.cell? ⟨w.heap.size+1,0,none⟩=some (.int .u64 (lw x 0:Nat)):=hA.at (by omega);have g1:wr.cell? ⟨w.heap.size+1,1,none⟩=some (.int .u64 (lw x 1:Nat)):=hA.at (by omega);have g2:wr.cell? ⟨w.heap.size+1,2,none⟩=some (.int .u64 (lw x 2:Nat)):=hA.at (by omega);have g3:wr.cell? ⟨w.heap.size+1,3,none⟩=some (.int .u64 (lw x 3:Nat)):=hA.at (by omega);have g4:wr.cell? ⟨w.heap.size+1,4,none⟩=some (.int .u64 (lw x 4:Nat)):=hA.at (by omega);have g5:wr.cell? ⟨w.heap.size+1,5,none⟩=some (.int .u64 (lw x 5:Nat)):=hA.at (by omega);have g6:wr.cell? ⟨w.heap.size+1,6,none⟩=some (.int .u64 (lw x 6:Nat)):=hA.at (by omega);have g7:wr.cell? ⟨w.heap.size+1,7,none⟩=some (.int .u64 (lw x 7:Nat)):=hA.at (by omega)
   go_wp2_with (go_at_call 192;go_must (refine (k9 x (8*64) (by omega) (by omega) HN.out _).mono ?_;rintro e w2 ⟨rfl,hb⟩;have hO1:=hO.below' hb;have hbel1:=Below.call hbel hb;have gf:=hO1.frozen;have o0:w2.cell? ⟨w.heap.size,0,none⟩=some (.int .u64 (lw 0 0:Nat)):=hO1.at (by omega);have o1:w2.cell? ⟨w.heap.size,1,none⟩=some (.int .u64 (lw 0 1:Nat)):=hO1.at (by omega);have o2:w2.cell? ⟨w.heap.size,2,none⟩=some (.int .u64 (lw 0 2:Nat)):=hO1.at (by omega);have o3:w2.cell? ⟨w.heap.size,3,none⟩=some (.int .u64 (lw 0 3:Nat)):=hO1.at (by omega);clear hb hO hA))
   exact bodyPost_ret (v:= .agg #[.int .u64 (lw (x%Lq) 0:Nat),.int .u64 (lw (x%Lq) 1:Nat),.int .u64 (lw (x%Lq) 2:Nat),.int .u64 (lw (x%Lq) 3:Nat)]) (by simp [results,Tryz.results117,go_sem,o0,o1,o2,o3]) rfl ⟨by rw [HX.out],(by repeat (first|(with_reducible refine Below.alloc' ?_ _)|(with_reducible refine Below.drew ?_)|(with_reducible refine below_drewN ?_ _)|((with_reducible refine Below.setCell ?_ ?_ _);rotate_left;(focus (first|exact Nat.le_refl _|(simp;done)|(simp;omega))))|(with_reducible assumption)|(with_reducible exact Below.refl _ _)))⟩
set_option maxHeartbeats 1000000 in
theorem BP (n:Nat) (w:World):
  Calls Tryz.prog 124 #[.agg #[.int .u64 (lw n 0:Nat),.int .u64 (lw n 1:Nat),.int .u64 (lw n 2:Nat),.int .u64 (lw n 3:Nat)]] w fun e w'=>∃v,e= .returned v∧w'.ownsRow w.heap.size 5 1 v 32 ((aV 32 n).map bV)∧Below w.heap.size w w':=by
 obtain ⟨i0,hi,hz0,hz1,hz2⟩:=info_parts yx
 go_enter Tryz.func124,Tryz.ntmps124
 go_wp2
 go_loopw [2,7] (fun v i wr=>∃k:Nat,k≤4∧i= .int .i64 k∧wr.ownsRow w.heap.size 5 1 v (8*k) ((aV (8*k) n).map bV)∧Below w.heap.size w wr) (fun _ i _=>4-(intOf i).toNat)
 case atStart=>exact ⟨0,by omega,rfl,⟨rfl,.inl ⟨rfl,rfl⟩⟩,(by repeat (first|(with_reducible refine Below.alloc' ?_ _)|(with_reducible refine Below.drew ?_)|(with_reducible refine below_drewN ?_ _)|((with_reducible refine Below.setCell ?_ ?_ _);rotate_left;(focus (first|exact Nat.le_refl _|(simp;done)|(simp;omega))))|(with_reducible assumption)|(with_reducible exact Below.refl _ _)))⟩
 case round=>
  obtain ⟨k,hk,rfl,hown,hbel⟩:=hrel
  by_cases hlt:k<4
  ·have hx:=Sl n k hlt
   have hw:=b6 n k
   have HW:=Lib.hid (fj n k)
   have HI:=Lib.hid hi;have HZ0:=Lib.hid hz0;have HZ1:=Lib.hid hz1;have HZ2:=Lib.hid hz2
   clear hi hz0 hz1 hz2
   go_wp2_with (first|(go_at_call 200;go_must (refine (dk hw _).mono ?_;rintro e w1 ⟨rfl,hB,hb⟩;have hown1:=Cz hown hb;have hbel1:=Below.call hbel hb;have HB:=Lib.hid hB;clear hown hbel hB hb))|(at_builtin;go_must (refine wpList_append_own _ rfl (.tmp 10) (.tmp 12) 26 rfl w.heap.size 5 i0 (.int .u8 0) 1 1 Tryz.underlying26 HI.out HZ0.out HZ1.out HZ2.out rfl (by decide) _ (8*k) _ rfl hown1 ⟨wr.heap.size,0,none⟩ 8 8 ((aV 8 (lw n k)).map bV) rfl ?c1 ?c2 (Ey _) ?c3 ?c4 hbel1.size ?c5)))
   case c1=>simp [ar]
   case c2=>
    intro j u hu
    have:=HB.out.cell j
    rw [lY,Nat.zero_add,this];exact hu
   case c3=>unfold maxLen;omega
   case c4=>omega
   case c5=>
    intro v' w2 hown2 hgr _
    rw [←List.map_append,←HW.out,show 8*k+8=8*(k+1) from rfl] at hown2
    have hbel2:Below w.heap.size w w2:=hbel1.grown hgr hbel1.size (fun q hq=>by
     rcases hown1.2 with ⟨h,_⟩|⟨g,cap,cur,hv,hg,_⟩
     ·rw [h] at hq;simp [Value.ownBlock] at hq
     ·rw [hv] at hq;simp [Value.ownBlock] at hq;omega)
    clear hown1 hbel1 hgr HB HW HI HZ0 HZ1 HZ2 hw hx
    go_wp2
    go_roundw
    case rel=>exact ⟨k+1,by omega,by go_num,hown2,hbel2⟩
    case measure=>simp [intOf]<;>omega
  ·obtain rfl:k=4:=by omega
   have HO:=Lib.hid hown
   clear hown hi hz0 hz1 hz2
   go_wp2
   go_ret
   exact ⟨_,rfl,HO.out,hbel⟩
set_option maxHeartbeats 1000000 in
theorem I0 (a b:Nat) (hab:a+b<2^256) (w:World):
  Calls Tryz.prog 122 #[.agg #[.int .u64 (lw a 0:Nat),.int .u64 (lw a 1:Nat),.int .u64 (lw a 2:Nat),.int .u64 (lw a 3:Nat)],.agg #[.int .u64 (lw b 0:Nat),.int .u64 (lw b 1:Nat),.int .u64 (lw b 2:Nat),.int .u64 (lw b 3:Nat)]] w fun e w'=>e= .returned (.agg #[.int .u64 (lw (once (a+b)) 0:Nat),.int .u64 (lw (once (a+b)) 1:Nat),.int .u64 (lw (once (a+b)) 2:Nat),.int .u64 (lw (once (a+b)) 3:Nat)])∧Below w.heap.size w w':=by
 go_enter Tryz.func122,Tryz.ntmps122
 go_wp2_with (first | (go_at_call 196; go_must (refine (vj a b _).mono ?_; rintro e w1 ⟨rfl, hb1⟩; obtain ⟨hc1, hf1⟩ := z8 hb1; have hz1 := hb1.size; simp at hz1; have hz1' : w.heap.size + 1 + 1 < w1.heap.size := (by omega); clear hz1))     | (go_at_call 197; go_must (refine (uV (a + b) hab _).mono ?_; rintro e w2 ⟨rfl, hb2⟩; obtain ⟨hc2, hf2⟩ := z8 hb2)))
 have hbel1:Below w.heap.size w w1:=Below.call (by repeat (first|(with_reducible refine Below.alloc' ?_ _)|(with_reducible refine Below.drew ?_)|(with_reducible refine below_drewN ?_ _)|((with_reducible refine Below.setCell ?_ ?_ _);rotate_left;(focus (first|exact Nat.le_refl _|(simp;done)|(simp;omega))))|(with_reducible assumption)|(with_reducible exact Below.refl _ _))) hb1
 have hbel2:=Below.call hbel1 hb2
 exact bodyPost_ret (v:= .agg #[.int .u64 (lw (once (a+b)) 0:Nat),.int .u64 (lw (once (a+b)) 1:Nat),.int .u64 (lw (once (a+b)) 2:Nat),.int .u64 (lw (once (a+b)) 3:Nat)]) (by simp [results,Tryz.results122,go_sem,hc1,hc2,hz1']) rfl ⟨rfl,(by repeat (first|(with_reducible refine Below.alloc' ?_ _)|(with_reducible refine Below.drew ?_)|(with_reducible refine below_drewN ?_ _)|((with_reducible refine Below.setCell ?_ ?_ _);rotate_left;(focus (first|exact Nat.le_refl _|(simp;done)|(simp;omega))))|(with_reducible assumption)|(with_reducible exact Below.refl _ _)))⟩
set_option maxHeartbeats 1000000 in
theorem C9 (n k:Nat) (hk:k<256) (w:World):
  Calls Tryz.prog 181 #[.agg #[.int .u64 (lw n 0:Nat),.int .u64 (lw n 1:Nat),.int .u64 (lw n 2:Nat),.int .u64 (lw n 3:Nat)],.int .i64 k] w fun e w'=>e= .returned (.int .i64 (n/2^k%2:Nat))∧Below w.heap.size w w':=by
 have hx: [Value.int IntKind.u64 (lw n 0:Nat),Value.int IntKind.u64 (lw n 1:Nat),Value.int IntKind.u64 (lw n 2:Nat),Value.int IntKind.u64 (lw n 3:Nat)][k/64]?=some (.int .u64 (lw n (k/64):Nat)):=by
  have h:k/64=0∨k/64=1∨k/64=2∨k/64=3:=by omega
  rcases h with h|h|h|h<;>rw [h]<;>rfl
 have HB:Hid (bits BinOp.and IntKind.u64 (((lw n (k/64):Nat):Int)/2^(k%64)) 1=(n/2^k%2:Nat)):=by
  refine Lib.hid ?_
  have hq:lw n (k/64)/2^(k%64)<18446744073709551616:=Nat.lt_of_le_of_lt (Nat.div_le_self _ _) (b6 _ _)
  have e:((lw n (k/64):Nat):Int)/2^(k%64)=((lw n (k/64)/2^(k%64):Nat):Int):=by simp
  rw [e,show (1:Int)=((1:Nat):Int) from rfl,u64_and_nat _ 1 hq (by omega),Nat.and_one_is_mod,yJ]
 have hl:=b6 n (k/64)
 generalize lw n (k/64)=x at*
 obtain ⟨xi,hxi⟩:∃xi:Int,xi=(x:Int):=⟨_,rfl⟩
 rw [←hxi] at hx HB
 have hx0:0≤xi:=by omega
 have hx1:xi<18446744073709551616:=by omega
 clear hxi hl
 go_enter Tryz.func181,Tryz.ntmps181
 go_wp2
 go_ret
 refine ⟨sy (b:=(n/2^k%2:Nat)) ?_,(by repeat (first|(with_reducible refine Below.alloc' ?_ _)|(with_reducible refine Below.drew ?_)|(with_reducible refine below_drewN ?_ _)|((with_reducible refine Below.setCell ?_ ?_ _);rotate_left;(focus (first|exact Nat.le_refl _|(simp;done)|(simp;omega))))|(with_reducible assumption)|(with_reducible exact Below.refl _ _)))⟩
 rw [HB.out,IntWalk.wrap64_in];omega
def FF (f:Nat→Nat) (x:F):Prop:=FE f x.val
theorem MA {f:Nat→Nat} {x:F} (hf:FF f x) (w:World):
  Calls Tryz.prog 174 #[.agg #[.int .u64 (f 0:Nat),.int .u64 (f 1:Nat),.int .u64 (f 2:Nat),.int .u64 (f 3:Nat),.int .u64 (f 4:Nat)]] w fun e w'=>∃h,e= .returned (.agg #[.int .u64 (h 0:Nat),.int .u64 (h 1:Nat),.int .u64 (h 2:Nat),.int .u64 (h 3:Nat),.int .u64 (h 4:Nat)])∧FF h (-x)∧Below w.heap.size w w':=oY hf w
theorem o9 {f g:Nat→Nat} {x y:F} (hf:FF f x) (hg:FF g y) (w:World):
  Calls Tryz.prog 165 #[.agg #[.int .u64 (f 0:Nat),.int .u64 (f 1:Nat),.int .u64 (f 2:Nat),.int .u64 (f 3:Nat),.int .u64 (f 4:Nat)],.agg #[.int .u64 (g 0:Nat),.int .u64 (g 1:Nat),.int .u64 (g 2:Nat),.int .u64 (g 3:Nat),.int .u64 (g 4:Nat)]] w fun e w'=>∃h,e= .returned (.agg #[.int .u64 (h 0:Nat),.int .u64 (h 1:Nat),.int .u64 (h 2:Nat),.int .u64 (h 3:Nat),.int .u64 (h 4:Nat)])∧FF h (x*y)∧Below w.heap.size w w':=fh hf hg w
theorem Fe {f g:Nat→Nat} {x y:F} (hf:FF f x) (hg:FF g y) (w:World):
  Calls Tryz.prog 171 #[.agg #[.int .u64 (f 0:Nat),.int .u64 (f 1:Nat),.int .u64 (f 2:Nat),.int .u64 (f 3:Nat),.int .u64 (f 4:Nat)],.agg #[.int .u64 (g 0:Nat),.int .u64 (g 1:Nat),.int .u64 (g 2:Nat),.int .u64 (g 3:Nat),.int .u64 (g 4:Nat)]] w fun e w'=>e= .returned (.bool (decide (x=y)))∧Below w.heap.size w w':=by
 refine (mq hf hg w).mono ?_
 rintro e w' ⟨rfl,hb⟩
 exact ⟨gW (by by_cases h:x=y<;>simp [h,Fin.val_inj]),hb⟩
theorem xz {f g:Nat→Nat} {x y:F} (hf:FF f x) (hg:FF g y) (h:x=y) (w:World):
  Calls Tryz.prog 171 #[.agg #[.int .u64 (f 0:Nat),.int .u64 (f 1:Nat),.int .u64 (f 2:Nat),.int .u64 (f 3:Nat),.int .u64 (f 4:Nat)],.agg #[.int .u64 (g 0:Nat),.int .u64 (g 1:Nat),.int .u64 (g 2:Nat),.int .u64 (g 3:Nat),.int .u64 (g 4:Nat)]] w fun e w'=>e= .returned (.bool true)∧Below w.heap.size w w':=by
 refine (Fe hf hg w).mono ?_
 rintro e w' ⟨rfl,hb⟩
 exact ⟨gW (by simp [h]),hb⟩
theorem Fd {f g:Nat→Nat} {x y:F} (hf:FF f x) (hg:FF g y) (h:x≠y) (w:World):
  Calls Tryz.prog 171 #[.agg #[.int .u64 (f 0:Nat),.int .u64 (f 1:Nat),.int .u64 (f 2:Nat),.int .u64 (f 3:Nat),.int .u64 (f 4:Nat)],.agg #[.int .u64 (g 0:Nat),.int .u64 (g 1:Nat),.int .u64 (g 2:Nat),.int .u64 (g 3:Nat),.int .u64 (g 4:Nat)]] w fun e w'=>e= .returned (.bool false)∧Below w.heap.size w w':=by
 refine (Fe hf hg w).mono ?_
 rintro e w' ⟨rfl,hb⟩
 exact ⟨gW (by simp [h]),hb⟩
theorem Ay {f:Nat→Nat} {x:F} (hf:FF f x) (w:World):
  Calls Tryz.prog 194 #[.agg #[.int .u64 (f 0:Nat),.int .u64 (f 1:Nat),.int .u64 (f 2:Nat),.int .u64 (f 3:Nat),.int .u64 (f 4:Nat)]] w fun e w'=>e= .returned (.bool (decide (x.val%2=1)))∧Below w.heap.size w w':=oZ hf w
theorem QV {f:Nat→Nat} {x:F} (N T:Nat) (hT1:T≤256) (hT2:256≤T) (hN:N<2^T) (hf:FF f x) (w:World):
  Calls Tryz.prog 228 #[.agg #[.int .u64 (f 0:Nat),.int .u64 (f 1:Nat),.int .u64 (f 2:Nat),.int .u64 (f 3:Nat),.int .u64 (f 4:Nat)],.agg #[.int .u64 (lw N 0:Nat),.int .u64 (lw N 1:Nat),.int .u64 (lw N 2:Nat),.int .u64 (lw N 3:Nat)]] w fun e w'=>∃h,e= .returned (.agg #[.int .u64 (h 0:Nat),.int .u64 (h 1:Nat),.int .u64 (h 2:Nat),.int .u64 (h 3:Nat),.int .u64 (h 4:Nat)])∧FF h (bA x N)∧Below w.heap.size w w':=pu N T hT1 hT2 hN hf w
theorem FF.zero:FF (fun _=>0) 0:=FE.zero
def MY (i:Nat):Nat:=if i=0 then 1718705420411056 else if i=1 then 234908883556509 else if i=2 then 2233514472574048 else if i=3 then 2117202627021982 else 765476049583133
theorem FF.turn:FF MY nL:=⟨⟨by decide,by decide,by decide,by decide,by decide⟩,by decide +kernel⟩
theorem N6 (w:World):Calls Tryz.prog 229 #[] w fun e w'=>∃h,e= .returned (.agg #[.int .u64 (h 0:Nat),.int .u64 (h 1:Nat),.int .u64 (h 2:Nat),.int .u64 (h 3:Nat),.int .u64 (h 4:Nat)])∧FF h nL∧Below w.heap.size w w':=by
 go_enter Tryz.func229,Tryz.ntmps229
 go_wp2
 exact bodyPost_ret (v:= .agg #[.int .u64 1718705420411056,.int .u64 234908883556509,.int .u64 2233514472574048,.int .u64 2117202627021982,.int .u64 765476049583133]) (by simp [results,Tryz.results229,go_sem]) rfl ⟨MY,rfl,FF.turn,(by repeat (first|(with_reducible refine Below.alloc' ?_ _)|(with_reducible refine Below.drew ?_)|(with_reducible refine below_drewN ?_ _)|((with_reducible refine Below.setCell ?_ ?_ _);rotate_left;(focus (first|exact Nat.le_refl _|(simp;done)|(simp;omega))))|(with_reducible assumption)|(with_reducible exact Below.refl _ _)))⟩
theorem QU {f:Nat→Nat} {x:F} (hf:FF f x) (w:World):
  Calls Tryz.prog 228 #[.agg #[.int .u64 (f 0:Nat),.int .u64 (f 1:Nat),.int .u64 (f 2:Nat),.int .u64 (f 3:Nat),.int .u64 (f 4:Nat)],.agg #[.int .u64 18446744073709551614,.int .u64 18446744073709551615,.int .u64 18446744073709551615,.int .u64 1152921504606846975]] w fun e w'=>∃h,e= .returned (.agg #[.int .u64 (h 0:Nat),.int .u64 (h 1:Nat),.int .u64 (h 2:Nat),.int .u64 (h 3:Nat),.int .u64 (h 4:Nat)])∧FF h (bA x d9)∧Below w.heap.size w w':=by
 have hP:=QV d9 (8*32) (by omega) (by omega) (by decide +kernel) hf w
 rw [show lw d9 0=18446744073709551614 from by decide +kernel,show lw d9 1=18446744073709551615 from by decide +kernel,show lw d9 2=18446744073709551615 from by decide +kernel,show lw d9 3=1152921504606846975 from by decide +kernel] at hP
 exact hP
theorem bR {f r:Nat→Nat} {A g o:Nat} {w:World}:∀W W':World,((W.cell? ⟨A,0,none⟩=some (.int .u64 (f 0:Nat))∧W.cell? ⟨A,1,none⟩=some (.int .u64 (f 1:Nat))∧W.cell? ⟨A,2,none⟩=some (.int .u64 (f 2:Nat))∧W.cell? ⟨A,3,none⟩=some (.int .u64 (f 3:Nat))∧W.cell? ⟨A,4,none⟩=some (.int .u64 (f 4:Nat)))∧(W.cell? ⟨g,0,none⟩=some (.int .u64 (r 0:Nat))∧W.cell? ⟨g,1,none⟩=some (.int .u64 (r 1:Nat))∧W.cell? ⟨g,2,none⟩=some (.int .u64 (r 2:Nat))∧W.cell? ⟨g,3,none⟩=some (.int .u64 (r 3:Nat))∧W.cell? ⟨g,4,none⟩=some (.int .u64 (r 4:Nat)))∧ao W A [.int .u64 (f 0:Nat),.int .u64 (f 1:Nat),.int .u64 (f 2:Nat),.int .u64 (f 3:Nat),.int .u64 (f 4:Nat)] 122∧ao W g [.int .u64 (r 0:Nat),.int .u64 (r 1:Nat),.int .u64 (r 2:Nat),.int .u64 (r 3:Nat),.int .u64 (r 4:Nat)] 122∧ao W (o) [.int .u64 0,.int .u64 0,.int .u64 0,.int .u64 0,.int .u64 0] 122∧Below w.heap.size w W)→Below W.heap.size W W'→((W'.cell? ⟨A,0,none⟩=some (.int .u64 (f 0:Nat))∧W'.cell? ⟨A,1,none⟩=some (.int .u64 (f 1:Nat))∧W'.cell? ⟨A,2,none⟩=some (.int .u64 (f 2:Nat))∧W'.cell? ⟨A,3,none⟩=some (.int .u64 (f 3:Nat))∧W'.cell? ⟨A,4,none⟩=some (.int .u64 (f 4:Nat)))∧(W'.cell? ⟨g,0,none⟩=some (.int .u64 (r 0:Nat))∧W'.cell? ⟨g,1,none⟩=some (.int .u64 (r 1:Nat))∧W'.cell? ⟨g,2,none⟩=some (.int .u64 (r 2:Nat))∧W'.cell? ⟨g,3,none⟩=some (.int .u64 (r 3:Nat))∧W'.cell? ⟨g,4,none⟩=some (.int .u64 (r 4:Nat)))∧ao W' A [.int .u64 (f 0:Nat),.int .u64 (f 1:Nat),.int .u64 (f 2:Nat),.int .u64 (f 3:Nat),.int .u64 (f 4:Nat)] 122∧ao W' g [.int .u64 (r 0:Nat),.int .u64 (r 1:Nat),.int .u64 (r 2:Nat),.int .u64 (r 3:Nat),.int .u64 (r 4:Nat)] 122∧ao W' (o) [.int .u64 0,.int .u64 0,.int .u64 0,.int .u64 0,.int .u64 0] 122∧Below w.heap.size w W'):=by
 rintro W W' ⟨h1,h2,h3,h4,h5,h6⟩ hb
 exact ⟨uv _ _ h1 hb,uv _ _ h2 hb,h3.below' hb,h4.below' hb,h5.below' hb,Below.call h6 hb⟩
theorem fu {f r:Nat→Nat} {A g o:Nat} {w W:World} (h:((W.cell? ⟨A,0,none⟩=some (.int .u64 (f 0:Nat))∧W.cell? ⟨A,1,none⟩=some (.int .u64 (f 1:Nat))∧W.cell? ⟨A,2,none⟩=some (.int .u64 (f 2:Nat))∧W.cell? ⟨A,3,none⟩=some (.int .u64 (f 3:Nat))∧W.cell? ⟨A,4,none⟩=some (.int .u64 (f 4:Nat)))∧(W.cell? ⟨g,0,none⟩=some (.int .u64 (r 0:Nat))∧W.cell? ⟨g,1,none⟩=some (.int .u64 (r 1:Nat))∧W.cell? ⟨g,2,none⟩=some (.int .u64 (r 2:Nat))∧W.cell? ⟨g,3,none⟩=some (.int .u64 (r 3:Nat))∧W.cell? ⟨g,4,none⟩=some (.int .u64 (r 4:Nat)))∧ao W A [.int .u64 (f 0:Nat),.int .u64 (f 1:Nat),.int .u64 (f 2:Nat),.int .u64 (f 3:Nat),.int .u64 (f 4:Nat)] 122∧ao W g [.int .u64 (r 0:Nat),.int .u64 (r 1:Nat),.int .u64 (r 2:Nat),.int .u64 (r 3:Nat),.int .u64 (r 4:Nat)] 122∧ao W (o) [.int .u64 0,.int .u64 0,.int .u64 0,.int .u64 0,.int .u64 0] 122∧Below w.heap.size w W)):((W.drew.cell? ⟨A,0,none⟩=some (.int .u64 (f 0:Nat))∧W.drew.cell? ⟨A,1,none⟩=some (.int .u64 (f 1:Nat))∧W.drew.cell? ⟨A,2,none⟩=some (.int .u64 (f 2:Nat))∧W.drew.cell? ⟨A,3,none⟩=some (.int .u64 (f 3:Nat))∧W.drew.cell? ⟨A,4,none⟩=some (.int .u64 (f 4:Nat)))∧(W.drew.cell? ⟨g,0,none⟩=some (.int .u64 (r 0:Nat))∧W.drew.cell? ⟨g,1,none⟩=some (.int .u64 (r 1:Nat))∧W.drew.cell? ⟨g,2,none⟩=some (.int .u64 (r 2:Nat))∧W.drew.cell? ⟨g,3,none⟩=some (.int .u64 (r 3:Nat))∧W.drew.cell? ⟨g,4,none⟩=some (.int .u64 (r 4:Nat)))∧ao W.drew A [.int .u64 (f 0:Nat),.int .u64 (f 1:Nat),.int .u64 (f 2:Nat),.int .u64 (f 3:Nat),.int .u64 (f 4:Nat)] 122∧ao W.drew g [.int .u64 (r 0:Nat),.int .u64 (r 1:Nat),.int .u64 (r 2:Nat),.int .u64 (r 3:Nat),.int .u64 (r 4:Nat)] 122∧ao W.drew (o) [.int .u64 0,.int .u64 0,.int .u64 0,.int .u64 0,.int .u64 0] 122∧Below w.heap.size w W.drew):=bR _ _ h (Below.drew (Below.refl _ _))
theorem Bi {f r:Nat→Nat} {A g o:Nat} {w W:World} (h3:ao W A [.int .u64 (f 0:Nat),.int .u64 (f 1:Nat),.int .u64 (f 2:Nat),.int .u64 (f 3:Nat),.int .u64 (f 4:Nat)] 122) (h4:ao W g [.int .u64 (r 0:Nat),.int .u64 (r 1:Nat),.int .u64 (r 2:Nat),.int .u64 (r 3:Nat),.int .u64 (r 4:Nat)] 122) (h5:ao W o [.int .u64 0,.int .u64 0,.int .u64 0,.int .u64 0,.int .u64 0] 122) (h6:Below w.heap.size w W):((W.cell? ⟨A,0,none⟩=some (.int .u64 (f 0:Nat))∧W.cell? ⟨A,1,none⟩=some (.int .u64 (f 1:Nat))∧W.cell? ⟨A,2,none⟩=some (.int .u64 (f 2:Nat))∧W.cell? ⟨A,3,none⟩=some (.int .u64 (f 3:Nat))∧W.cell? ⟨A,4,none⟩=some (.int .u64 (f 4:Nat)))∧(W.cell? ⟨g,0,none⟩=some (.int .u64 (r 0:Nat))∧W.cell? ⟨g,1,none⟩=some (.int .u64 (r 1:Nat))∧W.cell? ⟨g,2,none⟩=some (.int .u64 (r 2:Nat))∧W.cell? ⟨g,3,none⟩=some (.int .u64 (r 3:Nat))∧W.cell? ⟨g,4,none⟩=some (.int .u64 (r 4:Nat)))∧ao W A [.int .u64 (f 0:Nat),.int .u64 (f 1:Nat),.int .u64 (f 2:Nat),.int .u64 (f 3:Nat),.int .u64 (f 4:Nat)] 122∧ao W g [.int .u64 (r 0:Nat),.int .u64 (r 1:Nat),.int .u64 (r 2:Nat),.int .u64 (r 3:Nat),.int .u64 (r 4:Nat)] 122∧ao W (o) [.int .u64 0,.int .u64 0,.int .u64 0,.int .u64 0,.int .u64 0] 122∧Below w.heap.size w W):=
 ⟨⟨h3.cell 0,h3.cell 1,h3.cell 2,h3.cell 3,h3.cell 4⟩,⟨h4.cell 0,h4.cell 1,h4.cell 2,h4.cell 3,h4.cell 4⟩,h3,h4,h5,h6⟩
set_option maxHeartbeats 1000000 in
theorem RB {f:Nat→Nat} {x:F} (hf:FF f x) (w:World):
  Calls Tryz.prog 170 #[.agg #[.int .u64 (f 0:Nat),.int .u64 (f 1:Nat),.int .u64 (f 2:Nat),.int .u64 (f 3:Nat),.int .u64 (f 4:Nat)]] w fun e w'=>∃h,e= .returned (.tuple #[.agg #[.int .u64 (h 0:Nat),.int .u64 (h 1:Nat),.int .u64 (h 2:Nat),.int .u64 (h 3:Nat),.int .u64 (h 4:Nat)],.int .i64 (cq x)])∧FF h (bu x)∧Below w.heap.size w w':=by
 have hbE:=EF
 go_enter Tryz.func170,Tryz.ntmps170
 go_upto_region 2 with (go_at_call 228;go_must (refine (QU hf _).mono ?_;rintro e w1 ⟨r,rfl,hr,hb⟩;have hA:=((ao.new w #[.int .u64 (f 0:Nat),.int .u64 (f 1:Nat),.int .u64 (f 2:Nat),.int .u64 (f 3:Nat),.int .u64 (f 4:Nat)] 122).alloc _).below' hb;have hO:=(show ao _ (w.heap.size+1) [.int .u64 0,.int .u64 0,.int .u64 0,.int .u64 0,.int .u64 0] 122 from (by repeat (first|(with_reducible refine ao.drew ?_)|exact ao.new' (by simp)|(with_reducible refine ao.alloc ?_ _)))).below' hb;have hbel:Below w.heap.size w w1:=Below.call (by repeat (first|(with_reducible refine Below.alloc' ?_ _)|(with_reducible refine Below.drew ?_)|(with_reducible refine below_drewN ?_ _)|((with_reducible refine Below.setCell ?_ ?_ _);rotate_left;(focus (first|exact Nat.le_refl _|(simp;done)|(simp;omega))))|(with_reducible assumption)|(with_reducible exact Below.refl _ _))) hb;clear hb))
 refine dO (fun W=>((W.cell? ⟨w.heap.size,0,none⟩=some (.int .u64 (f 0:Nat))∧W.cell? ⟨w.heap.size,1,none⟩=some (.int .u64 (f 1:Nat))∧W.cell? ⟨w.heap.size,2,none⟩=some (.int .u64 (f 2:Nat))∧W.cell? ⟨w.heap.size,3,none⟩=some (.int .u64 (f 3:Nat))∧W.cell? ⟨w.heap.size,4,none⟩=some (.int .u64 (f 4:Nat)))∧(W.cell? ⟨w1.heap.size,0,none⟩=some (.int .u64 (r 0:Nat))∧W.cell? ⟨w1.heap.size,1,none⟩=some (.int .u64 (r 1:Nat))∧W.cell? ⟨w1.heap.size,2,none⟩=some (.int .u64 (r 2:Nat))∧W.cell? ⟨w1.heap.size,3,none⟩=some (.int .u64 (r 3:Nat))∧W.cell? ⟨w1.heap.size,4,none⟩=some (.int .u64 (r 4:Nat)))∧ao W w.heap.size [.int .u64 (f 0:Nat),.int .u64 (f 1:Nat),.int .u64 (f 2:Nat),.int .u64 (f 3:Nat),.int .u64 (f 4:Nat)] 122∧ao W w1.heap.size [.int .u64 (r 0:Nat),.int .u64 (r 1:Nat),.int .u64 (r 2:Nat),.int .u64 (r 3:Nat),.int .u64 (r 4:Nat)] 122∧ao W (w.heap.size+1) [.int .u64 0,.int .u64 0,.int .u64 0,.int .u64 0,.int .u64 0] 122∧Below w.heap.size w W)) ?_ (fun W0 hW=> ?_)
 ·exact Bi (hA.alloc _) (ao.new w1 _ _) (hO.alloc _) (Below.alloc' hbel _)
 have hg1:w.heap.size+1<w1.heap.size:=hO.lt
 clear hA hO hbel
 generalize w1.heap.size=g at*
 clear w1
 have hst1:=Lib.hid (bR (f:=f) (r:=r) (A:=w.heap.size) (g:=g) (o:=w.heap.size+1) (w:=w))
 have HS1:=Lib.hid (fu hW)
 clear hW
 have hst:=hst1
 by_cases e1:bA x d9*bA x d9=x
 ·have E1:=Lib.hid e1
  have HC:Hid (eU x=bA x d9):=Lib.hid (by unfold eU;rw [if_pos e1])
  have HR:Hid (cq x=0):=Lib.hid (by unfold cq;rw [HC.out,if_pos e1])
  have E2:=E1
  clear e1
  generalize bA x d9=y at*
  go_region_held3 (fun W=>((W.cell? ⟨w.heap.size,0,none⟩=some (.int .u64 (f 0:Nat))∧W.cell? ⟨w.heap.size,1,none⟩=some (.int .u64 (f 1:Nat))∧W.cell? ⟨w.heap.size,2,none⟩=some (.int .u64 (f 2:Nat))∧W.cell? ⟨w.heap.size,3,none⟩=some (.int .u64 (f 3:Nat))∧W.cell? ⟨w.heap.size,4,none⟩=some (.int .u64 (f 4:Nat)))∧(W.cell? ⟨g,0,none⟩=some (.int .u64 (r 0:Nat))∧W.cell? ⟨g,1,none⟩=some (.int .u64 (r 1:Nat))∧W.cell? ⟨g,2,none⟩=some (.int .u64 (r 2:Nat))∧W.cell? ⟨g,3,none⟩=some (.int .u64 (r 3:Nat))∧W.cell? ⟨g,4,none⟩=some (.int .u64 (r 4:Nat)))∧ao W w.heap.size [.int .u64 (f 0:Nat),.int .u64 (f 1:Nat),.int .u64 (f 2:Nat),.int .u64 (f 3:Nat),.int .u64 (f 4:Nat)] 122∧ao W g [.int .u64 (r 0:Nat),.int .u64 (r 1:Nat),.int .u64 (r 2:Nat),.int .u64 (r 3:Nat),.int .u64 (r 4:Nat)] 122∧ao W (w.heap.size+1) [.int .u64 0,.int .u64 0,.int .u64 0,.int .u64 0,.int .u64 0] 122∧Below w.heap.size w W)) (first|(exact HS1.out)|(first|assumption|(refine hst.out _ _ ?_ hb;assumption)|(refine hst.out _ _ ?_ (Below.alloc' (Below.refl _ _) _);assumption)|(refine hst.out _ _ ?_ (Below.drew (Below.refl _ _));assumption))) ((first|(go_at_call 165;(with_reducible refine (o9 hr hr _).mono ?_);rintro e wm ⟨m1,rfl,hm1,hb⟩)|(go_at_call 171;(with_reducible refine (xz hm1 hf E1.out _).mono ?_);rintro e ws ⟨rfl,hb⟩)))
  rename_i hh
  have HS2:=Lib.hid (fu hh)
  clear hh HS1 hst1
  go_wp2
  go_region_held3 (fun W=>((W.cell? ⟨w.heap.size,0,none⟩=some (.int .u64 (f 0:Nat))∧W.cell? ⟨w.heap.size,1,none⟩=some (.int .u64 (f 1:Nat))∧W.cell? ⟨w.heap.size,2,none⟩=some (.int .u64 (f 2:Nat))∧W.cell? ⟨w.heap.size,3,none⟩=some (.int .u64 (f 3:Nat))∧W.cell? ⟨w.heap.size,4,none⟩=some (.int .u64 (f 4:Nat)))∧(W.cell? ⟨g,0,none⟩=some (.int .u64 (r 0:Nat))∧W.cell? ⟨g,1,none⟩=some (.int .u64 (r 1:Nat))∧W.cell? ⟨g,2,none⟩=some (.int .u64 (r 2:Nat))∧W.cell? ⟨g,3,none⟩=some (.int .u64 (r 3:Nat))∧W.cell? ⟨g,4,none⟩=some (.int .u64 (r 4:Nat)))∧ao W w.heap.size [.int .u64 (f 0:Nat),.int .u64 (f 1:Nat),.int .u64 (f 2:Nat),.int .u64 (f 3:Nat),.int .u64 (f 4:Nat)] 122∧ao W g [.int .u64 (r 0:Nat),.int .u64 (r 1:Nat),.int .u64 (r 2:Nat),.int .u64 (r 3:Nat),.int .u64 (r 4:Nat)] 122∧ao W (w.heap.size+1) [.int .u64 0,.int .u64 0,.int .u64 0,.int .u64 0,.int .u64 0] 122∧Below w.heap.size w W)) (first|(exact HS2.out)|(first|assumption|(refine hst.out _ _ ?_ hb;assumption)|(refine hst.out _ _ ?_ (Below.alloc' (Below.refl _ _) _);assumption)|(refine hst.out _ _ ?_ (Below.drew (Below.refl _ _));assumption))) ((first|(go_at_call 165;(with_reducible refine (o9 hr hr _).mono ?_);rintro e wm ⟨m2,rfl,hm2,hb⟩)|(go_at_call 171;(with_reducible refine (xz hm2 hf E2.out _).mono ?_);rintro e ws ⟨rfl,hb⟩)))
  rename_i hh
  have hhH:=Lib.hid hh
  clear hh hst HS2
  by_cases hp:y.val%2=1
  ·have HV:Hid (bu x= -y):=Lib.hid (by unfold bu;rw [HC.out,if_pos E2.out,if_pos hp])
   have HP:Hid (decide (y.val%2=1)=true):=Lib.hid (decide_eq_true hp)
   clear hp
   have c0:=hhH.out.2.1.1;have c1:=hhH.out.2.1.2.1;have c2:=hhH.out.2.1.2.2.1;have c3:=hhH.out.2.1.2.2.2.1;have c4:=hhH.out.2.1.2.2.2.2
   have hne:¬g=w.heap.size+1:=by omega
   have hne2:¬w.heap.size+1=g:=by omega
   go_wp2_with (first | (go_at_call 194; go_must (refine (Ay hr _).mono ?_; rintro e w2 ⟨rfl, hb⟩; rw [HP.out]; have h2 := Lib.hid (bR _ _ hhH.out hb); clear c0 c1 c2 c3 c4 hb; have c0 := h2.out.2.1.1; have c1 := h2.out.2.1.2.1; have c2 := h2.out.2.1.2.2.1; have c3 := h2.out.2.1.2.2.2.1; have c4 := h2.out.2.1.2.2.2.2; have rf := h2.out.2.2.2.1.frozen))         | (go_at_call 174; go_must (refine (MA hr _).mono ?_; rintro e w3 ⟨q, rfl, hq, hb⟩; have h3 := bR _ _ h2.out hb; have hG := h3.2.2.2.1.frozen; have gc := h3.2.2.2.1.cell; have oc := h3.2.2.2.2.1.cell; have of := h3.2.2.2.2.1.frozen; have hbel := h3.2.2.2.2.2; clear c0 c1 c2 c3 c4 rf hb h2 h3)))
   exact bodyPost_ret (v:= .tuple #[.agg #[.int .u64 (q 0:Nat),.int .u64 (q 1:Nat),.int .u64 (q 2:Nat),.int .u64 (q 3:Nat),.int .u64 (q 4:Nat)],.int .i64 0]) (by simp [results,Tryz.results170,go_sem,oc]) rfl ⟨q,by rw [HR.out],by rw [HV.out];exact hq,(by repeat (first|(with_reducible refine Below.alloc' ?_ _)|(with_reducible refine Below.drew ?_)|(with_reducible refine below_drewN ?_ _)|((with_reducible refine Below.setCell ?_ ?_ _);rotate_left;(focus (first|exact Nat.le_refl _|(simp;done)|(simp;omega))))|(with_reducible assumption)|(with_reducible exact Below.refl _ _)))⟩
  ·have HV:Hid (bu x=y):=Lib.hid (by unfold bu;rw [HC.out,if_pos E2.out,if_neg hp])
   have HP:Hid (decide (y.val%2=1)=false):=Lib.hid (decide_eq_false hp)
   clear hp
   have c0:=hhH.out.2.1.1;have c1:=hhH.out.2.1.2.1;have c2:=hhH.out.2.1.2.2.1;have c3:=hhH.out.2.1.2.2.2.1;have c4:=hhH.out.2.1.2.2.2.2
   have hne:¬g=w.heap.size+1:=by omega
   have hne2:¬w.heap.size+1=g:=by omega
   go_wp2_with (first|(go_at_call 194;go_must (refine (Ay hr _).mono ?_;rintro e w2 ⟨rfl,hb⟩;rw [HP.out];have h2:=bR _ _ hhH.out hb;clear c0 c1 c2 c3 c4 hb;have gc:=h2.2.2.2.1.cell;have oc:=h2.2.2.2.2.1.cell;have of:=h2.2.2.2.2.1.frozen;have hbel:=h2.2.2.2.2.2;clear h2)))
   exact bodyPost_ret (v:= .tuple #[.agg #[.int .u64 (r 0:Nat),.int .u64 (r 1:Nat),.int .u64 (r 2:Nat),.int .u64 (r 3:Nat),.int .u64 (r 4:Nat)],.int .i64 0]) (by simp [results,Tryz.results170,go_sem,oc]) rfl ⟨r,by rw [HR.out],by rw [HV.out];exact hr,(by repeat (first|(with_reducible refine Below.alloc' ?_ _)|(with_reducible refine Below.drew ?_)|(with_reducible refine below_drewN ?_ _)|((with_reducible refine Below.setCell ?_ ?_ _);rotate_left;(focus (first|exact Nat.le_refl _|(simp;done)|(simp;omega))))|(with_reducible assumption)|(with_reducible exact Below.refl _ _)))⟩
 ·have E1:=Lib.hid e1
  have HC:Hid (eU x=bA x d9*nL):=Lib.hid (by unfold eU;rw [if_neg e1])
  clear e1
  go_region_held3 (fun W=>((W.cell? ⟨w.heap.size,0,none⟩=some (.int .u64 (f 0:Nat))∧W.cell? ⟨w.heap.size,1,none⟩=some (.int .u64 (f 1:Nat))∧W.cell? ⟨w.heap.size,2,none⟩=some (.int .u64 (f 2:Nat))∧W.cell? ⟨w.heap.size,3,none⟩=some (.int .u64 (f 3:Nat))∧W.cell? ⟨w.heap.size,4,none⟩=some (.int .u64 (f 4:Nat)))∧(W.cell? ⟨g,0,none⟩=some (.int .u64 (r 0:Nat))∧W.cell? ⟨g,1,none⟩=some (.int .u64 (r 1:Nat))∧W.cell? ⟨g,2,none⟩=some (.int .u64 (r 2:Nat))∧W.cell? ⟨g,3,none⟩=some (.int .u64 (r 3:Nat))∧W.cell? ⟨g,4,none⟩=some (.int .u64 (r 4:Nat)))∧ao W w.heap.size [.int .u64 (f 0:Nat),.int .u64 (f 1:Nat),.int .u64 (f 2:Nat),.int .u64 (f 3:Nat),.int .u64 (f 4:Nat)] 122∧ao W g [.int .u64 (r 0:Nat),.int .u64 (r 1:Nat),.int .u64 (r 2:Nat),.int .u64 (r 3:Nat),.int .u64 (r 4:Nat)] 122∧ao W (w.heap.size+1) [.int .u64 0,.int .u64 0,.int .u64 0,.int .u64 0,.int .u64 0] 122∧Below w.heap.size w W)) (first|(exact HS1.out)|(first|assumption|(refine hst.out _ _ ?_ hb;assumption)|(refine hst.out _ _ ?_ (Below.alloc' (Below.refl _ _) _);assumption)|(refine hst.out _ _ ?_ (Below.drew (Below.refl _ _));assumption))) ((first|(go_at_call 165;(with_reducible refine (o9 hr hr _).mono ?_);rintro e wm ⟨m1,rfl,hm1,hb⟩)|(go_at_call 171;(with_reducible refine (Fd hm1 hf E1.out _).mono ?_);rintro e ws ⟨rfl,hb⟩)))
  rename_i hh
  have HS2:=Lib.hid (fu hh)
  have hh':=Lib.hid hh
  clear hh HS1 hst1 HS2
  have c0:=hh'.out.2.1.1;have c1:=hh'.out.2.1.2.1;have c2:=hh'.out.2.1.2.2.1;have c3:=hh'.out.2.1.2.2.2.1;have c4:=hh'.out.2.1.2.2.2.2
  go_wp2
  go_region_with ((first|(go_at_call 229;(with_reducible refine (N6 _).mono ?_);rintro e wt ⟨t,rfl,ht,hb⟩;have h2:=Lib.hid (bR _ _ (fu hh'.out) hb);clear c0 c1 c2 c3 c4 hb;have c0:=h2.out.2.1.1;have c1:=h2.out.2.1.2.1;have c2:=h2.out.2.1.2.2.1;have c3:=h2.out.2.1.2.2.2.1;have c4:=h2.out.2.1.2.2.2.2)|(go_at_call 165;(with_reducible refine (o9 hr ht _).mono ?_);rintro e wm ⟨q,rfl,hq,hb⟩;have h3:=Lib.hid (bR _ _ h2.out hb);clear c0 c1 c2 c3 c4 hb;have c0:=h3.out.2.1.1;have c1:=h3.out.2.1.2.1;have c2:=h3.out.2.1.2.2.1;have c3:=h3.out.2.1.2.2.2.1;have c4:=h3.out.2.1.2.2.2.2;have rf:=h3.out.2.2.2.1.frozen)))
  all_goals
   go_wp2
   refine dO (fun W=>((W.cell? ⟨w.heap.size,0,none⟩=some (.int .u64 (f 0:Nat))∧W.cell? ⟨w.heap.size,1,none⟩=some (.int .u64 (f 1:Nat))∧W.cell? ⟨w.heap.size,2,none⟩=some (.int .u64 (f 2:Nat))∧W.cell? ⟨w.heap.size,3,none⟩=some (.int .u64 (f 3:Nat))∧W.cell? ⟨w.heap.size,4,none⟩=some (.int .u64 (f 4:Nat)))∧(W.cell? ⟨g,0,none⟩=some (.int .u64 (q 0:Nat))∧W.cell? ⟨g,1,none⟩=some (.int .u64 (q 1:Nat))∧W.cell? ⟨g,2,none⟩=some (.int .u64 (q 2:Nat))∧W.cell? ⟨g,3,none⟩=some (.int .u64 (q 3:Nat))∧W.cell? ⟨g,4,none⟩=some (.int .u64 (q 4:Nat)))∧ao W w.heap.size [.int .u64 (f 0:Nat),.int .u64 (f 1:Nat),.int .u64 (f 2:Nat),.int .u64 (f 3:Nat),.int .u64 (f 4:Nat)] 122∧ao W g [.int .u64 (q 0:Nat),.int .u64 (q 1:Nat),.int .u64 (q 2:Nat),.int .u64 (q 3:Nat),.int .u64 (q 4:Nat)] 122∧ao W (w.heap.size+1) [.int .u64 0,.int .u64 0,.int .u64 0,.int .u64 0,.int .u64 0] 122∧Below w.heap.size w W)) ?_ (fun W hW=> ?_)
   ·have hbel:=h3.out.2.2.2.2.2
    exact Bi (((((h3.out.2.2.1.other ⟨g,0,none⟩ (by simp;omega) (.int .u64 (q 0:Nat))).other ⟨g,1,none⟩ (by simp;omega) (.int .u64 (q 1:Nat))).other ⟨g,2,none⟩ (by simp;omega) (.int .u64 (q 2:Nat))).other ⟨g,3,none⟩ (by simp;omega) (.int .u64 (q 3:Nat))).other ⟨g,4,none⟩ (by simp;omega) (.int .u64 (q 4:Nat))) (((((h3.out.2.2.2.1.set 0 (.int .u64 (q 0:Nat))).set 1 (.int .u64 (q 1:Nat))).set 2 (.int .u64 (q 2:Nat))).set 3 (.int .u64 (q 3:Nat))).set 4 (.int .u64 (q 4:Nat))) (((((h3.out.2.2.2.2.1.other ⟨g,0,none⟩ (by simp;omega) (.int .u64 (q 0:Nat))).other ⟨g,1,none⟩ (by simp;omega) (.int .u64 (q 1:Nat))).other ⟨g,2,none⟩ (by simp;omega) (.int .u64 (q 2:Nat))).other ⟨g,3,none⟩ (by simp;omega) (.int .u64 (q 3:Nat))).other ⟨g,4,none⟩ (by simp;omega) (.int .u64 (q 4:Nat))) (by exact (by repeat (first|(with_reducible refine Below.alloc' ?_ _)|(with_reducible refine Below.drew ?_)|(with_reducible refine below_drewN ?_ _)|((with_reducible refine Below.setCell ?_ ?_ _);rotate_left;(focus (first|exact Nat.le_refl _|(simp;done)|(simp;omega))))|(with_reducible assumption)|(with_reducible exact Below.refl _ _))))
   clear h2 h3 hh' c0 c1 c2 c3 c4 rf hst
   have HS2:=Lib.hid (fu hW)
   clear hW
   have hst1:=Lib.hid (bR (f:=f) (r:=q) (A:=w.heap.size) (g:=g) (o:=w.heap.size+1) (w:=w))
   have hst:=hst1
   by_cases e2:(bA x d9*nL)*(bA x d9*nL)=x
   ·have E2:=Lib.hid e2
    have HR:Hid (cq x=0):=Lib.hid (by unfold cq;rw [HC.out,if_pos e2])
    clear e2
    generalize bA x d9*nL=y at*
    clear hst1
    go_region_held3 (fun W=>((W.cell? ⟨w.heap.size,0,none⟩=some (.int .u64 (f 0:Nat))∧W.cell? ⟨w.heap.size,1,none⟩=some (.int .u64 (f 1:Nat))∧W.cell? ⟨w.heap.size,2,none⟩=some (.int .u64 (f 2:Nat))∧W.cell? ⟨w.heap.size,3,none⟩=some (.int .u64 (f 3:Nat))∧W.cell? ⟨w.heap.size,4,none⟩=some (.int .u64 (f 4:Nat)))∧(W.cell? ⟨g,0,none⟩=some (.int .u64 (q 0:Nat))∧W.cell? ⟨g,1,none⟩=some (.int .u64 (q 1:Nat))∧W.cell? ⟨g,2,none⟩=some (.int .u64 (q 2:Nat))∧W.cell? ⟨g,3,none⟩=some (.int .u64 (q 3:Nat))∧W.cell? ⟨g,4,none⟩=some (.int .u64 (q 4:Nat)))∧ao W w.heap.size [.int .u64 (f 0:Nat),.int .u64 (f 1:Nat),.int .u64 (f 2:Nat),.int .u64 (f 3:Nat),.int .u64 (f 4:Nat)] 122∧ao W g [.int .u64 (q 0:Nat),.int .u64 (q 1:Nat),.int .u64 (q 2:Nat),.int .u64 (q 3:Nat),.int .u64 (q 4:Nat)] 122∧ao W (w.heap.size+1) [.int .u64 0,.int .u64 0,.int .u64 0,.int .u64 0,.int .u64 0] 122∧Below w.heap.size w W)) (first|(exact HS2.out)|(first|assumption|(refine hst.out _ _ ?_ hb;assumption)|(refine hst.out _ _ ?_ (Below.alloc' (Below.refl _ _) _);assumption)|(refine hst.out _ _ ?_ (Below.drew (Below.refl _ _));assumption))) ((first|(go_at_call 165;(with_reducible refine (o9 hq hq _).mono ?_);rintro e wm ⟨m2,rfl,hm2,hb⟩)|(go_at_call 171;(with_reducible refine (xz hm2 hf E2.out _).mono ?_);rintro e ws ⟨rfl,hb⟩)))
    rename_i hh
    have hhH:=Lib.hid hh
    clear hh hst HS2
    by_cases hp:y.val%2=1
    ·have HV:Hid (bu x= -y):=Lib.hid (by unfold bu;rw [HC.out,if_pos E2.out,if_pos hp])
     have HP:Hid (decide (y.val%2=1)=true):=Lib.hid (decide_eq_true hp)
     clear hp
     have c0:=hhH.out.2.1.1;have c1:=hhH.out.2.1.2.1;have c2:=hhH.out.2.1.2.2.1;have c3:=hhH.out.2.1.2.2.2.1;have c4:=hhH.out.2.1.2.2.2.2
     have hne:¬g=w.heap.size+1:=by omega
     have hne2:¬w.heap.size+1=g:=by omega
     go_wp2_with (first | (go_at_call 194; go_must (refine (Ay hq _).mono ?_; rintro e w2 ⟨rfl, hb⟩; rw [HP.out]; have h2 := Lib.hid (bR _ _ hhH.out hb); clear c0 c1 c2 c3 c4 hb; have c0 := h2.out.2.1.1; have c1 := h2.out.2.1.2.1; have c2 := h2.out.2.1.2.2.1; have c3 := h2.out.2.1.2.2.2.1; have c4 := h2.out.2.1.2.2.2.2; have rf := h2.out.2.2.2.1.frozen))             | (go_at_call 174; go_must (refine (MA hq _).mono ?_; rintro e w3 ⟨z, rfl, hz, hb⟩; have h3 := bR _ _ h2.out hb; have hG := h3.2.2.2.1.frozen; have gc := h3.2.2.2.1.cell; have oc := h3.2.2.2.2.1.cell; have of := h3.2.2.2.2.1.frozen; have hbel := h3.2.2.2.2.2; clear c0 c1 c2 c3 c4 rf hb h2 h3)))
     exact bodyPost_ret (v:= .tuple #[.agg #[.int .u64 (z 0:Nat),.int .u64 (z 1:Nat),.int .u64 (z 2:Nat),.int .u64 (z 3:Nat),.int .u64 (z 4:Nat)],.int .i64 0]) (by simp [results,Tryz.results170,go_sem,oc]) rfl ⟨z,by rw [HR.out],by rw [HV.out];exact hz,(by repeat (first|(with_reducible refine Below.alloc' ?_ _)|(with_reducible refine Below.drew ?_)|(with_reducible refine below_drewN ?_ _)|((with_reducible refine Below.setCell ?_ ?_ _);rotate_left;(focus (first|exact Nat.le_refl _|(simp;done)|(simp;omega))))|(with_reducible assumption)|(with_reducible exact Below.refl _ _)))⟩
    ·have HV:Hid (bu x=y):=Lib.hid (by unfold bu;rw [HC.out,if_pos E2.out,if_neg hp])
     have HP:Hid (decide (y.val%2=1)=false):=Lib.hid (decide_eq_false hp)
     clear hp
     have c0:=hhH.out.2.1.1;have c1:=hhH.out.2.1.2.1;have c2:=hhH.out.2.1.2.2.1;have c3:=hhH.out.2.1.2.2.2.1;have c4:=hhH.out.2.1.2.2.2.2
     have hne:¬g=w.heap.size+1:=by omega
     have hne2:¬w.heap.size+1=g:=by omega
     go_wp2_with (first|(go_at_call 194;go_must (refine (Ay hq _).mono ?_;rintro e w2 ⟨rfl,hb⟩;rw [HP.out];have h2:=bR _ _ hhH.out hb;clear c0 c1 c2 c3 c4 hb;have gc:=h2.2.2.2.1.cell;have oc:=h2.2.2.2.2.1.cell;have of:=h2.2.2.2.2.1.frozen;have hbel:=h2.2.2.2.2.2;clear h2)))
     exact bodyPost_ret (v:= .tuple #[.agg #[.int .u64 (q 0:Nat),.int .u64 (q 1:Nat),.int .u64 (q 2:Nat),.int .u64 (q 3:Nat),.int .u64 (q 4:Nat)],.int .i64 0]) (by simp [results,Tryz.results170,go_sem,oc]) rfl ⟨q,by rw [HR.out],by rw [HV.out];exact hq,(by repeat (first|(with_reducible refine Below.alloc' ?_ _)|(with_reducible refine Below.drew ?_)|(with_reducible refine below_drewN ?_ _)|((with_reducible refine Below.setCell ?_ ?_ _);rotate_left;(focus (first|exact Nat.le_refl _|(simp;done)|(simp;omega))))|(with_reducible assumption)|(with_reducible exact Below.refl _ _)))⟩
   ·have E2:=Lib.hid e2
    have HR:Hid (cq x=7):=Lib.hid (by unfold cq;rw [HC.out,if_neg e2])
    have HV:Hid (bu x=0):=Lib.hid (by unfold bu;rw [HC.out,if_neg e2])
    clear e2 hst1
    generalize bA x d9*nL=y at*
    go_region_held3 (fun W=>((W.cell? ⟨w.heap.size,0,none⟩=some (.int .u64 (f 0:Nat))∧W.cell? ⟨w.heap.size,1,none⟩=some (.int .u64 (f 1:Nat))∧W.cell? ⟨w.heap.size,2,none⟩=some (.int .u64 (f 2:Nat))∧W.cell? ⟨w.heap.size,3,none⟩=some (.int .u64 (f 3:Nat))∧W.cell? ⟨w.heap.size,4,none⟩=some (.int .u64 (f 4:Nat)))∧(W.cell? ⟨g,0,none⟩=some (.int .u64 (q 0:Nat))∧W.cell? ⟨g,1,none⟩=some (.int .u64 (q 1:Nat))∧W.cell? ⟨g,2,none⟩=some (.int .u64 (q 2:Nat))∧W.cell? ⟨g,3,none⟩=some (.int .u64 (q 3:Nat))∧W.cell? ⟨g,4,none⟩=some (.int .u64 (q 4:Nat)))∧ao W w.heap.size [.int .u64 (f 0:Nat),.int .u64 (f 1:Nat),.int .u64 (f 2:Nat),.int .u64 (f 3:Nat),.int .u64 (f 4:Nat)] 122∧ao W g [.int .u64 (q 0:Nat),.int .u64 (q 1:Nat),.int .u64 (q 2:Nat),.int .u64 (q 3:Nat),.int .u64 (q 4:Nat)] 122∧ao W (w.heap.size+1) [.int .u64 0,.int .u64 0,.int .u64 0,.int .u64 0,.int .u64 0] 122∧Below w.heap.size w W)) (first|(exact HS2.out)|(first|assumption|(refine hst.out _ _ ?_ hb;assumption)|(refine hst.out _ _ ?_ (Below.alloc' (Below.refl _ _) _);assumption)|(refine hst.out _ _ ?_ (Below.drew (Below.refl _ _));assumption))) ((first|(go_at_call 165;(with_reducible refine (o9 hq hq _).mono ?_);rintro e wm ⟨m2,rfl,hm2,hb⟩)|(go_at_call 171;(with_reducible refine (Fd hm2 hf E2.out _).mono ?_);rintro e ws ⟨rfl,hb⟩)))
    rename_i hh
    have oc:=hh.2.2.2.2.1.cell;have of:=hh.2.2.2.2.1.frozen;have hbel:=hh.2.2.2.2.2
    clear hh HS2 hst
    go_wp2
    exact bodyPost_ret (v:= .tuple #[.agg #[.int .u64 0,.int .u64 0,.int .u64 0,.int .u64 0,.int .u64 0],.int .i64 7]) (by simp [results,Tryz.results170,go_sem,oc]) rfl ⟨fun _=>0,by rw [HR.out];rfl,by rw [HV.out];exact FF.zero,(by repeat (first|(with_reducible refine Below.alloc' ?_ _)|(with_reducible refine Below.drew ?_)|(with_reducible refine below_drewN ?_ _)|((with_reducible refine Below.setCell ?_ ?_ _);rotate_left;(focus (first|exact Nat.le_refl _|(simp;done)|(simp;omega))))|(with_reducible assumption)|(with_reducible exact Below.refl _ _)))⟩
end Go.Proofs.YtnlhpncaldcllaaGreat
namespace Go.Proofs.YtnlhpncaldcllaaGreat
open Go Go.RowKit
set_option maxRecDepth 10000
theorem pE {η:aY} {A:Nat→Prop} {w:World} {n:Nat} {v:Value} (h:AV.H η A w (.agg [.ob (.x 2) n]) v):v= .agg #[.int .u64 (lw n 0:Nat),.int .u64 (lw n 1:Nat),.int .u64 (lw n 2:Nat),.int .u64 (lw n 3:Nat)]∧n<Lq:=by
 obtain ⟨cs,rfl,⟨h1,t,e2,⟨h3,rfl⟩,rfl⟩,_⟩:=h
 exact ⟨by rw [e2];rfl,h3⟩
theorem zu {η:aY} {A:Nat→Prop} {w:World} {n:Nat} (h:n<Lq):AV.H η A w (.agg [.ob (.x 2) n]) (.agg #[.int .u64 (lw n 0:Nat),.int .u64 (lw n 1:Nat),.int .u64 (lw n 2:Nat),.int .u64 (lw n 3:Nat)]):=
 ⟨_,rfl,⟨_,[],rfl,⟨h,rfl⟩,rfl⟩,fun v hv=>by
  simp only [List.mem_cons,List.not_mem_nil,or_false] at hv
  rcases hv with rfl|rfl|rfl|rfl<;>rfl⟩
def yg:GF:=fun l=>match l with
 | [.one (.ro .u8 b)]=>some ⟨[.agg [.ob (.x 2) (bK b)]],[],none⟩
 |_=>none
theorem vZ:ab 117 (aq yg):=aN Tryz.func117 (by kernel_rfl) rfl fun l g h hp=>by
 unfold yg at h
 split at h
 ·rename_i b
  cases h
  refine ⟨rfl,rfl,fun η w vs ⟨v1,t,e1,h1,e3⟩=> ?_⟩
  subst e3 e1
  obtain ⟨u,e,hR⟩:=h1
  cases List.singleton_inj.1 e
  obtain ⟨ad,c,rfl,hr⟩:=hR.rdb
  exact (Ix w hr).mono fun e w' ⟨he,hb⟩=>⟨_,he,hb,fun _ _=>zu (n:=bK b) (Nat.mod_lt _ g_)⟩
 ·cases h
def rj:GF:=fun l=>match l with
 | [.agg [.ob (.x 2) n]]=>some ⟨[.one (.rw 0)],[(0,.row 5 .u8 (aV 32 n))],none⟩
 |_=>none
theorem sE:ab 124 (aq rj):=dY Tryz.func124 (by kernel_rfl) rfl fun l g h hp=>by
 unfold rj at h
 split at h
 ·rename_i n
  cases h
  refine ⟨_,rfl,rfl,fun η w vs ⟨v1,t,e1,h1,e3⟩=> ?_⟩
  subst e3 e1
  obtain ⟨rfl,_⟩:=pE h1
  have e:(aV 32 n).length=32:=ar _ _
  rw [e]
  exact BP n w
 ·cases h
def FK:GF:=fun l=>match l with
 | [.agg [.ob (.x 2) n],.one (.ob .int k)]=>some ⟨[.one (.ob .int (C0 n k))],[],some (DH 0 k 255)⟩
 |_=>none
theorem C7 (n:Nat) (k:Int) (hp:0≤k∧k≤255) (w:World):Calls Tryz.prog 181 #[.agg #[.int .u64 (lw n 0:Nat),.int .u64 (lw n 1:Nat),.int .u64 (lw n 2:Nat),.int .u64 (lw n 3:Nat)],.int .i64 k] w fun e w'=>e= .returned (.int .i64 (C0 n k))∧Below w.heap.size w w':=by
 obtain ⟨j,rfl⟩:∃j:Nat,k=j:=⟨k.toNat,by omega⟩
 rw [C0,if_pos hp]
 exact C9 n j (by omega) w
theorem zt:ab 181 (aq FK):=aN Tryz.func181 (by kernel_rfl) rfl fun l g h hp=>by
 unfold FK at h
 split at h
 ·rename_i n k
  cases h
  refine ⟨rfl,rfl,fun η w vs ⟨v1,t,e1,h1,v2,t2,e2,h2,e3⟩=> ?_⟩
  subst e3 e2 e1
  obtain ⟨rfl,_⟩:=pE h1
  cases List.singleton_inj.1 (show [v2]= [_] from h2)
  exact (C7 n k hp w).mono fun e w' ⟨he,hb⟩=>⟨_,he,hb,fun _ _=>rfl⟩
 ·cases h
def Oa:GF:=fun l=>match l with
 | [.one (.ro .u8 a),.one (.ro .u8 b)]=>some ⟨[.one (.ob .bool (decide (a=b)))],[],none⟩
 |_=>none
theorem CE:ab 65 (aq Oa):=aN Tryz.func65 (by kernel_rfl) rfl fun l g h hp=>by
 unfold Oa at h
 split at h
 ·rename_i a b
  cases h
  refine ⟨rfl,rfl,fun η w vs ⟨v1,t,e1,⟨u1,f1,h1⟩,v2,t2,e2,⟨u2,f2,h2⟩,e3⟩=> ?_⟩
  subst e3 e2 e1
  cases List.singleton_inj.1 f1
  cases List.singleton_inj.1 f2
  obtain ⟨ad,c,rfl,hr⟩:=h1.rdb
  obtain ⟨ad2,c2,rfl,hr2⟩:=h2.rdb
  exact (BY w hr hr2).mono fun e w' ⟨he,hb⟩=>⟨_,he,hb,fun _ _=>rfl⟩
 ·cases h
def jB:GF:=fun l=>match l with
 | [.one (.ob .u64 n)]=>some ⟨[.one (.rw 0)],[(0,.row 5 .u8 (aV 8 n.toNat))],none⟩
 |_=>none
theorem iO:ab 200 (aq jB):=dY Tryz.func200 (by kernel_rfl) rfl fun l g h hp=>by
 unfold jB at h
 split at h
 ·rename_i n
  cases h
  refine ⟨_,rfl,rfl,fun η w vs ⟨v1,t,e1,h1,e3⟩=> ?_⟩
  subst e3 e1
  cases List.singleton_inj.1 (show [v1]= [_] from h1)
  refine (dk n.toNat_lt w).mono fun e w' ⟨he,hB,hb⟩=>⟨_,he,?_,hb⟩
  have e:((aV 8 n.toNat).map bV).length=8:=by rw [List.length_map,ar]
  rw [ar]
  exact ⟨e,.inr ⟨_,8,_,rfl,Nat.le_refl _,hB,Nat.le_refl _,by unfold maxLen;omega,e,by rw [List.toList_toArray,List.take_of_length_le (by omega)]⟩⟩
 ·cases h
def jz:GF:=fun l=>match l with
 | [.one (.bb l)]=>some ⟨[.one (.rw 0)],[(0,.row 5 .u8 l.flatten)],some (l.flatten.length≤16777216)⟩
 |_=>none
theorem fU:ab 102 (aq jz):=dY Tryz.func102 (by kernel_rfl) rfl fun l g h hp=>by
 unfold jz at h
 split at h
 ·rename_i q
  cases h
  refine ⟨_,rfl,rfl,fun η w vs ⟨v1,t,e1,⟨a,c,f1,h1,h2,h3,h4⟩,e3⟩=> ?_⟩
  subst e3 e1
  cases List.singleton_inj.1 f1
  refine Af w ⟨rfl,h1,h2,fun i hi=> ?_⟩ (Nat.le_trans hp (by decide))
  obtain ⟨g,o,us,rfl,_,hr,hl,hi'⟩:=h4 (by omega)
  have hu:=hi' i hi (by omega)
  obtain ⟨ad,c2,e,hR⟩:=hu.rdb
  refine ⟨g,o,ad,_,c2,rfl,?_,hR⟩
  rw [←e]
  exact hr i _ (List.getElem?_eq_getElem (by omega))
 ·cases h
theorem vb (w:World) (E:TypeId) (base:Nat) (hb:base≤w.heap.size):(w.alloc (.cells #[] E)).ownsRow base E 1 (.slice (some ⟨w.heap.size,0,none⟩) 0 0) 0 []:=
 ⟨rfl,.inr ⟨w.heap.size,0,#[],rfl,hb,(by show (w.heap.push _)[w.heap.size]?=_;simp),by omega,by simp,rfl,rfl⟩⟩
theorem oA (w:World) (d:Nat) (a:Option Addr) (l c:Nat):(Op.equalIn (d+1) 26 (.slice a l c) (.slice none 0 0)).run Tryz.prog w= .ok a.isNone w:=by
 cases a<;>simp [Op.equalIn,run_underlying Tryz.underlying26]
theorem vM (w:World) (a:Option Addr) (l c:Nat):(Op.equal 26 (.slice a l c) (.slice none 0 0)).run Tryz.prog w= .ok a.isNone w:=oA w 9999 a l c
theorem jU (a:Option Addr) (l c:Nat) (w:World):(binOp .eql 26 (.slice a l c) (.slice none 0 0)).run Tryz.prog w= .ok (.bool a.isNone) w:=by
 simp [binOp,vM w a l c]
set_option maxHeartbeats 1000000 in
theorem BT {a:Option Addr} {n cap:Nat} {l:List UInt8} (w:World) (h:iS w a n cap l) (hm:n≤16777216):
  Calls Tryz.prog 55 #[.slice a n cap] w fun e w'=>∃v,e= .returned v∧w'.ownsRow w.heap.size 5 1 v n (l.map bV)∧Below w.heap.size w w':=by
 have hl:=h.hlen
 cases a with
 |none=>
  obtain rfl:=h.hnil rfl
  obtain rfl:n=0:=by have:=h.hcap;omega
  obtain rfl:l= []:=List.eq_nil_of_length_eq_zero hl
  have hq:=jU none 0 0
  rw [show (none:Option Addr).isNone=true from rfl] at hq
  go_enter Tryz.func55,Tryz.ntmps55
  go_wp2
  go_ret
  exact ⟨_,rfl,⟨rfl,.inl ⟨rfl,rfl⟩⟩,(by repeat (first|(with_reducible refine Below.alloc' ?_ _)|(with_reducible refine Below.drew ?_)|(with_reducible refine below_drewN ?_ _)|((with_reducible refine Below.setCell ?_ ?_ _);rotate_left;(focus (first|exact Nat.le_refl _|(simp;done)|(simp;omega))))|(with_reducible assumption)|(with_reducible exact Below.refl _ _)))⟩
 |some ad=>
  have HL:=Lib.hid hl;have HM:=Lib.hid hm
  clear hl hm
  have hq:=jU (some ad) n cap
  rw [show (some ad).isNone=false from rfl] at hq
  go_enter Tryz.func55,Tryz.ntmps55
  go_wp2_with (at_builtin;go_must (refine oK _ rfl (.tmp 5) (.tmp 6) rfl w.heap.size _ 0 [] rfl (vb w 5 w.heap.size (Nat.le_refl _)) _ _ _ l rfl (by exact h.below (by repeat (first|(with_reducible refine Below.alloc' ?_ _)|(with_reducible refine Below.drew ?_)|(with_reducible refine below_drewN ?_ _)|((with_reducible refine Below.setCell ?_ ?_ _);rotate_left;(focus (first|exact Nat.le_refl _|(simp;done)|(simp;omega))))|(with_reducible assumption)|(with_reducible exact Below.refl _ _)))) (by have:=HM.out;omega) (by simp) w (by exact (by repeat (first|(with_reducible refine Below.alloc' ?_ _)|(with_reducible refine Below.drew ?_)|(with_reducible refine below_drewN ?_ _)|((with_reducible refine Below.setCell ?_ ?_ _);rotate_left;(focus (first|exact Nat.le_refl _|(simp;done)|(simp;omega))))|(with_reducible assumption)|(with_reducible exact Below.refl _ _)))) ?_;intro v1 w1 hown hb1;rw [Nat.zero_add,List.nil_append] at hown;have HO:=Lib.hid hown;clear hown))
  go_wp2
  go_ret
  exact ⟨_,rfl,HO.out,hb1⟩
def jA:GF:=fun l=>match l with
 | [.one (.ro .u8 b)]=>some ⟨[.one (.rw 0)],[(0,.row 5 .u8 b)],some (b.length≤16777216)⟩
 |_=>none
theorem fW:ab 55 (aq jA):=dY Tryz.func55 (by kernel_rfl) rfl fun l g h hp=>by
 unfold jA at h
 split at h
 ·rename_i b
  cases h
  refine ⟨_,rfl,rfl,fun η w vs ⟨v1,t,e1,⟨u1,f1,h1⟩,e3⟩=> ?_⟩
  subst e3 e1
  cases List.singleton_inj.1 f1
  obtain ⟨ad,c,rfl,hr⟩:=h1.rdb
  exact BT w hr hp
 ·cases h
def xM:GF:=fun l=>match l with
 | [.agg [.ob (.x 4) a]]=>some ⟨[.agg [.ob (.x 4) (bu a)],.one (.ob .int (cq a))],[],none⟩
 |_=>none
theorem ub:ab 170 (aq xM):=aN Tryz.func170 (by kernel_rfl) rfl fun l g h hp=>by
 unfold xM at h
 split at h
 ·rename_i a
  cases h
  refine ⟨rfl,rfl,fun η w vs ⟨v1,t,e1,h1,e3⟩=> ?_⟩
  subst e3 e1
  obtain ⟨f,rfl,hf⟩:=d_ h1
  refine (RB (f:=f) (x:=a) hf w).mono fun e w' ⟨h,he,hh,hb⟩=>⟨_,he,hb,fun nx ηc=> ?_⟩
  exact ⟨_,rfl,_,_,rfl,eX hh (bu a) rfl,_,_,rfl,rfl,rfl⟩
 ·cases h
end Go.Proofs.YtnlhpncaldcllaaGreat
namespace Go.Proofs.YtnlhpncaldcllaaGreat
section
variable {K:Type} [Lean.Grind.Field K]
def kZ (d x y:K):Prop:=y*y-x*x=1+d*x*x*y*y
theorem tO {d i x1 y1 x2 y2 e:K} (hi:i*i= -1) (hd:∀r:K,r*r≠d) (h2:(2:K)≠0) (c1:kZ d x1 y1) (c2:kZ d x2 y2) (he:e*e=1):d*x1*x2*y1*y2≠e:=by
 intro h
 unfold kZ at c1 c2
 have hx:x1*y1≠0:=by
  intro h0
  have:e=0:=by rw [←h];grind
  subst this
  grind
 have k1:(i*x1+e*y1)*(i*x1+e*y1)=d*(x1*y1*(i*x2+y2))*(x1*y1*(i*x2+y2)):=by grind
 have k2:(i*x1-e*y1)*(i*x1-e*y1)=d*(x1*y1*(i*x2-y2))*(x1*y1*(i*x2-y2)):=by grind
 have key:∀s t:K,s*s=d*(x1*y1*t)*(x1*y1*t)→t=0:=by
  intro s t hs
  by_cases ht:t=0
  ·exact ht
  ·exfalso
   apply hd (s*(x1*y1*t)⁻¹)
   have hn:x1*y1*t≠0:=by grind
   have hm:=Lean.Grind.Field.mul_inv_cancel hn
   generalize (x1*y1*t)⁻¹=v at*
   generalize x1*y1*t=q at*
   grind
 have a1:=key _ _ k1
 have a2:=key _ _ k2
 have b1:y2=0:=by
  have:(2:K)*y2=0:=by grind
  rcases (by grind:(2:K)=0∨y2=0) with h|h
  ·exact absurd h h2
  ·exact h
 subst b1
 have:e=0:=by rw [←h];grind
 subst this
 grind
structure Cu (K:Type) [Lean.Grind.Field K] where
 d:K
 i:K
 hi:i*i= -1
 hd:∀r:K,r*r≠d
 h2:(2:K)≠0
structure Cp (c:Cu K) where
 x:K
 y:K
 on:kZ c.d x y
variable {c:Cu K}
theorem Cp.ext' {P Q:Cp c} (h1:P.x=Q.x) (h2:P.y=Q.y):P=Q:=by
 cases P;cases Q;simp at h1 h2;subst h1;subst h2;rfl
theorem Cp.one_ne (c:Cu K):(1:K)≠0:=by
 have:=c.h2
 grind
theorem Cp.plus (P Q:Cp c):1+c.d*P.x*Q.x*P.y*Q.y≠0:=by
 intro h
 exact tO (e:= -1) c.hi c.hd c.h2 P.on Q.on (by grind) (by grind)
theorem Cp.minus (P Q:Cp c):1-c.d*P.x*Q.x*P.y*Q.y≠0:=by
 intro h
 exact tO (e:=1) c.hi c.hd c.h2 P.on Q.on (by grind) (by grind)
theorem Nz {d x1 y1 x2 y2 u v:K} (c1:kZ d x1 y1) (c2:kZ d x2 y2) (hu:(1+d*x1*x2*y1*y2)*u=1) (hv:(1-d*x1*x2*y1*y2)*v=1):
  kZ d ((x1*y2+y1*x2)*u) ((y1*y2+x1*x2)*v):=by
 unfold kZ at*
 have k:((y1*y2+x1*x2)*(1+d*x1*x2*y1*y2))*((y1*y2+x1*x2)*(1+d*x1*x2*y1*y2))-((x1*y2+y1*x2)*(1-d*x1*x2*y1*y2))*((x1*y2+y1*x2)*(1-d*x1*x2*y1*y2))
   =(1+d*x1*x2*y1*y2)*(1+d*x1*x2*y1*y2)*(1-d*x1*x2*y1*y2)*(1-d*x1*x2*y1*y2)+d*((x1*y2+y1*x2)*(x1*y2+y1*x2))*((y1*y2+x1*x2)*(y1*y2+x1*x2)):=by grind
 generalize x1*y2+y1*x2=A at*
 generalize y1*y2+x1*x2=C at*
 generalize 1+d*x1*x2*y1*y2=B at*
 generalize 1-d*x1*x2*y1*y2=D at*
 clear c1 c2
 have e1:C*v*(C*v)-A*u*(A*u)=(C*B*(C*B)-A*D*(A*D))*(u*u*v*v):=by grind
 have e2:1+d*(A*u)*(A*u)*(C*v)*(C*v)=(B*B*D*D+d*(A*A)*(C*C))*(u*u*v*v):=by grind
 rw [e1,e2,k]
def Cp.add (P Q:Cp c):Cp c where
 x:=(P.x*Q.y+P.y*Q.x)*(1+c.d*P.x*Q.x*P.y*Q.y)⁻¹
 y:=(P.y*Q.y+P.x*Q.x)*(1-c.d*P.x*Q.x*P.y*Q.y)⁻¹
 on:=Nz P.on Q.on (Lean.Grind.Field.mul_inv_cancel (P.plus Q)) (Lean.Grind.Field.mul_inv_cancel (P.minus Q))
def Cp.zero:Cp c where
 x:=0
 y:=1
 on:=by unfold kZ;grind
theorem Cp.add_x (P Q:Cp c):(P.add Q).x*(1+c.d*P.x*Q.x*P.y*Q.y)=P.x*Q.y+P.y*Q.x:=by
 have h:=Lean.Grind.Field.mul_inv_cancel (P.plus Q)
 show (P.x*Q.y+P.y*Q.x)*(1+c.d*P.x*Q.x*P.y*Q.y)⁻¹*_=_
 generalize (1+c.d*P.x*Q.x*P.y*Q.y)⁻¹=u at*
 generalize 1+c.d*P.x*Q.x*P.y*Q.y=B at*
 generalize P.x*Q.y+P.y*Q.x=A at*
 grind
theorem Cp.add_y (P Q:Cp c):(P.add Q).y*(1-c.d*P.x*Q.x*P.y*Q.y)=P.y*Q.y+P.x*Q.x:=by
 have h:=Lean.Grind.Field.mul_inv_cancel (P.minus Q)
 show (P.y*Q.y+P.x*Q.x)*(1-c.d*P.x*Q.x*P.y*Q.y)⁻¹*_=_
 generalize (1-c.d*P.x*Q.x*P.y*Q.y)⁻¹=u at*
 generalize 1-c.d*P.x*Q.x*P.y*Q.y=B at*
 generalize P.y*Q.y+P.x*Q.x=A at*
 grind
theorem Cp.add_eq {P Q R:Cp c} (hx:R.x*(1+c.d*P.x*Q.x*P.y*Q.y)=P.x*Q.y+P.y*Q.x) (hy:R.y*(1-c.d*P.x*Q.x*P.y*Q.y)=P.y*Q.y+P.x*Q.x):P.add Q=R:=by
 have a1:=P.add_x Q
 have a2:=P.add_y Q
 have h1:=P.plus Q
 have h2:=P.minus Q
 apply Cp.ext'
 ·have:=Lean.Grind.Field.mul_inv_cancel h1
  generalize (1+c.d*P.x*Q.x*P.y*Q.y)⁻¹=u at*
  generalize 1+c.d*P.x*Q.x*P.y*Q.y=B at*
  generalize (P.add Q).x=s at*
  generalize P.x*Q.y+P.y*Q.x=A at*
  grind
 ·have:=Lean.Grind.Field.mul_inv_cancel h2
  generalize (1-c.d*P.x*Q.x*P.y*Q.y)⁻¹=u at*
  generalize 1-c.d*P.x*Q.x*P.y*Q.y=B at*
  generalize (P.add Q).y=s at*
  generalize P.y*Q.y+P.x*Q.x=A at*
  grind
theorem Cp.comm (P Q:Cp c):P.add Q=Q.add P:=by
 apply Cp.add_eq
 ·have:=Q.add_x P
  grind
 ·have:=Q.add_y P
  grind
theorem Cp.zero_add (P:Cp c):Cp.zero.add P=P:=by
 apply Cp.add_eq
 ·show P.x*(1+c.d*0*P.x*1*P.y)=0*P.y+1*P.x
  grind
 ·show P.y*(1-c.d*0*P.x*1*P.y)=1*P.y+0*P.x
  grind
theorem Cp.add_zero (P:Cp c):P.add Cp.zero=P:=by rw [Cp.comm,Cp.zero_add]
theorem QW {a b m n s t:K} (hm:m≠0) (hn:n≠0) (h1:s*m=a) (h2:t*n=b) (h:a*n=b*m):s=t:=by
 have k1:=Lean.Grind.Field.mul_inv_cancel hm
 have k2:=Lean.Grind.Field.mul_inv_cancel hn
 generalize m⁻¹=u at*
 generalize n⁻¹=v at*
 grind
theorem I9 {d x1 y1 x2 y2 x3 y3:K} (c1:kZ d x1 y1) (c2:kZ d x2 y2) (c3:kZ d x3 y3):
  ((x1*y2+y1*x2)*(1-d*x1*x2*y1*y2)*y3+(y1*y2+x1*x2)*(1+d*x1*x2*y1*y2)*x3)*((1+d*x2*x3*y2*y3)*(1-d*x2*x3*y2*y3)+d*(x2*y3+y2*x3)*(y2*y3+x2*x3)*x1*y1)
   =(x1*((y2*y3+x2*x3)*(1+d*x2*x3*y2*y3))+y1*((x2*y3+y2*x3)*(1-d*x2*x3*y2*y3)))*((1+d*x1*x2*y1*y2)*(1-d*x1*x2*y1*y2)+d*(x1*y2+y1*x2)*(y1*y2+x1*x2)*x3*y3):=by
 unfold kZ at*
 grind
theorem I_ {d x1 y1 x2 y2 x3 y3:K} (c1:kZ d x1 y1) (c2:kZ d x2 y2) (c3:kZ d x3 y3):
  ((y1*y2+x1*x2)*(1+d*x1*x2*y1*y2)*y3+(x1*y2+y1*x2)*(1-d*x1*x2*y1*y2)*x3)*((1+d*x2*x3*y2*y3)*(1-d*x2*x3*y2*y3)-d*(x2*y3+y2*x3)*(y2*y3+x2*x3)*x1*y1)
   =(y1*((y2*y3+x2*x3)*(1+d*x2*x3*y2*y3))+x1*((x2*y3+y2*x3)*(1-d*x2*x3*y2*y3)))*((1+d*x1*x2*y1*y2)*(1-d*x1*x2*y1*y2)-d*(x1*y2+y1*x2)*(y1*y2+x1*x2)*x3*y3):=by
 unfold kZ at*
 grind
theorem bJ {a b:K} (ha:a≠0) (hb:b≠0):a*b≠0:=by grind
theorem Cp.assoc (P Q R:Cp c):(P.add Q).add R=P.add (Q.add R):=by
 have a1:=P.add_x Q
 have a2:=P.add_y Q
 have b1:=Q.add_x R
 have b2:=Q.add_y R
 have n1:=P.plus Q
 have n2:=P.minus Q
 have n3:=Q.plus R
 have n4:=Q.minus R
 have f1:=(P.add Q).add_x R
 have f2:=(P.add Q).add_y R
 have g1:=P.add_x (Q.add R)
 have g2:=P.add_y (Q.add R)
 have m1:=(P.add Q).plus R
 have m2:=(P.add Q).minus R
 have m3:=P.plus (Q.add R)
 have m4:=P.minus (Q.add R)
 have hx:=I9 P.on Q.on R.on
 have hy:=I_ P.on Q.on R.on
 generalize ((P.add Q).add R)=S1 at*
 generalize (P.add (Q.add R))=S2 at*
 generalize P.add Q=U at*
 generalize Q.add R=V at*
 generalize P.x*Q.y+P.y*Q.x=A at*
 generalize P.y*Q.y+P.x*Q.x=C at*
 generalize 1+c.d*P.x*Q.x*P.y*Q.y=B at*
 generalize 1-c.d*P.x*Q.x*P.y*Q.y=D at*
 generalize Q.x*R.y+Q.y*R.x=A' at*
 generalize Q.y*R.y+Q.x*R.x=C' at*
 generalize 1+c.d*Q.x*R.x*Q.y*R.y=B' at*
 generalize 1-c.d*Q.x*R.x*Q.y*R.y=D' at*
 subst a1 a2 b1 b2
 apply Cp.ext'
 ·refine QW (bJ m1 (bJ n1 n2)) (bJ m3 (bJ n3 n4)) (a:=(U.x*R.y+U.y*R.x)*(B*D)) (b:=(P.x*V.y+P.y*V.x)*(B'*D')) (by rw [←f1];clear hx hy f1 f2 g1 g2 m1 m2 m3 m4;grind) (by rw [←g1];clear hx hy f1 f2 g1 g2 m1 m2 m3 m4;grind) ?_
  clear hy f1 f2 g1 g2 m1 m2 m3 m4 n1 n2 n3 n4
  grind
 ·refine QW (bJ m2 (bJ n1 n2)) (bJ m4 (bJ n3 n4)) (a:=(U.y*R.y+U.x*R.x)*(B*D)) (b:=(P.y*V.y+P.x*V.x)*(B'*D')) (by rw [←f2];clear hx hy f1 f2 g1 g2 m1 m2 m3 m4;grind) (by rw [←g2];clear hx hy f1 f2 g1 g2 m1 m2 m3 m4;grind) ?_
  clear hx f1 f2 g1 g2 m1 m2 m3 m4 n1 n2 n3 n4
  grind
def Cp.mul:Nat→Cp c→Cp c
 |0,_=>Cp.zero
 |n+1,P=>(Cp.mul n P).add P
theorem Cp.mul_add (m n:Nat) (P:Cp c):Cp.mul (m+n) P=(Cp.mul m P).add (Cp.mul n P):=by
 induction n with
 |zero=>exact (Cp.add_zero _).symm
 |succ n ih=>show (Cp.mul (m+n) P).add P=_;rw [ih,Cp.assoc];rfl
theorem Cp.mul_one (P:Cp c):Cp.mul 1 P=P:=Cp.zero_add P
theorem Cp.mul_zero (n:Nat):Cp.mul n (Cp.zero:Cp c)=Cp.zero:=by
 induction n with
 |zero=>rfl
 |succ n ih=>show (Cp.mul n _).add _=_;rw [ih,Cp.zero_add]
theorem Cp.mul_mul (m n:Nat) (P:Cp c):Cp.mul m (Cp.mul n P)=Cp.mul (m*n) P:=by
 induction m with
 |zero=>rw [Nat.zero_mul];rfl
 |succ m ih=>show (Cp.mul m _).add _=_;rw [ih,Nat.succ_mul,Cp.mul_add]
theorem Cp.mul_mod {P:Cp c} {L:Nat} (h:Cp.mul L P=Cp.zero) (n:Nat):Cp.mul n P=Cp.mul (n%L) P:=by
 have e:=Nat.div_add_mod n L
 rw [←e,Cp.mul_add,Nat.mul_comm,←Cp.mul_mul,h,Cp.mul_zero,Cp.zero_add]
 rw [Nat.mul_comm,e]
end
section
variable {K:Type} [Lean.Grind.Field K]
end
def dE:F:=fn 37095705934669439343138083508754565189542113879843219016388785533085940283555
theorem QL:dE*(fn 121665+1)= -fn 121665:=by decide +kernel
theorem NO:bA dE og≠1:=by
 intro h
 have h1:=congrArg Fin.val h
 rw [bI,←cS Pq 256 dE.val og (by decide +kernel)] at h1
 exact absurd h1 (by decide +kernel)
theorem O0:(2:F)≠0:=by intro h;exact absurd (congrArg Fin.val h) (by decide)
theorem Mx (r:F):r*r≠dE:=by
 intro h
 have hr:r≠0:=by
  rintro rfl
  exact absurd (congrArg Fin.val h) (by decide +kernel)
 apply NO
 rw [←h,oh,←ee,Ax,qJ hr]
def NL:Cu F where
 d:=dE
 i:=nL
 hi:=Bt
 hd:=Mx
 h2:=O0
abbrev EP:=Cp NL
def Ez:F:=fn 15112221349535400772501151409588531511454012693041857206046113283949847762202
def EA:F:=fn 46316835694926478169428394003475163141307993866256225615783033603165251855960
def base:EP where
 x:=Ez
 y:=EA
 on:=by unfold kZ;decide +kernel
section
variable {K:Type} [Lean.Grind.Field K] {c:Cu K}
structure fE (P:Cp c) (X Y Z:K):Prop where
 z:Z≠0
 x:X=P.x*Z
 y:Y=P.y*Z
theorem fE.add {P Q:Cp c} {X Y Z X' Y' Z':K} (h:fE P X Y Z) (h':fE Q X' Y' Z'):
  fE (P.add Q) (Z*Z'*(Z*Z'*(Z*Z')-c.d*(X*X'*(Y*Y')))*(X*Y'+X'*Y)) (Z*Z'*(Z*Z'*(Z*Z')+c.d*(X*X'*(Y*Y')))*(Y*Y'+X*X')) ((Z*Z'*(Z*Z')-c.d*(X*X'*(Y*Y')))*(Z*Z'*(Z*Z')+c.d*(X*X'*(Y*Y')))):=by
 obtain ⟨hz,rfl,rfl⟩:=h
 obtain ⟨hz',rfl,rfl⟩:=h'
 have h1:=P.plus Q
 have h2:=P.minus Q
 have e1:=P.add_x Q
 have e2:=P.add_y Q
 generalize hR:(P.add Q)=R at*
 have f1:Z*Z'*(Z*Z')-c.d*(P.x*Z*(Q.x*Z')*(P.y*Z*(Q.y*Z')))=(Z*Z')*(Z*Z')*(1-c.d*P.x*Q.x*P.y*Q.y):=by
  clear e1 e2 h1 h2 hz hz';grind
 have f2:Z*Z'*(Z*Z')+c.d*(P.x*Z*(Q.x*Z')*(P.y*Z*(Q.y*Z')))=(Z*Z')*(Z*Z')*(1+c.d*P.x*Q.x*P.y*Q.y):=by
  clear e1 e2 h1 h2 hz hz' f1;grind
 rw [f1,f2]
 have hzz:=bJ hz hz'
 generalize 1+c.d*P.x*Q.x*P.y*Q.y=B at*
 generalize 1-c.d*P.x*Q.x*P.y*Q.y=D at*
 have g1:P.x*Z*(Q.y*Z')+Q.x*Z'*(P.y*Z)=(Z*Z')*(P.x*Q.y+P.y*Q.x):=by clear e1 e2 h1 h2 hz hz' f1 f2 hzz hR;grind
 have g2:P.y*Z*(Q.y*Z')+P.x*Z*(Q.x*Z')=(Z*Z')*(P.y*Q.y+P.x*Q.x):=by clear e1 e2 h1 h2 hz hz' f1 f2 hzz hR g1;grind
 rw [g1,g2,←e1,←e2]
 generalize Z*Z'=z at*
 refine ⟨?_,?_,?_⟩
 ·exact bJ (bJ (bJ hzz hzz) h2) (bJ (bJ hzz hzz) h1)
 ·clear e1 e2 h1 h2 hz hz' f1 f2 hzz hR g1 g2;grind
 ·clear e1 e2 h1 h2 hz hz' f1 f2 hzz hR g1 g2;grind
theorem fE.zero:fE (Cp.zero:Cp c) 0 1 1:=⟨Cp.one_ne c,by show (0:K)=0*1;grind,by show (1:K)=1*1;grind⟩
theorem fE.one (P:Cp c):fE P P.x P.y 1:=⟨Cp.one_ne c,by grind,by grind⟩
end
def DJ {α:Type} (n:Nat) (k:Nat→α):α:=Nat.rec (k 0) (fun m _=>k (Nat.succ m)) n
theorem N5 {α:Type} (n:Nat) (k:Nat→α):DJ n k=k n:=by cases n<;>rfl
def kv (a b:Nat):Nat:=a*b%Pq
def Nr (a b:Nat):Nat:=(a+b)%Pq
def Tn (a b:Nat):Nat:=(Pq-b+a)%Pq
def IZ {α:Type} (X Y Z X' Y' Z':Nat) (k:Nat→Nat→Nat→α):α:=
 DJ (kv Z Z') fun z=>DJ (kv z z) fun zz=>DJ (kv X X') fun x=>DJ (kv Y Y') fun y=>DJ (kv dE.val (kv x y)) fun e=>
 DJ (Tn zz e) fun f=>DJ (Nr zz e) fun g=>DJ (Nr (kv X Y') (kv X' Y)) fun h=>
 DJ (kv (kv z f) h) fun X3=>DJ (kv (kv z g) (Nr y x)) fun Y3=>DJ (kv f g) fun Z3=>k X3 Y3 Z3
theorem zW {α:Type} (X Y Z X' Y' Z':F) (k:Nat→Nat→Nat→α):
  IZ X.val Y.val Z.val X'.val Y'.val Z'.val k=k (Z*Z'*(Z*Z'*(Z*Z')-dE*(X*X'*(Y*Y')))*(X*Y'+X'*Y)).val (Z*Z'*(Z*Z'*(Z*Z')+dE*(X*X'*(Y*Y')))*(Y*Y'+X*X')).val ((Z*Z'*(Z*Z')-dE*(X*X'*(Y*Y')))*(Z*Z'*(Z*Z')+dE*(X*X'*(Y*Y')))).val:=by
 simp only [IZ,N5]
 rfl
def yP:Nat→Nat→Nat×Nat×Nat
 |0,_=>(0,1,1)
 |f+1,n=>if n=0 then (0,1,1) else
  match yP f (n/2) with
  |(X,Y,Z)=>IZ X Y Z X Y Z fun X Y Z=>if n%2=1 then IZ X Y Z Ez.val EA.val 1 fun X Y Z=>(X,Y,Z) else (X,Y,Z)
theorem AZ:∀f n,n<2^f→∃X Y Z:F,yP f n=(X.val,Y.val,Z.val)∧fE (Cp.mul n base) X Y Z
 |0,n,h=>by
  obtain rfl:n=0:=by simp at h;exact h
  exact ⟨0,1,1,rfl,fE.zero⟩
 |f+1,n,h=>by
  by_cases h0:n=0
  ·subst h0
   exact ⟨0,1,1,by rw [yP,if_pos rfl];rfl,fE.zero⟩
  ·obtain ⟨X,Y,Z,e,hp⟩:=AZ f (n/2) (by rw [Nat.pow_succ] at h;omega)
   rw [yP,if_neg h0,e]
   simp only [zW]
   have h2:=hp.add hp
   rw [←Cp.mul_add] at h2
   by_cases h1:n%2=1
   ·rw [if_pos h1]
    have h3:=h2.add (fE.one base)
    have e0:∀q,n=q+q+1→Cp.mul n base=(Cp.mul (q+q) base).add base:=fun q hq=>by subst hq;rfl
    have e1:=e0 (n/2) (by omega)
    rw [e1]
    exact ⟨_,_,_,zW _ _ _ Ez EA 1 _,h3⟩
   ·rw [if_neg h1]
    have e0:n/2+n/2=n:=by omega
    rw [e0] at h2
    exact ⟨_,_,_,rfl,h2⟩
theorem wO:Cp.mul Lq base=Cp.zero:=by
 obtain ⟨X,Y,Z,e,hp⟩:=AZ 253 Lq (by decide +kernel)
 have h:(yP 253 Lq).1=0∧(yP 253 Lq).2.1=(yP 253 Lq).2.2:=by decide +kernel
 rw [e] at h
 obtain ⟨h1,h2⟩:=h
 have hX:X=0:=F.ext' h1
 have hY:Y=Z:=F.ext' h2
 obtain ⟨hz,hx,hy⟩:=hp
 rw [hX] at hx
 rw [hY] at hy
 apply Cp.ext'
 ·show _=(0:F)
  generalize (Cp.mul Lq base).x=x at*
  rcases F.dom (hx.symm) with h|h
  ·exact h
  ·exact absurd h hz
 ·show _=(1:F)
  generalize (Cp.mul Lq base).y=y at*
  have h:(y-1)*Z=0:=by clear hz hx h1 h2 e hX hY;grind
  rcases F.dom h with h|h
  ·clear hy hx h1 h2 e hX hY hz;grind
  ·exact absurd h hz
theorem Tk:Pr Lq:=by unfold Lq;exact aJ
theorem Jc:base≠Cp.zero:=by
 intro h
 have:=congrArg Cp.x h
 exact absurd (congrArg Fin.val this) (by decide +kernel)
theorem tq {n:Nat} (h:Cp.mul n base=Cp.zero):Lq∣n:=by
 rcases Nat.eq_zero_or_pos (n%Lq) with h0|h0
 ·exact Nat.dvd_of_mod_eq_zero h0
 ·exfalso
  have hnd:¬Lq∣n:=fun hd=>by rw [Nat.mod_eq_zero_of_dvd hd] at h0;omega
  have hf:=xu Tk n hnd
  have e0:∀q:Nat,2≤q→n^(q-1)=n^(q-2)*n:=fun q hq=>by rw [←Nat.pow_succ];congr 1;omega
  have e:=e0 Lq (by unfold Lq;omega)
  clear e0
  apply Jc
  have h1:Cp.mul (n^(Lq-2)*n) base=Cp.zero:=by rw [←Cp.mul_mul,h,Cp.mul_zero]
  rw [Cp.mul_mod wO,←e,hf,Cp.mul_one] at h1
  exact h1
section
variable {K:Type} [Lean.Grind.Field K] {c:Cu K}
structure pW (P:Cp c) (X Y Z T:K):Prop where
 p:fE P X Y Z
 t:T=P.x*P.y*Z
theorem pW.one (P:Cp c):pW P P.x P.y 1 (P.x*P.y):=⟨fE.one P,by grind⟩
theorem pW.add {P Q:Cp c} {X Y Z T X' Y' Z' T':K} (h:pW P X Y Z T) (h':pW Q X' Y' Z' T') {m n k z e f g u:K}
  (hm:m=(Y-X)*(Y'-X')) (hn:n=(Y+X)*(Y'+X')) (hk:k=T*(c.d+c.d)*T') (hzz:z=Z*Z'+Z*Z') (he:e=n-m) (hf:f=z-k) (hg:g=z+k) (hu:u=n+m):
  pW (P.add Q) (e*f) (g*u) (f*g) (e*u):=by
 obtain ⟨⟨hz,rfl,rfl⟩,rfl⟩:=h
 obtain ⟨⟨hz',rfl,rfl⟩,rfl⟩:=h'
 have h1:=P.plus Q
 have h2:=P.minus Q
 have e1:=P.add_x Q
 have e2:=P.add_y Q
 have h3:=c.h2
 generalize hR:(P.add Q)=R at*
 have hw:=bJ h3 (bJ hz hz')
 have f1:f=2*(Z*Z')*(1-c.d*P.x*Q.x*P.y*Q.y):=by
  rw [hf,hzz,hk];clear e1 e2 h1 h2 hz hz' hm hn hk hzz he hf hg hu hw h3 hR;grind
 have f2:g=2*(Z*Z')*(1+c.d*P.x*Q.x*P.y*Q.y):=by
  rw [hg,hzz,hk];clear e1 e2 h1 h2 hz hz' hm hn hk hzz he hf hg hu hw h3 hR f1;grind
 have g1:e=2*(Z*Z')*(P.x*Q.y+P.y*Q.x):=by
  rw [he,hn,hm];clear e1 e2 h1 h2 hz hz' hm hn hk hzz he hf hg hu hw h3 hR f1 f2;grind
 have g2:u=2*(Z*Z')*(P.y*Q.y+P.x*Q.x):=by
  rw [hu,hn,hm];clear e1 e2 h1 h2 hz hz' hm hn hk hzz he hf hg hu hw h3 hR f1 f2 g1;grind
 rw [f1,f2,g1,g2,←e1,←e2]
 clear hm hn hk hzz he hf hg hu f1 f2 g1 g2 e1 e2 hR h3
 generalize 1+c.d*P.x*Q.x*P.y*Q.y=B at*
 generalize 1-c.d*P.x*Q.x*P.y*Q.y=D at*
 generalize 2*(Z*Z')=q at*
 clear hz hz'
 refine ⟨⟨?_,?_,?_⟩,?_⟩
 ·exact bJ (bJ hw h2) (bJ hw h1)
 ·clear h1 h2 hw;grind
 ·clear h1 h2 hw;grind
 ·clear h1 h2 hw;grind
theorem fE.same {P Q:Cp c} {X Y Z X' Y' Z':K} (h:fE P X Y Z) (h':fE Q X' Y' Z'):(X*Z'=X'*Z∧Y*Z'=Y'*Z)↔P=Q:=by
 obtain ⟨hz,rfl,rfl⟩:=h
 obtain ⟨hz',rfl,rfl⟩:=h'
 constructor
 ·rintro ⟨h1,h2⟩
  apply Cp.ext'
  ·have hw:=bJ hz hz'
   have h3:(P.x-Q.x)*(Z*Z')=0:=by grind
   generalize Z*Z'=q at*
   have:=Lean.Grind.Field.mul_inv_cancel hw
   grind
  ·have hw:=bJ hz hz'
   have h3:(P.y-Q.y)*(Z*Z')=0:=by grind
   generalize Z*Z'=q at*
   have:=Lean.Grind.Field.mul_inv_cancel hw
   grind
 ·rintro rfl
  exact ⟨by grind,by grind⟩
end
def fa:F:=fn 16295367250680780974490674513165176452449235426866156013048779062215315747161
theorem NN:fa=dE+dE:=by decide +kernel
def xx (y:F):F:=(y*y-1)*bk (y*y*dE+1)
theorem Lf:(NL.i:F)*NL.i= -1:=NL.hi
theorem Ub {K:Type} [Lean.Grind.Field K] (d:K):(0:K)*0*d+1=1:=by grind
theorem EU (y:F):y*y*dE+1≠0:=by
 intro h
 have hy:y≠0:=by
  rintro rfl
  rw [Ub] at h
  exact Cp.one_ne NL h
 have h2:=cW hy
 have hi:=Lf
 apply Mx (NL.i*bk y)
 generalize NL.i=i at*
 generalize bk y=z at*
 generalize dE=d at*
 grind
theorem R8 {x y:F} (h:x*x=xx y):kZ dE x y:=by
 unfold xx at h
 have h1:=cW (EU y)
 unfold kZ
 generalize bk (y*y*dE+1)=z at*
 generalize dE=d at*
 grind
theorem MK {x y:F} (h:kZ dE x y):x*x=xx y:=by
 unfold xx
 have h1:=cW (EU y)
 unfold kZ at h
 generalize bk (y*y*dE+1)=z at*
 generalize dE=d at*
 grind
def xE (y:F):F:=bu (xx y)
theorem R6 {y:F} (h:cq (xx y)=0):kZ dE (xE y) y:=R8 (pB h)
theorem KE {x y:F} (h:kZ dE x y):cq (xx y)=0∧(xE y=x∨xE y= -x):=by
 rw [←MK h]
 refine ⟨vJ x,?_⟩
 unfold xE
 rw [←MK h]
 exact K8 x
def dL (b:List UInt8):Nat:=bo b%2^255
def Hc (b:List UInt8):Bool:=bo b/2^255%2 ==1
def eB (P:EP):List UInt8:=aV 32 (P.y.val+2^255*(P.x.val%2))
theorem mj (P:EP):(eB P).length=32:=ar _ _
def xS (o:Bool) (y:F):F:=if o then -xE y else xE y
theorem MZ {o:Bool} {y:F} (h:cq (xx y)=0):kZ dE (xS o y) y:=by
 have h1:=R6 h
 unfold xS
 cases o with
 |true=>
  simp only [if_true]
  unfold kZ at*
  generalize xE y=x at*
  generalize dE=d at*
  grind
 |false=>simpa using h1
def kf (b:List UInt8):Option EP:=
 if b.length=32∧dL b<Pq then
  if h:cq (xx (fn (dL b)))=0 then
   if Hc b=true∧xE (fn (dL b))=0 then none else some ⟨xS (Hc b) (fn (dL b)),fn (dL b),MZ h⟩
  else none
 else none
theorem oS {b:List UInt8} {y:F} {o:Bool} (h1:b.length=32) (h2:dL b<Pq) (hy:fn (dL b)=y) (hs:Hc b=o) (hr:cq (xx y)=0) (hn:¬(o=true∧xE y=0)):
  kf b=some ⟨xS o y,y,MZ hr⟩:=by
 subst hy hs
 unfold kf
 rw [if_pos ⟨h1,h2⟩,dif_pos hr,if_neg hn]
theorem KP {x:F} (hx:x≠0):(-x).val%2=1-x.val%2:=by
 have h0:x.val≠0:=fun h=>hx (F.ext' h)
 have h1:=x.isLt
 have h2:Pq%2=1:=by decide +kernel
 rw [A2]
 have h3:(Pq-x.val)%Pq=Pq-x.val:=Nat.mod_eq_of_lt (by omega)
 rw [h3]
 generalize x.val=v at*
 have h4:v<Pq:=h1
 omega
theorem No:Pq<2^255:=by decide +kernel
theorem Av (P:EP):bo (eB P)=P.y.val+2^255*(P.x.val%2):=by
 have h1:P.y.val<Pq:=P.y.isLt
 have h2:=No
 unfold eB
 rw [lE]
 generalize P.y.val=v at*
 generalize P.x.val=x
 apply Nat.mod_eq_of_lt
 rw [show 2^(8*32)=2^255+2^255 by decide +kernel]
 generalize 2^255=T at*
 have:x%2=0∨x%2=1:=by omega
 rcases this with e|e<;>rw [e]<;>omega
theorem R7 {x y:F} (hxe:(xE y).val%2=0) (h:xE y=x∨xE y= -x):xS (x.val%2 ==1) y=x∧¬((x.val%2 ==1)=true∧xE y=0):=by
 unfold xS
 generalize xE y=e at*
 by_cases hp:x.val%2=1
 ·have hne:x≠0:=by rintro rfl;exact absurd hp (by decide)
  rcases h with h|h
  ·rw [h] at hxe;exact absurd (hxe.symm.trans hp) (by decide)
  ·rw [hp]
   clear hp hxe
   refine ⟨by simp only [beq_self_eq_true,if_true];rw [h];clear h hne;grind,fun ⟨_,h0⟩=>hne ?_⟩
   rw [h] at h0
   clear h hne
   grind
 ·have hb:(x.val%2 ==1)=false:=by simpa using hp
  rw [hb]
  refine ⟨?_,fun ⟨h,_⟩=>by cases h⟩
  simp only [Bool.false_eq_true,if_false]
  rcases h with h|h
  ·exact h
  ·by_cases hne:x=0
   ·rw [h,hne];decide
   ·rw [h,KP hne] at hxe
    have hq2:x.val%2<2:=Nat.mod_lt _ (by decide)
    clear hb h hne
    generalize x.val%2=q at*
    exfalso
    rcases Nat.lt_or_ge q 1 with h|h
    ·have:q=0:=by omega
     rw [this] at hxe;cases hxe
    ·exact hp (by omega)
theorem Kz {v T k:Nat} (h:v<T):(v+T*k)%T=v:=by rw [Nat.add_mul_mod_self_left];exact Nat.mod_eq_of_lt h
theorem Ky {v T k:Nat} (h:v<T):(v+T*k)/T=k:=by rw [Nat.add_mul_div_left _ _ (by omega),Nat.div_eq_of_lt h,Nat.zero_add]
theorem Au (P:EP):dL (eB P)=P.y.val:=by
 unfold dL
 rw [Av]
 exact Kz (Nat.lt_trans P.y.isLt No)
theorem JT (P:EP):Hc (eB P)=(P.x.val%2 ==1):=by
 unfold Hc
 rw [Av,Ky (Nat.lt_trans P.y.isLt No),Nat.mod_mod]
theorem QQ (P:EP):fn (dL (eB P))=P.y:=by rw [Au];exact F.ext' (Nat.mod_eq_of_lt P.y.isLt)
theorem ES (P:EP):kf (eB P)=some P:=by
 have ho:=KE P.on
 have hx:=R7 (zk (xx P.y)) ho.2
 rw [oS (mj P) (by rw [Au];exact P.y.isLt) (QQ P) (JT P) ho.1 hx.2]
 exact congrArg some (Cp.ext' hx.1 rfl)
end Go.Proofs.YtnlhpncaldcllaaGreat
namespace Go.Proofs.YtnlhpncaldcllaaGreat
open Go Go.RowKit
instance decEP:DecidableEq EP:=fun P Q=>decidable_of_iff (P.x=Q.x∧P.y=Q.y) ⟨fun h=>Cp.ext' h.1 h.2,fun h=>by subst h;exact ⟨rfl,rfl⟩⟩
theorem ne (n:Nat):Cp.mul (n%Lq) base=Cp.mul n base:=(Cp.mul_mod wO n).symm
theorem Gs {m n:Nat} (h:Cp.mul m base=Cp.mul n base):m%Lq=n%Lq:=by
 have h1:Cp.mul (m+(Lq-n%Lq)) base=Cp.mul (n+(Lq-n%Lq)) base:=by rw [Cp.mul_add,h,←Cp.mul_add]
 have h2:Cp.mul (n+(Lq-n%Lq)) base=Cp.zero:=by
  rw [←ne]
  have:(n+(Lq-n%Lq))%Lq=0:=by unfold Lq;omega
  rw [this];rfl
 rw [h2] at h1
 have h3:=tq h1
 have h4:=Nat.mod_eq_zero_of_dvd h3
 unfold Lq at*
 omega
theorem Gt (a b:Nat):(Cp.mul a base).add (Cp.mul b base)=Cp.mul (zr a b) base:=by
 rw [←Cp.mul_add,zr,ne]
theorem Co (a b:Nat):Cp.mul b (Cp.mul a base)=Cp.mul (C5 b a) base:=by
 rw [Cp.mul_mul,C5,ne]
theorem Cq {s:Nat} (hs:s<Lq):Cp.mul s base=Cp.zero↔s=0:=by
 constructor
 ·intro h
  have h1:=Gs (m:=s) (n:=0) h
  rw [Nat.mod_eq_of_lt hs,Nat.zero_mod] at h1
  exact h1
 ·rintro rfl;rfl
theorem Ro:¬Lq∣8:=fun h=>by have:=Nat.le_of_dvd (by omega) h;unfold Lq at this;omega
theorem yR {s:Nat} {P:EP} (hP:Cp.mul s base=P):Cp.mul 8 P=Cp.zero↔P=Cp.zero:=by
 subst hP
 constructor
 ·intro h
  rw [Cp.mul_mul] at h
  have h1:=tq h
  rcases Tk.mul h1 with h2|h2
  ·exact absurd h2 Ro
  ·obtain ⟨k,rfl⟩:=h2
   rw [Nat.mul_comm,←Cp.mul_mul,wO,Cp.mul_zero]
 ·intro h;rw [h,Cp.mul_zero]
theorem EB:eB base=88::List.replicate 31 102:=by decide +kernel
theorem Cn (P:EP) (n k:Nat):Cp.mul (n/2^k) P=if n/2^k%2=1 then ((Cp.mul (n/2^(k+1)) P).add (Cp.mul (n/2^(k+1)) P)).add P else (Cp.mul (n/2^(k+1)) P).add (Cp.mul (n/2^(k+1)) P):=by
 rw [←Cp.mul_add]
 have h:n/2^(k+1)=n/2^k/2:=by rw [Nat.pow_succ,←Nat.div_div_eq_div_mul]
 rw [h]
 generalize n/2^k=m
 split
 ·rename_i h1
  have e:m=m/2+m/2+1:=by omega
  conv=>lhs;rw [e]
  rfl
 ·rename_i h1
  have e:m=m/2+m/2:=by omega
  conv=>lhs;rw [e]
theorem Oj {x:Nat} (hx:x<Pq):(aV 32 x).set 31 ((aV 32 x).getD 31 0|||128)=aV 32 (x+57896044618658097711785492504343953926634992332820282019728792003956564819968):=by
 have h31:(aV 32 x).getD 31 0=UInt8.ofNat (x/2^248):=by
  simp [aV]
 have hd:x/2^248<128:=by unfold Pq at hx;simp only [Nat.reducePow];omega
 apply List.ext_getElem
 ·simp [ar]
 ·intro i h1 h2
  have hi:i<32:=by simpa [ar] using h2
  rw [cD,List.getElem_set]
  by_cases h:31=i
  ·subst h
   rw [if_pos rfl,h31]
   apply UInt8.toNat_inj.1
   have e1:(x+57896044618658097711785492504343953926634992332820282019728792003956564819968)/2^(8*31)=x/2^248+128:=by simp only [Nat.reduceMul,Nat.reducePow];omega
   rw [e1]
   generalize x/2^248=y at*
   have h4:=Nat.shiftLeft_add_eq_or_of_lt (show y<2^7 by omega) 1
   rw [show (1:Nat)<<<7=128 from rfl] at h4
   simp
   rw [Nat.mod_eq_of_lt (show y<256 by omega),Nat.mod_eq_of_lt (show y+128<256 by omega),Nat.or_comm]
   omega
  ·rw [if_neg h,cD,←il,←il (_/_)]
   congr 1
   have hi':i<31:=by omega
   have:i=0∨i=1∨i=2∨i=3∨i=4∨i=5∨i=6∨i=7∨i=8∨i=9∨i=10∨i=11∨i=12∨i=13∨i=14∨i=15∨i=16∨i=17∨i=18∨i=19∨i=20∨i=21∨i=22∨i=23∨i=24∨i=25∨i=26∨i=27∨i=28∨i=29∨i=30:=by omega
   rcases this with rfl|rfl|rfl|rfl|rfl|rfl|rfl|rfl|rfl|rfl|rfl|rfl|rfl|rfl|rfl|rfl|rfl|rfl|rfl|rfl|rfl|rfl|rfl|rfl|rfl|rfl|rfl|rfl|rfl|rfl|rfl<;>simp only [Nat.reduceMul,Nat.reducePow]<;>omega
theorem SV:2^255=57896044618658097711785492504343953926634992332820282019728792003956564819968:=by decide +kernel
theorem JS {P:EP} (h:P.x.val%2=1):(aV 32 P.y.val).set 31 ((aV 32 P.y.val).getD 31 0|||128)=eB P:=by
 rw [Oj P.y.isLt]
 unfold eB
 rw [h,Nat.mul_one,SV]
theorem EY {P:EP} (h:¬P.x.val%2=1):aV 32 P.y.val=eB P:=by
 unfold eB
 rw [show P.x.val%2=0 by omega,Nat.mul_zero,Nat.add_zero]
theorem EI:∀c:Nat,c<256→(UInt8.ofNat c&&&127).toNat=c%128:=by decide +kernel
def Ah (b:List UInt8):List UInt8:=b.set 31 (b.getD 31 0&&&127)
theorem Ai (b:List UInt8):(Ah b).length=b.length:=by simp [Ah]
theorem m8 {b:List UInt8} (h:b.length=32):bo b=bo (b.take 31)+256^31*(b.getD 31 0).toNat:=by
 have e:=jE b 31 (by omega)
 rw [List.take_of_length_le (by omega)] at e
 rw [e,Nat.mul_comm]
 congr 3
 rw [List.getD_eq_getElem?_getD,List.getElem?_eq_getElem (by omega)]
 rfl
theorem TF:(256:Nat)^31*128=2^255:=by decide +kernel
theorem Km {b:List UInt8} (h:b.length=32):bo (Ah b)=dL b:=by
 have e:=m8 h
 have e2:=m8 (b:=Ah b) (by rw [Ai,h])
 have e3:(Ah b).take 31=b.take 31:=by unfold Ah;rw [List.take_set_of_le (by omega)]
 have e4:(Ah b).getD 31 0=b.getD 31 0&&&127:=by unfold Ah;rw [List.getD_eq_getElem?_getD,List.getElem?_set_self (by omega)];rfl
 rw [e3,e4] at e2
 have h5:=EI (b.getD 31 0).toNat (b.getD 31 0).toNat_lt
 rw [UInt8.ofNat_toNat] at h5
 rw [h5] at e2
 have h6:=dF b 31
 unfold dL
 rw [e2,e,←TF]
 generalize (b.getD 31 0).toNat=c at*
 generalize bo (b.take 31)=r at*
 generalize 256^31=T at*
 clear e e2 e3 e4 h5
 have hc:=Nat.div_add_mod c 128
 have hm:c%128<128:=Nat.mod_lt _ (by omega)
 generalize c/128=q at*
 generalize c%128=m at*
 subst hc
 have:r+T*(128*q+m)=(r+T*m)+T*128*q:=by rw [Nat.mul_add,Nat.mul_assoc];omega
 rw [this,Nat.add_mul_mod_self_left,Nat.mod_eq_of_lt]
 have:T*m≤T*127:=Nat.mul_le_mul_left _ (by omega)
 omega
theorem Hd {b:List UInt8} (h:b.length=32):Hc b=((b.getD 31 0).toNat/128%2 ==1):=by
 have e:=m8 h
 have h6:=dF b 31
 unfold Hc
 rw [e,←TF,←Nat.div_div_eq_div_mul]
 generalize bo (b.take 31)=r at*
 generalize (b.getD 31 0).toNat=c at*
 have:(r+256^31*c)/256^31=c:=by rw [Nat.add_mul_div_left _ _ (Nat.pos_of_ne_zero (by decide +kernel)),Nat.div_eq_of_lt h6,Nat.zero_add]
 rw [this]
def c_ (l:List UInt8):EP:=(kf l).getD Cp.zero
def c9 (l:List UInt8):Int:=if (kf l).isSome then 0 else 12
theorem Ao {b:List UInt8} (h:b.length≠32):c_ b=Cp.zero∧c9 b=12:=by
 have:kf b=none:=by unfold kf;rw [if_neg (fun k=>h k.1)]
 unfold c_ c9;rw [this];exact ⟨rfl,rfl⟩
theorem JK {b:List UInt8} (h:¬dL b<Pq):c_ b=Cp.zero∧c9 b=12:=by
 have:kf b=none:=by unfold kf;rw [if_neg (fun k=>h k.2)]
 unfold c_ c9;rw [this];exact ⟨rfl,rfl⟩
theorem ET {b:List UInt8} {y:F} (h1:b.length=32) (h2:dL b<Pq) (hy:fn (dL b)=y) (hr:¬cq (xx y)=0):c_ b=Cp.zero∧c9 b=12:=by
 subst hy
 have:kf b=none:=by unfold kf;rw [if_pos ⟨h1,h2⟩,dif_neg hr]
 unfold c_ c9;rw [this];exact ⟨rfl,rfl⟩
theorem JL {b:List UInt8} {y:F} (h1:b.length=32) (h2:dL b<Pq) (hy:fn (dL b)=y) (hr:cq (xx y)=0) (hs:Hc b=true) (hx:bu (xx y)=0):c_ b=Cp.zero∧c9 b=12:=by
 subst hy
 have:kf b=none:=by unfold kf;rw [if_pos ⟨h1,h2⟩,dif_pos hr,if_pos ⟨hs,hx⟩]
 unfold c_ c9;rw [this];exact ⟨rfl,rfl⟩
theorem JM {b:List UInt8} {y:F} {o:Bool} (h1:b.length=32) (h2:dL b<Pq) (hy:fn (dL b)=y) (hr:cq (xx y)=0) (hs:Hc b=o) (hx:¬(o=true∧bu (xx y)=0)):
  c9 b=0∧(c_ b).x=(if o then -bu (xx y) else bu (xx y))∧(c_ b).y=y:=by
 have:=oS h1 h2 hy hs hr hx
 unfold c_ c9
 rw [this]
 exact ⟨rfl,rfl,rfl⟩
theorem qw (P:EP):c_ (eB P)=P∧c9 (eB P)=0:=by
 unfold c_ c9
 rw [ES]
 exact ⟨rfl,rfl⟩
def qA (seed:List UInt8):Nat:=bK (aB ((aM seed).take 32))
def qP (seed:List UInt8):List UInt8:=(aM seed).drop 32
def dV (seed:List UInt8):List UInt8:=eB (Cp.mul (qA seed) base)
def qR (p l:List UInt8):List UInt8:=eB (Cp.mul (bK (aM (p++l))) base)
def qS (s:Nat) (p q l:List UInt8):Nat:=zr (bK (aM (p++l))) (C5 (bK (aM (qR p l++(q++l)))) s)
def eQ (seed l:List UInt8):List UInt8:=qR (qP seed) l++aV 32 (qS (qA seed) (qP seed) (dV seed) l)
theorem gV (seed:List UInt8):(dV seed).length=32:=mj _
theorem zg (p l:List UInt8):(qR p l).length=32:=mj _
theorem kL (seed l:List UInt8):(eQ seed l).length=64:=by unfold eQ;rw [List.length_append,zg,ar]
theorem jZ (l:List UInt8):bK l<Lq:=Nat.mod_lt _ g_
theorem Rv (s:Nat) (p q l:List UInt8):qS s p q l<Lq:=Nat.mod_lt _ g_
def fA (pub sig l:List UInt8):Int:=
 if c9 pub=0 then
  if Cp.mul 8 (c_ pub)=Cp.zero then 12
  else if sig.length=64 then
   if c9 (sig.take 32)=0 then
    if bo (sig.drop 32)<Lq then
     if Cp.mul (bo (sig.drop 32)) base=Cp.add (c_ (sig.take 32)) (Cp.mul (bK (aM (sig.take 32++(pub++l)))) (c_ pub)) then 0 else 3
    else 3
   else 3
  else 3
 else 12
theorem Ny:∀c:Nat,c<256→(UInt8.ofNat c&&&248).toNat%8=0:=by decide +kernel
theorem Jw:∀c:Nat,c<256→64≤(UInt8.ofNat c&&&127|||64).toNat∧(UInt8.ofNat c&&&127|||64).toNat<128:=by decide +kernel
theorem EH (l:List UInt8):bo (aB l)%8=0∧0<bo (aB l)∧bo (aB l)<2^255:=by
 have hlen:=iX l
 have h8:bo (aB l)%8=0:=by
  obtain ⟨c,r,hcr⟩:∃c r,bO l 32=c::r:=by
   cases h:bO l 32 with
   |nil=>have:=ki l 32;rw [h] at this;simp at this
   |cons c r=>exact ⟨c,r,rfl⟩
  unfold aB
  rw [hcr]
  simp only [List.set_cons_zero,List.set_cons_succ,List.getD_cons_zero,bo]
  have:=Ny c.toNat c.toNat_lt
  rw [UInt8.ofNat_toNat] at this
  omega
 have e:=jE (aB l) 31 (by omega)
 rw [List.take_of_length_le (by omega)] at e
 have hlt:=dF (aB l) 31
 have h31:64≤((aB l)[31]'(by omega)).toNat∧((aB l)[31]'(by omega)).toNat<128:=by
  have h:=Jw ((bO l 32).getD 31 0).toNat (UInt8.toNat_lt _)
  rw [UInt8.ofNat_toNat] at h
  have e31:(aB l)[31]'(by omega)=((bO l 32).getD 31 0&&&127)|||64:=by
   unfold aB
   rw [List.getElem_set_self,show ((bO l 32).set 0 ((bO l 32).getD 0 0&&&248)).getD 31 0=(bO l 32).getD 31 0 by simp [List.getD_eq_getElem?_getD,List.getElem?_set]]
  rw [e31];exact h
 generalize bo (aB l)=k at*
 generalize ((aB l)[31]'(by omega)).toNat=c at*
 generalize bo ((aB l).take 31)=r at*
 have p:(256:Nat)^31=452312848583266388373324160190187140051835877600158453279131187530910662656:=by decide +kernel
 rw [p] at e hlt
 have p2:(2:Nat)^255=57896044618658097711785492504343953926634992332820282019728792003956564819968:=by decide +kernel
 rw [p2]
 omega
theorem MR (seed:List UInt8):qA seed<Lq:=jZ _
theorem nJ {l:List UInt8} (h:l.length=32):bK l=bo l%Lq:=by
 rw [bK,bO,List.take_of_length_le (by omega),AM]
theorem Ru (seed:List UInt8):qA seed≠0:=by
 intro h0
 unfold qA at h0
 rw [nJ (iX _)] at h0
 obtain ⟨h1,h2,h3⟩:=EH ((aM seed).take 32)
 generalize bo (aB ((aM seed).take 32))=k at*
 obtain ⟨j,rfl⟩:∃j,k=8*j:=⟨k/8,by omega⟩
 rcases Tk.mul (Nat.dvd_of_mod_eq_zero h0) with h4|h4
 ·exact absurd h4 Ro
 ·have h5:=Nat.le_of_dvd (by omega) h4
  have p2:(2:Nat)^255=57896044618658097711785492504343953926634992332820282019728792003956564819968:=by decide +kernel
  rw [p2] at h3
  unfold Lq at h5
  omega
theorem K0 (seed:List UInt8):¬Cp.mul 8 (Cp.mul (qA seed) base)=Cp.zero:=by
 intro h
 exact Ru seed ((Cq (MR seed)).1 ((yR rfl).1 h))
theorem wi (seed l:List UInt8):fA (dV seed) (eQ seed l) l=0:=by
 unfold fA
 obtain ⟨h1,h2⟩:c_ (dV seed)=Cp.mul (qA seed) base∧c9 (dV seed)=0:=qw _
 obtain ⟨h3,h4⟩:c_ (qR (qP seed) l)=Cp.mul (bK (aM (qP seed++l))) base∧c9 (qR (qP seed) l)=0:=qw _
 have e1:(eQ seed l).take 32=qR (qP seed) l:=List.take_left' (zg _ _)
 have e2:(eQ seed l).drop 32=aV 32 (qS (qA seed) (qP seed) (dV seed) l):=List.drop_left' (zg _ _)
 have hs:=Rv (qA seed) (qP seed) (dV seed) l
 have e3:bo ((eQ seed l).drop 32)=qS (qA seed) (qP seed) (dV seed) l:=by
  rw [e2,lE]
  exact Nat.mod_eq_of_lt (Nat.lt_trans hs (by decide +kernel))
 rw [if_pos h2,h1,if_neg (K0 seed),if_pos (kL seed l),e1,if_pos h4,e3,if_pos hs,if_pos]
 rw [h3,Co,Gt]
 rfl
set_option maxRecDepth 10000
structure Q4 where
 x:F
 y:F
 z:F
 t:F
@[reducible] def Q4.av (q:Q4):AV:= .agg [.ob (.x 4) q.x,.ob (.x 4) q.y,.ob (.x 4) q.z,.ob (.x 4) q.t]
def Cr:Q4:=⟨0,0,0,0⟩
def pw (x y:F):Q4:=⟨x,y,fn 1,bH x y⟩
def aA (q:Q4):Q4:=if q.z=0 then pw 0 (fn 1) else q
def jl (a b:Q4) (more:F):Q4:=
 let m:=bH (wn a.y a.x) (wn b.y b.x)
 let n:=bH (sZ a.y a.x) (sZ b.y b.x)
 let c:=bH (bH a.t more) b.t
 let z:=bH a.z b.z
 let z:=sZ z z
 let e:=wn n m
 let f:=wn z c
 let g:=sZ z c
 let h:=sZ n m
 ⟨bH e f,bH g h,bH f g,bH e h⟩
def cj (more:F) (a:Q4) (n:Nat):Nat→Q4
 |0=>aA Cr
 |j+1=>if C0 n (252-(j:Int))=1 then jl (jl (cj more a n j) (cj more a n j) more) a more else jl (cj more a n j) (cj more a n j) more
def IB:List (Nat×CF):= [(65,aq Oa),(55,aq jA),(102,aq jz),(164,aq qX),(165,aq Fl),(166,aq Fp),(168,aq Fj),(169,aq Fk),(170,aq xM),(171,aq xN),(173,aq xL),(174,aq Fm),(117,aq yg),(124,aq rj),(181,aq FK),(201,aq N8),(193,aq qW),(200,aq jB)]
theorem zT:∀p∈IB,ab p.1 p.2:=ae CE<|ae fW<|ae fU<|ae qE<|ae xf<|ae xj<|ae xd<|ae xe<|ae ub<|ae uc<|ae t_<|ae xg<|ae vZ<|ae sE<|ae zt<|ae BX<|ae qz<|ae iO fun p hp=>by cases hp
theorem IX:ap bE (ah IB):=az aF (aR zT)
theorem To:vc bE (ah IB) Tryz.f167.ntmps (ag Tryz.f167) ⟨al 0 [],[],2000⟩ (aD bE Tryz.f167.ntmps [.cell 0 122] [.agg [.ob (.x 4) dE]] []):=by
 refine ⟨⟨rfl,?_⟩,trivial⟩
 show [dE]= [bH (DG (fn 121665)) (bk (fn 121666))]
 have h1:=QL
 have h2:fn 121666*bk (fn 121666)=1:=cW (by decide +kernel)
 have h3:(fn 121665+1:F)=fn 121666:=by decide +kernel
 rw [h3] at h1
 unfold bH DG
 rw [←h1]
 generalize bk (fn 121666)=i at h2 ⊢
 generalize (fn 121666:F)=w at h2 ⊢
 generalize dE=d
 refine congrArg (fun z=> [z]) ?_
 grind
theorem LH (x y:F):vc bE (ah IB) Tryz.f172.ntmps (ag Tryz.f172) ⟨al 0 [.agg [.ob (.x 4) x],.agg [.ob (.x 4) y]],[],2000⟩ (aD bE Tryz.f172.ntmps [.cell 4 124] [(pw x y).av] []):=⟨⟨rfl,rfl⟩,⟨rfl,rfl⟩,⟨rfl,rfl⟩,⟨rfl,rfl⟩,trivial⟩
theorem Pt (a b:Q4) (d:F):vc bE (ah IB) Tryz.f180.ntmps (ag Tryz.f180) ⟨al 0 [a.av,b.av,.agg [.ob (.x 4) d]],[],2000⟩ (aD bE Tryz.f180.ntmps [.cell 6 124] [(jl a b d).av] []):=⟨⟨rfl,rfl⟩,⟨rfl,rfl⟩,⟨rfl,rfl⟩,⟨rfl,rfl⟩,trivial⟩
theorem LW:vc bE (ah IB) Tryz.f179.ntmps (ag Tryz.f179) ⟨al 0 [],[],2000⟩ (aD bE Tryz.f179.ntmps [.cell 0 122] [.agg [.ob (.x 4) fa]] []):=by
 refine ⟨⟨rfl,?_⟩,trivial⟩
 refine congrArg (fun z=> [z]) ?_
 show fa=jo [89,241,178,38,148,155,214,235,86,177,131,130,154,20,224,0,48,209,243,238,242,128,142,25,231,252,223,86,220,217,6,36]
 decide +kernel
def Ta:GF:=fun l=>match l with
 | []=>some ⟨[.agg [.ob (.x 4) dE]],[],none⟩
 |_=>none
theorem EW:ab 167 (aq Ta):=af aF IX Tryz.func167 (by kernel_rfl) rfl (rs:= [.cell 0 122]) Tryz.results167 fun l g h hp=>by
 unfold Ta at h
 split at h
 ·cases h;exact ⟨Nat.le_of_ble_eq_true rfl,rfl,rfl,rfl,To⟩
 ·cases h
def yn:GF:=fun l=>match l with
 | []=>some ⟨[.agg [.ob (.x 4) fa]],[],none⟩
 |_=>none
theorem wa:ab 179 (aq yn):=af aF IX Tryz.func179 (by kernel_rfl) rfl (rs:= [.cell 0 122]) Tryz.results179 fun l g h hp=>by
 unfold yn at h
 split at h
 ·cases h;exact ⟨Nat.le_of_ble_eq_true rfl,rfl,rfl,rfl,LW⟩
 ·cases h
def xZ:GF:=fun l=>match l with
 | [.agg [.ob (.x 4) x],.agg [.ob (.x 4) y]]=>some ⟨[(pw x y).av],[],none⟩
 |_=>none
theorem vk:ab 172 (aq xZ):=af aF IX Tryz.func172 (by kernel_rfl) rfl (rs:= [.cell 4 124]) Tryz.results172 fun l g h hp=>by
 unfold xZ at h
 split at h
 ·cases h;exact ⟨Nat.le_of_ble_eq_true rfl,rfl,rfl,rfl,LH _ _⟩
 ·cases h
def FM:GF:=fun l=>match l with
 | [.agg [.ob (.x 4) x,.ob (.x 4) y,.ob (.x 4) z,.ob (.x 4) t],.agg [.ob (.x 4) u,.ob (.x 4) v,.ob (.x 4) w,.ob (.x 4) s],.agg [.ob (.x 4) d]]=>some ⟨[(jl ⟨x,y,z,t⟩ ⟨u,v,w,s⟩ d).av],[],none⟩
 |_=>none
theorem zB:ab 180 (aq FM):=af aF IX Tryz.func180 (by kernel_rfl) rfl (rs:= [.cell 6 124]) Tryz.results180 fun l g h hp=>by
 unfold FM at h
 split at h
 ·cases h;exact ⟨Nat.le_of_ble_eq_true rfl,rfl,rfl,rfl,Pt ⟨_,_,_,_⟩ ⟨_,_,_,_⟩ _⟩
 ·cases h
def Sd:List (Nat×CF):=(167,aq Ta)::(172,aq xZ)::(179,aq yn)::(180,aq FM)::IB
theorem Md:∀p∈Sd,ab p.1 p.2:=ae EW<|ae vk<|ae wa<|ae zB zT
theorem SM:ap bE (ah Sd):=az aF (aR Md)
theorem LK (q:Q4):vc bE (ah Sd) Tryz.f178.ntmps (ag Tryz.f178) ⟨al 0 [q.av],[],2000⟩ (aD bE Tryz.f178.ntmps [.cell 2 124] [(aA q).av] []):=by
 refine ⟨fun h=> ?_,fun h=> ?_⟩
 ·have h:q.z=0:=of_decide_eq_true h
  rw [aA,if_pos h]
  exact ⟨⟨rfl,rfl⟩,⟨rfl,rfl⟩,⟨rfl,rfl⟩,⟨rfl,rfl⟩,trivial⟩
 ·have h:¬q.z=0:=of_decide_eq_false h
  rw [aA,if_neg h]
  exact ⟨⟨rfl,rfl⟩,⟨rfl,rfl⟩,⟨rfl,rfl⟩,⟨rfl,rfl⟩,trivial⟩
def ya:GF:=fun l=>match l with
 | [.agg [.ob (.x 4) x,.ob (.x 4) y,.ob (.x 4) z,.ob (.x 4) t]]=>some ⟨[(aA ⟨x,y,z,t⟩).av],[],none⟩
 |_=>none
theorem vF:ab 178 (aq ya):=af aF SM Tryz.func178 (by kernel_rfl) rfl (rs:= [.cell 2 124]) Tryz.results178 fun l g h hp=>by
 unfold ya at h
 split at h
 ·cases h;exact ⟨Nat.le_of_ble_eq_true rfl,rfl,rfl,rfl,LK ⟨_,_,_,_⟩⟩
 ·cases h
def PI:List (Nat×CF):=(178,aq ya)::Sd
theorem Me:∀p∈PI,ab p.1 p.2:=ae vF Md
theorem Nk:ap bE (ah PI):=az aF (aR Me)
theorem Ly (a b:Q4):vc bE (ah PI) Tryz.f106.ntmps (ag Tryz.f106) ⟨al 0 [a.av,b.av],[],2000⟩ (aD bE Tryz.f106.ntmps [.cell 4 124] [(jl (aA a) (aA b) fa).av] []):=⟨⟨rfl,rfl⟩,⟨rfl,rfl⟩,⟨rfl,rfl⟩,⟨rfl,rfl⟩,trivial⟩
def eR (a b:Q4):Bool:=qI (bH a.x b.z) (bH b.x a.z)&&qI (bH a.y b.z) (bH b.y a.z)
theorem LQ (a b:Q4):vc bE (ah PI) Tryz.f105.ntmps (ag Tryz.f105) ⟨al 0 [a.av,b.av],[],2000⟩ (aD bE Tryz.f105.ntmps [.tmp 4] [.one (.ob .bool (eR (aA a) (aA b)))] []):=by
 refine ⟨fun h=>⟨h,?_,trivial⟩,fun h=>⟨h,?_,trivial⟩⟩
 ·show [eR (aA a) (aA b)]= [qI (bH (aA a).y (aA b).z) (bH (aA b).y (aA a).z)]
  rw [eR,show qI (bH (aA a).x (aA b).z) (bH (aA b).x (aA a).z)=true from h,Bool.true_and]
 ·show [eR (aA a) (aA b)]= [false]
  rw [eR,show qI (bH (aA a).x (aA b).z) (bH (aA b).x (aA a).z)=false from h,Bool.false_and]
theorem Pg (a:Q4) (n:Nat):vc bE (ah PI) Tryz.f104.ntmps (ag Tryz.f104) ⟨al 0 [a.av,.agg [.ob (.x 2) n]],[],2000⟩ (aD bE Tryz.f104.ntmps [.cell 4 124] [(cj fa (aA a) n 253).av] []):=by
 refine Or.inr ⟨{j:Nat // j≤253},fun j=>⟨[(7,.one (.ob .int (252-(j.val:Int))))],[(2176,.blk 124 [.ob (.x 4) (cj fa (aA a) n j.val).x,.ob (.x 4) (cj fa (aA a) n j.val).y,.ob (.x 4) (cj fa (aA a) n j.val).z,.ob (.x 4) (cj fa (aA a) n j.val).t])]⟩,fun j=>253-j.val,⟨0,by omega⟩,?_⟩
 refine ⟨rfl,⟨rfl,rfl⟩,⟨rfl,rfl⟩,⟨rfl,rfl⟩,⟨rfl,rfl⟩,fun j=>⟨fun h2=> ?_,fun h2=> ?_⟩⟩
 ·have h2:=of_decide_eq_true h2
  have hj:=j.2
  refine ⟨by omega,fun h3=> ?_,fun h3=> ?_⟩
  ·have h3:=of_decide_eq_true h3
   refine sd<|sj ⟨j.val+1,by omega⟩ ?_
   have e:cj fa (aA a) n (j.val+1)=jl (jl (cj fa (aA a) n j.val) (cj fa (aA a) n j.val) fa) (aA a) fa:=by rw [cj,if_pos h3]
   exact sr (hp:=congrArg (fun z:Int=> [z]) (show (252:Int)-((j.val+1:Nat):Int)=252-(j.val:Int)-1 by omega)) ⟨⟨rfl,congrArg (fun q:Q4=> [q.x]) e⟩,⟨rfl,congrArg (fun q:Q4=> [q.y]) e⟩,⟨rfl,congrArg (fun q:Q4=> [q.z]) e⟩,⟨rfl,congrArg (fun q:Q4=> [q.t]) e⟩,trivial⟩
  ·have h3:=of_decide_eq_false h3
   refine sd<|sj ⟨j.val+1,by omega⟩ ?_
   have e:cj fa (aA a) n (j.val+1)=jl (cj fa (aA a) n j.val) (cj fa (aA a) n j.val) fa:=by rw [cj,if_neg h3]
   exact sr (hp:=congrArg (fun z:Int=> [z]) (show (252:Int)-((j.val+1:Nat):Int)=252-(j.val:Int)-1 by omega)) ⟨⟨rfl,congrArg (fun q:Q4=> [q.x]) e⟩,⟨rfl,congrArg (fun q:Q4=> [q.y]) e⟩,⟨rfl,congrArg (fun q:Q4=> [q.z]) e⟩,⟨rfl,congrArg (fun q:Q4=> [q.t]) e⟩,trivial⟩
 ·have h2:=of_decide_eq_false h2
  have hj:=j.2
  rw [show j.val=253 by omega]
  exact ⟨⟨rfl,rfl⟩,⟨rfl,rfl⟩,⟨rfl,rfl⟩,⟨rfl,rfl⟩,trivial⟩
def Fu:GF:=fun l=>match l with
 | [.agg [.ob (.x 4) x,.ob (.x 4) y,.ob (.x 4) z,.ob (.x 4) t],.agg [.ob (.x 2) n]]=>some ⟨[(cj fa (aA ⟨x,y,z,t⟩) n 253).av],[],none⟩
 |_=>none
theorem yO:ab 104 (aq Fu):=af aF Nk Tryz.func104 (by kernel_rfl) rfl (rs:= [.cell 4 124]) Tryz.results104 fun l g h hp=>by
 unfold Fu at h
 split at h
 ·cases h;exact ⟨Nat.le_of_ble_eq_true rfl,rfl,rfl,rfl,Pg ⟨_,_,_,_⟩ _⟩
 ·cases h
def xK:GF:=fun l=>match l with
 | [.agg [.ob (.x 4) x,.ob (.x 4) y,.ob (.x 4) z,.ob (.x 4) t],.agg [.ob (.x 4) u,.ob (.x 4) v,.ob (.x 4) w,.ob (.x 4) s]]=>some ⟨[(jl (aA ⟨x,y,z,t⟩) (aA ⟨u,v,w,s⟩) fa).av],[],none⟩
 |_=>none
theorem tV:ab 106 (aq xK):=af aF Nk Tryz.func106 (by kernel_rfl) rfl (rs:= [.cell 4 124]) Tryz.results106 fun l g h hp=>by
 unfold xK at h
 split at h
 ·cases h;exact ⟨Nat.le_of_ble_eq_true rfl,rfl,rfl,rfl,Ly ⟨_,_,_,_⟩ ⟨_,_,_,_⟩⟩
 ·cases h
def yh:GF:=fun l=>match l with
 | [.agg [.ob (.x 4) x,.ob (.x 4) y,.ob (.x 4) z,.ob (.x 4) t],.agg [.ob (.x 4) u,.ob (.x 4) v,.ob (.x 4) w,.ob (.x 4) s]]=>some ⟨[.one (.ob .bool (eR (aA ⟨x,y,z,t⟩) (aA ⟨u,v,w,s⟩)))],[],none⟩
 |_=>none
theorem vR:ab 105 (aq yh):=af aF Nk Tryz.func105 (by kernel_rfl) rfl (rs:= [.tmp 4]) Tryz.results105 fun l g h hp=>by
 unfold yh at h
 split at h
 ·cases h;exact ⟨Nat.le_of_ble_eq_true rfl,rfl,rfl,rfl,LQ ⟨_,_,_,_⟩ ⟨_,_,_,_⟩⟩
 ·cases h
def PJ:List (Nat×CF):=(104,aq Fu)::(105,aq yh)::(106,aq xK)::PI
theorem Ef:∀p∈PJ,ab p.1 p.2:=ae yO<|ae vR<|ae tV Me
theorem QB:ap bE (ah PJ):=az aF (aR Ef)
set_option maxRecDepth 10000
theorem G8 (x:UInt64) (n m:Nat) (h:64-n=m):bits BinOp.or IntKind.u64 (IntKind.u64.wrap ((x.toNat:Int)*2^m)) ((x.toNat:Int)/2^n)=((jf x n).toNat:Int):=by
 subst h
 unfold jf
 rw [show uo (iI x n) (j3 x (64-n))=uo (j3 x (64-n)) (iI x n) from UInt64.or_comm _ _,←O3,←Lo,←Ln]
theorem Ku (n m:Nat) (h1:1≤n) (h2:n≤63) (h:64-n=m):bits BinOp.and IntKind.u64 (IntKind.u64.wrap (-(n:Int))) 63=(m:Int):=by
 have e:IntKind.u64.wrap (-(n:Int))=((18446744073709551616-n:Nat):Int):=by rw [IntKind.wrap_u64];omega
 have e2:=u64_and_nat (18446744073709551616-n) 63 (by omega) (by omega)
 rw [e]
 refine e2.trans ?_
 rw [show (63:Nat)=2^6-1 from rfl,Nat.and_two_pow_sub_one_eq_mod]
 omega
set_option maxHeartbeats 400000 in
theorem G7 (x:UInt64) (n:Nat) (h1:1≤n) (h2:n≤63) (w:World):Calls Tryz.prog 236 #[.int .u64 (x.toNat:Int),.int .i64 (-(n:Int))] w fun e w'=>e= .returned (.int .u64 ((jf x n).toNat:Int))∧w=w':=by
 obtain ⟨m,hm⟩:∃m:Nat,64-n=m:=⟨_,rfl⟩
 have e1:=Ku n m h1 h2 hm
 have HE:=Lib.hid (G8 x n m hm)
 have hw:IntKind.u64.wrap (64-(m:Int))=(n:Int):=by rw [IntKind.wrap_u64];omega
 have hm0:(0:Int)≤(m:Int):=by omega
 have hm1:(m:Int)≤63:=by omega
 have hn0:(0:Int)≤(n:Int):=by omega
 have hn1:(n:Int)≤63:=by omega
 clear hm h1 h2
 go_enter Tryz.func236,Tryz.ntmps236
 go_wp2
 go_ret
 exact ⟨sy (by rw [←HE.out,IntKind.wrap_u64]),rfl⟩
theorem CS (x:UInt64) (k:Int) (hp: -63≤k∧k≤ -1) (w:World):Calls Tryz.prog 236 #[.int .u64 (x.toNat:Int),.int .i64 k] w fun e w'=>e= .returned (.int .u64 ((jf x (-k).toNat).toNat:Int))∧w=w':=by
 obtain ⟨n,rfl⟩:∃n:Nat,k= -(n:Int):=⟨(-k).toNat,by omega⟩
 rw [Int.neg_neg,Int.toNat_natCast]
 exact G7 x n (by omega) (by omega) w
def FG:GF:=fun l=>match l with
 | [.one (.ob .u64 x),.one (.ob .int k)]=>some ⟨[.one (.ob .u64 (jf x (-k).toNat))],[],some (DH (-63) k (-1))⟩
 |_=>none
theorem zl:ab 236 (aq FG):=aN Tryz.func236 (by kernel_rfl) rfl fun l g h hp=>by
 unfold FG at h
 split at h
 ·rename_i x k
  cases h
  refine ⟨rfl,rfl,fun η w vs ⟨v1,t,e1,h1,v2,t2,e2,h2,e3⟩=> ?_⟩
  subst e3 e2 e1
  cases List.singleton_inj.1 (show [v1]= [_] from h1)
  cases List.singleton_inj.1 (show [v2]= [_] from h2)
  exact (CS x k hp w).mono fun e w' ⟨he,hb⟩=>⟨_,he,by subst hb;exact Below.refl _ _,fun _ _=>rfl⟩
 ·cases h
theorem T_ {p q:Prop} (hq:q) (hp:p:=by first |omega|exact And.intro (by omega) (by omega)|(simp only [List.length_set];omega)|exact And.intro (by omega) (by rw [List.length_set];omega)|(refine And.intro (And.intro ?_ ?_) ?_<;>omega)):p∧q:=⟨hp,hq⟩
def PQ (a b c d e f g h:UInt8):Nat→List UInt8
 |0=> [a,b,c,d,e,f,g,h]
 |1=> [h,b,c,d,e,f,g,a]
 |2=> [h,g,c,d,e,f,b,a]
 |3=> [h,g,f,d,e,c,b,a]
 |_=> [h,g,f,e,d,c,b,a]
theorem La (a b c d e f g h:UInt8):∀i,(PQ a b c d e f g h i).length=8
 |0|1|2|3|_+4=>rfl
theorem Lb (a b c d e f g h:UInt8) {i:Nat} (hi:i<4):PQ a b c d e f g h (i+1)=((PQ a b c d e f g h i).set (i:Int).toNat ((PQ a b c d e f g h i).getD (7-(i:Int)).toNat 0)).set (7-(i:Int)).toNat ((PQ a b c d e f g h i).getD (i:Int).toNat 0):=by
 have:i=0∨i=1∨i=2∨i=3:=by omega
 rcases this with rfl|rfl|rfl|rfl<;>rfl
theorem Pm (a b c d e f g h:UInt8):vc bE (ah []) Tryz.f233.ntmps (ag Tryz.f233) ⟨al 0 [.one (.rw 1000)],aK 1000 [.row 5 .u8 [a,b,c,d,e,f,g,h]],2000⟩ (br bE Tryz.f233.ntmps [] [] [(1000,.row 5 .u8 [h,g,f,e,d,c,b,a])] [.row 5 .u8 [a,b,c,d,e,f,g,h]] []):=by
 refine ⟨⟨by show (-9223372036854775808:Int)≤8-1;omega,by show (8:Int)-1<9223372036854775808;omega⟩,fun _=>Or.inr ⟨{i:Nat // i≤4},fun i=>⟨[(2,.one (.ob .int (i.val:Int))),(3,.one (.ob .int (7-(i.val:Int))))],[(1000,.row 5 .u8 (PQ a b c d e f g h i.val))]⟩,fun i=>4-i.val,⟨0,by omega⟩,?_⟩⟩
 refine ⟨rfl,rfl,rfl,fun i=>⟨fun h2=> ?_,fun h2=> ?_⟩⟩
 ·have h2:=of_decide_eq_true h2
  have hi:=i.2
  have hl:=La a b c d e f g h i.val
  repeat refine T_ ?_
  refine sj ⟨i.val+1,by omega⟩ ?_
  refine sr (hp:=congrArg (fun z:Int=> [z]) (by show ((i.val+1:Nat):Int)=(i.val:Int)+1;omega))<|sr (hp:=congrArg (fun z:Int=> [z]) (by show 7-((i.val+1:Nat):Int)=7-(i.val:Int)-1;omega)) ⟨Lb a b c d e f g h (by omega),trivial⟩
 ·have h2:=of_decide_eq_false h2
  have hi:=i.2
  have e:i.val=4:=by omega
  rw [e]
  exact ⟨rfl,trivial⟩
theorem LB (b:List UInt8):vc bE (ah []) Tryz.f235.ntmps (ag Tryz.f235) ⟨al 0 [.one (.ro .u8 b)],[],2000⟩ (aD bE Tryz.f235.ntmps [.tmp 2] [.one (.ob .u64 (gb b 8))] []):=by
 refine Or.inr ⟨{i:Nat // i≤8},fun i=>⟨[(4,.one (.ob .int (i.val:Int))),(2,.one (.ob .u64 (gb b i.val)))],[]⟩,fun i=>8-i.val,⟨0,Nat.zero_le _⟩,?_⟩
 refine ⟨rfl,rfl,fun i=>⟨fun h1=> ?_,fun h1=> ?_⟩⟩
 ·have h1:=of_decide_eq_true h1
  have hi:=i.2
  refine fun _=>⟨fun h2=> ?_,fun h2=> ?_⟩
  ·have h2:=of_decide_eq_true h2
   repeat refine sd ?_
   refine sj ⟨i.val+1,by omega⟩<|sr (hp:= ?_)<|sr (hp:= ?_) trivial
   ·show [gb b (i.val+1)]= [j3 (gb b i.val) 8|||(b.getD i.val 0).toUInt64]
    rw [gb,if_pos (by omega)]
   ·show [((i.val+1:Nat):Int)]= [(i.val:Int)+1];simp
  ·have h2:=of_decide_eq_false h2
   repeat refine sd ?_
   refine sj ⟨i.val+1,by omega⟩<|sr (hp:= ?_)<|sr (hp:= ?_) trivial
   ·show [gb b (i.val+1)]= [j3 (gb b i.val) 8]
    rw [gb,if_neg (by omega)]
   ·show [((i.val+1:Nat):Int)]= [(i.val:Int)+1];simp
 ·have h1:=of_decide_eq_false h1
  have hi:=i.2
  refine ⟨?_,trivial⟩
  show [gb b 8]= [gb b i.val]
  rw [show i.val=8 by omega]
set_option maxRecDepth 10000
theorem Qd:ap bE (ah []):=az aF (aR fun p hp=>by cases hp)
def FD:fb:=fun l cs=>match l,cs with
 | [.one (.rw 1000)],[.row 5 .u8 [a,b,c,d,e,f,g,h]]=>some ⟨[],[(1000,.row 5 .u8 [h,g,f,e,d,c,b,a])],[],none⟩
 |_,_=>none
theorem zj:ab 233 (gB FD):=aQ aF Qd Tryz.func233 (by kernel_rfl) rfl (rs:= []) Tryz.results233 fun l cs g h hp=>by
 unfold FD at h
 split at h
 ·cases h;exact ⟨Nat.le_of_ble_eq_true rfl,rfl,rfl,rfl,Pm _ _ _ _ _ _ _ _⟩
 ·cases h
def xP:GF:=fun l=>match l with
 | [.one (.ro .u8 b)]=>some ⟨[.one (.ob .u64 (gb b 8))],[],none⟩
 |_=>none
theorem um:ab 235 (aq xP):=af aF Qd Tryz.func235 (by kernel_rfl) rfl (rs:= [.tmp 2]) Tryz.results235 fun l g h hp=>by
 unfold xP at h
 split at h
 ·cases h;exact ⟨Nat.le_of_ble_eq_true rfl,rfl,rfl,rfl,LB _⟩
 ·cases h
theorem If:vc bE (ah []) Tryz.f188.ntmps (ag Tryz.f188) ⟨al 0 [],[],2000⟩ (aD bE Tryz.f188.ntmps [.cell 0 178] [.agg [.vec .u64 8 FY]] []):=
 ⟨rfl,rfl,trivial⟩
theorem Dx:vc bE (ah []) Tryz.f234.ntmps (ag Tryz.f234) ⟨al 0 [],[],2000⟩ (aD bE Tryz.f234.ntmps [.cell 0 176] [.agg [.vec .u64 80 Ca]] []):=
 ⟨rfl,rfl,trivial⟩
theorem sp:ab 188 (aq yi):=af aF Qd Tryz.func188 (by kernel_rfl) rfl (rs:= [.cell 0 178]) Tryz.results188 fun l g h hp=>by
 unfold yi at h
 split at h
 ·cases h;exact ⟨Nat.le_of_ble_eq_true rfl,rfl,rfl,rfl,If⟩
 ·cases h
theorem oy:ab 234 (aq ri):=af aF Qd Tryz.func234 (by kernel_rfl) rfl (rs:= [.cell 0 176]) Tryz.results234 fun l g h hp=>by
 unfold ri at h
 split at h
 ·cases h;exact ⟨Nat.le_of_ble_eq_true rfl,rfl,rfl,rfl,Dx⟩
 ·cases h
def Sf:List (Nat×CF):= [(55,aq jA),(102,aq jz),(200,aq jB),(188,aq yi),(233,gB FD),(234,aq ri),(235,aq xP),(236,aq FG)]
theorem Mh:∀p∈Sf,ab p.1 p.2:=ae fW<|ae fU<|ae iO<|ae sp<|ae zj<|ae oy<|ae um<|ae zl fun p hp=>by cases hp
theorem SQ:ap bE (ah Sf):=az aF (aR Mh)
theorem LJ (x:UInt64):vc bE (ah Sf) Tryz.f182.ntmps (ag Tryz.f182) ⟨al 0 [.one (.ob .u64 x)],[],2000⟩ (aD bE Tryz.f182.ntmps [.tmp 2] [.one (.rw 0)] [(0,.row 5 .u8 (fF x))]):=⟨rfl,trivial⟩
def x_:GF:=fun l=>match l with
 | [.one (.ob .u64 x)]=>some ⟨[.one (.rw 0)],[(0,.row 5 .u8 (fF x))],none⟩
 |_=>none
theorem vw:ab 182 (aq x_):=af aF SQ Tryz.func182 (by kernel_rfl) rfl (rs:= [.tmp 2]) Tryz.results182 fun l g h hp=>by
 unfold x_ at h
 split at h
 ·cases h;exact ⟨Nat.le_of_ble_eq_true rfl,rfl,rfl,rfl,LJ _⟩
 ·cases h
def PM:List (Nat×CF):=(182,aq x_)::Sf
theorem Mi:∀p∈PM,ab p.1 p.2:=ae vw Mh
theorem Nn:ap bE (ah PM):=az aF (aR Mi)
theorem LI (x:UInt32):vc bE (ah PM) Tryz.f107.ntmps (ag Tryz.f107) ⟨al 0 [.one (.ob .u32 x)],[],2000⟩ (aD bE Tryz.f107.ntmps [.tmp 2] [.one (.sub 0 4 4)] [(0,.row 5 .u8 (fF x.toUInt64))]):=by
 have hl:(fF x.toUInt64).length=8:=by simp [fF,ar]
 refine ⟨⟨by decide,by show (4:Int)≤((fF x.toUInt64).length:Nat);omega⟩,rfl,by show 4=(fF x.toUInt64).length-4;omega,rfl,trivial⟩
def mH:GF:=fun l=>match l with
 | [.one (.ob .u32 x)]=>some ⟨[.one (.sub 0 4 4)],[(0,.row 5 .u8 (fF x.toUInt64))],none⟩
 |_=>none
theorem gU:ab 107 (aq mH):=af aF Nn Tryz.func107 (by kernel_rfl) rfl (rs:= [.tmp 2]) Tryz.results107 fun l g h hp=>by
 unfold mH at h
 split at h
 ·cases h;exact ⟨Nat.le_of_ble_eq_true rfl,rfl,rfl,rfl,LI _⟩
 ·cases h
theorem J8 {l:List UInt8} (h:8≤l.length):gb l 8=SX (l.take 8):=by
 have:=FT l 8 (by omega) h
 exact UInt64.toNat_inj.1 (by rw [this.1,SX,UInt64.toNat_ofNat',Nat.mod_eq_of_lt this.2])
theorem J9 {b:List UInt8} (hb:128≤b.length) {i:Nat} (hi:i<16):gb (b.drop (8*(i:Int)).toNat) 8=ax (wL (g9 b) 80) i:=by
 rw [show (8*(i:Int)).toNat=8*i by omega,J8 (by rw [List.length_drop];omega),RY _ hi]
 unfold ax g9
 rw [aZ (by omega)]
abbrev Rl (b:List UInt8) (i:Nat):List UInt64:=bx 0 80 (ax (wL (g9 b) 80)) (List.replicate 80 0) i
set_option maxHeartbeats 4000000 in
theorem Pv (h:List UInt64) (b:List UInt8) (hh:h.length=8) (hb:128≤b.length) (hb2:b.length≤16777216):vc bE (ah PM) Tryz.f190.ntmps (ag Tryz.f190) ⟨al 0 [.agg [.vec .u64 8 h],.one (.ro .u8 b)],[],2000⟩ (aD bE Tryz.f190.ntmps [.cell 4 178] [.agg [.vec .u64 8 (turn h (g9 b))]] []):=by
 refine Or.inr ⟨{i:Nat // i≤80},fun i=>⟨[(22,.one (.ob .int (i.val:Int)))],[(2032,.blk 176 [.vec .u64 80 (Rl b i.val)])]⟩,fun i=>80-i.val,⟨0,by omega⟩,?_⟩
 refine ⟨rfl,rfl,dl (by simp),fun i=>⟨fun h1=>⟨fun h2=> ?_,fun h2=> ?_⟩,fun h1=> ?_⟩⟩
 ·have h1:=of_decide_eq_true h1
  have h2:=of_decide_eq_true h2
  have hi:=i.2
  repeat refine sd ?_
  refine sj ⟨i.val+1,by omega⟩<|sr<|sr ⟨?_,trivial⟩
  exact ((congrArg (fun z=>(Rl b i.val).set i.val z) (J9 hb (by omega))).trans bq).symm
 ·have h1:=of_decide_eq_true h1
  have h2:=of_decide_eq_false h2
  have hi:=i.2
  have k:=fun m (h0:0<m) (hm:m≤16)=>show (Rl b i.val).getD (Int.toNat ((i.val:Int)-(m:Nat))) 0=ax (wL (g9 b) 80) (i.val-m) by rw [show Int.toNat ((i.val:Int)-(m:Nat))=i.val-m by omega,ce (by omega),if_pos (by omega)]
  repeat refine sd ?_
  refine sj ⟨i.val+1,by omega⟩<|sr<|sr ⟨?_,trivial⟩
  refine ((congrArg (fun z=>(Rl b i.val).set i.val z) ?_).trans bq).symm
  rw [RX _ (by omega) (by omega),←k 16 (by omega) (by omega),←k 15 (by omega) (by omega),←k 7 (by omega) (by omega),←k 2 (by omega) (by omega)]
  rfl
 ·have h1:=of_decide_eq_false h1
  have hi:=i.2
  rw [show i.val=80 by omega,show Rl b 80=wL (g9 b) 80 from (b7 (by omega)).trans (je (nS _ _))]
  refine Or.inr ⟨{t:Nat // t≤80},fun t=>⟨[(75,.one (.ob .int (t.val:Int)))],[(3144,.blk 178 [.vec .u64 8 (rL h (wL (g9 b) 80) t.val)])]⟩,fun t=>80-t.val,⟨0,by omega⟩,?_⟩
  refine ⟨rfl,rfl,rfl,fun t=>⟨fun h1=> ?_,fun h1=> ?_⟩⟩
  ·have h1:=of_decide_eq_true h1
   have ht:=t.2
   repeat refine sd ?_
   refine sj ⟨t.val+1,by omega⟩<|sr<|sr ⟨?_,trivial⟩
   rfl
  have h1:=of_decide_eq_false h1
  have ht:=t.2
  rw [show t.val=80 by omega]
  refine Or.inr ⟨{t:Nat // t≤8},fun t=>⟨[(157,.one (.ob .int (t.val:Int)))],[(2000,.blk 178 [.vec .u64 8 (bx 0 8 (fun j=>up (ax h j) (ax (rL h (wL (g9 b) 80) 80) j)) h t.val)])]⟩,fun t=>8-t.val,⟨0,by omega⟩,?_⟩
  refine ⟨rfl,rfl,dl hh,fun t=>⟨fun h1=> ?_,fun h1=> ?_⟩⟩
  ·have h1:=of_decide_eq_true h1
   have ht:=t.2
   repeat refine sd ?_
   refine sj ⟨t.val+1,by omega⟩<|sr<|sr ⟨?_,trivial⟩
   refine (congrArg (fun z=>(bx 0 8 (fun j=>up (ax h j) (ax (rL h (wL (g9 b) 80) 80) j)) h t.val).set t.val z) ?_).trans bq |>.symm
   show up ((bx 0 8 _ h t.val).getD t.val 0) _=_
   rw [ce (by omega),if_neg (by omega)]
   rfl
  have h1:=of_decide_eq_false h1
  have ht:=t.2
  rw [show t.val=8 by omega,b7 (by omega)]
  exact ⟨rfl,rfl,trivial⟩
def FO:GF:=fun l=>match l with
 | [.agg [.vec .u64 8 h],.one (.ro .u8 b)]=>some ⟨[.agg [.vec .u64 8 (turn h (g9 b))]],[],some (h.length=8∧128≤b.length∧b.length≤16777216)⟩
 |_=>none
theorem vv:ab 190 (aq FO):=af aF Nn Tryz.func190 (by kernel_rfl) rfl (rs:= [.cell 4 178]) Tryz.results190 fun l g h hp=>by
 unfold FO at h
 split at h
 ·cases h;exact ⟨Nat.le_of_ble_eq_true rfl,rfl,rfl,rfl,Pv _ _ hp.1 hp.2.1 hp.2.2⟩
 ·cases h
end Go.Proofs.YtnlhpncaldcllaaGreat
