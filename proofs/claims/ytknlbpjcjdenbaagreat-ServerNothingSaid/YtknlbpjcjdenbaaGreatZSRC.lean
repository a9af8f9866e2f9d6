/- What SR rests on, part 3 of 6: my own texts, put together (merge.py). -/
import Derived.Test.YtknlbpjcjdenbaaGreatRows
import Derived.WalkKit
import Derived.ProofKit
import Derived.Lib.Hide
import Derived.OpenShut
import Derived.WalkSpells
import Derived.StillTactics
import Derived.Laws.Pointers
import Derived.Laws.CopyOwn
import Derived.Laws.AppendOwnNone
import Derived.Deep.RegionHeld3
import Derived.RowKit3
import Derived.BigQuiet
import Derived.Deep.QuietTactic
import Derived.Deep.LoopGhost
import Derived.Deep.DeepFit
import Derived.WalkLawsBesides
import Derived.Shelf.Spec.BitsCarry
import Derived.Maps.RangeWalk
import Derived.Deep.MidRow
import Derived.Laws.IdiomStrings
import Derived.Great.BuildSlice
import Derived.Lib.AppendZerosOnto
import Derived.Deep.DeepCutAuto
import Derived.Lib.SliceRun
import Derived.Laws.ResultCell
import Derived.Laws.CopyRow
import Derived.Deep.Cut
import Derived.Deep.RegionLaw
import Derived.Laws.Tables
import Derived.StillTailTactics
import Derived.Shelf.SlIter.Nil
import Derived.Shelf.SlLaysM
import Derived.Shelf.SortM.Plain
import Derived.Shelf.SortM.SortNone
import Derived.ShutString
import Derived.ChangeOld
import Derived.ChangeMaps5
import Derived.Test.YtknlbpjcjdenbaaGreatZSRB
set_option maxRecDepth 100000
namespace Go.Proofs.YtknlbpjcjdenbaaGreat
open Go Go.RowKit
def cL:Nat→TE:=oV [(3,⟨.k .int,1,[.ob .int (Kd.df .int)]⟩),(4,⟨.k .bool,1,[.ob .bool (Kd.df .bool)]⟩),(5,⟨.k .u8,1,[.ob .u8 (Kd.df .u8)]⟩),(9,⟨.k .str,1,[.ob .str (Kd.df .str)]⟩),(25,⟨.sl 3,1,[.cv (.slice none 0 0)]⟩),(27,⟨.st [(0,3),(1,9),(2,3),(3,3),(4,25),(5,3)],6,[.ob .int (Kd.df .int),.ob .str (Kd.df .str),.ob .int (Kd.df .int),.ob .int (Kd.df .int),.cv (.slice none 0 0),.ob .int (Kd.df .int)]⟩),(28,⟨.k .int,1,[.ob .int (Kd.df .int)]⟩),(30,⟨.sl 5,1,[.cv (.slice none 0 0)]⟩),(32,⟨.st [(0,30),(1,30),(2,30),(3,30),(4,3),(5,30),(6,3),(7,30),(8,30),(9,4),(10,3)],11,[.cv (.slice none 0 0),.cv (.slice none 0 0),.cv (.slice none 0 0),.cv (.slice none 0 0),.ob .int (Kd.df .int),.cv (.slice none 0 0),.ob .int (Kd.df .int),.cv (.slice none 0 0),.cv (.slice none 0 0),.ob .bool (Kd.df .bool),.ob .int (Kd.df .int)]⟩),(91,⟨.sl 30,1,[.cv (.slice none 0 0)]⟩),(99,⟨.st [(0,30),(1,3),(2,25),(3,25)],4,[.cv (.slice none 0 0),.ob .int (Kd.df .int),.cv (.slice none 0 0),.cv (.slice none 0 0)]⟩),(111,⟨.k .u64,1,[.ob .u64 (Kd.df .u64)]⟩),(112,⟨.arr 5 111,5,[.vec .u64 5 (List.replicate 5 (Kd.df .u64))]⟩),(114,⟨.st [(0,112)],5,[.vec .u64 5 (List.replicate 5 (Kd.df .u64))]⟩),(116,⟨.st [(0,114),(5,114),(10,114),(15,114)],20,[.vec .u64 5 (List.replicate 5 (Kd.df .u64)),.vec .u64 5 (List.replicate 5 (Kd.df .u64)),.vec .u64 5 (List.replicate 5 (Kd.df .u64)),.vec .u64 5 (List.replicate 5 (Kd.df .u64))]⟩),(119,⟨.arr 4 111,4,[.vec .u64 4 (List.replicate 4 (Kd.df .u64))]⟩),(121,⟨.st [(0,119)],4,[.vec .u64 4 (List.replicate 4 (Kd.df .u64))]⟩),(131,⟨.k .u32,1,[.ob .u32 (Kd.df .u32)]⟩),(133,⟨.k .u16,1,[.ob .u16 (Kd.df .u16)]⟩),(134,⟨.arr 256 133,256,[.vec .u16 256 (List.replicate 256 (Kd.df .u16))]⟩),(135,⟨.arr 256 133,256,[.vec .u16 256 (List.replicate 256 (Kd.df .u16))]⟩),(136,⟨.arr 3 135,768,[.vec .u16 768 (List.replicate 768 (Kd.df .u16))]⟩),(137,⟨.arr 3 135,768,[.vec .u16 768 (List.replicate 768 (Kd.df .u16))]⟩),(139,⟨.arr 32 5,32,[.vec .u8 32 (List.replicate 32 (Kd.df .u8))]⟩),(140,⟨.arr 32 5,32,[.vec .u8 32 (List.replicate 32 (Kd.df .u8))]⟩),(142,⟨.arr 16 111,16,[.vec .u64 16 (List.replicate 16 (Kd.df .u64))]⟩),(143,⟨.arr 16 111,16,[.vec .u64 16 (List.replicate 16 (Kd.df .u64))]⟩),(145,⟨.st [(0,143),(16,143),(32,143)],48,[.vec .u64 16 (List.replicate 16 (Kd.df .u64)),.vec .u64 16 (List.replicate 16 (Kd.df .u64)),.vec .u64 16 (List.replicate 16 (Kd.df .u64))]⟩),(158,⟨.arr 256 133,256,[.vec .u16 256 (List.replicate 256 (Kd.df .u16))]⟩),(159,⟨.arr 3 158,768,[.vec .u16 768 (List.replicate 768 (Kd.df .u16))]⟩),(165,⟨.k .u64,1,[.ob .u64 (Kd.df .u64)]⟩),(186,⟨.arr 80 111,80,[.vec .u64 80 (List.replicate 80 (Kd.df .u64))]⟩),(188,⟨.arr 8 111,8,[.vec .u64 8 (List.replicate 8 (Kd.df .u64))]⟩),(229,⟨.arr 32 111,32,[.vec .u64 32 (List.replicate 32 (Kd.df .u64))]⟩),(232,⟨.arr 33 5,33,[.vec .u8 33 (List.replicate 33 (Kd.df .u8))]⟩),(252,⟨.arr 25 111,25,[.vec .u64 25 (List.replicate 25 (Kd.df .u64))]⟩),(258,⟨.arr 8 131,8,[.vec .u32 8 (List.replicate 8 (Kd.df .u32))]⟩),(259,⟨.arr 64 131,64,[.vec .u32 64 (List.replicate 64 (Kd.df .u32))]⟩)]
theorem aW:bk cL:=xt fun p hp=>by
 rcases List.mem_cons.1 hp with rfl|hp
 ·exact eo (k:= .int) rfl rfl rfl (by kernel_rfl) Tryz.underlying3 (bytes:=8) (by decide)
 rcases List.mem_cons.1 hp with rfl|hp
 ·exact eo (k:= .bool) rfl rfl rfl (by kernel_rfl) Tryz.underlying4 (bytes:=1) (by decide)
 rcases List.mem_cons.1 hp with rfl|hp
 ·exact eo (k:= .u8) rfl rfl rfl (by kernel_rfl) Tryz.underlying5 (bytes:=1) (by decide)
 rcases List.mem_cons.1 hp with rfl|hp
 ·exact eo (k:= .str) rfl rfl rfl (by kernel_rfl) Tryz.underlying9 (bytes:=16) (by decide)
 rcases List.mem_cons.1 hp with rfl|hp
 ·exact gW (by kernel_rfl) Tryz.underlying25 (bytes:=24) (by decide)
 rcases List.mem_cons.1 hp with rfl|hp
 ·exact fN (cells:= [.int .i64 0]++([.string ByteArray.empty]++([.int .i64 0]++([.int .i64 0]++([.slice none 0 0]++([.int .i64 0]++([]:List Value))))))) (bytes:=72) (by kernel_rfl) Tryz.underlying27 ⟨_,rfl,rfl⟩ (fun η A w=>⟨[.int .i64 0],_,rfl,rfl,⟨[.string ByteArray.empty],_,rfl,rfl,⟨[.int .i64 0],_,rfl,rfl,⟨[.int .i64 0],_,rfl,rfl,⟨[.slice none 0 0],_,rfl,⟨rfl,rfl⟩,⟨[.int .i64 0],_,rfl,rfl,rfl⟩⟩⟩⟩⟩⟩) rfl (fun k h=>by cases h) rfl (by decide)
 rcases List.mem_cons.1 hp with rfl|hp
 ·exact eo (k:= .int) rfl rfl rfl (by kernel_rfl) Tryz.underlying28 (bytes:=8) (by decide)
 rcases List.mem_cons.1 hp with rfl|hp
 ·exact gW (by kernel_rfl) Tryz.underlying30 (bytes:=24) (by decide)
 rcases List.mem_cons.1 hp with rfl|hp
 ·exact fN (cells:= [.slice none 0 0]++([.slice none 0 0]++([.slice none 0 0]++([.slice none 0 0]++([.int .i64 0]++([.slice none 0 0]++([.int .i64 0]++([.slice none 0 0]++([.slice none 0 0]++([.bool false]++([.int .i64 0]++([]:List Value)))))))))))) (bytes:=200) (by kernel_rfl) Tryz.underlying32 ⟨_,rfl,rfl⟩ (fun η A w=>⟨[.slice none 0 0],_,rfl,⟨rfl,rfl⟩,⟨[.slice none 0 0],_,rfl,⟨rfl,rfl⟩,⟨[.slice none 0 0],_,rfl,⟨rfl,rfl⟩,⟨[.slice none 0 0],_,rfl,⟨rfl,rfl⟩,⟨[.int .i64 0],_,rfl,rfl,⟨[.slice none 0 0],_,rfl,⟨rfl,rfl⟩,⟨[.int .i64 0],_,rfl,rfl,⟨[.slice none 0 0],_,rfl,⟨rfl,rfl⟩,⟨[.slice none 0 0],_,rfl,⟨rfl,rfl⟩,⟨[.bool false],_,rfl,rfl,⟨[.int .i64 0],_,rfl,rfl,rfl⟩⟩⟩⟩⟩⟩⟩⟩⟩⟩⟩) rfl (fun k h=>by cases h) rfl (by decide)
 rcases List.mem_cons.1 hp with rfl|hp
 ·exact gW (by kernel_rfl) Tryz.underlying91 (bytes:=24) (by decide)
 rcases List.mem_cons.1 hp with rfl|hp
 ·exact fN (cells:= [.slice none 0 0]++([.int .i64 0]++([.slice none 0 0]++([.slice none 0 0]++([]:List Value))))) (bytes:=80) (by kernel_rfl) Tryz.underlying99 ⟨_,rfl,rfl⟩ (fun η A w=>⟨[.slice none 0 0],_,rfl,⟨rfl,rfl⟩,⟨[.int .i64 0],_,rfl,rfl,⟨[.slice none 0 0],_,rfl,⟨rfl,rfl⟩,⟨[.slice none 0 0],_,rfl,⟨rfl,rfl⟩,rfl⟩⟩⟩⟩) rfl (fun k h=>by cases h) rfl (by decide)
 rcases List.mem_cons.1 hp with rfl|hp
 ·exact eo (k:= .u64) rfl rfl rfl (by kernel_rfl) Tryz.underlying111 (bytes:=8) (by decide)
 rcases List.mem_cons.1 hp with rfl|hp
 ·exact fN (cells:=List.replicate 5 (.int .u64 0)++([]:List Value)) (bytes:=40) (by kernel_rfl) Tryz.underlying112 rfl (fun η A w=>⟨List.replicate 5 (.int .u64 0),_,rfl,⟨List.length_replicate,ao (k:= .u64) rfl 5⟩,rfl⟩) rfl (fun k h=>by cases h) rfl (by decide)
 rcases List.mem_cons.1 hp with rfl|hp
 ·exact fN (cells:=List.replicate 5 (.int .u64 0)++([]:List Value)) (bytes:=40) (by kernel_rfl) Tryz.underlying114 ⟨_,rfl,rfl⟩ (fun η A w=>⟨List.replicate 5 (.int .u64 0),_,rfl,⟨List.length_replicate,ao (k:= .u64) rfl 5⟩,rfl⟩) rfl (fun k h=>by cases h) rfl (by decide)
 rcases List.mem_cons.1 hp with rfl|hp
 ·exact fN (cells:=List.replicate 5 (.int .u64 0)++(List.replicate 5 (.int .u64 0)++(List.replicate 5 (.int .u64 0)++(List.replicate 5 (.int .u64 0)++([]:List Value))))) (bytes:=160) (by kernel_rfl) Tryz.underlying116 ⟨_,rfl,rfl⟩ (fun η A w=>⟨List.replicate 5 (.int .u64 0),_,rfl,⟨List.length_replicate,ao (k:= .u64) rfl 5⟩,⟨List.replicate 5 (.int .u64 0),_,rfl,⟨List.length_replicate,ao (k:= .u64) rfl 5⟩,⟨List.replicate 5 (.int .u64 0),_,rfl,⟨List.length_replicate,ao (k:= .u64) rfl 5⟩,⟨List.replicate 5 (.int .u64 0),_,rfl,⟨List.length_replicate,ao (k:= .u64) rfl 5⟩,rfl⟩⟩⟩⟩) rfl (fun k h=>by cases h) rfl (by decide)
 rcases List.mem_cons.1 hp with rfl|hp
 ·exact fN (cells:=List.replicate 4 (.int .u64 0)++([]:List Value)) (bytes:=32) (by kernel_rfl) Tryz.underlying119 rfl (fun η A w=>⟨List.replicate 4 (.int .u64 0),_,rfl,⟨List.length_replicate,ao (k:= .u64) rfl 4⟩,rfl⟩) rfl (fun k h=>by cases h) rfl (by decide)
 rcases List.mem_cons.1 hp with rfl|hp
 ·exact fN (cells:=List.replicate 4 (.int .u64 0)++([]:List Value)) (bytes:=32) (by kernel_rfl) Tryz.underlying121 ⟨_,rfl,rfl⟩ (fun η A w=>⟨List.replicate 4 (.int .u64 0),_,rfl,⟨List.length_replicate,ao (k:= .u64) rfl 4⟩,rfl⟩) rfl (fun k h=>by cases h) rfl (by decide)
 rcases List.mem_cons.1 hp with rfl|hp
 ·exact eo (k:= .u32) rfl rfl rfl (by kernel_rfl) Tryz.underlying131 (bytes:=4) (by decide)
 rcases List.mem_cons.1 hp with rfl|hp
 ·exact eo (k:= .u16) rfl rfl rfl (by kernel_rfl) Tryz.underlying133 (bytes:=2) (by decide)
 rcases List.mem_cons.1 hp with rfl|hp
 ·exact fN (cells:=List.replicate 256 (.int .u16 0)++([]:List Value)) (bytes:=512) (by kernel_rfl) Tryz.underlying134 rfl (fun η A w=>⟨List.replicate 256 (.int .u16 0),_,rfl,⟨List.length_replicate,ao (k:= .u16) rfl 256⟩,rfl⟩) rfl (fun k h=>by cases h) rfl (by decide)
 rcases List.mem_cons.1 hp with rfl|hp
 ·exact fN (cells:=List.replicate 256 (.int .u16 0)++([]:List Value)) (bytes:=512) (by kernel_rfl) Tryz.underlying135 rfl (fun η A w=>⟨List.replicate 256 (.int .u16 0),_,rfl,⟨List.length_replicate,ao (k:= .u16) rfl 256⟩,rfl⟩) rfl (fun k h=>by cases h) rfl (by decide)
 rcases List.mem_cons.1 hp with rfl|hp
 ·exact fN (cells:=List.replicate 768 (.int .u16 0)++([]:List Value)) (bytes:=1536) (by kernel_rfl) Tryz.underlying136 rfl (fun η A w=>⟨List.replicate 768 (.int .u16 0),_,rfl,⟨List.length_replicate,ao (k:= .u16) rfl 768⟩,rfl⟩) rfl (fun k h=>by cases h) rfl (by decide)
 rcases List.mem_cons.1 hp with rfl|hp
 ·exact fN (cells:=List.replicate 768 (.int .u16 0)++([]:List Value)) (bytes:=1536) (by kernel_rfl) Tryz.underlying137 rfl (fun η A w=>⟨List.replicate 768 (.int .u16 0),_,rfl,⟨List.length_replicate,ao (k:= .u16) rfl 768⟩,rfl⟩) rfl (fun k h=>by cases h) rfl (by decide)
 rcases List.mem_cons.1 hp with rfl|hp
 ·exact fN (cells:=List.replicate 32 (.int .u8 0)++([]:List Value)) (bytes:=32) (by kernel_rfl) Tryz.underlying139 rfl (fun η A w=>⟨List.replicate 32 (.int .u8 0),_,rfl,⟨List.length_replicate,ao (k:= .u8) rfl 32⟩,rfl⟩) rfl (fun k h=>by cases h) rfl (by decide)
 rcases List.mem_cons.1 hp with rfl|hp
 ·exact fN (cells:=List.replicate 32 (.int .u8 0)++([]:List Value)) (bytes:=32) (by kernel_rfl) Tryz.underlying140 rfl (fun η A w=>⟨List.replicate 32 (.int .u8 0),_,rfl,⟨List.length_replicate,ao (k:= .u8) rfl 32⟩,rfl⟩) rfl (fun k h=>by cases h) rfl (by decide)
 rcases List.mem_cons.1 hp with rfl|hp
 ·exact fN (cells:=List.replicate 16 (.int .u64 0)++([]:List Value)) (bytes:=128) (by kernel_rfl) Tryz.underlying142 rfl (fun η A w=>⟨List.replicate 16 (.int .u64 0),_,rfl,⟨List.length_replicate,ao (k:= .u64) rfl 16⟩,rfl⟩) rfl (fun k h=>by cases h) rfl (by decide)
 rcases List.mem_cons.1 hp with rfl|hp
 ·exact fN (cells:=List.replicate 16 (.int .u64 0)++([]:List Value)) (bytes:=128) (by kernel_rfl) Tryz.underlying143 rfl (fun η A w=>⟨List.replicate 16 (.int .u64 0),_,rfl,⟨List.length_replicate,ao (k:= .u64) rfl 16⟩,rfl⟩) rfl (fun k h=>by cases h) rfl (by decide)
 rcases List.mem_cons.1 hp with rfl|hp
 ·exact fN (cells:=List.replicate 16 (.int .u64 0)++(List.replicate 16 (.int .u64 0)++(List.replicate 16 (.int .u64 0)++([]:List Value)))) (bytes:=384) (by kernel_rfl) Tryz.underlying145 ⟨_,rfl,rfl⟩ (fun η A w=>⟨List.replicate 16 (.int .u64 0),_,rfl,⟨List.length_replicate,ao (k:= .u64) rfl 16⟩,⟨List.replicate 16 (.int .u64 0),_,rfl,⟨List.length_replicate,ao (k:= .u64) rfl 16⟩,⟨List.replicate 16 (.int .u64 0),_,rfl,⟨List.length_replicate,ao (k:= .u64) rfl 16⟩,rfl⟩⟩⟩) rfl (fun k h=>by cases h) rfl (by decide)
 rcases List.mem_cons.1 hp with rfl|hp
 ·exact fN (cells:=List.replicate 256 (.int .u16 0)++([]:List Value)) (bytes:=512) (by kernel_rfl) Tryz.underlying158 rfl (fun η A w=>⟨List.replicate 256 (.int .u16 0),_,rfl,⟨List.length_replicate,ao (k:= .u16) rfl 256⟩,rfl⟩) rfl (fun k h=>by cases h) rfl (by decide)
 rcases List.mem_cons.1 hp with rfl|hp
 ·exact fN (cells:=List.replicate 768 (.int .u16 0)++([]:List Value)) (bytes:=1536) (by kernel_rfl) Tryz.underlying159 rfl (fun η A w=>⟨List.replicate 768 (.int .u16 0),_,rfl,⟨List.length_replicate,ao (k:= .u16) rfl 768⟩,rfl⟩) rfl (fun k h=>by cases h) rfl (by decide)
 rcases List.mem_cons.1 hp with rfl|hp
 ·exact eo (k:= .u64) rfl rfl rfl (by kernel_rfl) Tryz.underlying165 (bytes:=8) (by decide)
 rcases List.mem_cons.1 hp with rfl|hp
 ·exact fN (cells:=List.replicate 80 (.int .u64 0)++([]:List Value)) (bytes:=640) (by kernel_rfl) Tryz.underlying186 rfl (fun η A w=>⟨List.replicate 80 (.int .u64 0),_,rfl,⟨List.length_replicate,ao (k:= .u64) rfl 80⟩,rfl⟩) rfl (fun k h=>by cases h) rfl (by decide)
 rcases List.mem_cons.1 hp with rfl|hp
 ·exact fN (cells:=List.replicate 8 (.int .u64 0)++([]:List Value)) (bytes:=64) (by kernel_rfl) Tryz.underlying188 rfl (fun η A w=>⟨List.replicate 8 (.int .u64 0),_,rfl,⟨List.length_replicate,ao (k:= .u64) rfl 8⟩,rfl⟩) rfl (fun k h=>by cases h) rfl (by decide)
 rcases List.mem_cons.1 hp with rfl|hp
 ·exact fN (cells:=List.replicate 32 (.int .u64 0)++([]:List Value)) (bytes:=256) (by kernel_rfl) Tryz.underlying229 rfl (fun η A w=>⟨List.replicate 32 (.int .u64 0),_,rfl,⟨List.length_replicate,ao (k:= .u64) rfl 32⟩,rfl⟩) rfl (fun k h=>by cases h) rfl (by decide)
 rcases List.mem_cons.1 hp with rfl|hp
 ·exact fN (cells:=List.replicate 33 (.int .u8 0)++([]:List Value)) (bytes:=33) (by kernel_rfl) Tryz.underlying232 rfl (fun η A w=>⟨List.replicate 33 (.int .u8 0),_,rfl,⟨List.length_replicate,ao (k:= .u8) rfl 33⟩,rfl⟩) rfl (fun k h=>by cases h) rfl (by decide)
 rcases List.mem_cons.1 hp with rfl|hp
 ·exact fN (cells:=List.replicate 25 (.int .u64 0)++([]:List Value)) (bytes:=200) (by kernel_rfl) Tryz.underlying252 rfl (fun η A w=>⟨List.replicate 25 (.int .u64 0),_,rfl,⟨List.length_replicate,ao (k:= .u64) rfl 25⟩,rfl⟩) rfl (fun k h=>by cases h) rfl (by decide)
 rcases List.mem_cons.1 hp with rfl|hp
 ·exact fN (cells:=List.replicate 8 (.int .u32 0)++([]:List Value)) (bytes:=32) (by kernel_rfl) Tryz.underlying258 rfl (fun η A w=>⟨List.replicate 8 (.int .u32 0),_,rfl,⟨List.length_replicate,ao (k:= .u32) rfl 8⟩,rfl⟩) rfl (fun k h=>by cases h) rfl (by decide)
 rcases List.mem_cons.1 hp with rfl|hp
 ·exact fN (cells:=List.replicate 64 (.int .u32 0)++([]:List Value)) (bytes:=256) (by kernel_rfl) Tryz.underlying259 rfl (fun η A w=>⟨List.replicate 64 (.int .u32 0),_,rfl,⟨List.length_replicate,ao (k:= .u32) rfl 64⟩,rfl⟩) rfl (fun k h=>by cases h) rfl (by decide)
 cases hp
theorem MW:vc GS MY Tryz.f138.ntmps (ah Tryz.f138) ⟨aq 0 [],[],2000⟩ (aI GS Tryz.f138.ntmps [.cell 0 188] [.agg [.vec .u64 8 BD]] []):=
 ⟨rfl,rfl,trivial⟩
set_option maxRecDepth 4000 in
theorem Kg:vc GS MY Tryz.f137.ntmps (ah Tryz.f137) ⟨aq 0 [],[],2000⟩ (aI GS Tryz.f137.ntmps [.cell 0 186] [.agg [.vec .u64 80 zR]] []):=
 ⟨rfl,rfl,trivial⟩
def kX:GF:=fun l=>match l with
 | []=>some ⟨[.agg [.vec .u64 8 BD]],[],none⟩
 |_=>none
theorem nB:af 138 (ar kX):=ai JE yd Tryz.func138 (by kernel_rfl) rfl (rs:= [.cell 0 188]) Tryz.results138 fun l g h hp=>by
 unfold kX at h
 split at h
 ·cases h;exact ⟨Nat.le_of_ble_eq_true rfl,rfl,rfl,rfl,MW⟩
 ·cases h
def iM:GF:=fun l=>match l with
 | []=>some ⟨[.agg [.vec .u64 80 zR]],[],none⟩
 |_=>none
set_option maxRecDepth 4000 in
theorem mg:af 137 (ar iM):=ai JE yd Tryz.func137 (by kernel_rfl) rfl (rs:= [.cell 0 186]) Tryz.results137 fun l g h hp=>by
 unfold iM at h
 split at h
 ·cases h;exact ⟨Nat.le_of_ble_eq_true rfl,rfl,rfl,rfl,Kg⟩
 ·cases h
def X7:Nat→Option CF:=ap [(90,ar Iq),(95,ar Jx),(137,ar iM),(138,ar kX),(139,ar nQ),(140,ar tM),(143,ar D5),(219,ar Pl)]
def dj {α:Type} (d:α) (n:Nat) (f:Nat→α) (old:List α) (i:Nat):List α:=(List.range n).map fun j=>if j<i then f j else old.getD j d
section
variable {α:Type} {d:α} {n:Nat} {f:Nat→α} {old:List α}
theorem mj (i:Nat):(dj d n f old i).length=n:=by simp [dj]
theorem io {i j:Nat} (h:j<n):(dj d n f old i).getD j d=if j<i then f j else old.getD j d:=by
 simp [dj,List.getD_eq_getElem?_getD,h]
theorem eE (h:old.length=n):dj d n f old 0=old:=by
 apply List.ext_getElem (by simp [dj,h])
 intro j h1 h2
 simp [dj,List.getD_eq_getElem?_getD,h2]
theorem bN {i:Nat}:(dj d n f old i).set i (f i)=dj d n f old (i+1):=by
 apply List.ext_getElem (by simp [dj])
 intro j h1 h2
 rw [List.getElem_set]
 by_cases e:i=j
 ·subst e;simp [dj]
 ·rw [if_neg e]
  simp only [dj,List.getElem_map,List.getElem_range]
  by_cases e2:j<i
  ·rw [if_pos e2,if_pos (by omega)]
  ·rw [if_neg e2,if_neg (by omega)]
theorem b_ {i:Nat} (h:n≤i):dj d n f old i=(List.range n).map f:=by
 apply List.map_congr_left
 intro j hj
 rw [List.mem_range] at hj
 rw [if_pos (by omega)]
end
theorem vr (x:UInt64) (n:Nat):dC x n n=(bq n x.toNat).reverse:=by
 apply List.ext_getElem (by simp [dC,au])
 intro j h1 h2
 simp only [iw] at h1
 rw [List.getElem_reverse,c_]
 simp only [dC,List.getElem_map,List.getElem_range,au]
 rw [if_pos (by omega),iz,UInt64.toUInt8_ofNat']
theorem CV (l:List UInt8):∀n,n≤8→n≤l.length→(gb l n).toNat=bm (l.take n).reverse∧bm (l.take n).reverse<256^n
 |0,_,_=>⟨rfl,by simp [bm]⟩
 |n+1,h8,h=>by
  obtain ⟨h1,h2⟩:=CV l n (by omega) (by omega)
  have e:bm (l.take (n+1)).reverse=(l.getD n 0).toNat+256*bm (l.take n).reverse:=by
   rw [List.take_add_one,List.getElem?_eq_getElem (by omega),List.getD_eq_getElem?_getD,List.getElem?_eq_getElem (by omega),List.reverse_append]
   rfl
  have hb:=(l.getD n 0).toNat_lt
  have hp:256^(n+1)≤256^8:=Nat.pow_le_pow_right (by omega) h8
  have hl:bm (l.take (n+1)).reverse<256^(n+1):=by
   rw [e,Nat.pow_succ];omega
  refine ⟨?_,hl⟩
  rw [gb,if_pos (by omega),UInt64.toNat_or,kA,h1,UInt64.toNat_ofNat',UInt8.toNat_toUInt64]
  have e2:bm (l.take n).reverse*2^8%2^64=bm (l.take n).reverse*2^8:=Nat.mod_eq_of_lt (by rw [Nat.pow_succ] at hp hl;omega)
  rw [e2,e,←Nat.shiftLeft_eq,←Nat.shiftLeft_add_eq_or_of_lt (by simpa using hb),Nat.shiftLeft_eq]
  omega
theorem YO {l:List UInt8} (h:l.length=8):gb l 8=Va l:=by
 have:=CV l 8 (by omega) (by omega)
 rw [List.take_of_length_le (by omega)] at this
 exact UInt64.toNat_inj.1 (by rw [this.1,Va,UInt64.toNat_ofNat',Nat.mod_eq_of_lt this.2])
theorem YA {l:List UInt8} (h:l.length=4):(gb l 4).toUInt32=Xs l:=by
 have:=CV l 4 (by omega) (by omega)
 rw [List.take_of_length_le (by omega)] at this
 refine UInt32.toNat_inj.1 ?_
 rw [UInt64.toNat_toUInt32,this.1,Xs,UInt32.toNat_ofNat']
theorem TT (x:UInt64):(iz x 32).toUInt32=kL x:=by
 refine UInt32.toNat_inj.1 ?_
 rw [UInt64.toNat_toUInt32,iz,UInt64.toNat_ofNat',kL,UInt32.toNat_ofNat']
 have:=x.toNat_lt
 omega
theorem le {α:Type} {d:α} {l:List α} {n:Nat} (h:l.length=n):((List.range n).map fun i=>l.getD i d)=l:=by
 apply List.ext_getElem (by simp [h])
 intro j h1 h2
 simp [List.getD_eq_getElem?_getD,h2]
theorem J0 {α β:Type} {d:α} {e:β} {l:List α} {f:α→β} {i:Nat} (h:i<l.length):(l.map f).getD i e=f (l.getD i d):=by
 simp [List.getD_eq_getElem?_getD,h]
theorem cA {α:Type} {d:α} {f:Nat→α} {n i:Nat} (h:i<n):((List.range n).map f).getD i d=f i:=by
 simp [List.getD_eq_getElem?_getD,h]
theorem fY {α:Type} (f:Nat→List α) (n:Nat):((List.range (n+1)).map f).flatten=((List.range n).map f).flatten++f n:=by
 rw [List.range_succ];simp
theorem sd {p q:Prop} (hq:q) (hp:p:=by first |omega|exact And.intro (by omega) (by omega)|exact And.intro (by omega) (And.intro (by omega) (by omega))|exact And.intro (And.intro (by omega) (by omega)) (And.intro (by omega) (by omega))|exact And.intro (by decide) (by decide)|(dsimp only [DC,Nm.toInt];omega)|exact And.intro (And.intro (by decide) (by dsimp only [Nm.toInt];omega)) trivial|exact And.intro (by decide) (by dsimp only [Nm.toInt];omega)|(refine And.intro ?_ (And.intro ?_ (And.intro ?_ ?_))<;>omega)|(simp only [List.length_append,List.length_cons,List.length_nil,List.length_replicate,List.length_take,List.length_drop];omega)|exact Int.natCast_nonneg _):p∧q:=⟨hp,hq⟩
theorem sr {p q:Prop} (hq:q) (hp:p:=by rfl):p∧q:=⟨hp,hq⟩
theorem sj {ι:Type} {μ:ι→Nat} {i:ι} {P:ι→Prop} (j:ι) (h:P j) (hm:μ j<μ i:=by first |omega|(dsimp only;omega)):∃j,μ j<μ i∧P j:=⟨j,hm,h⟩
theorem T7:az cL X7:=aD aW (br fun p hp=>by
 simp only [List.mem_cons,List.not_mem_nil,or_false] at hp
 rcases hp with rfl|rfl|rfl|rfl|rfl|rfl|rfl|rfl
 ·exact nd
 ·exact m0
 ·exact mg
 ·exact nB
 ·exact lz
 ·exact nF
 ·exact oK
 ·exact sw)
def m5 (b:List UInt8) (i:Nat):List UInt8:=b++128::List.replicate i 0
theorem ml (b:List UInt8) (i:Nat):(m5 b i).length=b.length+1+i:=by simp [m5];omega
theorem sv (b:List UInt8) (i:Nat):m5 b (i+1)=m5 b i++ [0]:=by simp [m5,List.replicate_succ']
theorem M0 (b:List UInt8):m5 b ((119-b.length%64)%64)++dC (UInt64.ofNat (b.length:Int).toNat*UInt64.ofNat 8) 8 8=eP b:=by
 unfold eP m5
 rw [vr,ou]
 refine congrArg (fun z=>_++(bq 8 z).reverse) ?_
 rw [UInt64.toNat_mul,UInt64.toNat_ofNat',UInt64.toNat_ofNat',UInt64.toNat_ofNat',Int.toNat_natCast]
 omega
theorem Rq (x:UInt32):dC x.toUInt64 4 4=Tt x:=by rw [vr,Tt,UInt32.toNat_toUInt64]
def YP:List UInt32:=dj 0 8 (fun j=>(iz (BD.getD j 0) 32).toUInt32) (List.replicate 8 0) 8
theorem Q7:YP=Yk:=by decide +kernel
abbrev sT (b:List UInt8) (i:Nat):List UInt32:=xj (zM ((eP b).drop (64*i))) 64
abbrev rO (b:List UInt8) (i j:Nat):List UInt32:=dj 0 64 (fB (sT b i)) (List.replicate 64 0) j
abbrev kE (b:List UInt8) (k:Nat):List UInt8:=((List.range k).map fun i=>Tt (fB (Ak (eP b) ((eP b).length/64)) i)).flatten
theorem pu (b:List UInt8) (k:Nat):(kE b k).length=4*k:=by
 induction k with
 |zero=>rfl
 |succ k ih=>rw [kE,fY,List.length_append,ih,MD];omega
set_option maxRecDepth 4000 in
set_option maxHeartbeats 4000000 in
theorem K6 (b:List UInt8) (hb:b.length≤8388608):vc cL X7 Tryz.f215.ntmps (ah Tryz.f215) ⟨aq 0 [.one (.ro .u8 b)],[],2000⟩ (eH [2] [.one (.rw 0)] [(0,.row 5 .u8 (fW b))]):=by
 refine Or.inr ⟨Nat,fun i=>⟨[(6,.one (.ob .int (i:Int)))],[(2112,.blk 258 [.vec .u32 8 (dj 0 8 (fun j=>(iz (BD.getD j 0) 32).toUInt32) (List.replicate 8 0) i)])]⟩,fun i=>8-i,0,?_⟩
 refine ⟨rfl,rfl,eE (by simp),fun i=>⟨fun h1=> ?_,fun h1=> ?_⟩⟩
 ·have h1:=of_decide_eq_true h1
  exact sd<|sd<|sd<|sd<|sd<|sj (i+1)<|sr<|sr ⟨bN.symm,trivial⟩
 have h1:=of_decide_eq_false h1
 rw [b_ (show 8≤i by omega),←b_ (old:=List.replicate 8 0) (d:=0) (i:=8) (by omega)]
 refine sd<|sd<|Or.inr ⟨{i:Nat // i≤(119-b.length%64)%64},fun i=>⟨[(7,.one (.rw 0))],[(0,.row 5 .u8 (m5 b i.val))]⟩,fun i=>64-i.val,⟨0,by omega⟩,?_⟩
 refine ⟨rfl,fun i=>sd fun hl=>⟨fun h1=> ?_,fun h1=> ?_⟩⟩
 ·have h1:=of_decide_eq_true h1
  have hi:=i.2
  have hn:=ml b i.val
  rw [hn] at h1
  have h2:i.val+1≤(119-b.length%64)%64:=by omega
  exact ⟨by simp [hn];omega,sj ⟨i.val+1,h2⟩ ⟨sv _ _,trivial⟩⟩
 have h1:=of_decide_eq_false h1
 have hi:=i.2
 have hn:=ml b i.val
 have hp:=G1 b
 have hi2:i.val=(119-b.length%64)%64:=by rw [hn] at h1;omega
 rw [hi2] at hn ⊢
 have e:=M0 b
 refine sd<|sd ⟨?_,fun hl=> ?_⟩
 ·show (m5 b ((119-b.length%64)%64)++dC (UInt64.ofNat (b.length:Int).toNat*UInt64.ofNat 8) 8 8).length≤_
  rw [e];omega
 refine Or.inr ⟨{i:Nat // 64*i≤(eP b).length},fun i=>⟨[(8,.one (.ob .int ((64*i.val:Nat):Int)))],[(2112,.blk 258 [.vec .u32 8 (Ak (eP b) i.val)]),(4432,.row 5 .u8 (eP b))]⟩,fun i=>8388800-i.val,⟨0,by omega⟩,?_⟩
 refine ⟨rfl,rfl,Q7.symm,e.symm,fun i hl2=>⟨fun h1=> ?_,fun h1=> ?_⟩⟩
 ·have h1:=of_decide_eq_true h1
  have hi:=i.2
  obtain ⟨i,hi0⟩:=i
  dsimp only at hi h1 ⊢
  have hl64:64*i+64≤(eP b).length:=by rw [hp] at h1 ⊢;omega
  refine Or.inr ⟨{j:Nat // j≤16},fun j=>⟨[(10,.one (.ob .int (j.val:Int)))],[(5544,.blk 259 [.vec .u32 64 (rO b i j.val)])]⟩,fun j=>16-j.val,⟨0,by omega⟩,?_⟩
  refine ⟨rfl,rfl,eE (by simp),fun j=>⟨fun h1=> ?_,fun h1=> ?_⟩⟩
  ·have h1:=of_decide_eq_true h1
   have hj:=j.2
   repeat refine sd ?_
   refine sj ⟨j.val+1,by omega⟩<|sr<|sr ⟨?_,trivial⟩
   refine (congrArg (fun z=>(rO b i j.val).set j.val z) ?_).trans bN |>.symm
   have e1:((64*i:Nat):Int)+4*(j.val:Int)+4=((64*i+4*j.val+4:Nat):Int):=by omega
   have e2:((64*i:Nat):Int)+4*(j.val:Int)=((64*i+4*j.val:Nat):Int):=by omega
   show (gb (List.take (Int.toNat (((64*i:Nat):Int)+4*(j.val:Int)+4)-Int.toNat (((64*i:Nat):Int)+4*(j.val:Int))) (List.drop (Int.toNat (((64*i:Nat):Int)+4*(j.val:Int))) (eP b))) 4).toUInt32=_
   rw [e1,e2,Int.toNat_natCast,Int.toNat_natCast,show 64*i+4*j.val+4-(64*i+4*j.val)=4 by omega,YA (by rw [List.length_take,List.length_drop];omega),S8 _ (by omega)]
   unfold fB zM
   rw [cA (by omega),List.drop_drop]
  have h1:=of_decide_eq_false h1
  have hj:=j.2
  rw [show j.val=16 by omega]
  refine Or.inr ⟨{j:Nat // 16≤j∧j≤64},fun j=>⟨[(11,.one (.ob .int (j.val:Int)))],[(5544,.blk 259 [.vec .u32 64 (rO b i j.val)])]⟩,fun j=>64-j.val,⟨16,by omega,by omega⟩,?_⟩
  refine ⟨rfl,rfl,rfl,fun j=>⟨fun h1=> ?_,fun h1=> ?_⟩⟩
  ·have h1:=of_decide_eq_true h1
   have hj:=j.2
   have k:=fun m (h0:0<m) (hm:m≤16)=>show (rO b i j.val).getD (Int.toNat ((j.val:Int)-(m:Nat))) 0=fB (sT b i) (j.val-m) by rw [show Int.toNat ((j.val:Int)-(m:Nat))=j.val-m by omega,io (by omega),if_pos (by omega)]
   repeat refine sd ?_
   refine sj ⟨j.val+1,by omega⟩<|sr<|sr ⟨?_,trivial⟩
   refine (congrArg (fun z=>(rO b i j.val).set j.val z) ?_).trans bN |>.symm
   rw [Tk _ hj.1 (by omega),←k 16 (by omega) (by omega),←k 15 (by omega) (by omega),←k 7 (by omega) (by omega),←k 2 (by omega) (by omega)]
   rfl
  have h1:=of_decide_eq_false h1
  have hj:=j.2
  rw [show j.val=64 by omega,show rO b i 64=sT b i from (b_ (by omega)).trans (le (l_ _ _))]
  refine Or.inr ⟨{t:Nat // t≤64},fun t=>⟨[(15,.one (.ob .int (t.val:Int)))],[(7672,.blk 258 [.vec .u32 8 (VI (Ak (eP b) i) (sT b i) t.val)])]⟩,fun t=>64-t.val,⟨0,by omega⟩,?_⟩
  refine ⟨rfl,rfl,rfl,fun t=>⟨fun h1=> ?_,fun h1=> ?_⟩⟩
  ·have h1:=of_decide_eq_true h1
   have ht:=t.2
   repeat refine sd ?_
   refine sj ⟨t.val+1,by omega⟩<|sr<|sr ⟨?_,trivial⟩
   have e3:fB Wh t.val=(iz (zR.getD t.val 0) 32).toUInt32:=by
    unfold fB Wh
    rw [J0 (d:=0) (by rw [List.length_take,Ir];omega),TT]
    simp [List.getD_eq_getElem?_getD,show t.val<64 by omega]
   show UD _ (fB Wh t.val) _=_
   rw [e3]
   rfl
  have h1:=of_decide_eq_false h1
  have ht:=t.2
  rw [show t.val=64 by omega]
  refine Or.inr ⟨{t:Nat // t≤8},fun t=>⟨[(20,.one (.ob .int (t.val:Int)))],[(2112,.blk 258 [.vec .u32 8 (dj 0 8 (fun j=>vp (fB (Ak (eP b) i) j) (fB (VI (Ak (eP b) i) (sT b i) 64) j)) (Ak (eP b) i) t.val)])]⟩,fun t=>8-t.val,⟨0,by omega⟩,?_⟩
  refine ⟨rfl,rfl,eE (M6 _ _),fun t=>⟨fun h1=> ?_,fun h1=> ?_⟩⟩
  ·have h1:=of_decide_eq_true h1
   have ht:=t.2
   repeat refine sd ?_
   refine sj ⟨t.val+1,by omega⟩<|sr<|sr ⟨?_,trivial⟩
   refine (congrArg (fun z=>(dj 0 8 (fun j=>vp (fB (Ak (eP b) i) j) (fB (VI (Ak (eP b) i) (sT b i) 64) j)) (Ak (eP b) i) t.val).set t.val z) ?_).trans bN |>.symm
   show vp ((dj 0 8 _ (Ak (eP b) i) t.val).getD t.val 0) _=_
   rw [io (by omega),if_neg (by omega)]
   rfl
  have h1:=of_decide_eq_false h1
  have ht:=t.2
  rw [show t.val=8 by omega,b_ (by omega)]
  repeat refine sd ?_
  refine ⟨⟨i+1,by omega⟩,(by show 8388800-(i+1)<8388800-i;omega),?_,rfl,rfl,rfl,trivial⟩
  show [((64*(i+1):Nat):Int)]= [((64*i:Nat):Int)+64]
  exact congrArg (fun z=> [z]) (by omega)
 have h1:=of_decide_eq_false h1
 have hi:=i.2
 rw [show i.val=(eP b).length/64 by omega]
 refine Or.inr ⟨{t:Nat // t≤8},fun t=>⟨[(22,.one (.ob .int (t.val:Int))),(21,.one (.rw 0))],[(0,.row 5 .u8 (kE b t.val))]⟩,fun t=>8-t.val,⟨0,by omega⟩,?_⟩
 refine ⟨rfl,rfl,fun t=>⟨fun h1=> ?_,fun h1=> ?_⟩⟩
 ·have h1:=of_decide_eq_true h1
  have ht:=t.2
  repeat refine sd ?_
  have e4:kE b (t.val+1)=kE b t.val++dC (UInt32.toUInt64 ((Ak (eP b) ((eP b).length/64)).getD t.val 0)) 4 4:=by
   rw [Rq];exact fY _ _
  refine ⟨?_,sd<|sj ⟨t.val+1,by omega⟩<|sr ⟨e4,trivial⟩⟩
  have:=pu b (t.val+1)
  show (kE b t.val++dC (UInt32.toUInt64 ((Ak (eP b) ((eP b).length/64)).getD t.val 0)) 4 4).length≤_
  rw [←e4];omega
 have h1:=of_decide_eq_false h1
 have ht:=t.2
 refine ⟨?_,trivial⟩
 show fW b=kE b t.val
 rw [show t.val=8 by omega]
 rfl
theorem ag {f:Nat} {C:CF} {l:List (Nat×CF)} (h:af f C) (hl:∀p∈l,af p.1 p.2):∀p∈(f,C)::l,af p.1 p.2:=fun p hp=>by
 rcases List.mem_cons.1 hp with rfl|hp
 ·exact h
 ·exact hl p hp
theorem pd (l:List UInt8):(fW l).length=32:=pu l 8
def vV:GF:=fun l=>match l with
 | [.one (.ro .u8 b)]=>some ⟨[.one (.rw 0)],[(0,.row 5 .u8 (fW b))],some (b.length≤8388608)⟩
 |_=>none
theorem vG:af 215 (ar vV):=aB T7 Tryz.func215 (by kernel_rfl) rfl (rs:= [2]) Tryz.results215 fun l g h hp=>by
 unfold vV at h
 split at h
 ·cases h;exact ⟨Nat.le_of_ble_eq_true rfl,rfl,rfl,rfl,K6 _ hp⟩
 ·cases h
def L1:List (Nat×CF):= [(90,ar Iq),(95,ar Jx),(137,ar iM),(138,ar kX),(139,ar nQ),(140,ar tM),(143,ar D5),(219,ar Pl)]
theorem RV:∀p∈L1,af p.1 p.2:=ag nd<|ag m0<|ag mg<|ag nB<|ag lz<|ag nF<|ag oK<|ag sw fun p hp=>by cases hp
def L2:List (Nat×CF):=(215,ar vV)::L1
theorem UY:∀p∈L2,af p.1 p.2:=ag vG RV
theorem XQ:az cL (ap L2):=aD aW (br UY)
theorem tv {α:Type} {d:α} {f:α→α} {l:List α} {n:Nat} (h:l.length=n):((List.range n).map fun j=>f (l.getD j d))=l.map f:=by
 apply List.ext_getElem (by simp [h])
 intro j h1 h2
 simp only [List.length_map] at h2
 simp [List.getD_eq_getElem?_getD,h2]
abbrev ER (c:UInt8) (l:List UInt8) (i:Nat):List UInt8:=dj 0 64 (fun j=>l.getD j 0^^^c) (List.replicate 64 0) i
theorem Ks {l:List UInt8} {n:Nat} (h:l.length≤n):(gt n l).length=n:=by simp [gt];omega
set_option maxHeartbeats 1000000 in
theorem UF (k b:List UInt8) (h:k.length≤64∧b.length≤8388000):vc cL (ap L2) Tryz.f192.ntmps (ah Tryz.f192) ⟨aq 0 [.one (.ro .u8 k),.one (.ro .u8 b)],[],2000⟩ (eH [4] [.one (.rw 0)] [(0,.row 5 .u8 (pD k b))]):=by
 refine fun hl=>⟨fun h1=> ?_,fun h1=> ?_⟩
 ·have h1:=of_decide_eq_true h1
  omega
 have hP:(gt 64 k).length=64:=Ks h.1
 repeat refine sd ?_
 refine Or.inr ⟨{i:Nat // i≤64},fun i=>⟨[(8,.one (.ob .int (i.val:Int)))],[(2080,.row 5 .u8 (gt 64 k)),(2112,.row 5 .u8 (ER 0x36 (gt 64 k) i.val)),(2144,.row 5 .u8 (ER 0x5c (gt 64 k) i.val))]⟩,fun i=>64-i.val,⟨0,by omega⟩,?_⟩
 refine ⟨rfl,?_,eE (by simp),eE (by simp),fun i=>⟨fun h1=> ?_,fun h1=> ?_⟩⟩
 ·show _=k.take 64++List.replicate (64-k.length) 0
  rw [List.take_of_length_le h.1];rfl
 ·have h1:=of_decide_eq_true h1
  have hi:=i.2
  have h2:(ER 0x36 (gt 64 k) i.val).length=64:=mj _
  have h3:(ER 0x5c (gt 64 k) i.val).length=64:=mj _
  repeat refine sd ?_
  exact sj ⟨i.val+1,by omega⟩<|sr<|sr<|⟨bN.symm,bN.symm,trivial⟩
 have h1:=of_decide_eq_false h1
 have hi:=i.2
 rw [show i.val=64 by omega,show ER 0x36 (gt 64 k) 64=(gt 64 k).map (· ^^^0x36) from (b_ (by omega)).trans (tv (d:=0) (f:=fun x=>x^^^0x36) hP),show ER 0x5c (gt 64 k) 64=(gt 64 k).map (· ^^^0x5c) from (b_ (by omega)).trans (tv (d:=0) (f:=fun x=>x^^^0x5c) hP)]
 have e1: [(gt 64 k).map (· ^^^0x36),b].flatten=(gt 64 k).map (· ^^^0x36)++b:=by simp
 have e2: [(gt 64 k).map (· ^^^0x5c),fW [(gt 64 k).map (· ^^^0x36),b].flatten].flatten=(gt 64 k).map (· ^^^0x5c)++fW ((gt 64 k).map (· ^^^0x36)++b):=by simp
 have g1:=congrArg List.length e1
 have g2:=congrArg List.length e2
 rw [List.length_append,List.length_map,hP] at g1
 rw [List.length_append,List.length_map,hP,pd] at g2
 refine ⟨⟨Nat.le_of_ble_eq_true rfl,by rw [g1];omega⟩,by rw [g1];omega,⟨Nat.le_of_ble_eq_true rfl,by rw [g2];omega⟩,by rw [g2];omega,?_,trivial⟩
 show _=fW [(gt 64 k).map (· ^^^0x5c),fW [(gt 64 k).map (· ^^^0x36),b].flatten].flatten
 rw [e2]
 unfold pD JJ
 rw [if_neg (by omega)]
def QK:GF:=fun l=>match l with
 | [.one (.ro .u8 k),.one (.ro .u8 b)]=>some ⟨[.one (.rw 0)],[(0,.row 5 .u8 (pD k b))],some (k.length≤64∧b.length≤8388000)⟩
 |_=>none
theorem EI:af 192 (ar QK):=aB XQ Tryz.func192 (by kernel_rfl) rfl (rs:= [4]) Tryz.results192 fun l g h hp=>by
 unfold QK at h
 split at h
 ·cases h;exact ⟨Nat.le_of_ble_eq_true rfl,rfl,rfl,rfl,UF _ _ hp⟩
 ·cases h
def L3:List (Nat×CF):=(192,ar QK)::L2
theorem TS:∀p∈L3,af p.1 p.2:=ag EI UY
theorem V6:az cL (ap L3):=aD aW (br TS)
theorem lX (k m:List UInt8):(pD k m).length=32:=pd _
theorem L0 (k m:List UInt8) (i:Nat):(Hr k m i).length≤32:=by
 cases i with
 |zero=>exact Nat.zero_le _
 |succ i=>exact Nat.le_of_eq (lX _ _)
theorem od (k m:List UInt8):∀i,(GA k m i).length=32*i
 |0=>rfl
 |i+1=>by
  rw [GA,List.length_append,od k m i,Hr,lX];omega
theorem I7 (k b:List UInt8) (n:Int) (h:k.length≤64∧b.length≤65536∧1≤n∧n≤8160):vc cL (ap L3) Tryz.f191.ntmps (ah Tryz.f191) ⟨aq 0 [.one (.ro .u8 k),.one (.ro .u8 b),.one (.ob .int n)],[],2000⟩ (eH [6] [.one (.sub 0 0 n.toNat)] [(0,.row 5 .u8 (GA k b ((n.toNat+31)/32)))]):=by
 refine ⟨fun h1=> ?_,fun h1=>⟨h1,fun h2=> ?_,fun h2=> ?_⟩⟩
 ·have h1:=of_decide_eq_true h1;omega
 ·have h2:=of_decide_eq_true h2;omega
 refine Or.inr ⟨{i:Nat // i≤(n.toNat+31)/32},fun i=>⟨[(7,.one (.rw 0)),(8,.one (.rw 1)),(9,.one (.ob .int ((i.val:Int)+1)))],[(0,.row 5 .u8 (GA k b i.val)),(1,.row 5 .u8 (Hr k b i.val))]⟩,fun i=>300-i.val,⟨0,by omega⟩,?_⟩
 refine ⟨rfl,rfl,rfl,fun i hl=>⟨fun h3=> ?_,fun h3=> ?_⟩⟩
 ·have h3:=of_decide_eq_true h3
  have hi:=i.2
  have e1:=od k b i.val
  have e2:=L0 k b i.val
  have e3: [Hr k b i.val,b,[UInt8.ofNat ((i.val:Int)+1).toNat]].flatten=Hr k b i.val++b++ [UInt8.ofNat (i.val+1)]:=by
   rw [show ((i.val:Int)+1).toNat=i.val+1 by omega];simp
  have e4:=congrArg List.length e3
  rw [List.length_append,List.length_append] at e4
  simp only [List.length_cons,List.length_nil] at e4
  have e5:pD k [Hr k b i.val,b,[UInt8.ofNat ((i.val:Int)+1).toNat]].flatten=Hr k b (i.val+1):=by rw [e3];rfl
  refine ⟨by omega,⟨Nat.le_of_ble_eq_true rfl,by rw [e4];omega⟩,⟨h.1,by rw [e4];omega⟩,?_,sd<|sj ⟨i.val+1,by omega⟩ ⟨?_,?_,e5.symm,trivial⟩⟩
  ·show (GA k b i.val++pD k [Hr k b i.val,b,[UInt8.ofNat ((i.val:Int)+1).toNat]].flatten).length≤_
   rw [List.length_append,lX];omega
  ·show [((i.val+1:Nat):Int)+1]= [(i.val:Int)+1+1]
   simp
  ·show GA k b (i.val+1)=GA k b i.val++pD k [Hr k b i.val,b,[UInt8.ofNat ((i.val:Int)+1).toNat]].flatten
   rw [e5];rfl
 have h3:=of_decide_eq_false h3
 have hi:=i.2
 have e1:=od k b i.val
 have e2:(n.toNat+31)/32=i.val:=by omega
 refine ⟨⟨⟨by show 0≤n;omega,by show n≤_;omega⟩,trivial⟩,rfl,rfl,?_,trivial⟩
 exact congrArg (GA k b) e2
def vt:GF:=fun l=>match l with
 | [.one (.ro .u8 k),.one (.ro .u8 b),.one (.ob .int n)]=>some ⟨[.one (.sub 0 0 n.toNat)],[(0,.row 5 .u8 (GA k b ((n.toNat+31)/32)))],some (k.length≤64∧b.length≤65536∧Dj 1 n 8160)⟩
 |_=>none
theorem uW:af 191 (ar vt):=aB V6 Tryz.func191 (by kernel_rfl) rfl (rs:= [6]) Tryz.results191 fun l g h hp=>by
 unfold vt at h
 split at h
 ·cases h;exact ⟨Nat.le_of_ble_eq_true rfl,rfl,rfl,rfl,I7 _ _ _ hp⟩
 ·cases h
def L4:List (Nat×CF):=(191,ar vt)::L3
theorem U4:∀p∈L4,af p.1 p.2:=ag uW TS
theorem WU:az cL (ap L4):=aD aW (br U4)
theorem JC (s k b:List UInt8) (n:Int) (h:s.length≤64∧k.length≤65536∧b.length≤65536∧1≤n∧n≤8160):vc cL (ap L4) Tryz.f136.ntmps (ah Tryz.f136) ⟨aq 0 [.one (.ro .u8 s),.one (.ro .u8 k),.one (.ro .u8 b),.one (.ob .int n)],[],2000⟩ (eH [8] [.one (.sub 0 0 n.toNat)] [(0,.row 5 .u8 (GA (pD s k) b ((n.toNat+31)/32)))]):=by
 have:=lX s k
 exact sd<|sd ⟨rfl,rfl,rfl,trivial⟩
def ot:GF:=fun l=>match l with
 | [.one (.ro .u8 s),.one (.ro .u8 k),.one (.ro .u8 b),.one (.ob .int n)]=>some ⟨[.one (.sub 0 0 n.toNat)],[(0,.row 5 .u8 (GA (pD s k) b ((n.toNat+31)/32)))],some (s.length≤64∧k.length≤65536∧b.length≤65536∧Dj 1 n 8160)⟩
 |_=>none
theorem lN:af 136 (ar ot):=aB WU Tryz.func136 (by kernel_rfl) rfl (rs:= [8]) Tryz.results136 fun l g h hp=>by
 unfold ot at h
 split at h
 ·cases h;exact ⟨Nat.le_of_ble_eq_true rfl,rfl,rfl,rfl,JC _ _ _ _ hp⟩
 ·cases h
def kW {α:Type} (d:α) (n:Nat) (f:Nat→α) (old:List α) (P:Nat→Bool):List α:=(List.range n).map fun j=>if P j then f j else old.getD j d
section
variable {α:Type} {d:α} {n:Nat} {f:Nat→α} {old:List α} {P Q:Nat→Bool}
theorem Lo {j:Nat} (h:j<n):(kW d n f old P).getD j d=if P j then f j else old.getD j d:=by
 simp [kW,List.getD_eq_getElem?_getD,h]
theorem td (h:old.length=n) (hP:∀j,j<n→P j=false):kW d n f old P=old:=by
 apply List.ext_getElem (by simp [kW,h])
 intro j h1 h2
 simp [kW,List.getD_eq_getElem?_getD,h2,hP j (by omega)]
theorem zx (hP:∀j,j<n→P j=true):kW d n f old P=(List.range n).map f:=by
 apply List.map_congr_left
 intro j hj
 rw [List.mem_range] at hj
 rw [if_pos (hP j hj)]
theorem xo {i:Nat} (hQ:∀j,j<n→Q j=(decide (j=i)||P j)) {x:α} (hx:x=f i):(kW d n f old P).set i x=kW d n f old Q:=by
 subst hx
 apply List.ext_getElem (by simp [kW])
 intro j h1 h2
 have hj:j<n:=by simpa [kW] using h2
 rw [List.getElem_set]
 simp only [kW,List.getElem_map,List.getElem_range,hQ j hj]
 by_cases e:i=j
 ·subst e;simp
 ·rw [if_neg e];simp [show j≠i from fun h=>e h.symm]
theorem qg (hQ:∀j,j<n→Q j=P j):kW d n f old P=kW d n f old Q:=by
 apply List.map_congr_left
 intro j hj
 rw [List.mem_range] at hj
 rw [hQ j hj]
end
def kC (A:List UInt64) (x:Nat):UInt64:=cD A x^^^cD A (x+5)^^^cD A (x+10)^^^cD A (x+15)^^^cD A (x+20)
def kD (A:List UInt64) (x:Nat):UInt64:=kC A ((x+4)%5)^^^(kA (kC A ((x+1)%5)) 1|||iz (kC A ((x+1)%5)) 63)
def mH (A:List UInt64):List UInt64:=(List.range 25).map fun k=>cD A k^^^kD A (k%5)
def rT (t:Nat):Nat:=(t+1)*(t+2)/2%64
def fE (A:List UInt64):Nat→(Nat×Nat)×List UInt64
 |0=>((1,0),(List.replicate 25 0).set 0 (cD A 0))
 |t+1=>(((fE A t).1.2,(2*(fE A t).1.1+3*(fE A t).1.2)%5),(fE A t).2.set ((fE A t).1.2+5*((2*(fE A t).1.1+3*(fE A t).1.2)%5)) (kA (cD A ((fE A t).1.1+5*(fE A t).1.2)) (rT t)|||iz (cD A ((fE A t).1.1+5*(fE A t).1.2)) (64-rT t)))
theorem Ia (A:List UInt64):∀t,(fE A t).1.1<5∧(fE A t).1.2<5
 |0=>⟨by simp [fE],by simp [fE]⟩
 |t+1=>⟨(Ia A t).2,Nat.mod_lt _ (by omega)⟩
theorem Sn:∀t,t<24→0<rT t∧(t+1)*(t+2)≤1000:=by decide
theorem Td (x y:Nat):((y:Int)+5*((2*(x:Int)+3*(y:Int))%5)).toNat=y+5*((2*x+3*y)%5):=by
 rw [show 2*(x:Int)+3*(y:Int)=((2*x+3*y:Nat):Int) by omega]
 generalize 2*x+3*y=m
 omega
def gF (A:List UInt64):List UInt64:=(fE A 24).2
def A2 (B:List UInt64):List UInt64:=(List.range 25).map fun k=>cD B k^^^(~~~cD B ((k%5+1)%5+5*(k/5))&&&cD B ((k%5+2)%5+5*(k/5)))
def TH (l:UInt8):UInt8:=if r8 l 7=1 then s8 l 1^^^113 else s8 l 1
def cd (A:List UInt64) (l:UInt8):Nat→List UInt64×UInt8
 |0=>(A,l)
 |j+1=>(if (cd A l j).2&&&1=1 then (cd A l j).1.set 0 (cD (cd A l j).1 0^^^kA 1 (kA 1 j-1).toNat) else (cd A l j).1,TH (cd A l j).2)
def Cw (s:List UInt64×UInt8):List UInt64×UInt8:=cd (A2 (gF (mH s.1))) s.2 7
def LQ (A:List UInt64):Nat→List UInt64×UInt8
 |0=>(A,1)
 |i+1=>Cw (LQ A i)
def jH (A:List UInt64):List UInt64:=(LQ A 24).1
theorem mB {A:List UInt64} {l:UInt8} (h:A.length=25):∀j,(cd A l j).1.length=25
 |0=>h
 |j+1=>by
  simp only [cd]
  split
  ·rw [List.length_set];exact mB h j
  ·exact mB h j
theorem C0 {A:List UInt64} (h:A.length=25):∀i,(LQ A i).1.length=25
 |0=>h
 |i+1=>mB (by simp [A2]) 7
theorem mA {A:List UInt64} (h:A.length=25):(jH A).length=25:=C0 h 24
abbrev Tr (A:List UInt64) (x y:Nat):List UInt64:=kW 0 25 (fun k=>cD A k^^^kD A (k%5)) A fun k=>decide (k%5<x)||(decide (k%5=x)&&decide (k/5<y))
abbrev Vb (A B:List UInt64) (y x:Nat):List UInt64:=kW 0 25 (fun k=>cD B k^^^(~~~cD B ((k%5+1)%5+5*(k/5))&&&cD B ((k%5+2)%5+5*(k/5)))) A fun k=>decide (k/5<y)||(decide (k/5=y)&&decide (k%5<x))
set_option maxRecDepth 10000 in
set_option maxHeartbeats 10000000 in
theorem Fc (A:List UInt64) (hA:A.length=25):vc cL (ap L3) Tryz.f216.ntmps (ah Tryz.f216) ⟨aq 0 [.agg [.vec .u64 25 A]],[],2000⟩ (aI cL Tryz.f216.ntmps [.cell 2 252] [.agg [.vec .u64 25 (jH A)]] []):=by
 refine Or.inr ⟨{i:Nat // i≤24},fun i=>⟨[(4,.one (.ob .int (i.val:Int))),(3,.one (.ob .u8 (LQ A i.val).2))],[(2000,.blk 252 [.vec .u64 25 (LQ A i.val).1])]⟩,fun i=>24-i.val,⟨0,by omega⟩,?_⟩
 refine ⟨rfl,rfl,rfl,rfl,fun i=>⟨fun h1=> ?_,fun h1=> ?_⟩⟩
 ·have h1:=of_decide_eq_true h1
  have hi:=i.2
  have hS:=C0 hA i.val
  have hR:LQ A (i.val+1)=Cw (LQ A i.val):=rfl
  revert hS hR
  generalize LQ A i.val=S
  intro hS hR
  refine Or.inr ⟨{x:Nat // x≤5},fun x=>⟨[(6,.one (.ob .int (x.val:Int)))],[(3096,.blk 112 [.vec .u64 5 (dj 0 5 (kC S.1) (List.replicate 5 0) x.val)])]⟩,fun x=>5-x.val,⟨0,by omega⟩,?_⟩
  refine ⟨rfl,rfl,eE (by simp),fun x=>⟨fun h1=> ?_,fun h1=> ?_⟩⟩
  ·have h1:=of_decide_eq_true h1
   have hx:=x.2
   repeat refine sd ?_
   exact sj ⟨x.val+1,by omega⟩<|sr<|sr ⟨bN.symm,trivial⟩
  have h1:=of_decide_eq_false h1
  have hx:=x.2
  rw [show x.val=5 by omega,b_ (by omega)]
  refine Or.inr ⟨{x:Nat // x≤5},fun x=>⟨[(7,.one (.ob .int (x.val:Int)))],[(2000,.blk 252 [.vec .u64 25 (Tr S.1 x.val 0)])]⟩,fun x=>5-x.val,⟨0,by omega⟩,?_⟩
  refine ⟨rfl,rfl,td hS (fun j _=>by simp),fun x=>⟨fun h1=> ?_,fun h1=> ?_⟩⟩
  ·have h1:=of_decide_eq_true h1
   have hx:=x.2
   repeat refine sd ?_
   refine Or.inr ⟨{y:Nat // y≤5},fun y=>⟨[(9,.one (.ob .int (y.val:Int)))],[(2000,.blk 252 [.vec .u64 25 (Tr S.1 x.val y.val)])]⟩,fun y=>5-y.val,⟨0,by omega⟩,?_⟩
   refine ⟨rfl,rfl,rfl,fun y=>⟨fun h2=> ?_,fun h2=> ?_⟩⟩
   ·have h2:=of_decide_eq_true h2
    have hy:=y.2
    have e1:((x.val:Int)+5*(y.val:Int)).toNat=x.val+5*y.val:=by omega
    repeat refine sd ?_
    refine sj ⟨y.val+1,by omega⟩<|sr<|sr ⟨?_,trivial⟩
    show Tr S.1 x.val (y.val+1)=(Tr S.1 x.val y.val).set ((x.val:Int)+5*(y.val:Int)).toNat ((Tr S.1 x.val y.val).getD ((x.val:Int)+5*(y.val:Int)).toNat 0^^^_)
    rw [e1]
    refine (xo (fun j hj=> ?_) ?_).symm
    ·rw [Bool.eq_iff_iff]
     simp only [Bool.or_eq_true,Bool.and_eq_true,decide_eq_true_eq]
     omega
    ·rw [Lo (by omega),if_neg (by simp;omega)]
     show cD S.1 _^^^(((List.range 5).map (kC S.1)).getD (((x.val:Int)+4)%5).toNat 0^^^(kA (((List.range 5).map (kC S.1)).getD (((x.val:Int)+1)%5).toNat 0) 1|||iz (((List.range 5).map (kC S.1)).getD (((x.val:Int)+1)%5).toNat 0) 63))=_
     rw [show (((x.val:Int)+4)%5).toNat=(x.val+4)%5 by omega,show (((x.val:Int)+1)%5).toNat=(x.val+1)%5 by omega,cA (by omega),cA (by omega),show (x.val+5*y.val)%5=x.val by omega]
     rfl
   have h2:=of_decide_eq_false h2
   have hy:=y.2
   repeat refine sd ?_
   refine sj ⟨x.val+1,by omega⟩<|sr<|⟨rfl,qg fun j hj=> ?_,trivial⟩
   rw [Bool.eq_iff_iff]
   simp only [Bool.or_eq_true,Bool.and_eq_true,decide_eq_true_eq]
   omega
  have h1:=of_decide_eq_false h1
  have hx:=x.2
  rw [show x.val=5 by omega,show Tr S.1 5 0=mH S.1 from zx fun j hj=>by simp;omega]
  have hT:(mH S.1).length=25:=by simp [mH]
  revert hT
  have hR2:Cw S=cd (A2 (gF (mH S.1))) S.2 7:=rfl
  rw [hR2] at hR
  revert hR
  generalize mH S.1=T
  intro hR hT
  refine Or.inr ⟨{t:Nat // t≤24},fun t=>⟨[(13,.one (.ob .int (t.val:Int))),(11,.one (.ob .int ((fE T t.val).1.1:Int))),(12,.one (.ob .int ((fE T t.val).1.2:Int)))],[(5208,.blk 252 [.vec .u64 25 (fE T t.val).2])]⟩,fun t=>24-t.val,⟨0,by omega⟩,?_⟩
  refine ⟨rfl,rfl,rfl,rfl,rfl,fun t=>⟨fun h1=> ?_,fun h1=> ?_⟩⟩
  ·have h1:=of_decide_eq_true h1
   have ht:=t.2
   obtain ⟨hx,hy⟩:=Ia T t.val
   obtain ⟨hn,hm⟩:=Sn t.val (by omega)
   have hm2:((t.val:Int)+1)*((t.val:Int)+2)=(((t.val+1)*(t.val+2):Nat):Int):=by simp
   have hn2:((t.val:Int)+1)*((t.val:Int)+2)/2%64=((rT t.val:Nat):Int):=by rw [hm2];unfold rT;omega
   have hs:fE T (t.val+1)=(((fE T t.val).1.2,(2*(fE T t.val).1.1+3*(fE T t.val).1.2)%5),(fE T t.val).2.set ((fE T t.val).1.2+5*((2*(fE T t.val).1.1+3*(fE T t.val).1.2)%5)) (kA (cD T ((fE T t.val).1.1+5*(fE T t.val).1.2)) (rT t.val)|||iz (cD T ((fE T t.val).1.1+5*(fE T t.val).1.2)) (64-rT t.val))):=rfl
   repeat refine sd ?_
   refine ⟨fun h2=> ?_,fun h2=> ?_⟩
   ·repeat refine sd ?_
    have e1:(((fE T t.val).1.1:Int)+5*((fE T t.val).1.2:Int)).toNat=(fE T t.val).1.1+5*(fE T t.val).1.2:=by omega
    have e2:=Td (fE T t.val).1.1 (fE T t.val).1.2
    refine sj ⟨t.val+1,by omega⟩<|sr<|sr ⟨congrArg (fun z:Int=> [z]) ?_,rfl,?_,trivial⟩
    ·show (((2*(fE T t.val).1.1+3*(fE T t.val).1.2)%5:Nat):Int)=(2*((fE T t.val).1.1:Int)+3*((fE T t.val).1.2:Int))%5
     omega
    ·show (fE T (t.val+1)).2=(fE T t.val).2.set (((fE T t.val).1.2:Int)+5*((2*((fE T t.val).1.1:Int)+3*((fE T t.val).1.2:Int))%5)).toNat (kA (T.getD (((fE T t.val).1.1:Int)+5*((fE T t.val).1.2:Int)).toNat 0) (((t.val:Int)+1)*((t.val:Int)+2)/2%64).toNat|||iz (T.getD (((fE T t.val).1.1:Int)+5*((fE T t.val).1.2:Int)).toNat 0) (64-((t.val:Int)+1)*((t.val:Int)+2)/2%64).toNat)
     rw [hs,e1,e2,hn2,Int.toNat_natCast,show ((64:Int)-((rT t.val:Nat):Int)).toNat=64-rT t.val by omega]
     rfl
   ·have h2:=of_decide_eq_false h2
    omega
  have h1:=of_decide_eq_false h1
  have ht:=t.2
  rw [show t.val=24 by omega,show (fE T 24).2=gF T from rfl]
  refine Or.inr ⟨{y:Nat // y≤5},fun y=>⟨[(17,.one (.ob .int (y.val:Int)))],[(2000,.blk 252 [.vec .u64 25 (Vb T (gF T) y.val 0)])]⟩,fun y=>5-y.val,⟨0,by omega⟩,?_⟩
  refine ⟨rfl,rfl,(td hT fun j _=>by simp),fun y=>⟨fun h1=> ?_,fun h1=> ?_⟩⟩
  ·have h1:=of_decide_eq_true h1
   have hy:=y.2
   refine Or.inr ⟨{x:Nat // x≤5},fun x=>⟨[(18,.one (.ob .int (x.val:Int)))],[(2000,.blk 252 [.vec .u64 25 (Vb T (gF T) y.val x.val)])]⟩,fun x=>5-x.val,⟨0,by omega⟩,?_⟩
   refine ⟨rfl,rfl,rfl,fun x=>⟨fun h2=> ?_,fun h2=> ?_⟩⟩
   ·have h2:=of_decide_eq_true h2
    have hx:=x.2
    repeat refine sd ?_
    refine sj ⟨x.val+1,by omega⟩<|sr<|sr ⟨?_,trivial⟩
    show Vb T (gF T) y.val (x.val+1)=(Vb T (gF T) y.val x.val).set ((x.val:Int)+5*(y.val:Int)).toNat ((gF T).getD ((x.val:Int)+5*(y.val:Int)).toNat 0^^^(~~~(gF T).getD (((x.val:Int)+1)%5+5*(y.val:Int)).toNat 0&&&(gF T).getD (((x.val:Int)+2)%5+5*(y.val:Int)).toNat 0))
    rw [show ((x.val:Int)+5*(y.val:Int)).toNat=x.val+5*y.val by omega,show (((x.val:Int)+1)%5+5*(y.val:Int)).toNat=(x.val+1)%5+5*y.val by omega,show (((x.val:Int)+2)%5+5*(y.val:Int)).toNat=(x.val+2)%5+5*y.val by omega]
    refine (xo (fun j hj=> ?_) ?_).symm
    ·rw [Bool.eq_iff_iff]
     simp only [Bool.or_eq_true,Bool.and_eq_true,decide_eq_true_eq]
     omega
    ·rw [show (x.val+5*y.val)%5=x.val by omega,show (x.val+5*y.val)/5=y.val by omega]
     rfl
   have h2:=of_decide_eq_false h2
   have hx:=x.2
   repeat refine sd ?_
   refine sj ⟨y.val+1,by omega⟩<|sr<|⟨rfl,qg fun j hj=> ?_,trivial⟩
   rw [Bool.eq_iff_iff]
   simp only [Bool.or_eq_true,Bool.and_eq_true,decide_eq_true_eq]
   omega
  have h1:=of_decide_eq_false h1
  have hy:=y.2
  rw [show y.val=5 by omega,show Vb T (gF T) 5 0=A2 (gF T) from zx fun j hj=>by simp;omega]
  have hC:(A2 (gF T)).length=25:=by simp [A2]
  revert hC hR
  generalize A2 (gF T)=C
  intro hR hC
  refine Or.inr ⟨{j:Nat // j≤7},fun j=>⟨[(19,.one (.ob .int (j.val:Int))),(3,.one (.ob .u8 (cd C S.2 j.val).2))],[(2000,.blk 252 [.vec .u64 25 (cd C S.2 j.val).1])]⟩,fun j=>7-j.val,⟨0,by omega⟩,?_⟩
  refine ⟨rfl,rfl,rfl,rfl,fun j=>⟨fun h1=> ?_,fun h1=> ?_⟩⟩
  ·have h1:=of_decide_eq_true h1
   have hj:=j.2
   have hj7:j.val<7:=by omega
   have hs:cd C S.2 (j.val+1)=(if (cd C S.2 j.val).2&&&1=1 then (cd C S.2 j.val).1.set 0 (cD (cd C S.2 j.val).1 0^^^kA 1 (kA 1 j.val-1).toNat) else (cd C S.2 j.val).1,TH (cd C S.2 j.val).2):=rfl
   refine ⟨fun h2=> ?_,fun h2=> ?_⟩
   ·have h2:(cd C S.2 j.val).2&&&1=1:=of_decide_eq_true h2
    repeat refine sd ?_
    refine ⟨fun h3=> ?_,fun h3=> ?_⟩
    ·have h3:r8 (cd C S.2 j.val).2 7=1:=of_decide_eq_true h3
     refine sd<|sj ⟨j.val+1,by omega⟩<|sr ⟨?_,rfl,?_,trivial⟩
     ·show [(cd C S.2 (j.val+1)).2]=_
      rw [hs,TH,if_pos h3]
      rfl
     ·show (cd C S.2 (j.val+1)).1=_
      rw [hs,if_pos h2]
      rfl
    ·have h3:¬r8 (cd C S.2 j.val).2 7=1:=of_decide_eq_false h3
     refine sd<|sj ⟨j.val+1,by omega⟩<|sr ⟨?_,rfl,?_,trivial⟩
     ·show [(cd C S.2 (j.val+1)).2]=_
      rw [hs,TH,if_neg h3]
      rfl
     ·show (cd C S.2 (j.val+1)).1=_
      rw [hs,if_pos h2]
      rfl
   ·have h2:¬(cd C S.2 j.val).2&&&1=1:=of_decide_eq_false h2
    refine ⟨fun h3=> ?_,fun h3=> ?_⟩
    ·have h3:r8 (cd C S.2 j.val).2 7=1:=of_decide_eq_true h3
     refine sd<|sj ⟨j.val+1,by omega⟩<|sr ⟨?_,rfl,?_,trivial⟩
     ·show [(cd C S.2 (j.val+1)).2]=_
      rw [hs,TH,if_pos h3]
      rfl
     ·show (cd C S.2 (j.val+1)).1=_
      rw [hs,if_neg h2]
    ·have h3:¬r8 (cd C S.2 j.val).2 7=1:=of_decide_eq_false h3
     refine sd<|sj ⟨j.val+1,by omega⟩<|sr ⟨?_,rfl,?_,trivial⟩
     ·show [(cd C S.2 (j.val+1)).2]=_
      rw [hs,TH,if_neg h3]
      rfl
     ·show (cd C S.2 (j.val+1)).1=_
      rw [hs,if_neg h2]
  have h1:=of_decide_eq_false h1
  have hj:=j.2
  rw [show j.val=7 by omega]
  repeat refine sd ?_
  refine sj ⟨i.val+1,by omega⟩<|sr ⟨?_,rfl,?_,trivial⟩
  ·show [(LQ A (i.val+1)).2]=_
   rw [hR]
  ·show (LQ A (i.val+1)).1=_
   rw [hR]
 have h1:=of_decide_eq_false h1
 have hi:=i.2
 rw [show i.val=24 by omega]
 exact ⟨rfl,rfl,trivial⟩
def oH:GF:=fun l=>match l with
 | [.agg [.vec .u64 25 A]]=>some ⟨[.agg [.vec .u64 25 (jH A)]],[],some (A.length=25)⟩
 |_=>none
theorem rk:af 216 (ar oH):=ai aW V6 Tryz.func216 (by kernel_rfl) rfl (rs:= [.cell 2 252]) Tryz.results216 fun l g h hp=>by
 unfold oH at h
 split at h
 ·cases h;exact ⟨Nat.le_of_ble_eq_true rfl,rfl,rfl,rfl,Fc _ hp⟩
 ·cases h
def L5:List (Nat×CF):=(216,ar oH)::(136,ar ot)::L4
theorem Vd:∀p∈L5,af p.1 p.2:=ag rk<|ag lN U4
theorem Xp:az cL (ap L5):=aD aW (br Vd)
def kF (r:Nat):Prop:=r=72∨r=136∨r=168
def qI (r n:Nat):Nat:=(r-(n+1)%r)%r
theorem Ut {r n i:Nat} (h:kF r) (hi:i≤qI r n) (hm:((n+1+i:Nat):Int)%(r:Int)≠0):i+1≤qI r n:=by
 unfold qI at*
 rcases h with rfl|rfl|rfl<;>omega
theorem Ue {r n i:Nat} (h:kF r) (hi:i≤qI r n) (hm:¬((n+1+i:Nat):Int)%(r:Int)≠0):i=qI r n:=by
 unfold qI at*
 rcases h with rfl|rfl|rfl<;>omega
theorem Tb {r n:Nat} (h:kF r):qI r n≤168∧∃K,n+1+qI r n=r*K:=by
 unfold qI
 rcases h with rfl|rfl|rfl
 ·exact ⟨by omega,(n+1+(72-(n+1)%72)%72)/72,by omega⟩
 ·exact ⟨by omega,(n+1+(136-(n+1)%136)%136)/136,by omega⟩
 ·exact ⟨by omega,(n+1+(168-(n+1)%168)%168)/168,by omega⟩
def FZ (b:List UInt8) (x:UInt8) (i:Nat):List UInt8:=b++x::List.replicate i 0
theorem ow (b:List UInt8) (x:UInt8) (i:Nat):(FZ b x i).length=b.length+1+i:=by simp [FZ];omega
theorem xB (b:List UInt8) (x:UInt8) (i:Nat):FZ b x (i+1)=FZ b x i++ [0]:=by simp [FZ,List.replicate_succ']
def rP (r:Nat) (x:UInt8) (b:List UInt8):List UInt8:=(FZ b x (qI r b.length)).set (b.length+qI r b.length) ((FZ b x (qI r b.length)).getD (b.length+qI r b.length) 0|||128)
theorem OC (r:Nat) (x:UInt8) (b:List UInt8):(rP r x b).length=b.length+1+qI r b.length:=by simp [rP,ow]
def N_ (s:List UInt64) (m:List UInt8) (o:Nat):Nat→List UInt64
 |0=>s
 |i+1=>(N_ s m o i).set (i/8) (cD (N_ s m o i) (i/8)^^^kA (m.getD (o+i) 0).toUInt64 (8*(i%8)))
theorem ul {s:List UInt64} (h:s.length=25) (m:List UInt8) (o:Nat):∀i,(N_ s m o i).length=25
 |0=>h
 |i+1=>by rw [N_,List.length_set];exact ul h m o i
def IP (r:Nat) (m:List UInt8):Nat→List UInt64
 |0=>List.replicate 25 0
 |k+1=>jH (N_ (IP r m k) m (r*k) r)
theorem uz (r:Nat) (m:List UInt8):∀k,(IP r m k).length=25
 |0=>rfl
 |k+1=>mA (ul (uz r m k) _ _ _)
def Rj (s:List UInt64):Nat→List UInt64
 |0=>s
 |k+1=>jH (Rj s k)
theorem tT {s:List UInt64} (h:s.length=25):∀k,(Rj s k).length=25
 |0=>h
 |k+1=>mA (tT h k)
def GV (r:Nat) (s:List UInt64) (j:Nat):UInt8:=(iz (cD (Rj s (j/r)) (j%r/8)) (8*(j%r%8))).toUInt8
def ff (r:Nat) (x:UInt8) (b:List UInt8) (n:Nat):List UInt8:=(List.range n).map (GV r (IP r (rP r x b) ((rP r x b).length/r)))
theorem Sh {r k i:Nat} (s:List UInt64) (h:i<r):GV r s (r*k+i)=(iz (cD (Rj s k) (i/8)) (8*(i%8))).toUInt8:=by
 unfold GV
 rw [Nat.mul_add_div (by omega),Nat.mul_add_mod,Nat.mod_eq_of_lt h,Nat.div_eq_of_lt h,Nat.add_zero]
theorem WR (i:Nat):((i:Int)/8).toNat=i/8:=by omega
theorem Yb (i:Nat):(8*((i:Int)%8)).toNat=8*(i%8):=by omega
theorem WG (a b:Nat):((a:Int)+(b:Int)).toNat=a+b:=by omega
theorem AO {α:Type} (f:Nat→α) (n:Nat):(List.range (n+1)).map f=(List.range n).map f++ [f n]:=by rw [List.range_succ];simp
set_option maxRecDepth 10000 in
set_option maxHeartbeats 4000000 in
theorem JL (r:Nat) (x:UInt8) (b:List UInt8) (n:Nat) (hr:kF r) (hb:b.length≤8000000) (hn:n≤65536):vc cL (ap L5) Tryz.f195.ntmps (ah Tryz.f195) ⟨aq 0 [.one (.ob .int (r:Int)),.one (.ob .u8 x),.one (.ro .u8 b),.one (.ob .int (n:Int))],[],2000⟩ (eH [8] [.one (.rw 0)] [(0,.row 5 .u8 (ff r x b n))]):=by
 have hr2:72≤r∧r≤168:=by rcases hr with rfl|rfl|rfl<;>omega
 obtain ⟨hz,K,hK⟩:=Tb (n:=b.length) hr
 refine sd<|sd<|Or.inr ⟨{i:Nat // i≤qI r b.length},fun i=>⟨[(9,.one (.rw 0))],[(0,.row 5 .u8 (FZ b x i.val))]⟩,fun i=>200-i.val,⟨0,by omega⟩,?_⟩
 refine ⟨rfl,fun i=>sd fun hl=>⟨fun h1=> ?_,fun h1=> ?_⟩⟩
 ·have h1:=of_decide_eq_true h1
  have hi:=i.2
  have hn:=ow b x i.val
  have h2:=Ut hr hi (by rw [←hn];exact h1)
  refine ⟨?_,sj ⟨i.val+1,h2⟩ ⟨xB _ _ _,trivial⟩⟩
  show (FZ b x i.val++ [0]).length≤_
  rw [←xB,ow];omega
 have h1:=of_decide_eq_false h1
 have hi:=i.2
 have hl2:=ow b x i.val
 have h2:=Ue hr hi (by rw [←hl2];exact h1)
 rw [h2] at hl2 ⊢
 repeat refine sd ?_
 refine fun _ _=> ?_
 have hM:=OC r x b
 refine Or.inr ⟨{k:Nat // k≤K},fun k=>⟨[(11,.one (.ob .int ((r*k.val:Nat):Int)))],[(2128,.row 5 .u8 (rP r x b)),(3416,.blk 252 [.vec .u64 25 (IP r (rP r x b) k.val)])]⟩,fun k=>K-k.val,⟨0,by omega⟩,?_⟩
 refine ⟨rfl,?_,rfl,rfl,fun k hl3=>⟨fun h3=> ?_,fun h3=> ?_⟩⟩
 ·show rP r x b=(FZ b x (qI r b.length)).set (((FZ b x (qI r b.length)).length:Int)-1).toNat ((FZ b x (qI r b.length)).getD (((FZ b x (qI r b.length)).length:Int)-1).toNat 0|||128)
  rw [hl2,show (((b.length+1+qI r b.length:Nat):Int)-1).toNat=b.length+qI r b.length by omega]
  rfl
 ·have h3:=of_decide_eq_true h3
  have hk:=k.2
  have h4:k.val<K:=by
   rw [hM,hK] at h3
   exact Nat.lt_of_mul_lt_mul_left (Int.ofNat_lt.1 h3)
  have h5:r*k.val+r≤(rP r x b).length:=by
   rw [hM,hK,←Nat.mul_succ]
   exact Nat.mul_le_mul_left r h4
  have h6:(rP r x b).length≤8000200:=by omega
  generalize hO:r*k.val=O at h3 h5
  refine Or.inr ⟨{i:Nat // i≤r},fun i=>⟨[(12,.one (.ob .int (i.val:Int)))],[(3416,.blk 252 [.vec .u64 25 (N_ (IP r (rP r x b) k.val) (rP r x b) O i.val)])]⟩,fun i=>r-i.val,⟨0,by omega⟩,?_⟩
  refine ⟨rfl,rfl,rfl,fun i=>⟨fun h7=> ?_,fun h7=> ?_⟩⟩
  ·have h7:=of_decide_eq_true h7
   have hi:=i.2
   repeat refine sd ?_
   refine sj ⟨i.val+1,by omega⟩<|sr<|sr ⟨?_,trivial⟩
   show N_ _ _ _ (i.val+1)=(N_ (IP r (rP r x b) k.val) (rP r x b) O i.val).set ((i.val:Int)/8).toNat ((N_ (IP r (rP r x b) k.val) (rP r x b) O i.val).getD ((i.val:Int)/8).toNat 0^^^kA (UInt8.toUInt64 ((rP r x b).getD ((O:Int)+(i.val:Int)).toNat 0)) (8*((i.val:Int)%8)).toNat)
   rw [WR,Yb,WG]
   rfl
  have h7:=of_decide_eq_false h7
  have hi:=i.2
  rw [show i.val=r by omega]
  refine ⟨ul (uz _ _ _) _ _ _,?_⟩
  repeat refine sd ?_
  refine sj ⟨k.val+1,by omega⟩ ⟨congrArg (fun z:Int=> [z]) ?_,rfl,rfl,?_,trivial⟩
  ·show ((r*(k.val+1):Nat):Int)=(O:Int)+(r:Int)
   rw [Nat.mul_succ,hO];omega
  ·show IP r (rP r x b) (k.val+1)=_
   rw [IP,hO]
 have h3:=of_decide_eq_false h3
 have hk:=k.2
 have h4:k.val=K:=by
  rw [hM,hK] at h3
  have h3:=fun h=>h3 (Int.ofNat_lt.2 h)
  rcases Nat.lt_or_ge k.val K with h|h
  ·exact absurd (Nat.mul_lt_mul_of_pos_left h (by omega)) h3
  ·omega
 rw [h4]
 have hS:ff r x b n=(List.range n).map (GV r (IP r (rP r x b) K)):=by
  unfold ff
  rw [hM,hK,Nat.mul_div_cancel_left _ (by omega)]
 have hSl:=uz r (rP r x b) K
 rw [hS]
 generalize IP r (rP r x b) K=S at hSl ⊢
 refine Or.inr ⟨{k:Nat // k≤n},fun k=>⟨[(13,.one (.rw 0))],[(3416,.blk 252 [.vec .u64 25 (Rj S k.val)]),(0,.row 5 .u8 ((List.range (min n (r*k.val))).map (GV r S)))]⟩,fun k=>n-k.val,⟨0,by omega⟩,?_⟩
 refine ⟨rfl,rfl,?_,fun k hl4=>⟨fun h5=> ?_,fun h5=> ?_⟩⟩
 ·show (List.range (min n (r*0))).map (GV r S)= []
  simp
 ·have h5:=of_decide_eq_true h5
  have hk:=k.2
  have h6:r*k.val<n:=by
   rw [List.length_map,List.length_range] at h5;omega
  have h7:72*k.val≤r*k.val:=Nat.mul_le_mul_right _ hr2.1
  have h8:r*(k.val+1)=r*k.val+r:=Nat.mul_succ _ _
  rw [show min n (r*k.val)=r*k.val by omega]
  have fin:∀i,i≤r∧r*k.val+i≤n→(i=r∨r*k.val+i=n)→(List.range (min n (r*(k.val+1)))).map (GV r S)=(List.range (r*k.val+i)).map (GV r S):=fun i hi h=>by
   rw [h8,show min n (r*k.val+r)=r*k.val+i by omega]
  refine Or.inr ⟨{i:Nat // i≤r∧r*k.val+i≤n},fun i=>⟨[(14,.one (.ob .int (i.val:Int))),(13,.one (.rw 0))],[(0,.row 5 .u8 ((List.range (r*k.val+i.val)).map (GV r S)))]⟩,fun i=>r-i.val,⟨0,by omega,by omega⟩,?_⟩
  refine ⟨rfl,rfl,fun i=>⟨fun h9=>⟨h9,fun hl5=>⟨fun h10=> ?_,fun h10=> ?_⟩⟩,fun h9=>⟨h9,?_⟩⟩⟩
  ·have h9:=of_decide_eq_true h9
   have h10:=of_decide_eq_true h10
   have hi:=i.2
   rw [List.length_map,List.length_range] at h10
   have e:(List.range (r*k.val+(i.val+1))).map (GV r S)=(List.range (r*k.val+i.val)).map (GV r S)++ [(iz ((Rj S k.val).getD ((i.val:Int)/8).toNat 0) (8*((i.val:Int)%8)).toNat).toUInt8]:=by
    rw [WR,Yb,←Nat.add_assoc,AO,Sh _ (by omega)];rfl
   repeat refine sd ?_
   refine ⟨?_,sd<|sj ⟨i.val+1,by omega,by omega⟩<|sr ⟨e,trivial⟩⟩
   show ((List.range (r*k.val+i.val)).map (GV r S)++ [(iz ((Rj S k.val).getD ((i.val:Int)/8).toNat 0) (8*((i.val:Int)%8)).toNat).toUInt8]).length≤_
   rw [←e,List.length_map,List.length_range]
   omega
  ·have h9:=of_decide_eq_true h9
   have h10:=of_decide_eq_false h10
   have hi:=i.2
   rw [List.length_map,List.length_range] at h10
   refine ⟨tT hSl _,sj ⟨k.val+1,by omega⟩ ⟨rfl,rfl,fin _ hi (by omega),trivial⟩⟩
  ·have h9:=of_decide_eq_false h9
   have hi:=i.2
   refine ⟨tT hSl _,sj ⟨k.val+1,by omega⟩ ⟨rfl,rfl,fin _ hi (by omega),trivial⟩⟩
 have h5:=of_decide_eq_false h5
 rw [List.length_map,List.length_range] at h5
 rw [show min n (r*k.val)=n by omega]
 exact ⟨rfl,trivial⟩
theorem IA {r:Int} (h:0<r.toNat):r=(r.toNat:Int):=by omega
def TU (r:Int) (b:List UInt8) (n:Int):Prop:=kF r.toNat∧b.length≤8000000∧Dj 0 n 65536
def vC:GF:=fun l=>match l with
 | [.one (.ob .int r),.one (.ob .u8 x),.one (.ro .u8 b),.one (.ob .int n)]=>some ⟨[.one (.rw 0)],[(0,.row 5 .u8 (ff r.toNat x b n.toNat))],some (TU r b n)⟩
 |_=>none
theorem vO:af 195 (ar vC):=aB Xp Tryz.func195 (by kernel_rfl) rfl (rs:= [8]) Tryz.results195 fun l g h hp=>by
 unfold vC at h
 split at h
 ·rename_i r x b n
  cases h
  obtain ⟨h1,h2,h3,h4⟩:=hp
  obtain ⟨n,rfl⟩:=Int.eq_ofNat_of_zero_le h3
  obtain ⟨r,rfl⟩:∃m:Nat,r=(m:Int):=⟨r.toNat,IA (by rcases h1 with h|h|h<;>rw [h]<;>decide)⟩
  exact ⟨Nat.le_of_ble_eq_true rfl,rfl,rfl,rfl,JL _ _ _ _ h1 h2 (by omega)⟩
 ·cases h
def L6:List (Nat×CF):=(195,ar vC)::L5
theorem VD:∀p∈L6,af p.1 p.2:=ag vO Vd
theorem UI:az cL (ap L6):=aD aW (br VD)
def lC (n:Nat) (b:List UInt8):List UInt8:=ff (200-2*n) 6 b n
def aS (k n:Nat) (b:List UInt8):List UInt8:=ff (200-2*k) 31 b (min n 65536)
theorem JU (n:Nat) (b:List UInt8) (hn:n=32∨n=64) (hb:b.length≤8000000):vc cL (ap L6) Tryz.f148.ntmps (ah Tryz.f148) ⟨aq 0 [.one (.ob .int (n:Int)),.one (.ro .u8 b)],[],2000⟩ (eH [4] [.one (.rw 0)] [(0,.row 5 .u8 (lC n b))]):=by
 have e:(200-2*(n:Int)).toNat=200-2*n:=by omega
 refine sd<|sd ⟨⟨?_,hb,by omega,by omega⟩,?_,trivial⟩
 ·show kF (200-2*(n:Int)).toNat
  rw [e]
  rcases hn with rfl|rfl
  ·exact .inr (.inl rfl)
  ·exact .inl rfl
 ·show lC n b=ff (200-2*(n:Int)).toNat 6 b n
  rw [e];rfl
theorem Dw (k n:Nat) (b:List UInt8) (hk:k=16∨k=32) (hn:1≤n) (hb:b.length≤8000000):vc cL (ap L6) Tryz.f196.ntmps (ah Tryz.f196) ⟨aq 0 [.one (.ob .int (k:Int)),.one (.ob .int (n:Int)),.one (.ro .u8 b)],[],2000⟩ (eH [6] [.one (.rw 0)] [(0,.row 5 .u8 (aS k n b))]):=by
 refine ⟨fun h1=> ?_,fun h1=> ?_⟩
 ·have h1:=of_decide_eq_true h1
  omega
 have e:(200-2*(k:Int)).toNat=200-2*k:=by omega
 have e2:(min (n:Int) 65536).toNat=min n 65536:=by omega
 refine sd<|sd ⟨⟨?_,hb,?_,?_⟩,?_,trivial⟩
 ·show kF (200-2*(k:Int)).toNat
  rw [e]
  rcases hk with rfl|rfl
  ·exact .inr (.inr rfl)
  ·exact .inr (.inl rfl)
 ·show 0≤min (n:Int) 65536
  omega
 ·show min (n:Int) 65536≤_
  omega
 ·show aS k n b=ff (200-2*(k:Int)).toNat 31 b (min (n:Int) 65536).toNat
  rw [e,e2];rfl
def Uv (n a c:Int) (b:List UInt8) (m:Int):Prop:=(n=a∨n=c)∧b.length≤8000000∧1≤m
def Kn:GF:=fun l=>match l with
 | [.one (.ob .int n),.one (.ro .u8 b)]=>some ⟨[.one (.rw 0)],[(0,.row 5 .u8 (lC n.toNat b))],some (Uv n 32 64 b 1)⟩
 |_=>none
theorem AR:af 148 (ar Kn):=aB UI Tryz.func148 (by kernel_rfl) rfl (rs:= [4]) Tryz.results148 fun l g h hp=>by
 unfold Kn at h
 split at h
 ·cases h
  obtain ⟨h1,h2,_⟩:=hp
  rcases h1 with rfl|rfl
  ·exact ⟨Nat.le_of_ble_eq_true rfl,rfl,rfl,rfl,JU 32 _ (.inl rfl) h2⟩
  ·exact ⟨Nat.le_of_ble_eq_true rfl,rfl,rfl,rfl,JU 64 _ (.inr rfl) h2⟩
 ·cases h
def AE:GF:=fun l=>match l with
 | [.one (.ob .int k),.one (.ob .int n),.one (.ro .u8 b)]=>some ⟨[.one (.rw 0)],[(0,.row 5 .u8 (aS k.toNat n.toNat b))],some (Uv k 16 32 b n)⟩
 |_=>none
theorem zh:af 196 (ar AE):=aB UI Tryz.func196 (by kernel_rfl) rfl (rs:= [6]) Tryz.results196 fun l g h hp=>by
 unfold AE at h
 split at h
 ·rename_i k n b
  cases h
  obtain ⟨h1,h2,h3⟩:=hp
  obtain ⟨n,rfl⟩:=Int.eq_ofNat_of_zero_le (show (0:Int)≤n by omega)
  rcases h1 with rfl|rfl
  ·exact ⟨Nat.le_of_ble_eq_true rfl,rfl,rfl,rfl,Dw 16 _ _ (.inl rfl) (by omega) h2⟩
  ·exact ⟨Nat.le_of_ble_eq_true rfl,rfl,rfl,rfl,Dw 32 _ _ (.inr rfl) (by omega) h2⟩
 ·cases h
def L7:List (Nat×CF):=(148,ar Kn)::(196,ar AE)::L6
theorem T_:∀p∈L7,af p.1 p.2:=ag AR<|ag zh VD
theorem Tn:az cL (ap L7):=aD aW (br T_)
theorem gy (r:Nat) (x:UInt8) (b:List UInt8) (n:Nat):(ff r x b n).length=n:=by simp [ff]
set_option maxRecDepth 10000
def cK (c:List UInt8) (a:Nat):Nat:=(c.getD (a/8) 0).toNat/2^(a%8)%2
theorem j_ (c:List UInt8) (a:Nat):cK c a<2:=Nat.mod_lt _ (by omega)
theorem uJ (x:UInt8) (n:Nat):(r8 x n&&&1).toNat=x.toNat/2^n%2:=by
 rw [UInt8.toNat_and,r8,UInt8.toNat_ofNat',show (1:UInt8).toNat=1 from rfl,Nat.and_one_is_mod]
 have:x.toNat/2^n<256:=Nat.lt_of_le_of_lt (Nat.div_le_self _ _) x.toNat_lt
 rw [Nat.mod_eq_of_lt this]
theorem Un (c:List UInt8) (a:Nat) (h:a/8<c.length) (ha:a≤1000000):vc cL (ap L7) Tryz.f197.ntmps (ah Tryz.f197) ⟨aq 0 [.one (.ro .u8 c),.one (.ob .int (a:Int))],[],2000⟩ (eH [4] [.one (.ob .int (cK c a:Int))] []):=by
 repeat refine sd ?_
 refine ⟨congrArg (fun z:Int=> [z]) ?_,trivial⟩
 show (cK c a:Int)=((r8 (c.getD ((a:Int)/8).toNat 0) ((a:Int)%8).toNat&&&1).toNat:Int)
 rw [uJ,show ((a:Int)/8).toNat=a/8 by omega,show ((a:Int)%8).toNat=a%8 by omega]
 rfl
def Th:GF:=fun l=>match l with
 | [.one (.ro .u8 c),.one (.ob .int a)]=>some ⟨[.one (.ob .int (cK c a.toNat:Int))],[],some (c.length≤100000∧Dj 0 a (8*c.length-1))⟩
 |_=>none
theorem ES:af 197 (ar Th):=aB Tn Tryz.func197 (by kernel_rfl) rfl (rs:= [4]) Tryz.results197 fun l g h hp=>by
 unfold Th at h
 split at h
 ·rename_i c a
  cases h
  obtain ⟨h1,h2,h3⟩:=hp
  obtain ⟨a,rfl⟩:=Int.eq_ofNat_of_zero_le h2
  exact ⟨Nat.le_of_ble_eq_true rfl,rfl,rfl,rfl,Un _ _ (by omega) (by omega)⟩
 ·cases h
def du:Nat→Nat
 |0=>1
 |n+1=>du n*17%3329
theorem qe:∀n,du n<3329
 |0=>by decide
 |n+1=>Nat.mod_lt _ (by omega)
theorem Rc (n:Nat) (h:n≤1000000):vc cL (ap L7) Tryz.f198.ntmps (ah Tryz.f198) ⟨aq 0 [.one (.ob .int (n:Int))],[],2000⟩ (eH [2] [.one (.ob .int (du n:Int))] []):=by
 refine Or.inr ⟨{i:Nat // i≤n},fun i=>⟨[(4,.one (.ob .int (i.val:Int))),(3,.one (.ob .int (du i.val:Int)))],[]⟩,fun i=>n-i.val,⟨0,by omega⟩,?_⟩
 refine ⟨rfl,rfl,fun i=>⟨fun h1=> ?_,fun h1=> ?_⟩⟩
 ·have h1:=of_decide_eq_true h1
  have hi:=i.2
  have hz:=qe i.val
  repeat refine sd ?_
  refine sj ⟨i.val+1,by omega⟩<|sr ⟨congrArg (fun z:Int=> [z]) ?_,trivial⟩
  show ((du i.val*17%3329:Nat):Int)=(du i.val:Int)*17%3329
  omega
 have h1:=of_decide_eq_false h1
 have hi:=i.2
 rw [show i.val=n by omega]
 exact ⟨rfl,trivial⟩
def Lg:GF:=fun l=>match l with
 | [.one (.ob .int n)]=>some ⟨[.one (.ob .int (du n.toNat:Int))],[],some (Dj 0 n 1000000)⟩
 |_=>none
theorem BA:af 198 (ar Lg):=aB Tn Tryz.func198 (by kernel_rfl) rfl (rs:= [2]) Tryz.results198 fun l g h hp=>by
 unfold Lg at h
 split at h
 ·rename_i a
  cases h
  obtain ⟨h2,h3⟩:=hp
  obtain ⟨a,rfl⟩:=Int.eq_ofNat_of_zero_le h2
  exact ⟨Nat.le_of_ble_eq_true rfl,rfl,rfl,rfl,Rc _ (by omega)⟩
 ·cases h
def dD (k:Nat):Nat→Nat
 |0=>0
 |i+1=>dD k i*2|||(k/2^i&&&1)
theorem lO (k:Nat):∀i,dD k i<2^i
 |0=>by simp [dD]
 |i+1=>by
  have h:=lO k i
  refine Nat.or_lt_two_pow (by rw [Nat.pow_succ];omega) ?_
  rw [Nat.and_one_is_mod,Nat.pow_succ]
  have:=Nat.mod_lt (k/2^i) (show 2>0 by omega)
  have:=Nat.two_pow_pos i
  omega
theorem UR (k:Nat) (h:k≤1000000):vc cL (ap L7) Tryz.f199.ntmps (ah Tryz.f199) ⟨aq 0 [.one (.ob .int (k:Int))],[],2000⟩ (eH [2] [.one (.ob .int (dD k 7:Int))] []):=by
 refine Or.inr ⟨{i:Nat // i≤7},fun i=>⟨[(4,.one (.ob .int (i.val:Int))),(3,.one (.ob .int (dD k i.val:Int)))],[]⟩,fun i=>7-i.val,⟨0,by omega⟩,?_⟩
 refine ⟨rfl,rfl,fun i=>⟨fun h1=> ?_,fun h1=> ?_⟩⟩
 ·have h1:=of_decide_eq_true h1
  have hi:=i.2
  have hz:=lO k i.val
  have h2:2^i.val≤2^7:=Nat.pow_le_pow_right (by omega) hi
  have e1:(dD k i.val:Int)*((2^(Nm.u64 (UInt64.ofNat 1)).toInt.toNat:Nat):Int)=((dD k i.val*2:Nat):Int):=by
   show _*((2^1:Nat):Int)=_
   omega
  have e2:(k:Int)/((2^(Nm.int (i.val:Int)).toInt.toNat:Nat):Int)=((k/2^i.val:Nat):Int):=rfl
  have e3:k/2^i.val≤k:=Nat.div_le_self _ _
  have e5:=Int.natCast_nonneg (k/2^i.val)
  have e4:k/2^i.val&&&1≤1:=Nat.and_le_right
  refine ⟨?_,⟨show (0:Int)≤(i.val:Int) by omega,show (i.val:Int)<64 by omega⟩,?_,?_,?_⟩
  ·rw [e1];exact ⟨by decide,by decide,by omega,by omega⟩
  ·rw [e2];exact ⟨⟨⟨by omega,by omega⟩,by omega⟩,⟨by decide,by decide⟩,by decide⟩
  ·rw [e1,e2,Int.toNat_natCast,show Int.toNat 1=1 from rfl];exact ⟨⟨⟨by omega,by omega⟩,by omega⟩,⟨by omega,by omega⟩,by omega⟩
  ·refine sd<|sj ⟨i.val+1,by omega⟩<|sr ⟨?_,trivial⟩
   show [((dD k i.val*2|||(k/2^i.val&&&1):Nat):Int)]= [((((dD k i.val:Int)*((2^(Nm.u64 (UInt64.ofNat 1)).toInt.toNat:Nat):Int)).toNat|||(((((k:Int)/((2^(Nm.int (i.val:Int)).toInt.toNat:Nat):Int)).toNat&&&Int.toNat 1:Nat):Int)).toNat:Nat):Int)]
   rw [e1,e2];rfl
 have h1:=of_decide_eq_false h1
 have hi:=i.2
 rw [show i.val=7 by omega]
 exact ⟨rfl,trivial⟩
def RG:GF:=fun l=>match l with
 | [.one (.ob .int n)]=>some ⟨[.one (.ob .int (dD n.toNat 7:Int))],[],some (Dj 0 n 1000000)⟩
 |_=>none
theorem EK:af 199 (ar RG):=aB Tn Tryz.func199 (by kernel_rfl) rfl (rs:= [2]) Tryz.results199 fun l g h hp=>by
 unfold RG at h
 split at h
 ·rename_i a
  cases h
  obtain ⟨h2,h3⟩:=hp
  obtain ⟨a,rfl⟩:=Int.eq_ofNat_of_zero_le h2
  exact ⟨Nat.le_of_ble_eq_true rfl,rfl,rfl,rfl,UR _ (by omega)⟩
 ·cases h
def L8:List (Nat×CF):=(197,ar Th)::(198,ar Lg)::(199,ar RG)::L7
theorem Ui:∀p∈L8,af p.1 p.2:=ag ES<|ag BA<|ag EK T_
theorem Rb:az cL (ap L8):=aD aW (br Ui)
def gu (l:List UInt16) (i:Nat):Nat:=(l.getD i 0).toNat
def J7 (f g:List UInt16):List UInt16:=(List.range 256).map fun i=>UInt16.ofNat ((gu f i+gu g i)%3329)
theorem VP (l:List UInt16) (i:Nat):gu l i<65536:=(l.getD i 0).toNat_lt
set_option maxHeartbeats 1000000 in
theorem Ru (f g:List UInt16):vc cL (ap L8) Tryz.f151.ntmps (ah Tryz.f151) ⟨aq 0 [.agg [.vec .u16 256 f],.agg [.vec .u16 256 g]],[],2000⟩ (aI cL Tryz.f151.ntmps [.cell 4 158] [.agg [.vec .u16 256 (J7 f g)]] []):=by
 refine Or.inr ⟨{i:Nat // i≤256},fun i=>⟨[(6,.one (.ob .int (i.val:Int)))],[(2048,.blk 158 [.vec .u16 256 (dj 0 256 (fun i=>UInt16.ofNat ((gu f i+gu g i)%3329)) (List.replicate 256 0) i.val)])]⟩,fun i=>256-i.val,⟨0,by omega⟩,?_⟩
 refine ⟨rfl,rfl,eE List.length_replicate,fun i=>⟨fun h1=> ?_,fun h1=> ?_⟩⟩
 ·have h1:=of_decide_eq_true h1
  have hi:=i.2
  have h2:=(f.getD (Int.toNat (i.val:Int)) (Kd.df .u16)).toNat_lt
  have h3:=(g.getD (Int.toNat (i.val:Int)) (Kd.df .u16)).toNat_lt
  repeat refine sd ?_
  refine sj ⟨i.val+1,by omega⟩<|sr<|sr ⟨(congrArg (List.set _ i.val) ?_).trans bN |>.symm,trivial⟩
  refine congrArg UInt16.ofNat (?_:(((gu f i.val:Int)+(gu g i.val:Int))%3329).toNat=_)
  omega
 have h1:=of_decide_eq_false h1
 have hi:=i.2
 rw [show i.val=256 by omega,b_ (by omega)]
 exact ⟨rfl,rfl,trivial⟩
def PX (f:List UInt16) (i:Nat):Nat:=gu f i%3329
def pY (f g:List UInt16):Nat→List UInt16
 |0=>List.replicate 256 0
 |i+1=>((pY f g i).set (2*i) (UInt16.ofNat ((PX f (2*i)*PX g (2*i)+PX f (2*i+1)*PX g (2*i+1)%3329*du (2*dD i 7+1))%3329))).set (2*i+1) (UInt16.ofNat ((PX f (2*i)*PX g (2*i+1)+PX f (2*i+1)*PX g (2*i))%3329))
theorem oE {x y:Int} (hx:0≤x∧x<3329) (hy:0≤y∧y<3329):0≤x*y∧x*y≤11082241:=
 ⟨Int.mul_nonneg hx.1 hy.1,Int.le_trans (Int.mul_le_mul (show x≤3329 by omega) (show y≤3329 by omega) hy.1 (by decide)) (by decide)⟩
theorem VM {α:Type} {l:List α} {a b:Nat} {x x' y y':α} (hx:x=x') (hy:y=y'):(l.set a x).set b y=(l.set a x').set b y':=by rw [hx,hy]
theorem YW (a b c d z:Nat):(((a:Int)%3329*((b:Int)%3329)+(c:Int)%3329*((d:Int)%3329)%3329*(z:Int))%3329).toNat=(a%3329*(b%3329)+c%3329*(d%3329)%3329*z)%3329:=by
 rw [show (a:Int)%3329=((a%3329:Nat):Int) by omega,show (b:Int)%3329=((b%3329:Nat):Int) by omega,show (c:Int)%3329=((c%3329:Nat):Int) by omega,show (d:Int)%3329=((d%3329:Nat):Int) by omega]
 rfl
theorem Yy (a b c d:Nat):(((a:Int)%3329*((d:Int)%3329)+(c:Int)%3329*((b:Int)%3329))%3329).toNat=(a%3329*(d%3329)+c%3329*(b%3329))%3329:=by
 rw [show (a:Int)%3329=((a%3329:Nat):Int) by omega,show (b:Int)%3329=((b%3329:Nat):Int) by omega,show (c:Int)%3329=((c%3329:Nat):Int) by omega,show (d:Int)%3329=((d%3329:Nat):Int) by omega]
 rfl
set_option maxHeartbeats 2000000 in
theorem QJ (f g:List UInt16):vc cL (ap L8) Tryz.f153.ntmps (ah Tryz.f153) ⟨aq 0 [.agg [.vec .u16 256 f],.agg [.vec .u16 256 g]],[],2000⟩ (aI cL Tryz.f153.ntmps [.cell 4 158] [.agg [.vec .u16 256 (pY f g 128)]] []):=by
 refine Or.inr ⟨{i:Nat // i≤128},fun i=>⟨[(6,.one (.ob .int (i.val:Int)))],[(2048,.blk 158 [.vec .u16 256 (pY f g i.val)])]⟩,fun i=>128-i.val,⟨0,by omega⟩,?_⟩
 refine ⟨rfl,rfl,rfl,fun i=>⟨fun h1=> ?_,fun h1=> ?_⟩⟩
 ·have h1:=of_decide_eq_true h1
  have hi:=i.2
  have hr:dD i.val 7<2^7:=lO _ _
  have hr2:dD (i.val:Int).toNat 7<2^7:=lO _ _
  repeat refine sd ?_
  have hz:=qe (2*dD i.val 7+1)
  rw [show (2*((dD (i.val:Int).toNat 7:Nat):Int)+1).toNat=2*dD i.val 7+1 by rw [Int.toNat_natCast];omega]
  rw [show (2*(i.val:Int)).toNat=2*i.val by omega,show (2*(i.val:Int)+1).toNat=2*i.val+1 by omega]
  generalize hA:(((f.getD (2*i.val) (Kd.df .u16)).toNat:Nat):Int)%3329=A
  generalize hB:(((g.getD (2*i.val) (Kd.df .u16)).toNat:Nat):Int)%3329=B
  generalize hC:(((f.getD (2*i.val+1) (Kd.df .u16)).toNat:Nat):Int)%3329=C
  generalize hD:(((g.getD (2*i.val+1) (Kd.df .u16)).toNat:Nat):Int)%3329=D
  have bA:0≤A∧A<3329:=by omega
  have bB:0≤B∧B<3329:=by omega
  have bC:0≤C∧C<3329:=by omega
  have bD:0≤D∧D<3329:=by omega
  have p1:=oE bA bB
  have p2:=oE bC bD
  have p3:=oE (x:=C*D%3329) (y:=(du (2*dD i.val 7+1):Int)) (by omega) (by omega)
  have p4:=oE bA bD
  have p5:=oE bC bB
  repeat refine sd ?_
  refine sj ⟨i.val+1,by omega⟩<|sr<|sr ⟨?_,trivial⟩
  subst hA hB hC hD
  rw [show (2*(i.val:Int)+1).toNat=2*i.val+1 by omega]
  exact VM (congrArg UInt16.ofNat (YW (gu f (2*i.val)) (gu g (2*i.val)) (gu f (2*i.val+1)) (gu g (2*i.val+1)) _).symm) (congrArg UInt16.ofNat (Yy (gu f (2*i.val)) (gu g (2*i.val)) (gu f (2*i.val+1)) (gu g (2*i.val+1))).symm)
 have h1:=of_decide_eq_false h1
 have hi:=i.2
 rw [show i.val=128 by omega]
 exact ⟨rfl,rfl,trivial⟩
set_option maxRecDepth 10000
def kB (l:List UInt16) (z n st:Nat):Nat→List UInt16
 |0=>l
 |i+1=>((kB l z n st i).set (st+i+n) (UInt16.ofNat ((gu (kB l z n st i) (st+i)%3329+3329-z*gu (kB l z n st i) (st+i+n)%3329)%3329))).set (st+i) (UInt16.ofNat ((gu (kB l z n st i) (st+i)%3329+z*gu (kB l z n st i) (st+i+n)%3329)%3329))
def xP (l:List UInt16) (n k:Nat):Nat→List UInt16
 |0=>l
 |c+1=>kB (xP l n k c) (du (dD (k+c) 7)) n (2*n*c) n
def vI (l:List UInt16):Nat→List UInt16
 |0=>l
 |m+1=>xP (vI l m) (128/2^m) (2^m) (2^m)
theorem Ww (m c:Nat) (h:m<7):(2*(128/2^m)*c<256→c+1≤2^m∧2*(128/2^m)*c+2*(128/2^m)≤256)∧(¬2*(128/2^m)*c<256→2^m≤c)∧2≤128/2^m∧128/2^m≤128∧2^m≤64∧128/2^(m+1)=128/2^m/2∧2^(m+1)=2^m+2^m:=by
 have:m=0∨m=1∨m=2∨m=3∨m=4∨m=5∨m=6:=by omega
 rcases this with rfl|rfl|rfl|rfl|rfl|rfl|rfl<;>simp<;>omega
theorem YB (a b z:Nat):(((a:Int)%3329+3329-(z:Int)*(b:Int)%3329)%3329).toNat=(a%3329+3329-z*b%3329)%3329:=by
 rw [show (z:Int)*(b:Int)=((z*b:Nat):Int) from rfl]
 generalize z*b=c
 omega
theorem Yx (a b z:Nat):(((a:Int)%3329+(z:Int)*(b:Int)%3329)%3329).toNat=(a%3329+z*b%3329)%3329:=by
 rw [show (z:Int)*(b:Int)=((z*b:Nat):Int) from rfl]
 generalize z*b=c
 omega
theorem Xg {z b:Nat} (hz:z<3329) (hb:b<65536):0≤(z:Int)*(b:Int)∧(z:Int)*(b:Int)≤218169344:=
 ⟨Int.mul_nonneg (by omega) (by omega),Int.le_trans (Int.mul_le_mul (show (z:Int)≤3329 by omega) (show (b:Int)≤65536 by omega) (by omega) (by decide)) (by decide)⟩
set_option maxHeartbeats 4000000 in
theorem Um (f:List UInt16):vc cL (ap L8) Tryz.f150.ntmps (ah Tryz.f150) ⟨aq 0 [.agg [.vec .u16 256 f]],[],2000⟩ (aI cL Tryz.f150.ntmps [.cell 2 158] [.agg [.vec .u16 256 (vI f 7)]] []):=by
 refine Or.inr ⟨{m:Nat // m≤7},fun m=>⟨[(4,.one (.ob .int ((128/2^m.val:Nat):Int))),(3,.one (.ob .int ((2^m.val:Nat):Int)))],[(2000,.blk 158 [.vec .u16 256 (vI f m.val)])]⟩,fun m=>7-m.val,⟨0,by omega⟩,?_⟩
 refine ⟨rfl,rfl,rfl,rfl,fun m=>⟨fun h1=> ?_,fun h1=> ?_⟩⟩
 ·have h1:=of_decide_eq_true h1
  have hm:=m.2
  have hm7:m.val<7:=by
   rcases Nat.lt_or_ge m.val 7 with h|h
   ·exact h
   ·rw [show m.val=7 by omega] at h1;simp at h1
  have hF:vI f (m.val+1)=xP (vI f m.val) (128/2^m.val) (2^m.val) (2^m.val):=rfl
  have hq:=(Ww m.val 0 hm7).2.2
  have hc:=fun c=>And.intro (Ww m.val c hm7).1 (Ww m.val c hm7).2.1
  revert hF
  generalize vI f m.val=F
  intro hF
  have hK0:0<2^m.val:=Nat.two_pow_pos _
  generalize 128/2^m.val=n at h1 hq hc hF ⊢
  generalize 2^m.val=K at hq hc hF hK0 ⊢
  obtain ⟨q1,q2,q3,q4,q5⟩:=hq
  refine Or.inr ⟨{c:Nat // c≤K},fun c=>⟨[(5,.one (.ob .int ((2*n*c.val:Nat):Int))),(3,.one (.ob .int ((K+c.val:Nat):Int)))],[(2000,.blk 158 [.vec .u16 256 (xP F n K c.val)])]⟩,fun c=>K-c.val,⟨0,Nat.zero_le _⟩,?_⟩
  refine ⟨rfl,rfl,rfl,rfl,fun c=>⟨fun h2=> ?_,fun h2=> ?_⟩⟩
  ·have h2:=of_decide_eq_true h2
   have hcc:=c.2
   obtain ⟨h3,h4⟩:=(hc c.val).1 (by omega)
   have hG:xP F n K (c.val+1)=kB (xP F n K c.val) (du (dD (K+c.val) 7)) n (2*n*c.val) n:=rfl
   have hst:2*n*(c.val+1)=2*n*c.val+2*n:=Nat.mul_succ _ _
   revert hG
   generalize xP F n K c.val=G
   generalize 2*n*c.val=st at h2 h4 hst ⊢
   intro hG
   have hr:dD ((K+c.val:Nat):Int).toNat 7<2^7:=lO _ _
   repeat refine sd ?_
   refine Or.inr ⟨{i:Nat // i≤n},fun i=>⟨[(7,.one (.ob .int ((st+i.val:Nat):Int)))],[(2000,.blk 158 [.vec .u16 256 (kB G (du (dD (K+c.val) 7)) n st i.val)])]⟩,fun i=>n-i.val,⟨0,Nat.zero_le _⟩,?_⟩
   refine ⟨rfl,rfl,rfl,fun i=>sd ⟨fun h5=> ?_,fun h5=> ?_⟩⟩
   ·have h5:=of_decide_eq_true h5
    have hi:=i.2
    have hJ:kB G (du (dD (K+c.val) 7)) n st (i.val+1)=((kB G (du (dD (K+c.val) 7)) n st i.val).set (st+i.val+n) (UInt16.ofNat ((gu (kB G (du (dD (K+c.val) 7)) n st i.val) (st+i.val)%3329+3329-du (dD (K+c.val) 7)*gu (kB G (du (dD (K+c.val) 7)) n st i.val) (st+i.val+n)%3329)%3329))).set (st+i.val) (UInt16.ofNat ((gu (kB G (du (dD (K+c.val) 7)) n st i.val) (st+i.val)%3329+du (dD (K+c.val) 7)*gu (kB G (du (dD (K+c.val) 7)) n st i.val) (st+i.val+n)%3329)%3329)):=rfl
    revert hJ
    generalize kB G (du (dD (K+c.val) 7)) n st i.val=J
    intro hJ
    have hz:=qe (dD (K+c.val) 7)
    have e1:(((st+i.val:Nat):Int)+(n:Int)).toNat=st+i.val+n:=by omega
    have b1:=Xg hz (VP J (st+i.val+n))
    have b2:(0:Int)≤((du (dD ((K+c.val:Nat):Int).toNat 7:Int).toNat:Nat):Int)*((J.getD (((st+i.val:Nat):Int)+(n:Int)).toNat (Kd.df .u16)).toNat:Int)∧((du (dD ((K+c.val:Nat):Int).toNat 7:Int).toNat:Nat):Int)*((J.getD (((st+i.val:Nat):Int)+(n:Int)).toNat (Kd.df .u16)).toNat:Int)≤218169344:=by rw [e1];exact b1
    repeat refine sd ?_
    refine sj ⟨i.val+1,by omega⟩<|sr<|sr ⟨?_,trivial⟩
    rw [e1]
    exact hJ.trans (VM (congrArg UInt16.ofNat (YB _ _ _).symm) (congrArg UInt16.ofNat (Yx _ _ _).symm))
   have h5:=of_decide_eq_false h5
   have hi:=i.2
   repeat refine sd ?_
   refine sj ⟨c.val+1,h3⟩ ⟨congrArg (fun z:Int=> [z]) ?_,rfl,rfl,?_,trivial⟩
   ·show ((2*n*(c.val+1):Nat):Int)=(st:Int)+2*(n:Int)
    omega
   ·show xP F n K (c.val+1)=_
    rw [hG,show i.val=n by omega]
  have h2:=of_decide_eq_false h2
  have hcc:=c.2
  have h3:=(hc c.val).2 (by omega)
  repeat refine sd ?_
  refine sj ⟨m.val+1,by omega⟩ ⟨congrArg (fun z:Int=> [z]) ?_,congrArg (fun z:Int=> [z]) ?_,rfl,?_,trivial⟩
  ·show ((128/2^(m.val+1):Nat):Int)=(n:Int)/2
   rw [q4];rfl
  ·show ((2^(m.val+1):Nat):Int)=((K+c.val:Nat):Int)
   rw [q5,show c.val=K by omega]
  ·show vI f (m.val+1)=_
   rw [hF,show c.val=K by omega]
 have h1:=of_decide_eq_false h1
 have hm:=m.2
 have hm7:m.val=7:=by
  rcases Nat.lt_or_ge m.val 7 with h|h
  ·have:=(Ww m.val 0 h).2.2.1;omega
  ·omega
 rw [hm7]
 exact ⟨rfl,rfl,trivial⟩
def In:GF:=fun l=>match l with
 | [.agg [.vec .u16 256 f],.agg [.vec .u16 256 g]]=>some ⟨[.agg [.vec .u16 256 (J7 f g)]],[],none⟩
 |_=>none
theorem CL:af 151 (ar In):=ai aW Rb Tryz.func151 (by kernel_rfl) rfl (rs:= [.cell 4 158]) Tryz.results151 fun l g h hp=>by
 unfold In at h
 split at h
 ·cases h;exact ⟨Nat.le_of_ble_eq_true rfl,rfl,rfl,rfl,Ru _ _⟩
 ·cases h
def H8:GF:=fun l=>match l with
 | [.agg [.vec .u16 256 f],.agg [.vec .u16 256 g]]=>some ⟨[.agg [.vec .u16 256 (pY f g 128)]],[],none⟩
 |_=>none
theorem AM:af 153 (ar H8):=ai aW Rb Tryz.func153 (by kernel_rfl) rfl (rs:= [.cell 4 158]) Tryz.results153 fun l g h hp=>by
 unfold H8 at h
 split at h
 ·cases h;exact ⟨Nat.le_of_ble_eq_true rfl,rfl,rfl,rfl,QJ _ _⟩
 ·cases h
def SI:GF:=fun l=>match l with
 | [.agg [.vec .u16 256 f]]=>some ⟨[.agg [.vec .u16 256 (vI f 7)]],[],none⟩
 |_=>none
theorem FC:af 150 (ar SI):=ai aW Rb Tryz.func150 (by kernel_rfl) rfl (rs:= [.cell 2 158]) Tryz.results150 fun l g h hp=>by
 unfold SI at h
 split at h
 ·cases h;exact ⟨Nat.le_of_ble_eq_true rfl,rfl,rfl,rfl,Um _⟩
 ·cases h
def L9:List (Nat×CF):=(150,ar SI)::(151,ar In)::(153,ar H8)::L8
theorem UW:∀p∈L9,af p.1 p.2:=ag FC<|ag CL<|ag AM Ui
theorem XX:az cL (ap L9):=aD aW (br UW)
def oJ (s:List UInt8) (n:UInt8):List UInt16:=(List.range 256).map fun i=>UInt16.ofNat ((cK (aS 32 128 (s++ [n])) (4*i)+cK (aS 32 128 (s++ [n])) (4*i+1)+3329-cK (aS 32 128 (s++ [n])) (4*i+2)-cK (aS 32 128 (s++ [n])) (4*i+3))%3329)
set_option maxHeartbeats 2000000 in
theorem Pe (s:List UInt8) (n:UInt8) (h:s.length≤1000):vc cL (ap L9) Tryz.f149.ntmps (ah Tryz.f149) ⟨aq 0 [.one (.ro .u8 s),.one (.ob .u8 n)],[],2000⟩ (aI cL Tryz.f149.ntmps [.cell 4 158] [.agg [.vec .u16 256 (oJ s n)]] []):=by
 have e1: [s,[n]].flatten=s++ [n]:=by simp
 refine ⟨⟨Nat.le_of_ble_eq_true rfl,by rw [e1];simp;omega⟩,⟨.inr rfl,by rw [e1];simp;omega,by decide⟩,?_⟩
 rw [e1]
 have hD:(aS 32 128 (s++ [n])).length=128:=gy _ _ _ _
 have hN:oJ s n=(List.range 256).map fun i=>UInt16.ofNat ((cK (aS 32 128 (s++ [n])) (4*i)+cK (aS 32 128 (s++ [n])) (4*i+1)+3329-cK (aS 32 128 (s++ [n])) (4*i+2)-cK (aS 32 128 (s++ [n])) (4*i+3))%3329):=rfl
 revert hD hN
 show (aS (Int.toNat 32) (Int.toNat 128) (s++ [n])).length=128→oJ s n=((List.range 256).map fun i=>UInt16.ofNat ((cK (aS (Int.toNat 32) (Int.toNat 128) (s++ [n])) (4*i)+cK (aS (Int.toNat 32) (Int.toNat 128) (s++ [n])) (4*i+1)+3329-cK (aS (Int.toNat 32) (Int.toNat 128) (s++ [n])) (4*i+2)-cK (aS (Int.toNat 32) (Int.toNat 128) (s++ [n])) (4*i+3))%3329))→_
 generalize aS (Int.toNat 32) (Int.toNat 128) (s++ [n])=D
 intro hD hN
 rw [hN]
 refine Or.inr ⟨{i:Nat // i≤256},fun i=>⟨[(7,.one (.ob .int (i.val:Int)))],[(2128,.blk 158 [.vec .u16 256 (dj 0 256 (fun i=>UInt16.ofNat ((cK D (4*i)+cK D (4*i+1)+3329-cK D (4*i+2)-cK D (4*i+3))%3329)) (List.replicate 256 0) i.val)])]⟩,fun i=>256-i.val,⟨0,by omega⟩,?_⟩
 refine ⟨rfl,rfl,eE List.length_replicate,fun i=>⟨fun h1=> ?_,fun h1=> ?_⟩⟩
 ·have h1:=of_decide_eq_true h1
  have hi:=i.2
  have b0:=j_ D (4*(i.val:Int)).toNat
  have b1:=j_ D (4*(i.val:Int)+1).toNat
  have b2:=j_ D (4*(i.val:Int)+2).toNat
  have b3:=j_ D (4*(i.val:Int)+3).toNat
  repeat refine sd ?_
  refine sj ⟨i.val+1,by omega⟩<|sr<|sr ⟨(congrArg (List.set _ i.val) ?_).trans bN |>.symm,trivial⟩
  refine congrArg UInt16.ofNat (?_:(((cK D (4*(i.val:Int)).toNat:Int)+(cK D (4*(i.val:Int)+1).toNat:Int)+3329-(cK D (4*(i.val:Int)+2).toNat:Int)-(cK D (4*(i.val:Int)+3).toNat:Int))%3329).toNat=_)
  rw [show (4*(i.val:Int)).toNat=4*i.val by omega,show (4*(i.val:Int)+1).toNat=4*i.val+1 by omega,show (4*(i.val:Int)+2).toNat=4*i.val+2 by omega,show (4*(i.val:Int)+3).toNat=4*i.val+3 by omega] at*
  omega
 have h1:=of_decide_eq_false h1
 have hi:=i.2
 rw [show i.val=256 by omega,b_ (by omega)]
 exact ⟨rfl,rfl,trivial⟩
def B7:GF:=fun l=>match l with
 | [.one (.ro .u8 s),.one (.ob .u8 n)]=>some ⟨[.agg [.vec .u16 256 (oJ s n)]],[],some (s.length≤1000)⟩
 |_=>none
theorem xf:af 149 (ar B7):=ai aW XX Tryz.func149 (by kernel_rfl) rfl (rs:= [.cell 4 158]) Tryz.results149 fun l g h hp=>by
 unfold B7 at h
 split at h
 ·cases h;exact ⟨Nat.le_of_ble_eq_true rfl,rfl,rfl,rfl,Pe _ _ hp⟩
 ·cases h
def uA (c:List UInt8) (a:Nat):Nat:=(c.getD a 0).toNat+256*((c.getD (a+1) 0).toNat%16)
def uB (c:List UInt8) (a:Nat):Nat:=(c.getD (a+1) 0).toNat/16+16*(c.getD (a+2) 0).toNat
def BC (s:Nat×List UInt16) (v:Nat):Nat×List UInt16:=if v<3329 then (s.1+1,s.2.set s.1 (UInt16.ofNat v)) else s
def oR (s:Nat×List UInt16) (v:Nat):Nat×List UInt16:=if v<3329∧s.1<256 then (s.1+1,s.2.set s.1 (UInt16.ofNat v)) else s
def iF (c:List UInt8) (f:List UInt16):Nat→Nat×List UInt16
 |0=>(0,f)
 |t+1=>if (iF c f t).1<256 then oR (BC (iF c f t) (uA c (3*t))) (uB c (3*t)) else iF c f t
def XE (s:List UInt8) (f:List UInt16) (n:Nat):List UInt16:=(iF (aS 16 n s) f ((aS 16 n s).length/3)).2
def EW (s:List UInt8) (f:List UInt16) (n:Nat):Nat:=(iF (aS 16 n s) f ((aS 16 n s).length/3)).1
def sQ (s:List UInt8) (f:List UInt16):Nat→List UInt16
 |0=>f
 |m+1=>XE s (sQ s f m) (1024*2^m)
def uT (s:List UInt8):Nat→Nat→List UInt16
 |0,m=>sQ s (List.replicate 256 0) (m+1)
 |k+1,m=>if EW s (sQ s (List.replicate 256 0) m) (1024*2^m)=256 then sQ s (List.replicate 256 0) (m+1) else uT s k (m+1)
def vv (s:List UInt8):List UInt16:=uT s 6 0
set_option maxRecDepth 10000
def VK:List (Nat×CF):=(149,ar B7)::L9
theorem Qo:∀p∈VK,af p.1 p.2:=ag xf UW
theorem PB:az cL (ap VK):=aD aW (br Qo)
theorem ye {c:List UInt8} {f:List UInt16} {t:Nat} (h:¬(iF c f t).1<256):∀d,iF c f (t+d)=iF c f t
 |0=>rfl
 |d+1=>by
  rw [←Nat.add_assoc,iF,ye h d,if_neg h]
theorem EE (c:List UInt8) (a:Nat):(c.getD a 0).toNat<256:=(c.getD a 0).toNat_lt
theorem Ra (a b:Nat):((a:Int)+256*((b:Int)%16))=((a+256*(b%16):Nat):Int):=by omega
theorem Rg (a b:Nat):((a:Int)/16+16*(b:Int))=((a/16+16*b:Nat):Int):=by omega
theorem YL {S:List UInt8} {m:Nat} (h:EW S (sQ S (List.replicate 256 0) m) (1024*2^m)=256):∀k,uT S k m=sQ S (List.replicate 256 0) (m+1)
 |0=>rfl
 |k+1=>by rw [uT,if_pos h]
theorem YN {S:List UInt8} {m:Nat} (hm:m<6) (h:¬EW S (sQ S (List.replicate 256 0) m) (1024*2^m)=256):uT S (6-m) m=uT S (6-(m+1)) (m+1):=by
 rw [show 6-m=6-(m+1)+1 by omega,uT,if_neg h]
theorem WS {m:Nat} (hm:m≤6) (h:65536≤1024*2^m):m=6:=by
 have:m=0∨m=1∨m=2∨m=3∨m=4∨m=5∨m=6:=by omega
 rcases this with rfl|rfl|rfl|rfl|rfl|rfl|rfl<;>omega
theorem Xt {m:Nat} (h:¬65536≤1024*2^m):m<6:=by
 rcases Nat.lt_or_ge m 6 with h1|h1
 ·exact h1
 ·have:2^6≤2^m:=Nat.pow_le_pow_right (by omega) h1
  omega
set_option maxHeartbeats 1000000 in
theorem FD (s:List UInt8) (i j:UInt8) (h:s.length≤1000):vc cL (ap VK) Tryz.f152.ntmps (ah Tryz.f152) ⟨aq 0 [.one (.ro .u8 s),.one (.ob .u8 i),.one (.ob .u8 j)],[],2000⟩ (aI cL Tryz.f152.ntmps [.cell 6 158] [.agg [.vec .u16 256 (vv (s++ [i,j]))]] []):=by
 have e1: [s,[i,j]].flatten=s++ [i,j]:=by simp
 refine ⟨⟨Nat.le_of_ble_eq_true rfl,by rw [e1];simp;omega⟩,?_⟩
 rw [e1]
 have hS:(s++ [i,j]).length≤1002:=by simp;omega
 generalize s++ [i,j]=S at hS ⊢
 refine Or.inr ⟨{m:Nat // m≤6∧vv S=uT S (6-m) m},fun m=>⟨[(9,.one (.ob .int ((1024*2^m.val:Nat):Int)))],[(2128,.blk 158 [.vec .u16 256 (sQ S (List.replicate 256 0) m.val)])]⟩,fun m=>6-m.val,⟨0,by omega,rfl⟩,?_⟩
 refine ⟨rfl,rfl,rfl,fun m=> ?_⟩
 obtain ⟨hm,hF⟩:=m.2
 have hn:1024≤1024*2^m.val∧1024*2^m.val≤65536:=by
  have h1:2^m.val≤2^6:=Nat.pow_le_pow_right (by omega) hm
  have h2:=Nat.two_pow_pos m.val
  omega
 refine ⟨⟨.inl rfl,by omega,by omega⟩,?_⟩
 have hC:(aS 16 (1024*2^m.val) S).length≤65536:=by
  rw [aS,gy];omega
 have hR:sQ S (List.replicate 256 0) (m.val+1)=(iF (aS 16 (1024*2^m.val) S) (sQ S (List.replicate 256 0) m.val) ((aS 16 (1024*2^m.val) S).length/3)).2:=rfl
 have hK:EW S (sQ S (List.replicate 256 0) m.val) (1024*2^m.val)=(iF (aS 16 (1024*2^m.val) S) (sQ S (List.replicate 256 0) m.val) ((aS 16 (1024*2^m.val) S).length/3)).1:=rfl
 revert hC hR hK
 show (aS (Int.toNat 16) ((1024*2^m.val:Nat):Int).toNat S).length≤65536→sQ S (List.replicate 256 0) (m.val+1)=(iF (aS (Int.toNat 16) ((1024*2^m.val:Nat):Int).toNat S) (sQ S (List.replicate 256 0) m.val) ((aS (Int.toNat 16) ((1024*2^m.val:Nat):Int).toNat S).length/3)).2→EW S (sQ S (List.replicate 256 0) m.val) (1024*2^m.val)=(iF (aS (Int.toNat 16) ((1024*2^m.val:Nat):Int).toNat S) (sQ S (List.replicate 256 0) m.val) ((aS (Int.toNat 16) ((1024*2^m.val:Nat):Int).toNat S).length/3)).1→_
 generalize aS (Int.toNat 16) ((1024*2^m.val:Nat):Int).toNat S=C
 intro hC hR hK
 have hF0:sQ S (List.replicate 256 0) m.val=(iF C (sQ S (List.replicate 256 0) m.val) 0).2:=rfl
 generalize hG:sQ S (List.replicate 256 0) m.val=G at hR hK hF0 ⊢
 refine Or.inr ⟨{t:Nat // 3*t≤C.length},fun t=>⟨[(12,.one (.ob .int ((3*t.val:Nat):Int))),(11,.one (.ob .int ((iF C G t.val).1:Int)))],[(2128,.blk 158 [.vec .u16 256 (iF C G t.val).2])]⟩,fun t=>C.length-t.val,⟨0,Nat.zero_le _⟩,?_⟩
 refine ⟨rfl,rfl,rfl,rfl,fun t=>⟨fun h1=>⟨h1,sd (fun hl=>⟨fun h2=> ?_,fun h2=> ?_⟩)⟩,fun h1=>⟨h1,sd (fun hl=> ?_)⟩⟩⟩
 ·have h1:=of_decide_eq_true h1
  have h2:=of_decide_eq_true h2
  have ht:=t.2
  have hU:iF C G (t.val+1)=oR (BC (iF C G t.val) (uA C (3*t.val))) (uB C (3*t.val)):=by rw [iF,if_pos (by omega)]
  revert hU
  generalize iF C G t.val=U at h2 ⊢
  intro hU
  have c0:=(C.getD ((3*t.val:Nat):Int).toNat (Kd.df .u8)).toNat_lt
  have c1:=(C.getD (((3*t.val:Nat):Int)+1).toNat (Kd.df .u8)).toNat_lt
  have c2:=(C.getD (((3*t.val:Nat):Int)+2).toNat (Kd.df .u8)).toNat_lt
  have n1:(((3*t.val:Nat):Int)+1).toNat=3*t.val+1:=by omega
  have n2:(((3*t.val:Nat):Int)+2).toNat=3*t.val+2:=by omega
  have eA:(((C.getD ((3*t.val:Nat):Int).toNat (Kd.df .u8)).toNat:Nat):Int)+256*((((C.getD (((3*t.val:Nat):Int)+1).toNat (Kd.df .u8)).toNat:Nat):Int)%16)=((uA C (3*t.val):Nat):Int):=by rw [n1];exact Ra _ _
  have eB:(((C.getD (((3*t.val:Nat):Int)+1).toNat (Kd.df .u8)).toNat:Nat):Int)/16+16*(((C.getD (((3*t.val:Nat):Int)+2).toNat (Kd.df .u8)).toNat:Nat):Int)=((uB C (3*t.val):Nat):Int):=by rw [n1,n2];exact Rg _ _
  have lA:uA C (3*t.val)<65536:=by have:=EE C (3*t.val);have:=EE C (3*t.val+1);unfold uA;omega
  have lB:uB C (3*t.val)<65536:=by have:=EE C (3*t.val+1);have:=EE C (3*t.val+2);unfold uB;omega
  repeat refine sd ?_
  rw [eA,eB]
  generalize uA C (3*t.val)=va at lA hU ⊢
  generalize uB C (3*t.val)=vb at lB hU ⊢
  have e3:((3*(t.val+1):Nat):Int)=((3*t.val:Nat):Int)+3:=by omega
  have n3:((U.1:Int)+1).toNat=U.1+1:=by omega
  refine ⟨fun h5=> ?_,fun h5=> ?_⟩
  ·have h5:va<3329:=Int.ofNat_lt.1 (of_decide_eq_true h5)
   repeat refine sd ?_
   refine ⟨fun h6=>⟨h6,fun h7=> ?_,fun h7=> ?_⟩,fun h6=>⟨h6,?_⟩⟩
   ·have h6:vb<3329:=Int.ofNat_lt.1 (of_decide_eq_true h6)
    have h7:=of_decide_eq_true h7
    have hV:iF C G (t.val+1)=(U.1+1+1,(U.2.set U.1 (UInt16.ofNat va)).set (U.1+1) (UInt16.ofNat vb)):=by rw [hU,BC,if_pos h5,oR,if_pos ⟨h6,by dsimp only;omega⟩]
    repeat refine sd ?_
    refine sj ⟨t.val+1,by omega⟩ ⟨congrArg (fun z:Int=> [z]) ?_,congrArg (fun z:Int=> [z]) ?_,rfl,?_,trivial⟩
    ·exact e3
    ·show ((iF C G (t.val+1)).1:Int)=_
     rw [hV]<;>first |rfl|(dsimp only;omega)
    ·show (iF C G (t.val+1)).2=_
     rw [hV]<;>first |rfl|(rw [n3];rfl)
   ·have h7:=of_decide_eq_false h7
    have hV:iF C G (t.val+1)=(U.1+1,U.2.set U.1 (UInt16.ofNat va)):=by rw [hU,BC,if_pos h5,oR,if_neg (fun h=>by dsimp only at h;omega)]
    repeat refine sd ?_
    refine sj ⟨t.val+1,by omega⟩ ⟨congrArg (fun z:Int=> [z]) ?_,congrArg (fun z:Int=> [z]) ?_,rfl,?_,trivial⟩
    ·exact e3
    ·show ((iF C G (t.val+1)).1:Int)=_
     rw [hV]<;>first |rfl|(dsimp only;omega)
    ·show (iF C G (t.val+1)).2=_
     rw [hV]<;>first |rfl|(rw [n3];rfl)
   ·have h6:¬vb<3329:=fun h=>of_decide_eq_false h6 (Int.ofNat_lt.2 h)
    have hV:iF C G (t.val+1)=(U.1+1,U.2.set U.1 (UInt16.ofNat va)):=by rw [hU,BC,if_pos h5,oR,if_neg (fun h=>h6 h.1)]
    repeat refine sd ?_
    refine sj ⟨t.val+1,by omega⟩ ⟨congrArg (fun z:Int=> [z]) ?_,congrArg (fun z:Int=> [z]) ?_,rfl,?_,trivial⟩
    ·exact e3
    ·show ((iF C G (t.val+1)).1:Int)=_
     rw [hV]<;>first |rfl|(dsimp only;omega)
    ·show (iF C G (t.val+1)).2=_
     rw [hV]<;>first |rfl|(rw [n3];rfl)
  ·have h5:¬va<3329:=fun h=>of_decide_eq_false h5 (Int.ofNat_lt.2 h)
   refine ⟨fun h6=>⟨h6,fun h7=> ?_,fun h7=> ?_⟩,fun h6=>⟨h6,?_⟩⟩
   ·have h6:vb<3329:=Int.ofNat_lt.1 (of_decide_eq_true h6)
    have h7:=of_decide_eq_true h7
    have hV:iF C G (t.val+1)=(U.1+1,U.2.set U.1 (UInt16.ofNat vb)):=by rw [hU,BC,if_neg h5,oR,if_pos ⟨h6,by omega⟩]
    repeat refine sd ?_
    refine sj ⟨t.val+1,by omega⟩ ⟨congrArg (fun z:Int=> [z]) ?_,congrArg (fun z:Int=> [z]) ?_,rfl,?_,trivial⟩
    ·exact e3
    ·show ((iF C G (t.val+1)).1:Int)=_
     rw [hV]<;>first |rfl|(dsimp only;omega)
    ·show (iF C G (t.val+1)).2=_
     rw [hV]<;>first |rfl|(rw [n3];rfl)
   ·have h7:=of_decide_eq_false h7
    omega
   ·have h6:¬vb<3329:=fun h=>of_decide_eq_false h6 (Int.ofNat_lt.2 h)
    have hV:iF C G (t.val+1)=U:=by rw [hU,BC,if_neg h5,oR,if_neg (fun h=>h6 h.1)]
    repeat refine sd ?_
    refine sj ⟨t.val+1,by omega⟩ ⟨congrArg (fun z:Int=> [z]) ?_,congrArg (fun z:Int=> [z]) ?_,rfl,?_,trivial⟩
    ·exact e3
    ·show ((iF C G (t.val+1)).1:Int)=_
     rw [hV]<;>first |rfl|(dsimp only;omega)
    ·show (iF C G (t.val+1)).2=_
     rw [hV]<;>first |rfl|(rw [n3];rfl)
 all_goals
  have ht:=t.2
  have hend:iF C G (C.length/3)=iF C G t.val:=by
   first
    |(have h3:=of_decide_eq_false h2
      have h4:=of_decide_eq_true h1
      rw [show C.length/3=t.val+(C.length/3-t.val) by omega]
      exact ye (by omega) _)
    |(have h3:=of_decide_eq_false h1
      rw [show C.length/3=t.val by omega])
  rw [hend] at hR hK
  refine ⟨fun h3=>⟨h3,?_⟩,fun h3=>⟨h3,⟨fun h4=> ?_,fun h4=> ?_⟩⟩⟩
  ·have h3:=of_decide_eq_true h3
   refine ⟨rfl,?_,trivial⟩
   show vv S=(iF C G t.val).2
   rw [hF,YL (by rw [hG,hK];omega),hR]
  ·have h3:=of_decide_eq_false h3
   have h4:=of_decide_eq_true h4
   refine ⟨rfl,?_,trivial⟩
   show vv S=(iF C G t.val).2
   have h6:=WS hm (by omega)
   rw [hF,←hR,h6];rfl
  ·have h3:=of_decide_eq_false h3
   have h4:=of_decide_eq_false h4
   have h6:=Xt (m:=m.val) (by omega)
   have hU6:¬EW S (sQ S (List.replicate 256 0) m.val) (1024*2^m.val)=256:=by
    rw [hG,hK]
    intro h
    exact h3 (congrArg Int.ofNat h)
   have hj:m.val+1≤6∧vv S=uT S (6-(m.val+1)) (m.val+1):=⟨h6,hF.trans (YN h6 hU6)⟩
   refine sd<|sj ⟨m.val+1,hj⟩ ⟨?_,rfl,?_,trivial⟩
   ·show [((1024*2^(m.val+1):Nat):Int)]= [2*((1024*2^m.val:Nat):Int)]
    rw [Nat.pow_succ]
    exact congrArg (fun z:Int=> [z]) (by omega)
   ·exact hR
def pR:GF:=fun l=>match l with
 | [.one (.ro .u8 s),.one (.ob .u8 i),.one (.ob .u8 j)]=>some ⟨[.agg [.vec .u16 256 (vv (s++ [i,j]))]],[],some (s.length≤1000)⟩
 |_=>none
theorem q9:af 152 (ar pR):=ai aW PB Tryz.func152 (by kernel_rfl) rfl (rs:= [.cell 6 158]) Tryz.results152 fun l g h hp=>by
 unfold pR at h
 split at h
 ·cases h;exact ⟨Nat.le_of_ble_eq_true rfl,rfl,rfl,rfl,FD _ _ _ hp⟩
 ·cases h
set_option maxRecDepth 10000
def ku (d:Nat):List Nat→Nat
 | []=>0
 |v::r=>v+2^d*ku d r
theorem rm {d:Nat}:∀ {l:List Nat},(∀v∈l,v<2^d)→∀i,i<l.length→ku d l/2^(d*i)%2^d=l.getD i 0
 | [],_,i,hi=>by simp at hi
 |v::r,h,0,_=>by
  rw [ku,Nat.mul_zero,Nat.pow_zero,Nat.div_one,Nat.add_mul_mod_self_left,Nat.mod_eq_of_lt (h v (by simp))];rfl
 |v::r,h,i+1,hi=>by
  rw [ku,show d*(i+1)=d+d*i by rw [Nat.mul_succ,Nat.add_comm],Nat.pow_add,←Nat.div_div_eq_div_mul,Nat.add_mul_div_left _ _ (Nat.two_pow_pos d),Nat.div_eq_of_lt (h v (by simp)),Nat.zero_add]
  exact rm (fun u hu=>h u (List.mem_cons_of_mem _ hu)) i (by simpa using hi)
theorem yI {d:Nat}:∀ {l:List Nat},(∀v∈l,v<2^d)→ku d l<2^(d*l.length)
 | [],_=>by simp [ku]
 |v::r,h=>by
  have h1:=h v (by simp)
  have h2:=yI (l:=r) fun u hu=>h u (List.mem_cons_of_mem _ hu)
  rw [ku,List.length_cons,Nat.mul_succ,Nat.add_comm (d*r.length),Nat.pow_add]
  have h3:2^d*(ku d r+1)≤2^d*2^(d*r.length):=Nat.mul_le_mul_left _ h2
  rw [Nat.mul_succ] at h3
  omega
theorem Ow (x:Nat) {k d:Nat} (h:k<d):x%2^d/2^k%2=x/2^k%2:=by
 obtain ⟨e,rfl⟩:∃e,d=k+(e+1):=⟨d-k-1,by omega⟩
 rw [Nat.pow_add,Nat.mod_mul_right_div_self]
 exact Nat.mod_mod_of_dvd _ ⟨2^e,by rw [Nat.pow_succ,Nat.mul_comm]⟩
theorem Gf {d:Nat} {l:List Nat} (h:∀v∈l,v<2^d) {i k:Nat} (hi:i<l.length) (hk:k<d):ku d l/2^(d*i+k)%2=l.getD i 0/2^k%2:=by
 rw [←rm h i hi,Ow _ hk,Nat.pow_add,Nat.div_div_eq_div_mul]
theorem NZ (V a:Nat):V%2^(a+1)=V%2^a+V/2^a%2*2^a:=by
 rw [Nat.pow_succ,Nat.mod_mul,Nat.mul_comm (2^a)]
theorem NT {L X a b:Nat} (hX:X<2^a) (hb:b≤1):(bq L X).set (a/8) ((bq L X).getD (a/8) 0|||s8 (UInt8.ofNat b) (a%8))=bq L (X+b*2^a):=by
 apply List.ext_getElem (by simp [au])
 intro j h1 h2
 rw [au] at h2
 have hp:∀m,2^a=2^(8*m)*2^(a-8*m)∨a<8*m:=fun m=>by
  rcases Nat.lt_or_ge a (8*m) with h|h
  ·exact .inr h
  ·exact .inl (by rw [←Nat.pow_add];congr 1;omega)
 rw [List.getElem_set,c_]
 by_cases e:a/8=j
 ·rw [if_pos e,List.getD_eq_getElem?_getD,List.getElem?_eq_getElem (by rw [au];omega),Option.getD_some,c_,c_,s8]
  rcases hp j with h|h
  ·rw [show a/8=j from e]
   have hr:a-8*j=a%8:=by omega
   rw [hr] at h
   have hq:X/2^(8*j)<2^(a%8):=by
    rw [h] at hX
    exact Nat.div_lt_of_lt_mul hX
   have e1:(X+b*2^a)/2^(8*j)=X/2^(8*j)+b*2^(a%8):=by
    rw [h,←Nat.mul_assoc,Nat.mul_comm b,Nat.mul_assoc,Nat.add_mul_div_left _ _ (Nat.two_pow_pos _)]
   rw [e1]
   generalize X/2^(8*j)=y at hq
   have h7:2^(a%8)≤2^7:=Nat.pow_le_pow_right (by omega) (by omega)
   refine UInt8.toNat_inj.1 ?_
   have hbm:b*2^(a%8)≤2^7:=by
    rcases (show b=0∨b=1 by omega) with rfl|rfl<;>omega
   rw [UInt8.toNat_or,UInt8.toNat_ofNat',UInt8.toNat_ofNat',UInt8.toNat_ofNat',UInt8.toNat_ofNat',Nat.mod_eq_of_lt (show b<2^8 by omega),Nat.mod_eq_of_lt (show y<2^8 by omega),Nat.mod_eq_of_lt (show b*2^(a%8)<2^8 by omega),Nat.mod_eq_of_lt (show y+b*2^(a%8)<2^8 by omega)]
   rw [Nat.or_comm,←Nat.shiftLeft_eq,←Nat.shiftLeft_add_eq_or_of_lt hq,Nat.add_comm]
  ·omega
 ·rw [if_neg e,c_]
  rcases Nat.lt_or_ge j (a/8) with h|h
  ·rcases hp (j+1) with h3|h3
   ·rw [show 8*(j+1)=8*j+8 by omega,Nat.pow_add,Nat.mul_assoc] at h3
    rw [h3,←Nat.mul_assoc,Nat.mul_comm b,Nat.mul_assoc,Nat.add_mul_div_left _ _ (Nat.two_pow_pos _)]
    refine UInt8.toNat_inj.1 ?_
    rw [UInt8.toNat_ofNat',UInt8.toNat_ofNat',←Nat.mul_assoc,Nat.mul_comm b,Nat.mul_assoc]
    omega
   ·omega
  ·have h4:2^(a+1)≤2^(8*j):=Nat.pow_le_pow_right (by omega) (by omega)
   rw [Nat.pow_succ] at h4
   have hbm:b*2^a≤2^a:=by
    rcases (show b=0∨b=1 by omega) with rfl|rfl<;>omega
   rw [Nat.div_eq_of_lt (by omega),Nat.div_eq_of_lt (by omega)]
def pv (d:Nat) (f:List UInt16) (i:Nat):Nat:=if d=12 then gu f i%3329 else gu f i%2^d
def jc (d:Nat) (f:List UInt16):Nat:=ku d ((List.range 256).map (pv d f))
def lx (d:Nat) (f:List UInt16):List UInt8:=bq (32*d) (jc d f)
theorem G7 (d:Nat) (f:List UInt16) (i:Nat):pv d f i<2^d:=by
 unfold pv
 split
 ·rename_i h;subst h;have:=Nat.mod_lt (gu f i) (show 3329>0 by omega);omega
 ·exact Nat.mod_lt _ (Nat.two_pow_pos d)
theorem xH {d:Nat} (f:List UInt16) {i k:Nat} (hi:i<256) (hk:k<d):jc d f/2^(d*i+k)%2=pv d f i/2^k%2:=by
 rw [jc,Gf (fun v hv=> ?_) (by simpa using hi) hk,cA hi]
 rw [List.mem_map] at hv
 obtain ⟨j,_,rfl⟩:=hv
 exact G7 d f j
theorem Nw (d:Nat) (f:List UInt16):jc d f<2^(d*256):=by
 have:=yI (d:=d) (l:=(List.range 256).map (pv d f)) fun v hv=>by
  rw [List.mem_map] at hv
  obtain ⟨j,_,rfl⟩:=hv
  exact G7 d f j
 rw [List.length_map,List.length_range] at this
 exact this
theorem Io (k:Nat):bq k 0=List.replicate k 0:=by
 apply List.ext_getElem (by simp [au])
 intro j h1 h2
 rw [c_];simp
theorem Pi (d:Nat):(1:Int)*((2^(Nm.int (d:Int)).toInt.toNat:Nat):Int)=((2^d:Nat):Int):=by
 show (1:Int)*((2^d:Nat):Int)=_
 omega
set_option maxHeartbeats 2000000 in
theorem uL (f:List UInt16) (d:Nat) (hd:1≤d∧d≤12):vc cL (ap VK) Tryz.f154.ntmps (ah Tryz.f154) ⟨aq 0 [.agg [.vec .u16 256 f],.one (.ob .int (d:Int))],[],2000⟩ (eH [4,5] [.one (.rw 0),.one (.ob .int 0)] [(0,.row 5 .u8 (lx d f))]):=by
 refine ⟨fun h1=> ?_,fun h1=>⟨h1,fun h2=> ?_,fun h2=> ?_⟩⟩
 ·have h1:=of_decide_eq_true h1;omega
 ·have h2:=of_decide_eq_true h2;omega
 have hp12:2^d≤2^12:=Nat.pow_le_pow_right (by omega) hd.2
 have hp0:=Nat.two_pow_pos d
 refine sd<|⟨⟨show (0:Int)≤32*(d:Int) by omega,rfl,show 32*(d:Int)≤16777216 by omega⟩,?_⟩
 refine Or.inr ⟨{i:Nat // i≤256},fun i=>⟨[(7,.one (.ob .int (i.val:Int)))],[(2176,.row 5 .u8 (bq (32*d) (jc d f%2^(d*i.val))))]⟩,fun i=>256-i.val,⟨0,by omega⟩,?_⟩
 refine ⟨rfl,?_,fun i=>⟨fun h3=> ?_,fun h3=> ?_⟩⟩
 ·show bq (32*d) (jc d f%2^(d*0))=List.replicate (32*(d:Int)).toNat 0
  rw [Nat.mul_zero,Nat.pow_zero,Nat.mod_one,Io,show (32*(d:Int)).toNat=32*d by omega]
 ·have h3:=of_decide_eq_true h3
  have hi:=i.2
  have hL:(bq (32*d) (jc d f%2^(d*i.val))).length=32*d:=au _ _
  have e1:=Pi d
  refine sd<|sd<|⟨⟨show (0:Int)≤(d:Int) by omega,show (d:Int)<64 by omega,?_⟩,?_,?_⟩
  ·rw [e1];exact ⟨by omega,by omega⟩
  ·rw [e1];exact ⟨by omega,by omega⟩
  rw [e1]
  have hx:=(f.getD (i.val:Int).toNat (Kd.df .u16)).toNat_lt
  have m1:(i.val:Int)*(d:Int)=((d*i.val:Nat):Int):=by rw [Nat.mul_comm];rfl
  have m2:d*i.val+d≤d*256:=by rw [←Nat.mul_succ];exact Nat.mul_le_mul_left _ (by omega)
  have m3:d*256≤12*256:=Nat.mul_le_mul_right _ hd.2
  have b1:0≤(i.val:Int)*(d:Int):=by rw [m1];exact Int.natCast_nonneg _
  have b2:(i.val:Int)*(d:Int)+(d:Int)≤256*(d:Int):=by rw [m1];omega
  have hbit:=fun k hk=>xH (d:=d) f (i:=i.val) (k:=k) (by omega) hk
  have hlt:=G7 d f i.val
  refine ⟨fun h4=> ?_,fun h4=> ?_⟩
  all_goals
   first
    |(have h4:d=12:=by have:=of_decide_eq_true h4;omega
      have e2:(((f.getD (i.val:Int).toNat (Kd.df .u16)).toNat:Nat):Int)%3329=((pv d f i.val:Nat):Int):=by rw [pv,if_pos h4];rfl
      refine sd<|sd<|sd ?_
      rw [e2])
    |(have h4:¬d=12:=by have:=of_decide_eq_false h4;omega
      have e2:(((f.getD (i.val:Int).toNat (Kd.df .u16)).toNat:Nat):Int)%((2^d:Nat):Int)=((pv d f i.val:Nat):Int):=by rw [pv,if_neg h4];rfl
      rw [e2])
   generalize pv d f i.val=v at hbit hlt ⊢
   refine Or.inr ⟨{k:Nat // k≤d},fun k=>⟨[(9,.one (.ob .int (k.val:Int)))],[(2176,.row 5 .u8 (bq (32*d) (jc d f%2^(d*i.val+k.val))))]⟩,fun k=>d-k.val,⟨0,Nat.zero_le _⟩,?_⟩
   refine ⟨rfl,rfl,fun k=>⟨fun h5=> ?_,fun h5=> ?_⟩⟩
   ·have h5:=of_decide_eq_true h5
    have hk:=k.2
    have hX:=NZ (jc d f) (d*i.val+k.val)
    rw [hbit k.val (by omega)] at hX
    have hXl:=Nat.mod_lt (jc d f) (Nat.two_pow_pos (d*i.val+k.val))
    have hl:(bq (32*d) (jc d f%2^(d*i.val+k.val))).length=32*d:=au _ _
    refine sd<|sd ?_
    rw [m1,show ((d*i.val:Nat):Int)+(k.val:Int)=((d*i.val+k.val:Nat):Int) from rfl]
    have m4:d*i.val+k.val+1=d*i.val+(k.val+1):=rfl
    rw [m4] at hX
    generalize hE:jc d f%2^(d*i.val+(k.val+1))=X' at hX
    generalize jc d f%2^(d*i.val+k.val)=X at hX hXl hl ⊢
    generalize hA:d*i.val+k.val=a at hX hXl hl ⊢
    have e5:(v:Int)/((2^(Nm.int (k.val:Int)).toInt.toNat:Nat):Int)=((v/2^k.val:Nat):Int):=rfl
    have e6:v/2^k.val≤v:=Nat.div_le_self _ _
    have e7:=Int.natCast_nonneg (v/2^k.val)
    refine sd<|sd<|sd<|sd<|⟨⟨show (0:Int)≤(k.val:Int) by omega,show (k.val:Int)<64 by omega⟩,?_,?_⟩
    ·rw [e5];exact ⟨⟨⟨by omega,by omega⟩,by omega⟩,⟨by decide,by decide⟩,by decide⟩
    rw [e5]
    refine sd<|sd<|⟨show (0:Int)≤(a:Int)%8 by omega,?_⟩
    refine sd<|sd<|sd<|sj ⟨k.val+1,by omega⟩<|sr ⟨?_,trivial⟩
    show bq (32*d) (jc d f%2^(d*i.val+(k.val+1)))=(bq (32*d) X).set ((a:Int)/8).toNat ((bq (32*d) X).getD ((a:Int)/8).toNat 0|||s8 (UInt8.ofNat (v/2^k.val&&&1)) ((a:Int)%8).toNat)
    rw [hE,hX,WR,show ((a:Int)%8).toNat=a%8 by omega,Nat.and_one_is_mod]
    exact (NT hXl (Nat.lt_succ_iff.1 (Nat.mod_lt _ (by omega)))).symm
   have h5:=of_decide_eq_false h5
   have hk:=k.2
   refine sd<|sj ⟨i.val+1,by omega⟩<|sr ⟨?_,trivial⟩
   show bq (32*d) (jc d f%2^(d*(i.val+1)))=bq (32*d) (jc d f%2^(d*i.val+k.val))
   rw [show d*(i.val+1)=d*i.val+k.val by rw [Nat.mul_succ];omega]
 ·have h3:=of_decide_eq_false h3
  have hi:=i.2
  refine ⟨rfl,?_,trivial⟩
  show bq (32*d) (jc d f)=bq (32*d) (jc d f%2^(d*i.val))
  rw [show i.val=256 by omega,Nat.mod_eq_of_lt (Nw d f)]
def SJ:GF:=fun l=>match l with
 | [.agg [.vec .u16 256 f],.one (.ob .int d)]=>some ⟨[.one (.rw 0),.one (.ob .int 0)],[(0,.row 5 .u8 (lx d.toNat f))],some (Dj 1 d 12)⟩
 |_=>none
theorem FR:af 154 (ar SJ):=aB PB Tryz.func154 (by kernel_rfl) rfl (rs:= [4,5]) Tryz.results154 fun l g h hp=>by
 unfold SJ at h
 split at h
 ·rename_i f d
  cases h
  obtain ⟨h1,h2⟩:=hp
  obtain ⟨d,rfl⟩:=Int.eq_ofNat_of_zero_le (show (0:Int)≤d by omega)
  exact ⟨Nat.le_of_ble_eq_true rfl,rfl,rfl,rfl,uL _ _ ⟨by omega,by omega⟩⟩
 ·cases h
def Wj:List (Nat×CF):=(152,ar pR)::(154,ar SJ)::VK
theorem Qt:∀p∈Wj,af p.1 p.2:=ag q9<|ag FR Qo
theorem U_:az cL (ap Wj):=aD aW (br Qt)
theorem im (d:Nat) (f:List UInt16):(lx d f).length=32*d:=au _ _
set_option maxRecDepth 10000
def kG (d:List UInt8):List UInt8:=lC 64 (d++ [3])
def FN (d:List UInt8):List UInt8:=(kG d).take 32
def XU (d:List UInt8):List UInt8:=((kG d).drop 32).take ((kG d).length-32)
def kS (d:List UInt8) (i:UInt8):List UInt16:=vI (oJ (XU d) i) 7
def kT (d:List UInt8) (i:UInt8):List UInt16:=J7 (J7 (J7 (kS d (i+3)) (pY (vv (FN d++ [0,i])) (kS d 0) 128)) (pY (vv (FN d++ [1,i])) (kS d 1) 128)) (pY (vv (FN d++ [2,i])) (kS d 2) 128)
def jd (d:List UInt8):List UInt8:=lx 12 (kT d 0)++lx 12 (kT d 1)++lx 12 (kT d 2)++FN d
def KN (d:List UInt8):List UInt8:=lx 12 (kS d 0)++lx 12 (kS d 1)++lx 12 (kS d 2)
def TF (d z:List UInt8):List UInt8:=KN d++jd d++lC 32 (jd d)++z
theorem Ij (d:List UInt8):(kG d).length=64:=gy _ _ _ _
theorem G9 (d:List UInt8):(FN d).length=32:=by simp [FN,Ij]
theorem iX (d:List UInt8):(jd d).length=1184:=by simp only [jd,List.length_append,im,G9]
theorem GY (d:List UInt8):(KN d).length=1152:=by simp only [KN,List.length_append,im]
theorem se {p q:Prop} (hq:q) (hp:p:=by (simp only [List.length_append,List.length_cons,List.length_nil,List.length_take,List.length_drop,im];omega)):p∧q:=⟨hp,hq⟩
set_option maxHeartbeats 40000000 in
theorem RT (d z:List UInt8) (hd:d.length=32) (hz:z.length=32):vc cL (ap Wj) Tryz.f94.ntmps (ah Tryz.f94) ⟨aq 0 [.one (.ro .u8 d),.one (.ro .u8 z)],[],2000⟩ (eH [4,5,6] [.one (.rw 0),.one (.rw 1),.one (.ob .int 0)] [(0,.row 5 .u8 (jd d)),(1,.row 5 .u8 (TF d z))]):=by
 have e1: [d,[UInt8.ofNat 3]].flatten=d++ [3]:=by simp
 refine ⟨fun h1=> ?_,fun h1=>⟨h1,fun _ _=>⟨fun h2=> ?_,fun h2=> ?_⟩⟩⟩
 ·have h1:=of_decide_eq_true h1;omega
 ·have h2:=of_decide_eq_true h2;omega
 refine ⟨⟨Nat.le_of_ble_eq_true rfl,by rw [e1];simp;omega⟩,⟨.inr rfl,by rw [e1];simp;omega,by decide⟩,?_⟩
 rw [e1]
 have hG:=Ij d
 revert hG
 generalize hg:kG d=G
 intro hG
 have hg2:lC (Int.toNat 64) (d++ [3])=G:=hg
 rw [hg2]
 repeat refine sd ?_
 refine Or.inl ⟨4,?_⟩
 repeat refine sd ?_
 refine Or.inl ⟨4,?_⟩
 repeat refine sd ?_
 refine Or.inl ⟨4,?_⟩
 repeat (first|refine sd ?_|refine se ?_)
 refine Or.inl ⟨4,?_⟩
 repeat (first|refine sd ?_|refine se ?_)
 refine Or.inl ⟨4,?_⟩
 repeat (first|refine sd ?_|refine se ?_)
 subst hg
 refine ⟨⟨.inl rfl,?_,by decide⟩,?_⟩
 ·show (jd d).length≤_
  rw [iX];decide
 refine ⟨⟨Nat.le_of_ble_eq_true rfl,?_⟩,?_⟩
 ·show [KN d,jd d,lC 32 (jd d),z].flatten.length≤_
  simp only [List.flatten_cons,List.flatten_nil,List.length_append,List.length_nil,GY,iX,lC,gy,hz]
  decide
 refine ⟨rfl,rfl,?_,trivial⟩
 show TF d z= [KN d,jd d,lC 32 (jd d),z].flatten
 simp [TF]
def Er:GF:=fun l=>match l with
 | [.one (.ro .u8 d),.one (.ro .u8 z)]=>some ⟨[.one (.rw 0),.one (.rw 1),.one (.ob .int 0)],[(0,.row 5 .u8 (jd d)),(1,.row 5 .u8 (TF d z))],some (d.length=32∧z.length=32)⟩
 |_=>none
theorem qw:af 94 (ar Er):=aB U_ Tryz.func94 (by kernel_rfl) rfl (rs:= [4,5,6]) Tryz.results94 fun l g h hp=>by
 unfold Er at h
 split at h
 ·cases h;exact ⟨Nat.le_of_ble_eq_true rfl,rfl,rfl,rfl,RT _ _ hp.1 hp.2⟩
 ·cases h
def gi (nx:Nat) (ns:List Nat) (b:Nat):Nat:=match cX b with |true=>nx+b|false=>ns.getD (b-1000) 0
def Cl.rb (f:Nat→Nat):Cl→Cl
 | .ptr b j=> .ptr (f b) j
 | .rw b=> .rw (f b)
 | .sl b j m c=> .sl (f b) j m c
 | .sub b j m=> .sub (f b) j m
 |x=>x
def AV.rb (f:Nat→Nat):AV→AV
 | .one x=> .one (x.rb f)
 | .agg l=> .agg (l.map (Cl.rb f))
def Ch.rb (f:Nat→Nat):Ch→Ch
 | .blk E l=> .blk E (l.map (Cl.rb f))
 | .row E k l=> .row E k l
def i8 (n b:Nat):Bool:=match Nat.blt b 16 with
 |true=>true
 |false=>match Nat.blt b 1000 with
  |true=>false
  |false=>Nat.blt b (1000+n)
def sk (n:Nat):Cl→Bool
 | .ptr b _=>i8 n b| .sl b _ _ _=>i8 n b| .rw b=>i8 n b| .sub b _ _=>i8 n b
 | .pix _ _ _=>false| .pro _ _=>false| .ro _ _=>false| .bb _=>false| .pbb _=>false| .mp _ _=>false| .rv _ _=>false
 |_=>true
def gN (n:Nat):List Cl→Bool
 | []=>true
 |x::r=>match sk n x with |true=>gN n r|false=>false
def eS (n:Nat):List AV→Bool
 | []=>true
 | .one x::r=>match sk n x with |true=>eS n r|false=>false
 | .agg l::r=>match gN n l with |true=>eS n r|false=>false
def xp (n:Nat):Ch→Bool
 | .blk _ l=>gN n l
 | .row _ _ _=>true
def pN (n:Nat):List (Nat×Ch)→Bool
 | []=>true
 |(b,c)::r=>match i8 n b,xp n c with
  |true,true=>pN n r
  |_,_=>false
def Cl.inB (n:Nat):Cl→Bool
 | .ptr b _=>match Nat.blt b 1000 with |true=>false|false=>Nat.blt b (1000+n)
 | .sl b _ _ _=>match Nat.blt b 1000 with |true=>false|false=>Nat.blt b (1000+n)
 | .rw b=>match Nat.blt b 1000 with |true=>false|false=>Nat.blt b (1000+n)
 | .sub b _ _=>match Nat.blt b 1000 with |true=>false|false=>Nat.blt b (1000+n)
 | .pix _ _ _=>false
 |_=>true
def iB (n:Nat):List Cl→Bool
 | []=>true
 |x::r=>match x.inB n with |true=>iB n r|false=>false
def jm (n:Nat):List AV→Bool
 | []=>true
 | .one x::r=>match x.inB n with |true=>jm n r|false=>false
 | .agg l::r=>match iB n l with |true=>jm n r|false=>false
def mD (n:Nat):List Ch→Bool
 | []=>true
 | .blk _ l::r=>match iB n l,gN n l with |true,true=>mD n r|_,_=>false
 | .row _ _ _::r=>mD n r
def bW:Nat→List Ch→List (Nat×Nat×Ch)
 |_,[]=> []
 |i,c::r=>(i,1,c)::bW (i+1) r
def kj (d:List Nat):List (Nat×Nat×Ch)→List (Nat×Nat×Ch)
 | []=> []
 |(b,v,c)::r=>match bI b d with |true=>kj d r|false=>(b,v,c)::kj d r
def pX:List Nat→Bool
 | []=>true
 |x::r=>match bI x r with |true=>false|false=>pX r
def nL (ty:Nat→TE) (N:Nat) (rs:List ResultVar) (outs:List AV) (us:List (Nat×Ch)) (cs:List Ch) (d:List Nat):KK:=fun e S'=>match e with
 | .exit _=>False
 |_=>my ty rs N S' fun l=>g_ ⟨l,S'.hp,S'.nx⟩ 2000 (KH N outs) ⟨xv N outs,us⟩ (kj d (bW 1000 cs)) fun _=>jL us S'.hp (kj d (bW 1000 cs)) True
def qL (f:Nat→Nat) (us:List (Nat×Ch)) (d:List Nat):List (Nat×Option Ch):=d.map (fun b=>(f b,none))++us.map fun p=>(f p.1,some (p.2.rb f))
section
variable {nx:Nat} {ns:List Nat} {η η' ηh:bx} {A A':Nat→Prop} {w:World}
theorem Cr {a b:Nat}:Nat.blt a b=false↔b≤a:=by
 rw [←Bool.not_eq_true,Nat.blt_eq];omega
theorem mY {n b:Nat} (h:i8 n b=true):b<16∨(1000≤b∧b<1000+n):=by
 unfold i8 at h
 cases e:Nat.blt b 16 with
 |true=>exact .inl (by simpa using e)
 |false=>
  rw [e] at h
  cases e2:Nat.blt b 1000 with
  |true=>rw [e2] at h;cases h
  |false=>
   rw [e2] at h
   exact .inr ⟨Cr.1 e2,by simpa using h⟩
theorem Ef {b:Nat} (h:b<1000):gi nx ns b=nx+b:=by
 unfold gi cX
 rw [show Nat.blt b 1000=true by simpa using h]
theorem j4 {b:Nat} (h:1000≤b):gi nx ns b=ns.getD (b-1000) 0:=by
 unfold gi cX
 rw [Cr.2 h]
theorem N8 {n b:Nat} (h:b<1000):eL n b=n+b:=by
 unfold eL cX
 rw [show Nat.blt b 1000=true by simpa using h]
theorem Ep {n b:Nat} (h:1000≤b):eL n b=b:=by
 unfold eL cX
 rw [Cr.2 h]
theorem Cl.rn_rb {n:Nat} (x:Cl):x.rn n=x.rb (eL n):=by cases x<;>rfl
theorem AV.rn_rb {n:Nat} (x:AV):x.rn n=x.rb (eL n):=by
 cases x with
 |one x=>exact congrArg AV.one x.rn_rb
 |agg l=>exact congrArg AV.agg (List.map_congr_left fun x _=>x.rn_rb)
theorem Ch.rn_rb {n:Nat} (x:Ch):x.rn n=x.rb (eL n):=by
 cases x with
 |row E k l=>rfl
 |blk E l=>exact congrArg (Ch.blk E) (List.map_congr_left fun x _=>x.rn_rb)
theorem Cl.rb_id (x:Cl):x.rb id=x:=by cases x<;>rfl
theorem Ch.rb_id (x:Ch):x.rb id=x:=by
 cases x with
 |row E k l=>rfl
 |blk E l=>exact congrArg (Ch.blk E) ((List.map_congr_left fun x _=>x.rb_id).trans (List.map_id _))
variable {f g:Nat→Nat} {n:Nat}
theorem Cl.H.rbn (he:∀b,i8 n b=true→∀v,ηh (f b)=some v→η' (g b)=some v) {x:Cl} (hx:sk n x=true) {cs:List Value} (h:(x.rb f).H ηh A w cs):(x.rb g).H η' A' w cs:=by
 cases x
 case any=>exact h
 case un=>exact h
 case cv=>exact h
 case ob=>exact h
 case vec=>exact h
 case ptr b j=>
  obtain ⟨g,h1,h2⟩:=h
  exact ⟨g,he b hx _ h1,h2⟩
 case pix b j i=>cases hx
 case pro k x=>cases hx
 case sl b j m c=>
  obtain ⟨hn,g,h1,h2⟩:=h
  exact ⟨hn,g,he b hx _ h1,h2⟩
 case rw b=>
  obtain ⟨v,h1,h2⟩:=h
  exact ⟨v,he b hx _ h1,h2⟩
 case sub b j m=>
  obtain ⟨v,a,c,h1,h2⟩:=h
  exact ⟨v,a,c,he b hx _ h1,h2⟩
 case ro k l=>cases hx
 case bb l=>cases hx
 case pbb l=>cases hx
 case ln=>exact h
 case mp v f=>cases hx
 case rv v l=>cases hx
theorem aK.rbn (he:∀b,i8 n b=true→∀v,ηh (f b)=some v→η' (g b)=some v):∀ {l:List Cl},gN n l=true→∀ {cs:List Value},aK ηh A w (l.map (Cl.rb f)) cs→aK η' A' w (l.map (Cl.rb g)) cs
 | [],_,_,h=>h
 |x::r,hl,cs,⟨h,t,e,hx,hr⟩=>by
  unfold gN at hl
  cases e1:sk n x with
  |false=>rw [e1] at hl;cases hl
  |true=>rw [e1] at hl;exact ⟨h,t,e,hx.rbn he e1,aK.rbn he hl hr⟩
theorem zf {x:AV} {l:List AV} (h:eS n (x::l)=true):eS n [x]=true∧eS n l=true:=by
 cases x with
 |one x=>
  simp only [eS] at h ⊢
  cases e:sk n x with
  |false=>rw [e] at h;cases h
  |true=>rw [e] at h;exact ⟨rfl,h⟩
 |agg q=>
  simp only [eS] at h ⊢
  cases e:gN n q with
  |false=>rw [e] at h;cases h
  |true=>rw [e] at h;exact ⟨rfl,h⟩
theorem AV.H.rbn (he:∀b,i8 n b=true→∀v,ηh (f b)=some v→η' (g b)=some v) {x:AV} (hx:eS n [x]=true) {v:Value} (h:(x.rb f).H ηh A w v):(x.rb g).H η' A' w v:=by
 cases x with
 |one x=>
  simp only [eS] at hx
  cases e:sk n x with
  |false=>rw [e] at hx;cases hx
  |true=>exact Cl.H.rbn (x:=x) he e h
 |agg l=>
  simp only [eS] at hx
  cases e:gN n l with
  |false=>rw [e] at hx;cases hx
  |true=>
   obtain ⟨cs,e1,h1,h2⟩:=h
   exact ⟨cs,e1,h1.rbn he e,h2⟩
theorem bQ.rbn (he:∀b,i8 n b=true→∀v,ηh (f b)=some v→η' (g b)=some v):∀ {l:List AV},eS n l=true→∀ {vs:List Value},bQ ηh A w (l.map (AV.rb f)) vs→bQ η' A' w (l.map (AV.rb g)) vs
 | [],_,_,h=>h
 |x::r,hl,vs,⟨v,t,e,hx,hr⟩=>by
  obtain ⟨h1,h2⟩:=zf hl
  exact ⟨v,t,e,hx.rbn he h1,hr.rbn he h2⟩
theorem Ch.H.rbn (he:∀b,i8 n b=true→∀v,ηh (f b)=some v→η' (g b)=some v) {b:Nat} (hb:i8 n b=true) {c:Ch} (hc:xp n c=true) (h:(c.rb f).H ηh A w (f b)):(c.rb g).H η' A' w (g b):=by
 cases c with
 |blk E l=>
  obtain ⟨g,cs,h1,h2,h3,h4⟩:=h
  exact ⟨g,cs,he b hb _ h1,h2,h3.rbn he hc,h4⟩
 |row E k l=>
  obtain ⟨v,cs,h1,h2⟩:=h
  exact ⟨v,cs,he b hb _ h1,h2⟩
theorem Ch.H.inb (he:∀b,1000≤b→b<1000+n→ηh b=η (gi nx ns b)) {b:Nat} (hb:1000≤b∧b<1000+n) {c:Ch} (hl:∀E l,c= .blk E l→∀cs,aK η A w (l.map (Cl.rb (gi nx ns))) cs→aK ηh A' w l cs) (h:(c.rb (gi nx ns)).H η A w (gi nx ns b)):c.H ηh A' w b:=by
 cases c with
 |blk E l=>
  obtain ⟨g,cs,h1,h2,h3,h4⟩:=h
  exact ⟨g,cs,by rw [he b hb.1 hb.2];exact h1,h2,hl E l rfl cs h3,h4⟩
 |row E k l=>
  obtain ⟨v,cs,h1,h2⟩:=h
  exact ⟨v,cs,by rw [he b hb.1 hb.2];exact h1,h2⟩
theorem iO:∀ {cs:List Ch},mD n cs=true→∀E l,Ch.blk E l∈cs→iB n l=true∧gN n l=true
 | [],_,E,l,h=>(by cases h)
 | .row _ _ _::r,h,E,l,hm=>by
  rcases List.mem_cons.1 hm with h1|h1
  ·cases h1
  ·exact iO (cs:=r) h E l h1
 | .blk F m::r,h,E,l,hm=>by
  unfold mD at h
  cases e1:iB n m<;>cases e2:gN n m<;>rw [e1,e2] at h<;>first |(cases h;done)|skip
  rcases List.mem_cons.1 hm with h1|h1
  ·cases h1;exact ⟨e1,e2⟩
  ·exact iO (cs:=r) h E l h1
theorem Cl.H.inb (he:∀b,1000≤b→b<1000+n→ηh b=η (gi nx ns b)) (hA:∀g,A g→A' g) {x:Cl} (hx:x.inB n=true) {cs:List Value} (h:(x.rb (gi nx ns)).H η A w cs):x.H ηh A' w cs:=by
 have hb:∀b,(match Nat.blt b 1000 with |true=>false|false=>Nat.blt b (1000+n))=true→ηh b=η (gi nx ns b):=fun b hb=>by
  cases e:Nat.blt b 1000 with
  |true=>rw [e] at hb;cases hb
  |false=>rw [e] at hb;exact he b (Cr.1 e) (by simpa using hb)
 cases x
 case any=>exact h
 case un=>exact h
 case cv=>exact h
 case ob=>exact h
 case vec=>exact h
 case ptr b j=>
  obtain ⟨g,h1,h2⟩:=h
  exact ⟨g,by rw [hb b hx];exact h1,h2⟩
 case pix b j i=>cases hx
 case pro k x=>
  obtain ⟨g,q,us,h1,h2,h3⟩:=h
  exact ⟨g,q,us,h1,hA _ h2,h3⟩
 case sl b j m c=>
  obtain ⟨hn,g,h1,h2⟩:=h
  exact ⟨hn,g,by rw [hb b hx];exact h1,h2⟩
 case rw b=>
  obtain ⟨v,h1,h2⟩:=h
  exact ⟨v,by rw [hb b hx];exact h1,h2⟩
 case sub b j m=>
  obtain ⟨v,a,c,h1,h2⟩:=h
  exact ⟨v,a,c,by rw [hb b hx];exact h1,h2⟩
 case ro k l=>exact Cl.H.names (n:=0) (η:=η) (fun b hb=>by omega) hA rfl h
 case bb l=>exact Cl.H.names (n:=0) (η:=η) (fun b hb=>by omega) hA rfl h
 case pbb l=>exact Cl.H.names (n:=0) (η:=η) (fun b hb=>by omega) hA rfl h
 case ln=>exact h
 case mp v f=>exact Cl.H.names (n:=0) (η:=η) (fun b hb=>by omega) hA rfl h
 case rv v l=>exact Cl.H.names (n:=0) (η:=η) (fun b hb=>by omega) hA rfl h
theorem aK.inb (he:∀b,1000≤b→b<1000+n→ηh b=η (gi nx ns b)) (hA:∀g,A g→A' g):∀ {l:List Cl},iB n l=true→∀ {cs:List Value},aK η A w (l.map (Cl.rb (gi nx ns))) cs→aK ηh A' w l cs
 | [],_,_,h=>h
 |x::r,hl,cs,⟨h,t,e,hx,hr⟩=>by
  unfold iB at hl
  cases e1:x.inB n with
  |false=>rw [e1] at hl;cases hl
  |true=>rw [e1] at hl;exact ⟨h,t,e,hx.inb he hA e1,aK.inb he hA hl hr⟩
theorem bQ.inb (he:∀b,1000≤b→b<1000+n→ηh b=η (gi nx ns b)) (hA:∀g,A g→A' g):∀ {l:List AV},jm n l=true→∀ {vs:List Value},bQ η A w (l.map (AV.rb (gi nx ns))) vs→bQ ηh A' w l vs
 | [],_,_,h=>h
 |x::r,hl,vs,⟨v,t,e,hx,hr⟩=>by
  have h12:(match x with | .one y=>y.inB n| .agg q=>iB n q)=true∧jm n r=true:=by
   cases x with
   |one x=>
    simp only [jm] at hl
    cases e:x.inB n with
    |false=>rw [e] at hl;cases hl
    |true=>rw [e] at hl;exact ⟨e,hl⟩
   |agg q=>
    simp only [jm] at hl
    cases e:iB n q with
    |false=>rw [e] at hl;cases hl
    |true=>rw [e] at hl;exact ⟨e,hl⟩
  refine ⟨v,t,e,?_,bQ.inb he hA h12.2 hr⟩
  cases x with
  |one x=>exact Cl.H.inb (x:=x) he hA h12.1 hx
  |agg q=>
   obtain ⟨cs,e1,h1,h2⟩:=hx
   exact ⟨cs,e1,h1.inb he hA h12.1,h2⟩
theorem mm:∀ {cs:List Ch} {i b:Nat},aF (bW i cs) b=(if i≤b then cs[b-i]? else none)∧bX (bW i cs) b=(if i≤b∧b<i+cs.length then 1 else 0)
 | [],i,b=>by simp [bW,aF,bX];try omega
 |c::r,i,b=>by
  obtain ⟨h1,h2⟩:=mm (cs:=r) (i:=i+1) (b:=b)
  simp only [bW,aF,bX]
  cases e:Nat.beq i b with
  |true=>have:=aQ e;subst this;simp
  |false=>
   have e:=Nat.ne_of_beq_eq_false e
   rw [h1,h2]
   constructor
   ·by_cases hb:i≤b
    ·rw [if_pos (by omega),if_pos hb,show b-i=(b-(i+1))+1 by omega];rfl
    ·rw [if_neg (by omega),if_neg hb]
   ·simp only [List.length_cons]
    by_cases hb:i+1≤b∧b<i+1+r.length
    ·rw [if_pos hb,if_pos (by omega)]
    ·rw [if_neg hb,if_neg (by omega)]
theorem Eg {d:List Nat} {b:Nat}:∀ {l:List (Nat×Nat×Ch)},bI b d=false→aF (kj d l) b=aF l b∧bX (kj d l) b=bX l b
 | [],_=>⟨rfl,rfl⟩
 |(u,v,c)::r,h=>by
  obtain ⟨h1,h2⟩:=Eg (l:=r) h
  cases e:bI u d with
  |true=>
   have hne:Nat.beq u b=false:=by
    cases e2:Nat.beq u b with
    |false=>rfl
    |true=>have:=aQ e2;subst this;rw [h] at e;cases e
   simp only [kj,e,aF,bX,hne]
   exact ⟨h1,h2⟩
  |false=>
   simp only [kj,e,aF,bX,h1,h2]
   exact ⟨trivial,trivial⟩
theorem Gi {f:Nat→Nat} {d:List Nat}:∀ {us:List (Nat×Ch)} {H:Nat→Option Ch} {b:Nat} {c:Ch},bF (qL f us d) H b=some c→(∃p∈us,b=f p.1∧c=p.2.rb f)∨(H b=some c∧(∀p∈us,b≠f p.1)∧∀x∈d,b≠f x):=by
 have h1:∀ {us:List (Nat×Ch)} {H:Nat→Option Ch} {b:Nat} {c:Ch},bF (us.map fun p=>(f p.1,some (p.2.rb f))) H b=some c→(∃p∈us,b=f p.1∧c=p.2.rb f)∨(H b=some c∧∀p∈us,b≠f p.1):=fun {us}=>by
  induction us with
  |nil=>exact fun h=> .inr ⟨h,fun p hp=>(by cases hp)⟩
  |cons p us ih=>
   intro H b c h
   rcases ih (H:=fun x=>if x=f p.1 then some (p.2.rb f) else H x) h with ⟨q,hq,e⟩|⟨h1,h2⟩
   ·exact .inl ⟨q,List.mem_cons_of_mem _ hq,e⟩
   ·by_cases e:b=f p.1
    ·rw [if_pos e] at h1;cases h1;exact .inl ⟨p,by simp,e,rfl⟩
    ·rw [if_neg e] at h1
     exact .inr ⟨h1,fun q hq=>by
      rcases List.mem_cons.1 hq with rfl|hq
      ·exact e
      ·exact h2 q hq⟩
 induction d with
 |nil=>
  intro us H b c h
  rcases h1 h with h|⟨h,h2⟩
  ·exact .inl h
  ·exact .inr ⟨h,h2,fun x hx=>(by cases hx)⟩
 |cons x d ih=>
  intro us H b c h
  rcases ih (H:=fun y=>if y=f x then none else H y) h with h|⟨h,h2,h3⟩
  ·exact .inl h
  ·by_cases e:b=f x
   ·rw [if_pos e] at h;cases h
   ·rw [if_neg e] at h
    exact .inr ⟨h,h2,fun y hy=>by
     rcases List.mem_cons.1 hy with rfl|hy
     ·exact e
     ·exact h3 y hy⟩
theorem kN:∀ {us:List (Nat×Ch)},pN n us=true→∀p∈us,i8 n p.1=true∧xp n p.2=true
 | [],_,p,hp=>(by cases hp)
 |(b,c)::r,h,p,hp=>by
  unfold pN at h
  cases e:i8 n b<;>cases e2:xp n c<;>rw [e,e2] at h<;>first |(cases h;done)|skip
  rcases List.mem_cons.1 hp with rfl|hp
  ·exact ⟨e,e2⟩
  ·exact kN h p hp
theorem pH:∀ {l:List Nat},pX l=true→∀i j,i<l.length→j<l.length→l.getD i 0=l.getD j 0→i=j
 | [],_,i,j,h,_,_=>by simp at h
 |x::r,h,i,j,hi,hj,e=>by
  unfold pX at h
  cases e1:bI x r with
  |true=>rw [e1] at h;cases h
  |false=>
   rw [e1] at h
   have hx:x ∉ r:=by rw [←dH];simp [e1]
   have hm:∀k,k<r.length→r.getD k 0∈r:=fun k hk=>by
    rw [List.getD_eq_getElem?_getD,List.getElem?_eq_getElem hk];exact List.getElem_mem hk
   simp only [List.length_cons] at hi hj
   cases i with
   |zero=>
    cases j with
    |zero=>rfl
    |succ j=>exact absurd (show x∈r from by have:x=r.getD j 0:=e;rw [this];exact hm j (by omega)) hx
   |succ i=>
    cases j with
    |zero=>exact absurd (show x∈r from by have:r.getD i 0=x:=e;rw [←this];exact hm i (by omega)) hx
    |succ j=>rw [pH h i j (by omega) (by omega) e]
end
section
variable {ty:Nat→TE} {ct:Nat→Option CF} {H:Nat→Option Ch} {η:bx} {w:World} {nx:Nat}
theorem Te (hH:dh H η w) {b:Nat} (hb:H b≠none):∃v,η b=some v:=by
 cases e:H b with
 |none=>exact absurd e hb
 |some c=>
  have:=hH.chunk b c e
  cases c with
  |blk E l=>obtain ⟨g,cs,h1,_⟩:=this;exact ⟨_,h1⟩
  |row E k l=>obtain ⟨v,cs,h1,_⟩:=this;exact ⟨_,h1⟩
theorem C9 (hH:dh H η w) {b g:Nat} (hb:H b≠none) (hg:bu η b=some g):g<w.heap.size:=by
 cases e:H b with
 |none=>exact absurd e hb
 |some c=>
  have:=hH.chunk b c e
  cases c with
  |blk E l=>
   obtain ⟨g',cs,h1,h2,_⟩:=this
   unfold bu at hg;rw [h1] at hg;cases hg;exact h2.lt
  |row E k l=>
   obtain ⟨u,cs,h1,h2,h3⟩:=this
   rcases h3.2 with ⟨rfl,_⟩|⟨g',cap,cur,rfl,_,h4,_⟩
   ·unfold bu at hg;rw [h1] at hg;cases hg
   ·unfold bu at hg;rw [h1] at hg;cases hg;exact (Array.getElem?_eq_some_iff.1 h4).1
theorem OW (hm:Tryz.prog.follows .mixedOrders=true) (hT:bk ty) (hO:az ty ct) {f:Nat} {fn:Func} {c:Code} {rs:List ResultVar} (hf:Tryz.prog.funcs[f]?=some fn) (hb:fn.body=some c) (hr:fn.results=rs.toArray) {l:List AV} {cs:List Ch} {ns d:List Nat}
  (hn:cs.length≤500) (hl:jm cs.length l=true) (hcs:mD cs.length cs=true) (hlen:l.length≤fn.ntmps) (hns:ns.length=cs.length) (hnd:pX ns=true) (hH0:∀j c,cs[j]?=some c→H (ns.getD j 0)=some (c.rb (gi nx ns)))
  {outs:List AV} {us:List (Nat×Ch)} (ho:outs.length=rs.length) (h16:eS cs.length outs=true) (hh16:pN cs.length us=true) (hvc:vc ty ct fn.ntmps c ⟨aq 0 l,bW 1000 cs,2000⟩ (nL ty fn.ntmps rs outs us cs d))
  (hH:dh H η w) (hfree:∀b,nx≤b→b<nx+16→η b=none) {vs:List Value} (hv:bQ η (ay H η) w (l.map (AV.rb (gi nx ns))) vs) {pre:Option Prop}:
  Calls Tryz.prog f vs.toArray w fun e w'=>∃v η',e= .returned v∧bE H η w nx ⟨outs.map (AV.rb (gi nx ns)),qL (gi nx ns) us d,pre,none⟩ v w' η':=by
 refine calls_of_wp hf hb ?_
 let ηc:bx:=fun b=>if 1000≤b∧b<1000+cs.length then η (gi nx ns b) else none
 have hc1:∀b,1000≤b→b<1000+cs.length→ηc b=η (gi nx ns b):=fun b h1 h2=>by show (if _ then _ else _)=_;rw [if_pos ⟨h1,h2⟩]
 have hc0:∀b,2000≤b→ηc b=none:=fun b h1=>by show (if _ then _ else _)=_;rw [if_neg (by omega)]
 have hnm:∀j,gi nx ns (1000+j)=ns.getD j 0:=fun j=>by rw [j4 (by omega),show 1000+j-1000=j by omega]
 have hlk:∀b c,aF (bW 1000 cs) b=some c→∃j,b=1000+j∧j<cs.length∧cs[j]?=some c:=fun b c h=>by
  rw [mm.1] at h
  split at h
  ·exact ⟨b-1000,by omega,(List.getElem?_eq_some_iff.1 h).1,h⟩
  ·cases h
 have hHj:∀j,j<cs.length→H (ns.getD j 0)≠none:=fun j hj=>by
  rw [hH0 j cs[j] (List.getElem?_eq_getElem hj)];simp
 have hfc:∀j,j<cs.length→bu ηc (1000+j)=bu η (ns.getD j 0):=fun j hj=>by
  unfold bu;rw [hc1 _ (by omega) (by omega),hnm]
 have hinj:∀i j,i<cs.length→j<cs.length→ns.getD i 0=ns.getD j 0→i=j:=fun i j hi hj e=>pH hnd i j (by omega) (by omega) e
 have hA:∀g,ay H η g→ay (aF (bW 1000 cs)) ηc g:=fun g ha b hb=>by
  cases e:aF (bW 1000 cs) b with
  |none=>exact absurd e hb
  |some c=>
   obtain ⟨j,rfl,hj,_⟩:=hlk b c e
   rw [hfc j hj]
   exact ha _ (hHj j hj)
 have hv0:bQ ηc (ay (aF (bW 1000 cs)) ηc) w l vs:=bQ.inb hc1 hA hl hv
 obtain ⟨hvl,hsl⟩:=jV (i:=0) hv0
 have hS:pM fn.ntmps ⟨aq 0 l,bW 1000 cs,2000⟩ ηc {tmps:=vs.toArray++Array.replicate (fn.ntmps-vs.toArray.size) undef,defers:= []} w:=by
  refine ⟨⟨rfl,?_,fun t=> ?_,fun b c h=> ?_,fun b b' g hbb h1 h2 hg=> ?_⟩,hc0⟩
  ·simp;omega
  ·rcases hsl t with h|⟨x,v,h1,h2,h3,h4⟩
   ·show bz _ _ _ (bY (aq 0 l) t) _
    rw [h];trivial
   ·show bz _ _ _ (bY (aq 0 l) t) _
    rw [h1]
    have e:(vs.toArray++Array.replicate (fn.ntmps-vs.toArray.size) undef).getD t undef=v:=by
     rw [Array.getD_eq_getD_getElem?,Array.getElem?_append_left (by simp;exact (List.getElem?_eq_some_iff.1 h3).1)]
     simp only [Nat.sub_zero] at h3
     rw [List.getElem?_toArray,h3];rfl
    show bz _ _ _ [x] (Array.getD _ t undef)
    rw [e]
    exact h4
  ·obtain ⟨j,rfl,hj,hc⟩:=hlk b c h
   refine Ch.H.inb hc1 ⟨by omega,by omega⟩ (fun E q e cs' hq=> ?_) (hH.chunk _ _ ?_)
   ·subst e
    exact aK.inb hc1 hA (iO hcs E q (List.mem_of_getElem? hc)).1 hq
   ·rw [hnm];exact hH0 j c hc
  ·cases e1:aF (bW 1000 cs) b with
   |none=>exact absurd e1 h1
   |some c1=>
    cases e2:aF (bW 1000 cs) b' with
    |none=>exact absurd e2 h2
    |some c2=>
     obtain ⟨j,rfl,hj,_⟩:=hlk b c1 e1
     obtain ⟨j',rfl,hj',_⟩:=hlk b' c2 e2
     rw [hfc j hj] at hg
     rw [hfc j' hj']
     exact hH.apart _ _ g (fun e=>hbb (by rw [hinj j j' hj hj' e])) (hHj j hj) (hHj j' hj') hg
 refine wp_mono (js hm hO c _ _ hvc _ _ _ hS) fun e a' w' hP=> ?_
 obtain ⟨e',S',η',h1,h2,⟨hS',_⟩,hF,hHp,hE,_⟩:=hP
 have key:(my ty rs fn.ntmps S' fun l=>g_ ⟨l,S'.hp,S'.nx⟩ 2000 (KH fn.ntmps outs) ⟨xv fn.ntmps outs,us⟩ (kj d (bW 1000 cs)) fun _=>jL us S'.hp (kj d (bW 1000 cs)) True)→a'.defers= []∧∃v,(results fn a'.tmps).run Tryz.prog w'= .ok v w'∧∃v' η'',Ending.returned v= .returned v'∧bE H η w nx ⟨outs.map (AV.rb (gi nx ns)),qL (gi nx ns) us d,pre,none⟩ v' w' η'':=fun hrd=>by
  obtain ⟨l2,vals,hmt,hres,hvl2,hsl2⟩:=ph hT hS' hrd
  refine ⟨hS'.df,_,lL hr hres,?_⟩
  have hget:∀j v,vals[j]?=some v→(a'.tmps++vals.toArray).getD (fn.ntmps+j) undef=v:=fun j v hj=>by
   rw [Array.getD_eq_getD_getElem?,Array.getElem?_append_right (by rw [hS'.sz];omega),hS'.sz,show fn.ntmps+j-fn.ntmps=j by omega,List.getElem?_toArray,hj];rfl
  have hS2:gR (bY l2) (aF S'.hp) (fn.ntmps+vals.length) η' {tmps:=a'.tmps++vals.toArray,defers:= []} w':=by
   refine ⟨rfl,by simp [hS'.sz],fun t=> ?_,hS'.chunk,hS'.apart⟩
   rcases hsl2 t with h|⟨j,v,rfl,h3,h4⟩
   ·rw [h];trivial
   ·show bz _ _ _ _ (Array.getD _ _ undef)
    rw [hget j v h3]
    exact h4
  obtain ⟨τ,hτ,hrest,_,_,hX⟩:=jN (S:=⟨l2,S'.hp,S'.nx⟩) hS2 hmt
  obtain ⟨hrest,_⟩:=jJ hrest
  have hM:jF 2000 (jC us (kj d (bW 1000 cs))) η' (ay (aF S'.hp) η') τ (cB 2000 τ η') (fun _=>True):=
   ⟨fun b _ hlt v hv=>by rw [dK hlt];exact hv,fun b c hb hs=>by rw [co (eI hb),hs],fun b hb hs=>by rw [co (eI hb),hs],fun _ _=>trivial,fun _ _ _ _=>trivial⟩
  obtain ⟨x1,x2⟩:=hX _ _ hM
  let ηf:bx:=fun b=>if nx≤b∧b<nx+16 then cB 2000 τ η' (2000+(b-nx)) else η b
  have hff:∀b,¬(nx≤b∧b<nx+16)→ηf b=η b:=fun b h=>by show (if _ then _ else _)=_;rw [if_neg h]
  have hfn:∀b,b<16→ηf (nx+b)=cB 2000 τ η' (2000+b):=fun b h=>by show (if _ then _ else _)=_;rw [if_pos (by omega),show 2000+(nx+b-nx)=2000+b by omega]
  have hout:∀b,H b≠none→¬(nx≤b∧b<nx+16):=fun b hb h=>by
   obtain ⟨v,hv⟩:=Te hH hb
   rw [hfree b h.1 h.2] at hv;cases hv
  have hold:∀b,H b≠none→ηf b=η b:=fun b hb=>hff b (hout b hb)
  have he:∀b,i8 cs.length b=true→∀v,cB 2000 τ η' (eL 2000 b)=some v→ηf (gi nx ns b)=some v:=fun b hb v hv=>by
   rcases mY hb with h|⟨h3,h4⟩
   ·rw [N8 (by omega)] at hv
    rw [Ef (by omega),hfn b h];exact hv
   ·rw [Ep h3,dK (by omega),hE b (by show b<2000;omega),hc1 b h3 h4] at hv
    rw [hold _ (by rw [j4 h3];exact hHj _ (by omega))];exact hv
  -- what stands at a name
  have hcase:∀b c,bF (qL (gi nx ns) us d) H b=some c→(∃p∈us,b=gi nx ns p.1∧c=p.2.rb (gi nx ns))∨(H b=some c∧((∃j,j<cs.length∧b=ns.getD j 0∧aF S'.hp (1000+j)=cs[j]?∧jC us (kj d (bW 1000 cs)) (1000+j)=true)∨∀j,j<cs.length→b≠ns.getD j 0)):=fun b c hb=>by
   rcases Gi hb with h|⟨h3,h4,h5⟩
   ·exact .inl h
   ·refine .inr ⟨h3,?_⟩
    by_cases hj:∃j,j<cs.length∧b=ns.getD j 0
    ·obtain ⟨j,hj,rfl⟩:=hj
     have hd:bI (1000+j) d=false:=by
      cases e:bI (1000+j) d with
      |false=>rfl
      |true=>exact absurd (hnm j).symm (h5 _ ((dH _ _).1 e))
     obtain ⟨g1,g2⟩:=Eg (l:=bW 1000 cs) hd
     obtain ⟨g3,g4⟩:=mm (cs:=cs) (i:=1000) (b:=1000+j)
     rw [if_pos (by omega),show 1000+j-1000=j by omega] at g3
     rw [if_pos (by omega)] at g4
     have hm:dG (1000+j) us=false:=by
      cases e:dG (1000+j) us with
      |false=>rfl
      |true=>
       rw [gV] at e
       obtain ⟨p,hp,e2⟩:=e
       exact absurd (by rw [e2,hnm]) (h4 p hp)
     have hk:dG (1000+j) (kj d (bW 1000 cs))=true:=lT (c:=cs[j]) (by rw [g1,g3];exact List.getElem?_eq_getElem hj)
     refine .inl ⟨j,hj,rfl,?_,by unfold jC;rw [hm];exact hk⟩
     rcases hrest (1000+j) cs[j] (by rw [g1,g3];exact List.getElem?_eq_getElem hj) with h6|h6
     ·rw [hm] at h6;cases h6
     ·rw [g2,g4] at h6
      rcases hHp.2 (1000+j) with ⟨_,h7⟩|h7|h7
      ·rw [h7];exact g3
      ·have h7:2000≤bX S'.hp (1000+j):=h7
       have h6:bX S'.hp (1000+j)=1:=h6
       omega
      ·have h6:bX S'.hp (1000+j)=1:=h6
       omega
    ·exact .inr fun j hj' e=>hj ⟨j,hj',e⟩
  have hsrc:∀p∈us,p.1<16→∀g,bu ηf (gi nx ns p.1)=some g→∃a,bH τ.m p.1=some (some a)∧aF S'.hp a≠none∧bu η' a=some g:=fun p hp hlt g hg=>by
   have hbn:cX p.1=true:=by unfold cX;simp;omega
   obtain ⟨dd,d1,d2⟩:=(x2 p hp).2.2 hbn
   have eh:=co (nx:=2000) (τ:=τ) (η:=η') (show p.1<1000 by omega)
   rw [d1] at eh
   unfold bu at hg
   rw [Ef (by omega),hfn _ hlt] at hg
   cases dd with
   |none=>rw [eh] at hg;cases hg
   |some a=>rw [eh] at hg;exact ⟨a,d1,d2 a rfl,hg⟩
  have hkeep:∀p∈us,1000≤p.1→aF S'.hp p.1≠none∧jC us (kj d (bW 1000 cs)) p.1=true:=fun p hp h3=>by
   have hbn:cX p.1=false:=by unfold cX;exact Cr.2 h3
   refine ⟨(x2 p hp).2.1 hbn,?_⟩
   unfold jC
   rw [(gV _ _).2 ⟨p,hp,rfl⟩]
  -- two sorts: new ones, and those that were
  have hsort:∀b,bF (qL (gi nx ns) us d) H b≠none→(∃p∈us,p.1<16∧b=gi nx ns p.1)∨(H b≠none∧ηf b=η b∧((∃j,j<cs.length∧b=ns.getD j 0∧aF S'.hp (1000+j)≠none∧jC us (kj d (bW 1000 cs)) (1000+j)=true)∨∀j,j<cs.length→b≠ns.getD j 0)):=fun b hb=>by
   cases e:bF (qL (gi nx ns) us d) H b with
   |none=>exact absurd e hb
   |some c=>
    rcases hcase b c e with ⟨p,hp,e1,e2⟩|⟨h3,h4⟩
    ·rcases mY (kN hh16 p hp).1 with h5|⟨h5,h6⟩
     ·exact .inl ⟨p,hp,h5,e1⟩
     ·right
      obtain ⟨k1,k2⟩:=hkeep p hp h5
      have hj:p.1-1000<cs.length:=by omega
      rw [j4 h5] at e1
      subst e1
      exact ⟨hHj _ hj,hold _ (hHj _ hj),.inl ⟨p.1-1000,hj,rfl,by rw [show 1000+(p.1-1000)=p.1 by omega];exact k1,by rw [show 1000+(p.1-1000)=p.1 by omega];exact k2⟩⟩
    ·right
     refine ⟨by rw [h3];simp,hold _ (by rw [h3];simp),?_⟩
     rcases h4 with ⟨j,hj,e1,e2,e3⟩|h4
     ·exact .inl ⟨j,hj,e1,by rw [e2,List.getElem?_eq_getElem hj];simp,e3⟩
     ·exact .inr h4
  have hfE:∀j,j<cs.length→bu η' (1000+j)=bu η (ns.getD j 0):=fun j hj=>by
   rw [←hfc j hj]
   unfold bu
   rw [hE _ (by show 1000+j<2000;omega)]
  have hanon:∀g,g<w.heap.size→ay H η g→ay (bF (qL (gi nx ns) us d) H) ηf g:=fun g hg ha b hb=>by
   rcases hsort b hb with ⟨p,hp,h3,rfl⟩|⟨h3,h4,_⟩
   ·intro hgb
    obtain ⟨a,a1,a2,a3⟩:=hsrc p hp h3 g hgb
    exact (hF.anon g hg (hA g ha)).2 a a2 a3
   ·unfold bu;rw [h4];exact ha b h3
  have hfw:Fw H η w (bF (qL (gi nx ns) us d) H) ηf w':=⟨hF.os,hF.tape,hF.output,hF.size,fun b v hv=>by
   rw [hff b (fun h=>by rw [hfree b h.1 h.2] at hv;cases hv)];exact hv,fun g hg ha=>⟨(hF.anon g hg (hA g ha)).1,hanon g hg ha⟩⟩
  -- a new one and one that was
  have hnewold:∀p∈us,p.1<16→∀b,H b≠none→((∃j,j<cs.length∧b=ns.getD j 0∧aF S'.hp (1000+j)≠none∧jC us (kj d (bW 1000 cs)) (1000+j)=true)∨∀j,j<cs.length→b≠ns.getD j 0)→∀g,bu ηf (gi nx ns p.1)=some g→bu η b≠some g:=fun p hp hlt b hb hor g hg hgb=>by
   obtain ⟨a,a1,a2,a3⟩:=hsrc p hp hlt g hg
   rcases hor with ⟨j,hj,rfl,k1,k2⟩|hno
   ·refine hS'.apart a (1000+j) g ?_ a2 k1 a3 (by rw [hfE j hj];exact hgb)
    rintro rfl
    have:=hτ.kept _ _ a1
    rw [k2] at this;cases this
   ·refine (hF.anon g (C9 hH hb hgb) fun b' hb'=> ?_).2 a a2 a3
    cases e:aF (bW 1000 cs) b' with
    |none=>exact absurd e hb'
    |some c'=>
     obtain ⟨j,rfl,hj,_⟩:=hlk b' c' e
     rw [hfc j hj]
     exact hH.apart b _ g (hno j hj) hb (hHj j hj) hgb
  have hall:=m6 (nx:=2000) (val:=fun t=>(a'.tmps++vals.toArray).getD t undef) (ho.trans hvl2.symm) hget x1
  have hall2:bQ ηf (ay (bF (qL (gi nx ns) us d) H) ηf) w' (outs.map (AV.rb (gi nx ns))) vals:=by
   rw [List.map_congr_left fun x _=>AV.rn_rb (n:=2000) x] at hall
   exact hall.rbn he h16
  refine ⟨_,ηf,rfl,⟨?_,⟨fun b c hbc=> ?_,fun b b' g hbb h3 h4 hg=> ?_⟩,hfw,fun b hb=>hff b (by omega),trivial⟩⟩
  ·show bz _ _ _ (outs.map (AV.rb (gi nx ns))) (DI vals)
   rcases outs with _|⟨x,_|⟨y,outs⟩⟩
   ·trivial
   ·obtain ⟨v,t,e,h1,h2⟩:=hall2
    cases h2
    rw [e]
    exact h1
   ·obtain ⟨v,t,e,h1,v2,t2,e2,h3,h4⟩:=hall2
    subst e2
    rw [e]
    exact ⟨_,rfl,_,_,rfl,h1,_,_,rfl,h3,h4⟩
  ·rcases hcase b c hbc with ⟨p,hp,rfl,rfl⟩|⟨h3,h4⟩
   ·obtain ⟨k1,k2⟩:=kN hh16 p hp
    have:=(x2 p hp).1
    rw [Ch.rn_rb] at this
    exact Ch.H.rbn he k1 k2 this
   ·rcases h4 with ⟨j,hj,rfl,k1,_⟩|hno
    ·rw [List.getElem?_eq_getElem hj] at k1
     have h5:=hH0 j cs[j] (List.getElem?_eq_getElem hj)
     rw [h3] at h5
     cases h5
     have h6:=hS'.chunk (1000+j) _ k1
     have hok:i8 cs.length (1000+j)=true:=by
      unfold i8
      rw [Cr.2 (by omega),Cr.2 (by omega)]
      simp;omega
     have hch:xp cs.length cs[j]=true:=by
      cases e:cs[j] with
      |row E k l=>rfl
      |blk E l=>exact (iO hcs E l (by rw [←e];exact List.getElem_mem hj)).2
     rw [←hnm j]
     have h7:(cs[j].rb (eL 2000)).H (cB 2000 τ η') (fun _=>True) w' (eL 2000 (1000+j)):=Ch.H.rbn (f:=id) (g:=eL 2000) (n:=cs.length) (ηh:=η') (η':=cB 2000 τ η') (fun b hb v hv=>by
      rcases mY hb with h8|⟨h8,h9⟩
      ·have:η' b=ηc b:=hE b (by show b<2000;omega)
       rw [show η' (id b)=η' b from rfl,this,show ηc b=none from if_neg (by omega)] at hv
       cases hv
      ·rw [Ep h8,dK (by omega)];exact hv) hok hch (by rw [Ch.rb_id];exact h6)
     exact Ch.H.rbn he hok hch h7
    ·refine (hH.chunk b c h3).later hfw.lt fun g hg=>(hF.anon g (C9 hH (by rw [h3];simp) hg) fun b' hb'=> ?_).1
     cases e:aF (bW 1000 cs) b' with
     |none=>exact absurd e hb'
     |some c'=>
      obtain ⟨j,rfl,hj,_⟩:=hlk b' c' e
      rw [hfc j hj]
      exact hH.apart b _ g (hno j hj) (by rw [h3];simp) (hHj j hj) hg
  ·rcases hsort b h3 with ⟨p,hp,p1,rfl⟩|⟨q1,q2,q3⟩
   ·rcases hsort b' h4 with ⟨p',hp',p1',rfl⟩|⟨q1,q2,q3⟩
    ·intro hg'
     obtain ⟨a,a1,a2,a3⟩:=hsrc p hp p1 g hg
     obtain ⟨b,b1,b2,b3⟩:=hsrc p' hp' p1' g hg'
     refine hS'.apart a b g ?_ a2 b2 a3 b3
     rintro rfl
     exact hbb (by rw [hτ.inj _ _ _ a1 b1])
    ·unfold bu;rw [q2];exact hnewold p hp p1 b' q1 q3 g hg
   ·unfold bu at hg;rw [q2] at hg
    rcases hsort b' h4 with ⟨p',hp',p1',rfl⟩|⟨q1',q2',q3'⟩
    ·intro hg'
     exact hnewold p' hp' p1' b q1 q3 g hg' hg
    ·unfold bu;rw [q2'];exact hH.apart b b' g hbb q1 q1' hg
 cases e with
 |normal=>cases h1;exact key h2
 |ret=>cases h1;exact key h2
 |exit id=>cases h1;exact h2.elim
 |panic c=>cases h1
 |outgrown=>cases h1
 |goto l=>cases h1
end
def lJ {α:Type} (b:Nat):List Nat→Nat→(Nat→List Nat→α)→α
 | [],i,k=>iJ i fun i=>k i [b]
 |a::r,i,k=>match Nat.beq a b with
  |true=>iJ i fun i=>k i (a::r)
  |false=>lJ b r (i+1) fun i r=>k i (a::r)
def SW {α:Type} (x:Cl) (ns:List Nat) (k:Cl→List Nat→α):α:=match x with
 | .ptr b o=>lJ b ns 1000 fun b ns=>k (.ptr b o) ns
 | .rw b=>lJ b ns 1000 fun b ns=>k (.rw b) ns
 | .sl b o n c=>lJ b ns 1000 fun b ns=>k (.sl b o n c) ns
 | .sub b o n=>lJ b ns 1000 fun b ns=>k (.sub b o n) ns
 |x=>k x ns
def yY {α:Type}:List Cl→List Nat→(List Cl→List Nat→α)→α
 | [],ns,k=>k [] ns
 |x::r,ns,k=>SW x ns fun x ns=>yY r ns fun r ns=>k (x::r) ns
def Yo {α:Type} (x:AV) (ns:List Nat) (k:AV→List Nat→α):α:=match x with
 | .one x=>SW x ns fun x ns=>k (.one x) ns
 | .agg l=>yY l ns fun l ns=>k (.agg l) ns
def NA {α:Type}:List AV→List Nat→(List AV→List Nat→α)→α
 | [],ns,k=>k [] ns
 |x::r,ns,k=>Yo x ns fun x ns=>NA r ns fun r ns=>k (x::r) ns
def OM:List Nat→Nat→Option Nat
 | [],_=>none
 |a::_,0=>some a
 |_::r,i+1=>OM r i
def Uh (k:List Nat→List Ch→R aU):Nat→Nat→List Nat→List Ch→R aU
 |0,_,_,_=> .fail
 |m+1,j,ns,cs=>match OM ns j with
  |none=>k ns cs
  |some b=> .hp b fun c=>match c with
   |none=> .fail
   |some (.row E q l)=>Uh k m (j+1) ns (cs++ [.row E q l])
   |some (.blk E l)=>yY l ns fun l ns=>Uh k m (j+1) ns (cs++ [.blk E l])
structure YH where
 outs:List AV
 us:List (Nat×Ch)
 d:List Nat
 pre:Option Prop
abbrev GT:Type:=List AV→List Ch→Option YH
def VN (l:List AV) (ns:List Nat) (cs:List Ch):Bool:=match jm cs.length l,mD cs.length cs,Nat.beq ns.length cs.length,pX ns with
 |true,true,true,true=>Nat.ble cs.length 500
 |_,_,_,_=>false
def Ud {α:Type} (g:Nat→Nat):List Nat→(List (Nat×Option Ch)→α)→α
 | [],k=>k []
 |b::r,k=>iJ (g b) fun b=>Ud g r fun r=>k ((b,none)::r)
theorem Hx {α:Type} (g:Nat→Nat) (x:Cl) (k:Cl→α):Tq g x k=k (x.rb g):=by
 cases x<;>first |rfl|(dsimp only [Tq];rw [ck];rfl)
theorem uR {α:Type} (g:Nat→Nat):∀(l:List Cl) (k:List Cl→α),BX g l k=k (l.map (Cl.rb g))
 | [],_=>rfl
 |x::r,k=>by rw [BX,Hx,uR g r];rfl
theorem Co {α:Type} (g:Nat→Nat):∀(l:List AV) (k:List AV→α),GU g l k=k (l.map (AV.rb g))
 | [],_=>rfl
 | .one x::r,k=>by rw [GU,Hx,Co g r];rfl
 | .agg l::r,k=>by rw [GU,uR,Co g r];rfl
theorem Cx {α:Type} (g:Nat→Nat):∀(l:List (Nat×Ch)) (k:List (Nat×Option Ch)→α),GM g l k=k (l.map fun p=>(g p.1,some (p.2.rb g)))
 | [],_=>rfl
 |(b,.blk E l)::r,k=>by rw [GM,ck];simp only [uR,Cx g r];rfl
 |(b,.row E q l)::r,k=>by rw [GM,ck];simp only [Cx g r];rfl
theorem Ha {α:Type} (g:Nat→Nat):∀(l:List Nat) (k:List (Nat×Option Ch)→α),Ud g l k=k (l.map fun b=>(g b,none))
 | [],_=>rfl
 |b::r,k=>by rw [Ud,ck,Ha g r];rfl
theorem ND {g:Nat→Nat} {outs:List AV} {us:List (Nat×Ch)} {d:List Nat} {p:Option Prop} {sl:Nat→List AV} {H:Nat→Option Ch} {ds:List Bool} {res:aU} {rd:List dZ} {qs:List (Bool×Bool)} (h:(GU g outs fun o=>GM g us fun u=>Ud g d fun d=>R.pure ⟨o,d++u,p,none⟩:R aU).run sl H ds= .ok res rd qs):res=⟨outs.map (AV.rb g),qL g us d,p,none⟩:=by
 rw [Co,Cx,Ha] at h
 simp only [R.run,RR.ok.injEq] at h
 exact h.1.symm
def qE (G:GT):CF:=fun nx args=>NA args [] fun l ns=>Uh (fun ns cs=>match VN (iW l) ns cs with
 |true=>match G (iW l) cs with
  |some ⟨outs,us,d,p⟩=>GU (gi nx ns) outs fun o=>GM (gi nx ns) us fun u=>Ud (gi nx ns) d fun d=> .pure ⟨o,d++u,p,none⟩
  |none=> .fail
 |false=> .fail) 40 0 ns []
def qF (a b:List Nat):Prop:=∃m,b=a++m
theorem qF.refl (a:List Nat):qF a a:=⟨[],by simp⟩
theorem qF.trans {a b c:List Nat} (h:qF a b) (k:qF b c):qF a c:=by
 obtain ⟨m,rfl⟩:=h
 obtain ⟨n,rfl⟩:=k
 exact ⟨m++n,by simp⟩
theorem fS (b:Nat):∀(ns:List Nat) (i:Nat),∃j ns',(∀ {α:Type} (k:Nat→List Nat→α),lJ b ns i k=k (i+j) ns')∧qF ns ns'∧ns'[j]?=some b
 | [],i=>⟨0,[b],fun k=>by simp [lJ,ck],⟨[b],rfl⟩,rfl⟩
 |a::r,i=>by
  cases e:Nat.beq a b with
  |true=>exact ⟨0,a::r,fun k=>by simp [lJ,e,ck],qF.refl _,by simp [aQ e]⟩
  |false=>
   obtain ⟨j,ns',h1,⟨m,h2⟩,h3⟩:=fS b r (i+1)
   exact ⟨j+1,a::ns',fun k=>by simp only [lJ,e];rw [h1,show i+1+j=i+(j+1) by omega],⟨m,by rw [h2];rfl⟩,by simpa using h3⟩
theorem j9 {nx j b:Nat} {ns ns':List Nat} (h:ns[j]?=some b) (he:qF ns ns'):gi nx ns' (1000+j)=b:=by
 obtain ⟨m,rfl⟩:=he
 rw [j4 (by omega),show 1000+j-1000=j by omega,List.getD_eq_getElem?_getD,List.getElem?_append_left (List.getElem?_eq_some_iff.1 h).1,h]
 rfl
theorem rq (nx:Nat) (x:Cl) (ns:List Nat):∃x' ns',(∀ {α:Type} (k:Cl→List Nat→α),SW x ns k=k x' ns')∧qF ns ns'∧∀ns'',qF ns' ns''→x'.rb (gi nx ns'')=x:=by
 cases x
 case ptr b o=>
  obtain ⟨j,ns',h1,h2,h3⟩:=fS b ns 1000
  exact ⟨.ptr (1000+j) o,ns',fun k=>h1 _,h2,fun ns'' he=>by show Cl.ptr _ _=_;rw [j9 h3 he]⟩
 case rw b=>
  obtain ⟨j,ns',h1,h2,h3⟩:=fS b ns 1000
  exact ⟨.rw (1000+j),ns',fun k=>h1 _,h2,fun ns'' he=>by show Cl.rw _=_;rw [j9 h3 he]⟩
 case sl b o n c=>
  obtain ⟨j,ns',h1,h2,h3⟩:=fS b ns 1000
  exact ⟨.sl (1000+j) o n c,ns',fun k=>h1 _,h2,fun ns'' he=>by show Cl.sl _ _ _ _=_;rw [j9 h3 he]⟩
 case sub b o n=>
  obtain ⟨j,ns',h1,h2,h3⟩:=fS b ns 1000
  exact ⟨.sub (1000+j) o n,ns',fun k=>h1 _,h2,fun ns'' he=>by show Cl.sub _ _ _=_;rw [j9 h3 he]⟩
 all_goals exact ⟨_,ns,fun k=>rfl,qF.refl _,fun _ _=>rfl⟩
theorem kU (nx:Nat):∀(l:List Cl) (ns:List Nat),∃l' ns',(∀ {α:Type} (k:List Cl→List Nat→α),yY l ns k=k l' ns')∧qF ns ns'∧∀ns'',qF ns' ns''→l'.map (Cl.rb (gi nx ns''))=l
 | [],ns=>⟨[],ns,fun k=>rfl,qF.refl _,fun _ _=>rfl⟩
 |x::r,ns=>by
  obtain ⟨x',n1,h1,h2,h3⟩:=rq nx x ns
  obtain ⟨r',n2,h4,h5,h6⟩:=kU nx r n1
  exact ⟨x'::r',n2,fun k=>by simp only [yY];rw [h1,h4],h2.trans h5,fun ns'' he=>by rw [List.map_cons,h3 _ (h5.trans he),h6 _ he]⟩
theorem IF (nx:Nat) (x:AV) (ns:List Nat):∃x' ns',(∀ {α:Type} (k:AV→List Nat→α),Yo x ns k=k x' ns')∧qF ns ns'∧∀ns'',qF ns' ns''→x'.rb (gi nx ns'')=x:=by
 cases x with
 |one x=>
  obtain ⟨x',n1,h1,h2,h3⟩:=rq nx x ns
  exact ⟨.one x',n1,fun k=>h1 fun x ns=>k (.one x) ns,h2,fun ns'' he=>congrArg AV.one (h3 _ he)⟩
 |agg l=>
  obtain ⟨x',n1,h1,h2,h3⟩:=kU nx l ns
  exact ⟨.agg x',n1,fun k=>h1 fun x ns=>k (.agg x) ns,h2,fun ns'' he=>congrArg AV.agg (h3 _ he)⟩
theorem rJ (nx:Nat):∀(l:List AV) (ns:List Nat),∃l' ns',(∀ {α:Type} (k:List AV→List Nat→α),NA l ns k=k l' ns')∧qF ns ns'∧∀ns'',qF ns' ns''→l'.map (AV.rb (gi nx ns''))=l
 | [],ns=>⟨[],ns,fun k=>rfl,qF.refl _,fun _ _=>rfl⟩
 |x::r,ns=>by
  obtain ⟨x',n1,h1,h2,h3⟩:=IF nx x ns
  obtain ⟨r',n2,h4,h5,h6⟩:=rJ nx r n1
  exact ⟨x'::r',n2,fun k=>by simp only [NA];rw [h1,h4],h2.trans h5,fun ns'' he=>by rw [List.map_cons,h3 _ (h5.trans he),h6 _ he]⟩
theorem Es:∀(l:List Nat) (i:Nat),OM l i=l[i]?
 | [],_=>rfl
 |_::_,0=>rfl
 |_::r,i+1=>by simp only [OM,List.getElem?_cons_succ];exact Es r i
section
variable {ty:Nat→TE} {ct:Nat→Option CF} {H:Nat→Option Ch} {η:bx} {w:World} {nx:Nat} {sl:Nat→List AV} {ds:List Bool} {res:aU} {qs:List (Bool×Bool)}
theorem AB (nx:Nat) {k:List Nat→List Ch→R aU}:∀ {m j:Nat} {ns:List Nat} {cs:List Ch} {rd:List dZ},(Uh k m j ns cs).run sl H ds= .ok res rd qs→cs.length=j→
  ∃ns' cs' rd',(k ns' cs').run sl H ds= .ok res rd' qs∧qF ns ns'∧(∀i,i<j→cs'[i]?=cs[i]?)∧∀i c,j≤i→cs'[i]?=some c→H (ns'.getD i 0)=some (c.rb (gi nx ns'))
 |0,j,ns,cs,rd,h,_=>by cases h
 |m+1,j,ns,cs,rd,h,hj=>by
  unfold Uh at h
  rw [Es] at h
  split at h
  ·refine ⟨ns,cs,rd,h,qF.refl _,fun i hi=>rfl,fun i c hi hc=> ?_⟩
   have:=(List.getElem?_eq_some_iff.1 hc).1
   omega
  ·rename_i b hb
   obtain ⟨rd1,h1⟩:=cg h
   split at h1
   ·cases h1
   ·rename_i E q l hc
    obtain ⟨ns',cs',rd',g1,g2,g3,g4⟩:=AB nx h1 (by simp [hj])
    refine ⟨ns',cs',rd',g1,g2,fun i hi=> ?_,fun i c hi hci=> ?_⟩
    ·rw [g3 i (by omega),List.getElem?_append_left (by omega)]
    ·rcases Nat.lt_or_ge j i with h2|h2
     ·exact g4 i c (by omega) hci
     ·obtain rfl:i=j:=by omega
      rw [g3 i (by omega),List.getElem?_append_right (by omega),hj,Nat.sub_self] at hci
      cases hci
      have:=j9 (nx:=nx) hb g2
      rw [j4 (by omega),show 1000+i-1000=i by omega] at this
      rw [this,hc]
      rfl
   ·rename_i E l hc
    obtain ⟨l',n1,e1,e2,e3⟩:=kU nx l ns
    rw [e1] at h1
    obtain ⟨ns',cs',rd',g1,g2,g3,g4⟩:=AB nx h1 (by simp [hj])
    refine ⟨ns',cs',rd',g1,e2.trans g2,fun i hi=> ?_,fun i c hi hci=> ?_⟩
    ·rw [g3 i (by omega),List.getElem?_append_left (by omega)]
    ·rcases Nat.lt_or_ge j i with h2|h2
     ·exact g4 i c (by omega) hci
     ·obtain rfl:i=j:=by omega
      rw [g3 i (by omega),List.getElem?_append_right (by omega),hj,Nat.sub_self] at hci
      cases hci
      have:=j9 (nx:=nx) hb (e2.trans g2)
      rw [j4 (by omega),show 1000+i-1000=i by omega] at this
      rw [this,hc]
      exact congrArg (fun z=>some (Ch.blk E z)) (e3 _ g2).symm
theorem Iz (f:Nat→Nat) (x:AV):xU (x.rb f)=(xU x).rb f:=by
 rcases x with x|l
 ·cases x
  case cv v=>
   cases v<;>try rfl
   rename_i k z;cases k<;>rfl
  all_goals rfl
 ·rfl
theorem sN (f:Nat→Nat):∀l:List AV,iW (l.map (AV.rb f))=(iW l).map (AV.rb f)
 | []=>rfl
 |x::r=>by simp only [List.map_cons,iW,Iz,sN f r]
theorem cW (hT : bk ty) (hO : az ty ct) {f : Nat} {fn : Func} {c : Code} {rs : List ResultVar} (hf : Tryz.prog.funcs[f]? = some fn) (hn : (fn.name == "runtime.NumGoroutine") = false) (hb : fn.body = some c) (hr : fn.results = rs.toArray) {G : GT}
  (hG:∀l cs g,G l cs=some g→bn g.pre→l.length≤fn.ntmps∧g.outs.length=rs.length∧eS cs.length g.outs=true∧pN cs.length g.us=true∧vc ty ct fn.ntmps c ⟨aq 0 l,bW 1000 cs,2000⟩ (nL ty fn.ntmps rs g.outs g.us cs g.d)):af f (qE G):=by
 refine ⟨⟨fn,c,hf,hn,hb⟩,fun nx args sl H ds res rd qs h hq hp η w vs hH hv hfree=> ?_⟩
 obtain ⟨l',n1,e1,e2,e3⟩:=rJ nx args []
 unfold qE at h
 rw [e1] at h
 obtain ⟨ns,cs,rd',g1,g2,g3,g4⟩:=AB nx h rfl
 split at g1
 ·rename_i hok
  split at g1
  ·rename_i outs us d p e4
   have:=ND g1
   subst this
   unfold VN at hok
   split at hok
   ·rename_i k1 k2 k3 k4
    obtain ⟨q1,q2,q3,q4,q5⟩:=hG _ _ _ e4 hp
    refine OW cP hT hO hf hb hr (cZ hok) k1 k2 q1 (aQ k3) k4 (fun j c hc=>g4 j c (Nat.zero_le _) hc) q2 q3 q4 q5 hH hfree ?_
    rw [←sN,e3 ns g2]
    exact en hv
   ·cases hok
  ·cases g1
 ·cases g1
end
set_option maxRecDepth 10000
def lb (n:Nat) (f:Nat→Nat):List UInt64:=(List.range n).map fun i=>UInt64.ofNat (f i)
theorem QN (n:Nat) (f:Nat→Nat):(lb n f).length=n:=by simp [lb]
theorem cz {n i:Nat} (f:Nat→Nat) (h:i<n):(lb n f).getD i 0=UInt64.ofNat (f i):=by simp [lb,List.getD_eq_getElem?_getD,h]
theorem fx {n:Nat} {f g:Nat→Nat} (h:∀i,i<n→f i=g i):lb n f=lb n g:=List.map_congr_left fun i hi=>by rw [h i (by simpa using hi)]
theorem kY {n i:Nat} {f g:Nat→Nat} {x:UInt64} (hx:x=UInt64.ofNat (g i)) (h:∀j,j<n→j≠i→g j=f j):(lb n f).set i x=lb n g:=by
 subst hx
 apply List.ext_getElem (by simp [lb])
 intro j h1 h2
 have hj:j<n:=by simpa [lb] using h2
 rw [List.getElem_set]
 by_cases e:i=j
 ·subst e;simp [lb]
 ·rw [if_neg e];simp [lb,h j hj (fun z=>e z.symm)]
theorem Hz {a:Nat} (h:a<18446744073709551616):UInt64.ofNat a&&&UInt64.ofNat 65535=UInt64.ofNat (a%65536):=by
 refine UInt64.toNat_inj.1 ?_
 rw [UInt64.toNat_and,UInt64.toNat_ofNat',UInt64.toNat_ofNat',UInt64.toNat_ofNat',Nat.mod_eq_of_lt (show a<2^64 from h),show 65535%2^64=2^16-1 from rfl,Nat.and_two_pow_sub_one_eq_mod]
 omega
theorem Nh {a:Nat} (h:a<18446744073709551616):UInt64.ofNat a&&&UInt64.ofNat 32767=UInt64.ofNat (a%32768):=by
 refine UInt64.toNat_inj.1 ?_
 rw [UInt64.toNat_and,UInt64.toNat_ofNat',UInt64.toNat_ofNat',UInt64.toNat_ofNat',Nat.mod_eq_of_lt (show a<2^64 from h),show 32767%2^64=2^15-1 from rfl,Nat.and_two_pow_sub_one_eq_mod]
 omega
theorem Oy {a:Nat} (h:a<18446744073709551616) (n:Nat):iz (UInt64.ofNat a) n=UInt64.ofNat (a/2^n):=by
 rw [iz,UInt64.toNat_ofNat',Nat.mod_eq_of_lt (show a<2^64 from h)]
theorem kq {a:Nat} (h:a<18446744073709551616):(UInt64.ofNat a).toNat=a:=by rw [UInt64.toNat_ofNat',Nat.mod_eq_of_lt (show a<2^64 from h)]
theorem Jn {a b:Nat} (h:b≤a):UInt64.ofNat a-UInt64.ofNat b=UInt64.ofNat (a-b):=by
 refine UInt64.toNat_inj.1 ?_
 rw [UInt64.toNat_sub,UInt64.toNat_ofNat',UInt64.toNat_ofNat',UInt64.toNat_ofNat']
 omega
def cj (i:Nat):Nat:=if i=0 then 65517 else if i=15 then 32767 else 65535
theorem Bp:∀i:Fin 16,cj i.val=bG Pq i.val:=by decide +kernel
def Wk:List (Nat×CF):=(94,ar Er)::Wj
theorem Px:∀p∈Wk,af p.1 p.2:=ag qw Qt
theorem Vi:az cL (ap Wk):=aD aW (br Px)
theorem NV:vc cL (ap Wk) Tryz.f188.ntmps (ah Tryz.f188) ⟨aq 0 [],[],2000⟩ (aI cL Tryz.f188.ntmps [.cell 0 143] [.agg [.vec .u64 16 (lb 16 cj)]] []):=by
 refine Or.inl ⟨17,?_⟩
 exact ⟨rfl,rfl,trivial⟩
def AW:GF:=fun l=>match l with
 | []=>some ⟨[.agg [.vec .u64 16 (lb 16 cj)]],[],none⟩
 |_=>none
theorem wY:af 188 (ar AW):=ai aW Vi Tryz.func188 (by kernel_rfl) rfl (rs:= [.cell 0 143]) Tryz.results188 fun l g h hp=>by
 unfold AW at h
 split at h
 ·cases h;exact ⟨Nat.le_of_ble_eq_true rfl,rfl,rfl,rfl,NV⟩
 ·cases h
def Wq:List (Nat×CF):=(188,ar AW)::Wk
theorem PN:∀p∈Wq,af p.1 p.2:=ag wY Px
theorem VB:az cL (ap Wq):=aD aW (br PN)
def fL (l:List UInt64) (i:Nat):Nat:=(l.getD i 0).toNat
def Gn (l:List UInt64):Nat:=bS (fL l) 16
theorem Qg {n i:Nat} {f:Nat→Nat} (hi:i<n) (h:f i<18446744073709551616):fL (lb n f) i=f i:=by rw [fL,cz f hi,kq h]
set_option maxHeartbeats 1000000 in
theorem Ou (x:Nat) (hx:x<65536^16):vc cL (ap Wq) Tryz.f214.ntmps (ah Tryz.f214) ⟨aq 0 [.agg [.vec .u64 16 (lb 16 (bG x))]],[],2000⟩ (eH [2] [.one (.ob .bool (decide (x<Pq)))] []):=by
 refine Or.inr ⟨{k:Nat // k≤16∧x/65536^k=Pq/65536^k},fun k=>⟨[(4,.one (.ob .int ((k.val:Int)-1)))],[]⟩,fun k=>k.val,⟨16,by omega,?_⟩,?_⟩
 ·rw [Nat.div_eq_of_lt hx,Nat.div_eq_of_lt (by decide +kernel)]
 refine ⟨rfl,fun k=>⟨fun h1=> ?_,fun h1=> ?_⟩⟩
 ·have h1:=of_decide_eq_true h1
  obtain ⟨hk,he⟩:=k.2
  have e1:((k.val:Int)-1).toNat=k.val-1:=by omega
  have d1:=di x (k.val-1)
  have d2:cj (k.val-1)=bG Pq (k.val-1):=Bp ⟨k.val-1,by omega⟩
  have d3:=di Pq (k.val-1)
  have hk1:k.val=k.val-1+1:=by omega
  rw [hk1] at he
  repeat refine sd ?_
  rw [e1,show (lb 16 (bG x)).getD (k.val-1) (Kd.df .u64)=UInt64.ofNat (bG x (k.val-1)) from cz _ (by omega),show (lb 16 cj).getD (k.val-1) (Kd.df .u64)=UInt64.ofNat (bG Pq (k.val-1)) from (cz _ (by omega)).trans (by rw [d2])]
  refine ⟨fun h2=> ?_,fun h2=> ?_⟩
  ·have h2:=of_decide_eq_true h2
   have hne:bG x (k.val-1)≠bG Pq (k.val-1):=fun h=>h2 (by rw [h])
   repeat refine sd ?_
   refine ⟨congrArg (fun z:Bool=> [z]) ?_,trivial⟩
   show decide (x<Pq)=decide ((lb 16 (bG x)).getD ((k.val:Int)-1).toNat (Kd.df .u64)<(lb 16 cj).getD ((k.val:Int)-1).toNat (Kd.df .u64))
   rw [e1,show (lb 16 (bG x)).getD (k.val-1) (Kd.df .u64)=UInt64.ofNat (bG x (k.val-1)) from cz _ (by omega),show (lb 16 cj).getD (k.val-1) (Kd.df .u64)=UInt64.ofNat (bG Pq (k.val-1)) from (cz _ (by omega)).trans (by rw [d2]),Sf x Pq _ he hne]
   refine decide_eq_decide.2 ?_
   rw [UInt64.lt_iff_toNat_lt,kq (by omega),kq (by omega)]
  ·have h2:=of_decide_eq_false h2
   have heq:bG x (k.val-1)=bG Pq (k.val-1):=by
    have:=congrArg UInt64.toNat (Decidable.not_not.1 h2)
    rw [kq (by omega),kq (by omega)] at this
    exact this
   refine sd<|sj ⟨k.val-1,by omega,Tj x Pq _ he heq⟩ ⟨congrArg (fun z:Int=> [z]) ?_,trivial⟩
   show ((k.val-1:Nat):Int)-1=(k.val:Int)-1-1
   omega
 ·have h1:=of_decide_eq_false h1
  obtain ⟨hk,he⟩:=k.2
  have h0:k.val=0:=by omega
  rw [h0,Nat.pow_zero,Nat.div_one,Nat.div_one] at he
  refine ⟨congrArg (fun z:Bool=> [z]) ?_,trivial⟩
  exact decide_eq_false (by omega)
def Xd (l:List UInt64):Prop:=∃x,x<65536^16∧l=lb 16 (bG x)
theorem y9 {x:Nat} (h:x<65536^16):Gn (lb 16 (bG x))=x:=by
 rw [Gn,ei 16 (g:=bG x) fun i hi=>Qg hi (by have:=di x i;omega),l8,Nat.mod_eq_of_lt h]
def Cz:GF:=fun l=>match l with
 | [.agg [.vec .u64 16 a]]=>some ⟨[.one (.ob .bool (decide (Gn a<Pq)))],[],some (Xd a)⟩
 |_=>none
theorem xn:af 214 (ar Cz):=aB VB Tryz.func214 (by kernel_rfl) rfl (rs:= [2]) Tryz.results214 fun l g h hp=>by
 unfold Cz at h
 split at h
 ·cases h
  obtain ⟨x,hx,rfl⟩:=hp
  rw [y9 hx]
  exact ⟨Nat.le_of_ble_eq_true rfl,rfl,rfl,rfl,Ou x hx⟩
 ·cases h
def Wt:List (Nat×CF):=(214,ar Cz)::Wq
theorem Qd:∀p∈Wt,af p.1 p.2:=ag xn PN
theorem VA:az cL (ap Wt):=aD aW (br Qd)
def IB (f:Nat→Nat):Nat→Nat→Nat
 |0=>f
 |k+1=>cm (IB f k)
theorem GX (f:Nat→Nat) (h:∀i,f i≤17592186044416):∀k i,IB f k i≤17592186044416
 |0,i=>h i
 |k+1,i=>by
  have hn:=pj (IB f k) _ (n8 (IB f k) _ (GX f h k) 16)
  show cm (IB f k) i≤_
  by_cases e:i=0
  ·subst e;have:=hn.z;omega
  ·have:=hn.r i (by omega);omega
theorem Sg:∀d:Fin 19,∀i:Fin 16,bG (Pq+d.val) i.val=cj i.val+bG d.val i.val:=by decide +kernel
def pV (g:Nat→Nat) (j i:Nat):Nat:=if i<j then bo g i else g i
set_option maxHeartbeats 4000000 in
theorem EY (f:Nat→Nat) (hf:∀i,f i≤17592186044416):vc cL (ap Wt) Tryz.f187.ntmps (ah Tryz.f187) ⟨aq 0 [.agg [.vec .u64 16 (lb 16 f)]],[],2000⟩ (aI cL Tryz.f187.ntmps [.cell 2 143] [.agg [.vec .u64 16 (lb 16 (bG (bS f 16%Pq)))]] []):=by
 refine Or.inr ⟨{k:Nat // k≤3},fun k=>⟨[(3,.one (.ob .int (k.val:Int)))],[(2000,.blk 143 [.vec .u64 16 (lb 16 (IB f k.val))])]⟩,fun k=>3-k.val,⟨0,by omega⟩,?_⟩
 refine ⟨rfl,rfl,rfl,fun k=>⟨fun h1=> ?_,fun h1=> ?_⟩⟩
 ·have h1:=of_decide_eq_true h1
  have hk:=k.2
  have hg:=GX f hf k.val
  have hI:IB f (k.val+1)=cm (IB f k.val):=rfl
  generalize IB f k.val=g at hg hI ⊢
  have hc:=n8 g _ hg
  refine Or.inr ⟨{i:Nat // i≤16},fun i=>⟨[(5,.one (.ob .int (i.val:Int))),(4,.one (.ob .u64 (UInt64.ofNat (cR g i.val))))],[(2000,.blk 143 [.vec .u64 16 (lb 16 (pV g i.val))])]⟩,fun i=>16-i.val,⟨0,by omega⟩,?_⟩
  refine ⟨rfl,rfl,rfl,?_,fun i=>⟨fun h2=> ?_,fun h2=> ?_⟩⟩
  ·exact fx fun i hi=>by simp [pV]
  ·have h2:=of_decide_eq_true h2
   have hi:=i.2
   have c1:=hc i.val
   have g1:=hg i.val
   have e1:(lb 16 (pV g i.val)).getD (i.val:Int).toNat (Kd.df .u64)=UInt64.ofNat (g i.val):=(cz _ (by omega)).trans (by rw [pV,if_neg (by omega)];rfl)
   have e2:UInt64.ofNat (g i.val)+UInt64.ofNat (cR g i.val)=UInt64.ofNat (g i.val+cR g i.val):=(UInt64.ofNat_add _ _).symm
   repeat refine sd ?_
   refine sj ⟨i.val+1,by omega⟩<|sr ⟨congrArg (fun z:UInt64=> [z]) ?_,rfl,?_,trivial⟩
   ·show UInt64.ofNat (cR g (i.val+1))=iz ((lb 16 (pV g i.val)).getD (i.val:Int).toNat (Kd.df .u64)+UInt64.ofNat (cR g i.val)) 16
    rw [e1,e2,Oy (by omega)]
    rfl
   ·show lb 16 (pV g (i.val+1))=(lb 16 (pV g i.val)).set i.val (((lb 16 (pV g i.val)).getD (i.val:Int).toNat (Kd.df .u64)+UInt64.ofNat (cR g i.val))&&&UInt64.ofNat 65535)
    rw [e1,e2,Hz (by omega)]
    refine (kY (by rw [pV,if_pos (by omega)];rfl) fun j hj hne=> ?_).symm
    unfold pV
    by_cases hl:j<i.val
    ·rw [if_pos (by omega),if_pos hl]
    ·rw [if_neg (by omega),if_neg hl]
  have h2:=of_decide_eq_false h2
  have hi:=i.2
  have hP:lb 16 (pV g i.val)=lb 16 (bo g):=fx fun j hj=>by rw [pV,if_pos (by omega)]
  rw [hP,show i.val=16 by omega]
  repeat refine sd ?_
  have p0:=dN g 0
  have p15:=dN g 15
  have c16:=hc 16
  have e3:UInt64.ofNat (bo g 0)+UInt64.ofNat 38*UInt64.ofNat (cR g 16)+UInt64.ofNat 19*iz (UInt64.ofNat (bo g 15)) 15=UInt64.ofNat (cm g 0):=by
   rw [Oy (by omega),←UInt64.ofNat_mul,←UInt64.ofNat_mul,←UInt64.ofNat_add,←UInt64.ofNat_add]
   rfl
  have e4:(lb 16 (bo g)).set 0 (UInt64.ofNat (cm g 0))=lb 16 (fun j=>if j=0 then cm g 0 else bo g j):=kY (by rw [if_pos rfl]) fun j hj hne=>by rw [if_neg hne]
  refine sj ⟨k.val+1,by omega⟩<|sr ⟨rfl,?_,trivial⟩
  show lb 16 (IB f (k.val+1))=((lb 16 (bo g)).set 0 ((lb 16 (bo g)).getD 0 0+UInt64.ofNat 38*UInt64.ofNat (cR g 16)+UInt64.ofNat 19*iz ((lb 16 (bo g)).getD 15 0) 15)).set 15 (((lb 16 (bo g)).set 0 ((lb 16 (bo g)).getD 0 0+UInt64.ofNat 38*UInt64.ofNat (cR g 16)+UInt64.ofNat 19*iz ((lb 16 (bo g)).getD 15 0) 15)).getD 15 0&&&UInt64.ofNat 32767)
  rw [cz _ (show 0<16 by omega),cz _ (show 15<16 by omega),e3,e4,cz _ (show 15<16 by omega),if_neg (show ¬15=0 by omega),Nh (by omega),hI]
  refine (kY (g:=cm g) ?_ fun j hj hne=> ?_).symm
  ·rw [cm,if_neg (by omega),if_pos rfl]
  ·by_cases h0:j=0
   ·subst h0;rw [if_pos rfl]
   ·rw [if_neg h0,cm,if_neg h0,if_neg hne]
 have h1:=of_decide_eq_false h1
 have hk:=k.2
 rw [show k.val=3 by omega]
 obtain ⟨hC,hmod⟩:=I5 f hf
 have hlt:=hC.lt
 have hN:lb 16 (IB f 3)=lb 16 (bG (bS (tg f) 16)):=fx fun i hi=>(JW (tg f) hC.r 16 i hi).symm
 rw [hN,←hmod]
 generalize bS (tg f) 16=y at hlt ⊢
 refine Or.inr ⟨{z:Nat // z%Pq=y%Pq∧z<57896044618658097711785492504343953926634992332820282019728792003956564819968},fun z=>⟨[],[(2000,.blk 143 [.vec .u64 16 (lb 16 (bG z.val))])]⟩,fun z=>z.val,⟨y,rfl,hlt⟩,?_⟩
 refine ⟨rfl,rfl,fun z=> ?_⟩
 obtain ⟨hz,hzl⟩:=z.2
 have hz16:z.val<65536^16:=Nat.lt_trans hzl (by decide +kernel)
 refine ⟨⟨z.val,hz16,rfl⟩,?_⟩
 rw [y9 hz16]
 refine ⟨fun h2=> ?_,fun h2=> ?_⟩
 ·have h3:¬z.val<Pq:=by
   intro h
   rw [decide_eq_true h] at h2;cases h2
  obtain ⟨d,hd⟩:∃d,z.val=Pq+d:=⟨z.val-Pq,by omega⟩
  have hd19:d<19:=by unfold Pq at hd;omega
  have ho:=fun i (hi:i<16)=>Sg ⟨d,hd19⟩ ⟨i,hi⟩
  refine Or.inr ⟨{i:Nat // i≤16},fun i=>⟨[(9,.one (.ob .int (i.val:Int))),(8,.one (.ob .u64 (UInt64.ofNat 0)))],[(2000,.blk 143 [.vec .u64 16 (lb 16 fun j=>if j<i.val then bG d j else bG z.val j)])]⟩,fun i=>16-i.val,⟨0,by omega⟩,?_⟩
  refine ⟨rfl,rfl,rfl,?_,fun i=>⟨fun h4=> ?_,fun h4=> ?_⟩⟩
  ·exact fx fun i hi=>by simp
  ·have h4:=of_decide_eq_true h4
   have hi:=i.2
   have hoi:bG z.val i.val=cj i.val+bG d i.val:=by rw [hd];exact ho i.val (by omega)
   have dl:=di d i.val
   have e1:(lb 16 fun j=>if j<i.val then bG d j else bG z.val j).getD (i.val:Int).toNat (Kd.df .u64)=UInt64.ofNat (cj i.val+bG d i.val):=(cz _ (show i.val<16 by omega)).trans (by rw [if_neg (by omega),hoi])
   have e2:(lb 16 cj).getD (i.val:Int).toNat (Kd.df .u64)=UInt64.ofNat (cj i.val):=cz _ (show i.val<16 by omega)
   have e3:UInt64.ofNat (cj i.val+bG d i.val)+UInt64.ofNat 65536-UInt64.ofNat (cj i.val)-UInt64.ofNat 0=UInt64.ofNat (bG d i.val+65536):=by
    rw [←UInt64.ofNat_add,Jn (by omega),Jn (by omega)]
    exact congrArg UInt64.ofNat (by omega)
   repeat refine sd ?_
   refine sj ⟨i.val+1,by omega⟩<|sr ⟨congrArg (fun z:UInt64=> [z]) ?_,rfl,?_,trivial⟩
   ·show UInt64.ofNat 0=UInt64.ofNat 1-iz ((lb 16 fun j=>if j<i.val then bG d j else bG z.val j).getD (i.val:Int).toNat (Kd.df .u64)+UInt64.ofNat 65536-(lb 16 cj).getD (i.val:Int).toNat (Kd.df .u64)-UInt64.ofNat 0) 16
    rw [e1,e2,e3,Oy (by omega),show (bG d i.val+65536)/2^16=1 by omega]
    rfl
   ·show (lb 16 fun j=>if j<i.val+1 then bG d j else bG z.val j)=(lb 16 fun j=>if j<i.val then bG d j else bG z.val j).set i.val (((lb 16 fun j=>if j<i.val then bG d j else bG z.val j).getD (i.val:Int).toNat (Kd.df .u64)+UInt64.ofNat 65536-(lb 16 cj).getD (i.val:Int).toNat (Kd.df .u64)-UInt64.ofNat 0)&&&UInt64.ofNat 65535)
    rw [e1,e2,e3,Hz (by omega),show (bG d i.val+65536)%65536=bG d i.val by omega]
    refine (kY (by rw [if_pos (by omega)]) fun j hj hne=> ?_).symm
    by_cases hl:j<i.val
    ·rw [if_pos (by omega),if_pos hl]
    ·rw [if_neg (by omega),if_neg hl]
  have h4:=of_decide_eq_false h4
  have hi:=i.2
  have hPq:=pf
  have hzz:d%Pq=y%Pq:=by rw [←hz,hd,Nat.add_mod_left]
  refine sj ⟨d,hzz,by omega⟩ ⟨rfl,?_,trivial⟩
  exact fx fun j hj=>by rw [if_pos (by omega)]
 ·have h3:z.val<Pq:=by
   rcases Nat.lt_or_ge z.val Pq with h|h
   ·exact h
   ·rw [decide_eq_false (by omega)] at h2;cases h2
  refine ⟨rfl,?_,trivial⟩
  show lb 16 (bG (y%Pq))=lb 16 (bG z.val)
  exact congrArg (fun q=>lb 16 (bG q)) (hz.symm.trans (Nat.mod_eq_of_lt h3))
def Uy (l:List UInt64):Prop:=∃f:Nat→Nat,(∀i,f i≤17592186044416)∧l=lb 16 f
theorem EC {f:Nat→Nat} (hf:∀i,f i≤17592186044416):Gn (lb 16 f)=bS f 16:=ei 16 fun i hi=>Qg hi (by have:=hf i;omega)
def qD:GF:=fun l=>match l with
 | [.agg [.vec .u64 16 a]]=>some ⟨[.agg [.vec .u64 16 (lb 16 (bG (Gn a%Pq)))]],[],some (Uy a)⟩
 |_=>none
theorem qJ:af 187 (ar qD):=ai aW VA Tryz.func187 (by kernel_rfl) rfl (rs:= [.cell 2 143]) Tryz.results187 fun l g h hp=>by
 unfold qD at h
 split at h
 ·cases h
  obtain ⟨f,hf,rfl⟩:=hp
  rw [EC hf]
  exact ⟨Nat.le_of_ble_eq_true rfl,rfl,rfl,rfl,EY f hf⟩
 ·cases h
def TB:List (Nat×CF):=(187,ar qD)::Wt
theorem Pt:∀p∈TB,af p.1 p.2:=ag qJ Qd
theorem KV:az cL (ap TB):=aD aW (br Pt)
def kf (x:F):List UInt64:=lb 16 (bG x.val)
theorem Mz {f:Nat→Nat} {x:F} (hf:∀i,f i≤17592186044416) (h:bS f 16%Pq=x.val):kf x=lb 16 (bG (Gn (lb 16 f)%Pq)):=by rw [EC hf,h,kf]
theorem l6 (f g:Nat→Nat):∀n,bS (fun i=>f i+g i) n=bS f n+bS g n
 |0=>rfl
 |n+1=>by simp only [bS];rw [l6 f g n,Nat.add_mul];omega
theorem tE (c:Nat) (f:Nat→Nat):∀n,bS (fun i=>c*f i) n=c*bS f n
 |0=>rfl
 |n+1=>by simp only [bS];rw [tE c f n,Nat.mul_add,Nat.mul_assoc]
theorem Xu {x:Nat} (h:x<Pq):x<65536^16:=Nat.lt_trans h (by decide +kernel)
theorem rt {x:Nat} (h:x<Pq):bS (bG x) 16=x:=by rw [l8,Nat.mod_eq_of_lt (Xu h)]
theorem LC:bS cj 16=Pq:=by decide +kernel
def Gs (x y i:Nat):Nat:=bG x i+bG y i
theorem Ek (x y i:Nat):Gs x y i≤17592186044416:=by have:=di x i;have:=di y i;unfold Gs;omega
theorem Re (x y:F):bS (Gs x.val y.val) 16%Pq=(x+y).val:=by
 rw [show Gs x.val y.val=fun i=>bG x.val i+bG y.val i from rfl,l6,rt x.isLt,rt y.isLt];rfl
def zG (f g:Nat→Nat) (j i:Nat):Nat:=if i<j then g i else f i
theorem ov {n j:Nat} {f g:Nat→Nat} {x:UInt64} (hx:x=UInt64.ofNat (g j)):(lb n (zG f g j)).set j x=lb n (zG f g (j+1)):=
 kY (by rw [zG,if_pos (by omega)];exact hx) fun i _ hne=>by
  unfold zG
  by_cases hl:i<j
  ·rw [if_pos (by omega),if_pos hl]
  ·rw [if_neg (by omega),if_neg hl]
theorem Qy {n:Nat} (f g:Nat→Nat):lb n (zG f g 0)=lb n f:=fx fun i _=>by simp [zG]
theorem Ds {n:Nat} (f g:Nat→Nat):lb n (zG f g n)=lb n g:=fx fun i hi=>by simp [zG,hi]
theorem Dp {n j:Nat} (f g:Nat→Nat) (h:j<n):(lb n (zG f g j)).getD (j:Int).toNat (Kd.df .u64)=UInt64.ofNat (f j):=(cz _ h).trans (by rw [zG,if_neg (by omega)])
set_option maxHeartbeats 1000000 in
theorem Rf (x y:F):vc cL (ap TB) Tryz.f131.ntmps (ah Tryz.f131) ⟨aq 0 [.agg [.vec .u64 16 (kf x)],.agg [.vec .u64 16 (kf y)]],[],2000⟩ (aI cL Tryz.f131.ntmps [.cell 4 143] [.agg [.vec .u64 16 (kf (x+y))]] []):=by
 refine Or.inr ⟨{i:Nat // i≤16},fun i=>⟨[(5,.one (.ob .int (i.val:Int)))],[(2000,.blk 143 [.vec .u64 16 (lb 16 (zG (bG x.val) (Gs x.val y.val) i.val))])]⟩,fun i=>16-i.val,⟨0,by omega⟩,?_⟩
 refine ⟨rfl,rfl,Qy _ _,fun i=>⟨fun h2=> ?_,fun h2=> ?_⟩⟩
 ·have h2:=of_decide_eq_true h2
  have hi:=i.2
  repeat refine sd ?_
  refine sj ⟨i.val+1,by omega⟩<|sr<|sr ⟨(ov ?_).symm,trivial⟩
  show (lb 16 (zG (bG x.val) (Gs x.val y.val) i.val)).getD (i.val:Int).toNat (Kd.df .u64)+(kf y).getD i.val 0=_
  rw [Dp _ _ (by omega),kf,cz _ (by omega),←UInt64.ofNat_add]
  rfl
 have h2:=of_decide_eq_false h2
 have hi:=i.2
 rw [show i.val=16 by omega,Ds]
 exact ⟨⟨_,Ek _ _,rfl⟩,rfl,Mz (Ek _ _) (Re x y),trivial⟩
set_option maxRecDepth 10000
def yt (x y i:Nat):Nat:=bG x i+4*cj i-bG y i
theorem mN (i:Nat):32767≤cj i∧cj i≤65535:=by unfold cj;split<;>(try split)<;>omega
theorem D2 (x y i:Nat):yt x y i≤17592186044416:=by have:=di x i;have:=mN i;unfold yt;omega
theorem RJ (x y:F):bS (yt x.val y.val) 16%Pq=(x-y).val:=by
 have e:bS (fun i=>yt x.val y.val i+bG y.val i) 16=bS (fun i=>bG x.val i+4*cj i) 16:=ei 16 fun i _=>by
  have:=di y.val i;have:=mN i;unfold yt;omega
 rw [l6,l6,tE,rt x.isLt,rt y.isLt,LC] at e
 have hx:=x.isLt
 have hy:=y.isLt
 rw [Fin.sub_def]
 show _=(Pq-y.val+x.val)%Pq
 have e2:bS (yt x.val y.val) 16=Pq-y.val+x.val+3*Pq:=by omega
 rw [e2,Nat.add_mul_mod_self_right]
set_option maxHeartbeats 1000000 in
theorem Rn (x y:F):vc cL (ap TB) Tryz.f133.ntmps (ah Tryz.f133) ⟨aq 0 [.agg [.vec .u64 16 (kf x)],.agg [.vec .u64 16 (kf y)]],[],2000⟩ (aI cL Tryz.f133.ntmps [.cell 4 143] [.agg [.vec .u64 16 (kf (x-y))]] []):=by
 refine Or.inr ⟨{i:Nat // i≤16},fun i=>⟨[(6,.one (.ob .int (i.val:Int)))],[(2000,.blk 143 [.vec .u64 16 (lb 16 (zG (bG x.val) (yt x.val y.val) i.val))])]⟩,fun i=>16-i.val,⟨0,by omega⟩,?_⟩
 refine ⟨rfl,rfl,Qy _ _,fun i=>⟨fun h2=> ?_,fun h2=> ?_⟩⟩
 ·have h2:=of_decide_eq_true h2
  have hi:=i.2
  have hp:=mN i.val
  have hx:=di x.val i.val
  have hy:=di y.val i.val
  repeat refine sd ?_
  refine sj ⟨i.val+1,by omega⟩<|sr<|sr ⟨(ov ?_).symm,trivial⟩
  show (lb 16 (zG (bG x.val) (yt x.val y.val) i.val)).getD (i.val:Int).toNat (Kd.df .u64)+UInt64.ofNat 4*(lb 16 cj).getD i.val 0-(kf y).getD i.val 0=_
  rw [Dp _ _ (by omega),kf,cz _ (by omega),cz _ (by omega),←UInt64.ofNat_mul,←UInt64.ofNat_add,Jn (by omega)]
  rfl
 have h2:=of_decide_eq_false h2
 have hi:=i.2
 rw [show i.val=16 by omega,Ds]
 exact ⟨⟨_,D2 _ _,rfl⟩,rfl,Mz (D2 _ _) (RJ x y),trivial⟩
def m9 (c:Nat→Nat) (m v i:Nat):Nat:=if i=m then v else c i
theorem D_ (c:Nat→Nat) (m a:Nat):∀n,m<n→bS (m9 c m (c m+a)) n=bS c n+a*65536^m
 |0,h=>by omega
 |n+1,h=>by
  by_cases e:m=n
  ·subst e
   have h1:bS (m9 c m (c m+a)) m=bS c m:=ei m fun i hi=>by unfold m9;rw [if_neg (by omega)]
   simp only [bS]
   rw [h1]
   simp only [m9,if_true]
   rw [Nat.add_mul];omega
  ·have ih:=D_ c m a n (by omega)
   simp only [bS]
   rw [ih]
   simp only [m9,if_neg (fun x:n=m=>e x.symm)]
   omega
theorem xX (f:Nat→Nat) (n:Nat):bS f (n+1)=bS f n+f n*65536^n:=rfl
def MM:Nat:=4294836225
theorem M8 (x y i k:Nat):bG x i*bG y k≤MM:=by
 have h1:=di x i;have h2:=di y k
 exact Nat.le_trans (Nat.mul_le_mul (show bG x i≤65535 by omega) (show bG y k≤65535 by omega)) (by decide)
structure pI (f g c:Nat→Nat) (i k:Nat):Prop where
 lo:∀j,c j≤(i+1)*MM
 hi:∀j,i+k≤j→c j≤i*MM
 v:bS c 32=bS f i*bS g 16+f i*65536^i*bS g k
structure iV (f g c:Nat→Nat) (i:Nat):Prop where
 lo:∀j,c j≤i*MM
 v:bS c 32=bS f i*bS g 16
theorem iV.start (f g:Nat→Nat):iV f g (fun _=>0) 0:=⟨fun _=>by omega,by rw [show bS f 0=0 from rfl,Nat.zero_mul];rfl⟩
theorem iV.into {f g c:Nat→Nat} {i:Nat} (h:iV f g c i):pI f g c i 0:=
 ⟨fun j=>Nat.le_trans (h.lo j) (Nat.mul_le_mul_right _ (by omega)),fun j _=>h.lo j,by rw [h.v,show bS g 0=0 from rfl,Nat.mul_zero,Nat.add_zero]⟩
theorem pI.step {f g c:Nat→Nat} {i k:Nat} (h:pI f g c i k) (hk:k<16) (hi:i<16) (hp:f i*g k≤MM):pI f g (m9 c (i+k) (c (i+k)+f i*g k)) i (k+1):=by
 have e:(i+1)*MM=i*MM+MM:=by rw [Nat.add_mul,Nat.one_mul]
 refine ⟨fun j=> ?_,fun j hj=> ?_,?_⟩
 ·unfold m9
  split
  ·have:=h.hi (i+k) (Nat.le_refl _);omega
  ·exact h.lo j
 ·unfold m9
  rw [if_neg (by omega)]
  exact h.hi j (by omega)
 ·rw [D_ _ _ _ _ (by omega),h.v,xX g k,Nat.pow_add]
  generalize bS f i*bS g 16=A
  generalize bS g k=B
  generalize 65536^i=C
  generalize 65536^k=D
  rw [Nat.mul_add,Nat.add_assoc]
  congr 2
  grind
theorem pI.out {f g c:Nat→Nat} {i:Nat} (h:pI f g c i 16):iV f g c (i+1):=
 ⟨h.lo,by rw [h.v,xX f i,Nat.add_mul]⟩
def Gm (c:Nat→Nat) (i:Nat):Nat:=c i+38*c (i+16)
theorem qi (c:Nat→Nat) (m:Nat):∀n,bS c (m+n)=bS c m+65536^m*bS (fun i=>c (i+m)) n
 |0=>by simp [bS]
 |n+1=>by
  show bS c (m+n)+c (m+n)*65536^(m+n)=_
  rw [qi c m n]
  simp only [bS]
  rw [Nat.pow_add,Nat.add_comm n m]
  grind
theorem Sp (c:Nat→Nat):bS (Gm c) 16%Pq=bS c 32%Pq:=by
 rw [show bS c 32=bS c (16+16) from rfl,qi c 16 16]
 rw [show Gm c=fun i=>c i+(fun i=>38*(fun i=>c (i+16)) i) i from rfl,l6,tE]
 generalize bS (fun i=>c (i+16)) 16=H
 generalize bS c 16=L
 rw [Nat.add_mod L (65536^16*H),Nat.mul_mod,show (65536^16:Nat)%Pq=38 from by decide +kernel,Nat.add_mod L (38*H),Nat.mul_mod 38 H,show 38%Pq=38 from by decide +kernel]
theorem iV.fin {x y:F} {c:Nat→Nat} (h:iV (bG x.val) (bG y.val) c 16):bS (Gm c) 16%Pq=(x*y).val:=by
 rw [Sp,h.v,rt x.isLt,rt y.isLt];rfl
theorem JG {c:Nat→Nat} (h:∀j,c j≤16*MM) (i:Nat):Gm c i≤17592186044416:=by
 have h1:=h i;have h2:=h (i+16);unfold Gm;unfold MM at *;omega
theorem Jm {n m v:Nat} {c:Nat→Nat} {x:UInt64} (hx:x=UInt64.ofNat v):(lb n c).set m x=lb n (m9 c m v):=
 kY (by rw [m9,if_pos rfl];exact hx) fun i _ hne=>by rw [m9,if_neg hne]
set_option maxHeartbeats 2000000 in
theorem Q6 (x y:F):vc cL (ap TB) Tryz.f132.ntmps (ah Tryz.f132) ⟨aq 0 [.agg [.vec .u64 16 (kf x)],.agg [.vec .u64 16 (kf y)]],[],2000⟩ (aI cL Tryz.f132.ntmps [.cell 4 143] [.agg [.vec .u64 16 (kf (x*y))]] []):=by
 refine Or.inr ⟨{p:Nat×(Nat→Nat) // p.1≤16∧iV (bG x.val) (bG y.val) p.2 p.1},fun p=>⟨[(6,.one (.ob .int (p.val.1:Int)))],[(2048,.blk 229 [.vec .u64 32 (lb 32 p.val.2)])]⟩,fun p=>16-p.val.1,⟨(0,fun _=>0),by omega,iV.start _ _⟩,?_⟩
 refine ⟨rfl,rfl,rfl,fun p=>⟨fun h1=> ?_,fun h1=> ?_⟩⟩
 ·have h1:=of_decide_eq_true h1
  obtain ⟨hp,hM⟩:=p.2
  refine Or.inr ⟨{q:Nat×(Nat→Nat) // q.1≤16∧pI (bG x.val) (bG y.val) q.2 p.val.1 q.1},fun q=>⟨[(7,.one (.ob .int (q.val.1:Int)))],[(2048,.blk 229 [.vec .u64 32 (lb 32 q.val.2)])]⟩,fun q=>16-q.val.1,⟨(0,p.val.2),by omega,hM.into⟩,?_⟩
  refine ⟨rfl,rfl,rfl,fun q=>⟨fun h2=> ?_,fun h2=> ?_⟩⟩
  ·have h2:=of_decide_eq_true h2
   obtain ⟨hq,hI⟩:=q.2
   have hpr:=M8 x.val y.val p.val.1 q.val.1
   have e1:((p.val.1:Int)+(q.val.1:Int)).toNat=p.val.1+q.val.1:=by omega
   repeat refine sd ?_
   refine sj ⟨(q.val.1+1,m9 q.val.2 (p.val.1+q.val.1) (q.val.2 (p.val.1+q.val.1)+bG x.val p.val.1*bG y.val q.val.1)),by omega,hI.step (by omega) (by omega) hpr⟩<|sr<|sr ⟨?_,trivial⟩
   show lb 32 (m9 q.val.2 (p.val.1+q.val.1) (q.val.2 (p.val.1+q.val.1)+bG x.val p.val.1*bG y.val q.val.1))=(lb 32 q.val.2).set ((p.val.1:Int)+(q.val.1:Int)).toNat ((lb 32 q.val.2).getD ((p.val.1:Int)+(q.val.1:Int)).toNat 0+(kf x).getD p.val.1 0*(kf y).getD q.val.1 0)
   rw [e1,kf,kf,cz _ (by omega),cz _ (by omega),cz _ (by omega),←UInt64.ofNat_mul,←UInt64.ofNat_add]
   exact (Jm rfl).symm
  have h2:=of_decide_eq_false h2
  obtain ⟨hq,hI⟩:=q.2
  have hq16:q.val.1=16:=by omega
  rw [hq16] at hI
  refine sd<|sj ⟨(p.val.1+1,q.val.2),by omega,hI.out⟩<|sr<|sr ⟨rfl,trivial⟩
 have h1:=of_decide_eq_false h1
 obtain ⟨hp,hM⟩:=p.2
 have hp16:p.val.1=16:=by omega
 rw [hp16] at hM
 refine Or.inr ⟨{i:Nat // i≤16},fun i=>⟨[(9,.one (.ob .int (i.val:Int)))],[(3112,.blk 143 [.vec .u64 16 (lb 16 (zG (fun _=>0) (Gm p.val.2) i.val))])]⟩,fun i=>16-i.val,⟨0,by omega⟩,?_⟩
 refine ⟨rfl,rfl,rfl,fun i=>⟨fun h2=> ?_,fun h2=> ?_⟩⟩
 ·have h2:=of_decide_eq_true h2
  have hi:=i.2
  repeat refine sd ?_
  refine sj ⟨i.val+1,by omega⟩<|sr<|sr ⟨(ov ?_).symm,trivial⟩
  show (lb 32 p.val.2).getD i.val 0+UInt64.ofNat 38*(lb 32 p.val.2).getD ((i.val:Int)+16).toNat 0=_
  rw [show ((i.val:Int)+16).toNat=i.val+16 by omega,cz _ (by omega),cz _ (by omega),←UInt64.ofNat_mul,←UInt64.ofNat_add]
  rfl
 have h2:=of_decide_eq_false h2
 have hi:=i.2
 rw [show i.val=16 by omega,Ds]
 exact ⟨⟨_,JG hM.lo,rfl⟩,rfl,Mz (JG hM.lo) hM.fin,trivial⟩
set_option maxRecDepth 10000
theorem ql {l:List UInt64} {cs:List Value}:bj Kd.u64.rp l cs↔cs=l.map fun x=> .int .u64 (x.toNat:Int):=by
 induction l generalizing cs with
 |nil=>exact Iff.rfl
 |cons x l ih=>
  constructor
  ·rintro ⟨h,r,h1,rfl,h2⟩
   rw [show h= [_] from h1,ih.1 h2];rfl
  ·rintro rfl
   exact ⟨[.int .u64 (x.toNat:Int)],_,rfl,rfl,ih.2 rfl⟩
theorem rN (x:F):(kf x).map (fun x=>Value.int .u64 (x.toNat:Int))=(List.range 16).map fun i=> .int .u64 ((bG x.val i:Nat):Int):=by
 rw [kf,lb,List.map_map]
 refine List.map_congr_left fun i _=> ?_
 have:=di x.val i
 show Value.int .u64 ((UInt64.ofNat (bG x.val i)).toNat:Int)=_
 rw [kq (by omega)]
def Cl.lm (c:Cl):Cl:=match c with
 | .ob (.x 1) x=> .vec .u64 16 (kf x)
 |c=>c
def AV.lm:AV→AV
 | .one x=> .one x
 | .agg l=> .agg (l.map Cl.lm)
section
variable {η:bx} {A:Nat→Prop} {w:World}
theorem Cl.lm_H {c:Cl} {cs:List Value}:(c.lm).H η A w cs↔c.H η A w cs:=by
 unfold Cl.lm
 split
 ·rename_i x
  constructor
  ·rintro ⟨_,h⟩
   exact ⟨trivial,(ql.1 h).trans (rN x)⟩
  ·rintro ⟨_,h⟩
   exact ⟨QN _ _,ql.2 (h.trans (rN x).symm)⟩
 ·exact Iff.rfl
theorem j2:∀ {l:List Cl} {cs:List Value},aK η A w (l.map Cl.lm) cs↔aK η A w l cs
 | [],_=>Iff.rfl
 |x::r,cs=>by
  constructor
  ·rintro ⟨h,t,e,h1,h2⟩
   exact ⟨h,t,e,Cl.lm_H.1 h1,j2.1 h2⟩
  ·rintro ⟨h,t,e,h1,h2⟩
   exact ⟨h,t,e,Cl.lm_H.2 h1,j2.2 h2⟩
theorem AV.lm_H {x:AV} {v:Value}:(x.lm).H η A w v↔x.H η A w v:=by
 cases x with
 |one x=>exact Iff.rfl
 |agg l=>
  constructor
  ·rintro ⟨cs,e,h1,h2⟩
   exact ⟨cs,e,j2.1 h1,h2⟩
  ·rintro ⟨cs,e,h1,h2⟩
   exact ⟨cs,e,j2.2 h1,h2⟩
theorem og:∀ {l:List AV} {vs:List Value},bQ η A w (l.map AV.lm) vs↔bQ η A w l vs
 | [],_=>Iff.rfl
 |x::r,vs=>by
  constructor
  ·rintro ⟨v,t,e,h1,h2⟩
   exact ⟨v,t,e,AV.lm_H.1 h1,og.1 h2⟩
  ·rintro ⟨v,t,e,h1,h2⟩
   exact ⟨v,t,e,AV.lm_H.2 h1,og.2 h2⟩
theorem Cl.lm_rn (n:Nat) (c:Cl):(c.lm).rn n=(c.rn n).lm:=by
 rcases c with _|_|_|⟨k,x⟩|_|_|_|_|_|_|_|_|_|_<;>try rfl
 rcases k with _|_|_|_|_|_|_|i<;>try rfl
 rcases i with _|_|i<;>rfl
theorem AV.lm_rn (n:Nat) (x:AV):(x.lm).rn n=(x.rn n).lm:=by
 cases x with
 |one x=>rfl
 |agg l=>
  refine congrArg AV.agg ?_
  rw [List.map_map,List.map_map]
  exact List.map_congr_left fun c _=>Cl.lm_rn n c
theorem Mk {l:List AV} {v:Value} (h:bz η A w (l.map AV.lm) v):bz η A w l v:=by
 rcases l with _|⟨x,_|⟨y,l⟩⟩
 ·trivial
 ·exact AV.lm_H.1 h
 ·obtain ⟨vs,e,h⟩:=h
  have h2:bQ η A w ((x::y::l).map AV.lm) vs:=h
  exact ⟨vs,e,og.1 h2⟩
end
theorem fP {ty : Nat → TE} {ct : Nat → Option CF} (hT : bk ty) (hO : az ty ct) {f : Nat} {fn : Func} {c : Code} {rs : List ResultVar} (hf : Tryz.prog.funcs[f]? = some fn) (hn : (fn.name == "runtime.NumGoroutine") = false) (hb : fn.body = some c) (hr : fn.results = rs.toArray) {G : GF}
  (hG:∀l g,G l=some g→bn g.pre→l.length≤fn.ntmps∧g.outs.length=rs.length∧eC (g.outs.map AV.lm)=true∧gB g.us=true∧fI 0 (l.map AV.lm)=true∧vc ty ct fn.ntmps c ⟨aq 0 (l.map AV.lm),[],2000⟩ (aI ty fn.ntmps rs (g.outs.map AV.lm) g.us)):af f (ar G):=by
 refine ⟨⟨fn,c,hf,hn,hb⟩,fun nx args sl H ds res rd qs h hq hp η w vs hH hv hfree=> ?_⟩
 obtain ⟨l,rd1,h1,hl⟩:=eV hH h hv
 split at h1
 ·rename_i e1 e2
  split at h1
  ·rename_i outs us p e3
   have:=j5 h1
   subst this
   obtain ⟨g1,g2,g3,g4,g6,g5⟩:=hG _ _ e3 hp
   rw [me g4]
   refine (tF (pre:=p) cP hT hO hf hb hr g6 (by rw [List.length_map];exact g1) (by rw [List.length_map];exact g2) g3 g4 g5 (cZ e2) hH hfree (og.2 (en hl))).mono fun e w' hR=> ?_
   obtain ⟨v,η',he,o1,o2,o3,o4,o5⟩:=hR
   refine ⟨v,η',he,⟨Mk ?_,o2,o3,o4,o5⟩⟩
   have e5:(outs.map AV.lm).map (AV.rn nx)=(outs.map (AV.rn nx)).map AV.lm:=by
    rw [List.map_map,List.map_map]
    exact List.map_congr_left fun x _=>AV.lm_rn nx x
   rw [←e5]
   exact o1
  ·cases h1
 ·cases h1
def mX (a b:F):F:=a+b
def nM (a b:F):F:=a-b
def aO (a b:F):F:=a*b
def I2:GF:=fun l=>match l with
 | [.agg [.ob (.x 1) a],.agg [.ob (.x 1) b]]=>some ⟨[.agg [.ob (.x 1) (mX a b)]],[],none⟩
 |_=>none
theorem Bs:af 131 (ar I2):=fP aW KV Tryz.func131 (by kernel_rfl) rfl (rs:= [.cell 4 143]) Tryz.results131 fun l g h hp=>by
 unfold I2 at h
 split at h
 ·cases h;exact ⟨Nat.le_of_ble_eq_true rfl,rfl,rfl,rfl,rfl,Rf _ _⟩
 ·cases h
def LD:GF:=fun l=>match l with
 | [.agg [.ob (.x 1) a],.agg [.ob (.x 1) b]]=>some ⟨[.agg [.ob (.x 1) (nM a b)]],[],none⟩
 |_=>none
theorem BG:af 133 (ar LD):=fP aW KV Tryz.func133 (by kernel_rfl) rfl (rs:= [.cell 4 143]) Tryz.results133 fun l g h hp=>by
 unfold LD at h
 split at h
 ·cases h;exact ⟨Nat.le_of_ble_eq_true rfl,rfl,rfl,rfl,rfl,Rn _ _⟩
 ·cases h
def G8:GF:=fun l=>match l with
 | [.agg [.ob (.x 1) a],.agg [.ob (.x 1) b]]=>some ⟨[.agg [.ob (.x 1) (aO a b)]],[],none⟩
 |_=>none
theorem Bc:af 132 (ar G8):=fP aW KV Tryz.func132 (by kernel_rfl) rfl (rs:= [.cell 4 143]) Tryz.results132 fun l g h hp=>by
 unfold G8 at h
 split at h
 ·cases h;exact ⟨Nat.le_of_ble_eq_true rfl,rfl,rfl,rfl,rfl,Q6 _ _⟩
 ·cases h
def Wc:List (Nat×CF):=(131,ar I2)::(133,ar LD)::(132,ar G8)::TB
theorem Qp:∀p∈Wc,af p.1 p.2:=ag Bs<|ag BG<|ag Bc Pt
theorem Vm:az cL (ap Wc):=aD aW (br Qp)
set_option maxRecDepth 10000
theorem Yh (i:Nat):2^(16*i)=65536^i:=by rw [Nat.pow_mul]
def AY (n j i:Nat):Nat:=if i<j then bG n i else 0
theorem Hk (n:UInt64):vc cL (ap Wc) Tryz.f130.ntmps (ah Tryz.f130) ⟨aq 0 [.one (.ob .u64 n)],[],2000⟩ (aI cL Tryz.f130.ntmps [.cell 2 143] [.agg [.vec .u64 16 (kf (fn n.toNat))]] []):=by
 refine Or.inr ⟨{i:Nat // i≤4},fun i=>⟨[(4,.one (.ob .int (i.val:Int)))],[(2016,.blk 143 [.vec .u64 16 (lb 16 (AY n.toNat i.val))])]⟩,fun i=>4-i.val,⟨0,by omega⟩,?_⟩
 refine ⟨rfl,rfl,rfl,fun i=>⟨fun h2=> ?_,fun h2=> ?_⟩⟩
 ·have h2:=of_decide_eq_true h2
  have hi:=i.2
  have hn:=n.toNat_lt
  have hd:n.toNat/2^(16*i.val)≤n.toNat:=Nat.div_le_self _ _
  refine sd<|⟨show (0:Int)≤16*(i.val:Int) by omega,?_⟩
  repeat refine sd ?_
  refine sj ⟨i.val+1,by omega⟩<|sr<|sr ⟨?_,trivial⟩
  show lb 16 (AY n.toNat (i.val+1))=(lb 16 (AY n.toNat i.val)).set i.val (iz n (16*(i.val:Int)).toNat&&&UInt64.ofNat 65535)
  rw [show (16*(i.val:Int)).toNat=16*i.val by omega,iz,Hz (by omega),Yh]
  refine (kY (by rw [AY,if_pos (by omega)];rfl) fun j hj hne=> ?_).symm
  unfold AY
  by_cases hl:j<i.val
  ·rw [if_pos (by omega),if_pos hl]
  ·rw [if_neg (by omega),if_neg hl]
 have h2:=of_decide_eq_false h2
 have hi:=i.2
 refine ⟨rfl,?_,trivial⟩
 show kf (fn n.toNat)=lb 16 (AY n.toNat i.val)
 have hn:=n.toNat_lt
 have hv:(fn n.toNat).val=n.toNat:=Nat.mod_eq_of_lt (Nat.lt_trans hn (by decide +kernel))
 rw [show i.val=4 by omega,kf,hv]
 refine fx fun j hj=> ?_
 unfold AY
 by_cases hl:j<4
 ·rw [if_pos hl]
 ·rw [if_neg hl,bG,Nat.div_eq_of_lt]
  have:65536^4≤65536^j:=Nat.pow_le_pow_right (by omega) (by omega)
  omega
def uQ:GF:=fun l=>match l with
 | [.one (.ob .u64 n)]=>some ⟨[.agg [.ob (.x 1) (fn n.toNat)]],[],none⟩
 |_=>none
theorem ui:af 130 (ar uQ):=fP aW Vm Tryz.func130 (by kernel_rfl) rfl (rs:= [.cell 2 143]) Tryz.results130 fun l g h hp=>by
 unfold uQ at h
 split at h
 ·cases h;exact ⟨Nat.le_of_ble_eq_true rfl,rfl,rfl,rfl,rfl,Hk _⟩
 ·cases h
def k8:Nat:=57896044618658097711785492504343953926634992332820282019728792003956564819968
def gI (l:List UInt8):F:=fn (bm (l.take 32)%k8)
def Hs (l:List UInt8) (i:Nat):Nat:=(l.getD (2*i) 0).toNat+256*(l.getD (2*i+1) 0).toNat
theorem Dl (l:List UInt8):∀n,2*n≤l.length→bS (Hs l) n=bm (l.take (2*n))
 |0,_=>rfl
 |n+1,h=>by
  have e1:l.getD (2*n) 0=l[2*n]:=by rw [List.getD_eq_getElem?_getD,List.getElem?_eq_getElem (by omega)];rfl
  have e2:l.getD (2*n+1) 0=l[2*n+1]:=by rw [List.getD_eq_getElem?_getD,List.getElem?_eq_getElem (by omega)];rfl
  rw [bS,Dl l n (by omega),show 2*(n+1)=2*n+1+1 by omega,fy l (2*n+1) (by omega),fy l (2*n) (by omega),Hs,e1,e2,Nat.pow_succ,show (65536:Nat)=256^2 from rfl,←Nat.pow_mul]
  generalize 256^(2*n)=X
  generalize bm _=Y
  rw [Nat.add_mul]
  have:256*l[2*n+1].toNat*X=l[2*n+1].toNat*(X*256):=by rw [Nat.mul_comm X,←Nat.mul_assoc,Nat.mul_comm 256]
  omega
def gl (l:List UInt8):List UInt8:=l.set 31 (l.getD 31 0&&&127)
theorem LZ {l:List UInt8} (h:l.length=32):bm (gl l)=bm l%k8:=by
 have h1:=fy l 31 (by omega)
 have h2:=fy (gl l) 31 (by simp [gl,h])
 have h3:=dY l 31
 rw [List.take_of_length_le (by omega)] at h1
 rw [List.take_of_length_le (by simp [gl,h])] at h2
 have e1:(gl l).take 31=l.take 31:=by simp [gl,List.take_set_of_le]
 have e2:(gl l)[31]'(by simp [gl,h])=l.getD 31 0&&&127:=by simp [gl]
 have e3:l.getD 31 0=l[31]:=by rw [List.getD_eq_getElem?_getD,List.getElem?_eq_getElem (by omega)];rfl
 have e4:(l[31]&&&127).toNat=l[31].toNat%128:=by rw [UInt8.toNat_and,show (127:UInt8).toNat=2^7-1 from rfl,Nat.and_two_pow_sub_one_eq_mod]
 rw [h2,h1,e1,e2,e3,e4]
 generalize bm (l.take 31)=A at h3
 generalize l[31].toNat=x
 unfold k8
 have e5:(256:Nat)^31=452312848583266388373324160190187140051835877600158453279131187530910662656:=by decide
 rw [e5] at h3 ⊢
 omega
theorem Dr (l:List UInt8) (i:Nat):Hs l i≤17592186044416:=by
 have h1:=(l.getD (2*i) 0).toNat_lt
 have h2:=(l.getD (2*i+1) 0).toNat_lt
 unfold Hs;omega
theorem Q8 (a b:UInt8):a.toUInt64|||kA b.toUInt64 8=UInt64.ofNat (a.toNat+256*b.toNat):=by
 have ha:=a.toNat_lt
 have hb:=b.toNat_lt
 refine UInt64.toNat_inj.1 ?_
 rw [UInt64.toNat_or,kA,UInt64.toNat_ofNat',UInt64.toNat_ofNat',UInt8.toNat_toUInt64,UInt8.toNat_toUInt64,Nat.mod_eq_of_lt (show b.toNat*2^8<2^64 by omega),Nat.mod_eq_of_lt (show a.toNat+256*b.toNat<2^64 by omega),Nat.or_comm,←Nat.shiftLeft_eq,←Nat.shiftLeft_add_eq_or_of_lt (by omega),Nat.shiftLeft_eq]
 omega
theorem uF (l:List UInt8) (n:Nat):bm (l++List.replicate n 0)=bm l:=by rw [qd,Gb,Nat.mul_zero,Nat.add_zero]
def TO:List (Nat×CF):=(130,ar uQ)::Wc
theorem P5:∀p∈TO,af p.1 p.2:=ag ui Qp
theorem Qr:az cL (ap TO):=aD aW (br P5)
set_option maxHeartbeats 1000000 in
theorem Uw (b:List UInt8):vc cL (ap TO) Tryz.f129.ntmps (ah Tryz.f129) ⟨aq 0 [.one (.ro .u8 b)],[],2000⟩ (aI cL Tryz.f129.ntmps [.cell 2 143] [.agg [.vec .u64 16 (kf (gI b))]] []):=by
 have hl:(b.take (Int.toNat 32)++List.replicate (Int.toNat 32-b.length) 0).length=32:=by simp;omega
 have hv:bm (b.take 32)=bm (b.take (Int.toNat 32)++List.replicate (Int.toNat 32-b.length) 0):=(uF _ _).symm
 have hO:gI b=fn (bm (b.take (Int.toNat 32)++List.replicate (Int.toNat 32-b.length) 0)%k8):=by rw [gI,hv]
 rw [hO]
 clear hO hv
 refine sd ?_
 generalize b.take (Int.toNat 32)++List.replicate (Int.toNat 32-b.length) 0=C at hl ⊢
 have hm:=LZ hl
 have hml:(gl C).length=32:=by simp [gl,hl]
 repeat refine sd ?_
 refine Or.inr ⟨{i:Nat // i≤16},fun i=>⟨[(5,.one (.ob .int (i.val:Int)))],[(2032,.row 5 .u8 (gl C)),(2176,.blk 143 [.vec .u64 16 (lb 16 (zG (fun _=>0) (Hs (gl C)) i.val))])]⟩,fun i=>16-i.val,⟨0,by omega⟩,?_⟩
 refine ⟨rfl,rfl,rfl,rfl,fun i=>⟨fun h2=> ?_,fun h2=> ?_⟩⟩
 ·have h2:=of_decide_eq_true h2
  have hi:=i.2
  repeat refine sd ?_
  refine sj ⟨i.val+1,by omega⟩<|sr<|sr<|sr ⟨(ov ?_).symm,trivial⟩
  show UInt8.toUInt64 ((gl C).getD (2*(i.val:Int)).toNat 0)|||kA (UInt8.toUInt64 ((gl C).getD (2*(i.val:Int)+1).toNat 0)) 8=_
  rw [show (2*(i.val:Int)).toNat=2*i.val by omega,show (2*(i.val:Int)+1).toNat=2*i.val+1 by omega,Q8]
  rfl
 have h2:=of_decide_eq_false h2
 have hi:=i.2
 rw [show i.val=16 by omega,Ds]
 refine ⟨⟨_,Dr _,rfl⟩,rfl,Mz (Dr _) ?_,trivial⟩
 rw [Dl _ _ (by omega),List.take_of_length_le (by omega),hm]
 rfl
def S9:GF:=fun l=>match l with
 | [.one (.ro .u8 b)]=>some ⟨[.agg [.ob (.x 1) (gI b)]],[],none⟩
 |_=>none
theorem Ga:af 129 (ar S9):=fP aW Qr Tryz.func129 (by kernel_rfl) rfl (rs:= [.cell 2 143]) Tryz.results129 fun l g h hp=>by
 unfold S9 at h
 split at h
 ·cases h;exact ⟨Nat.le_of_ble_eq_true rfl,rfl,rfl,rfl,rfl,Uw _⟩
 ·cases h
theorem L_ (n i:Nat):bq (2*(i+1)) n=bq (2*i) n++ [(UInt64.ofNat (bG n i)).toUInt8,(iz (UInt64.ofNat (bG n i)) 8).toUInt8]:=by
 have hd:=di n i
 rw [show 2*(i+1)=2*i+2 by omega,ga,Oy (by omega),UInt64.toUInt8_ofNat',UInt64.toUInt8_ofNat']
 refine congrArg _ ?_
 have e:n/2^(8*(2*i))=n/65536^i:=by rw [←Yh];congr 2;omega
 show [UInt8.ofNat (n/2^(8*(2*i))/2^0),UInt8.ofNat (n/2^(8*(2*i))/2^8)]=_
 rw [e,bG]
 generalize n/65536^i=m
 refine congr (congrArg List.cons (UInt8.toNat_inj.1 ?_)) (congrArg (fun z=> [z]) (UInt8.toNat_inj.1 ?_))
 ·rw [UInt8.toNat_ofNat',UInt8.toNat_ofNat'];omega
 ·rw [UInt8.toNat_ofNat',UInt8.toNat_ofNat'];omega
theorem Kz (x:F):vc cL (ap TO) Tryz.f135.ntmps (ah Tryz.f135) ⟨aq 0 [.agg [.vec .u64 16 (kf x)]],[],2000⟩ (aI cL Tryz.f135.ntmps [.tmp 2] [.one (.rw 0)] [(0,.row 5 .u8 (bq 32 x.val))]):=by
 refine Or.inr ⟨{i:Nat // i≤16},fun i=>⟨[(4,.one (.ob .int (i.val:Int))),(3,.one (.rw 0))],[(0,.row 5 .u8 (bq (2*i.val) x.val))]⟩,fun i=>16-i.val,⟨0,by omega⟩,?_⟩
 refine ⟨rfl,rfl,fun i=>⟨fun h2=> ?_,fun h2=> ?_⟩⟩
 ·have h2:=of_decide_eq_true h2
  have hi:=i.2
  have e:(kf x).getD (i.val:Int).toNat (Kd.df .u64)=UInt64.ofNat (bG x.val i.val):=cz _ (show i.val<16 by omega)
  have e2:=L_ x.val i.val
  rw [←e] at e2
  repeat refine sd ?_
  refine ⟨?_,sd<|sj ⟨i.val+1,by omega⟩<|sr ⟨e2,trivial⟩⟩
  refine Nat.le_trans (Nat.le_of_eq (congrArg List.length e2.symm)) ?_
  rw [au];omega
 have h2:=of_decide_eq_false h2
 have hi:=i.2
 refine ⟨?_,trivial⟩
 show bq 32 x.val=bq (2*i.val) x.val
 rw [show i.val=16 by omega]
def tG:GF:=fun l=>match l with
 | [.agg [.ob (.x 1) x]]=>some ⟨[.one (.rw 0)],[(0,.row 5 .u8 (bq 32 (Fin.val (n:=Pq) x)))],none⟩
 |_=>none
theorem tL:af 135 (ar tG):=fP aW Qr Tryz.func135 (by kernel_rfl) rfl (rs:= [.tmp 2]) Tryz.results135 fun l g h hp=>by
 unfold tG at h
 split at h
 ·cases h;exact ⟨Nat.le_of_ble_eq_true rfl,rfl,rfl,rfl,rfl,Kz _⟩
 ·cases h
def Tw:List (Nat×CF):=(129,ar S9)::(135,ar tG)::TO
theorem Qs:∀p∈Tw,af p.1 p.2:=ag Ga<|ag tL P5
set_option maxRecDepth 10000
def z1:Cl:= .ob (.x 1) (0:F)
def gp (t:Nat):TE:=match Nat.beq t 143 with
 |true=>⟨.arr 16 111,16,[z1]⟩
 |false=>match Nat.beq t 145 with
  |true=>⟨.st [(0,143),(16,143),(32,143)],48,[z1,z1,z1]⟩
  |false=>cL t
theorem f_ {ty ty':Nat→TE} {t:Nat} {i:TypeInfo} {d:TypeDesc} {z:Value} (h:wq ty t i d z) (h1:(ty' t).ti=(ty t).ti) (h2:(ty' t).size=(ty t).size) (h3:∀η A w,aK η A w (ty' t).zero z.cells.toList):wq ty' t i d z:=
 ⟨h.info,h.und,by rw [h1];exact h.desc,by rw [h2];exact h.size,h.zero,h3,h.one,by rw [h1];exact h.kz,by rw [h2];exact h.zs,by rw [h1,h2];exact h.ks,h.bytes⟩
theorem P8:kf 0=List.replicate 16 0:=by decide +kernel
theorem dc:bk gp:=fun t=>by
 by_cases e1:t=143
 ·subst e1
  rcases aW 143 with h|⟨i,d,z,h⟩
  ·cases h
  ·refine .inr ⟨i,d,z,f_ h rfl rfl fun η A w=> ?_⟩
   refine j2.1 ?_
   show aK η A w [.vec .u64 16 (kf 0)] _
   rw [P8]
   exact h.cells η A w
 ·by_cases e2:t=145
  ·subst e2
   rcases aW 145 with h|⟨i,d,z,h⟩
   ·cases h
   ·refine .inr ⟨i,d,z,f_ h rfl rfl fun η A w=> ?_⟩
    refine j2.1 ?_
    show aK η A w [.vec .u64 16 (kf 0),.vec .u64 16 (kf 0),.vec .u64 16 (kf 0)] _
    rw [P8]
    exact h.cells η A w
  ·have e:gp t=cL t:=by
    unfold gp
    rw [show Nat.beq t 143=false from by rw [←Bool.not_eq_true,Nat.beq_eq];exact e1,show Nat.beq t 145=false from by rw [←Bool.not_eq_true,Nat.beq_eq];exact e2]
   rcases aW t with h|⟨i,d,z,h⟩
   ·exact .inl (by rw [e];exact h)
   ·exact .inr ⟨i,d,z,f_ h (by rw [e]) (by rw [e]) (by rw [e];exact h.cells)⟩
theorem Lp:az gp (ap Tw):=aD dc (br Qs)
def lM (a:F):F:= -a
theorem Tm (x:F):vc gp (ap Tw) Tryz.f157.ntmps (ah Tryz.f157) ⟨aq 0 [.agg [.ob (.x 1) x]],[],2000⟩ (aI gp Tryz.f157.ntmps [.cell 2 143] [.agg [.ob (.x 1) (lM x)]] []):=by
 refine ⟨⟨rfl,?_⟩,trivial⟩
 show [lM x]= [nM 0 x]
 refine congrArg (fun z=> [z]) (F.ext' ?_)
 show (-x).val=(0-x).val
 rw [Fin.sub_def,Fin.neg_def]
 show (Pq-x.val)%Pq=(Pq-x.val+0)%Pq
 rw [Nat.add_zero]
def LL (a b:UInt8):List UInt8:=((List.replicate 32 255).set 0 a).set 31 b
theorem MG (a b:UInt8):vc gp (ap Tw) Tryz.f190.ntmps (ah Tryz.f190) ⟨aq 0 [.one (.ob .u8 a),.one (.ob .u8 b)],[],2000⟩ (eH [4] [.one (.rw 0)] [(0,.row 5 .u8 (LL a b))]):=by
 refine sd<|Or.inr ⟨{i:Nat // i≤32},fun i=>⟨[(6,.one (.ob .int (i.val:Int)))],[(2016,.row 5 .u8 (dj 0 32 (fun _=>255) (List.replicate 32 0) i.val))]⟩,fun i=>32-i.val,⟨0,by omega⟩,?_⟩
 refine ⟨rfl,eE (by simp),fun i=>⟨fun h2=> ?_,fun h2=> ?_⟩⟩
 ·have h2:=of_decide_eq_true h2
  have hi:=i.2
  have hl:=mj (d:=(0:UInt8)) (n:=32) (f:=fun _=>255) (old:=List.replicate 32 0) i.val
  repeat refine sd ?_
  exact sj ⟨i.val+1,by omega⟩<|sr ⟨bN.symm,trivial⟩
 have h2:=of_decide_eq_false h2
 have hi:=i.2
 have e:dj 0 32 (fun _=>255) (List.replicate 32 0) i.val=List.replicate 32 (255:UInt8):=by
  rw [b_ (by omega)];rfl
 rw [e]
 refine ⟨by decide,by decide,?_⟩
 refine ⟨by simp,by simp,rfl,trivial⟩
def Je:GF:=fun l=>match l with
 | [.agg [.ob (.x 1) a]]=>some ⟨[.agg [.ob (.x 1) (lM a)]],[],none⟩
 |_=>none
theorem AN:af 157 (ar Je):=ai dc Lp Tryz.func157 (by kernel_rfl) rfl (rs:= [.cell 2 143]) Tryz.results157 fun l g h hp=>by
 unfold Je at h
 split at h
 ·cases h;exact ⟨Nat.le_of_ble_eq_true rfl,rfl,rfl,rfl,Tm _⟩
 ·cases h
def zL:GF:=fun l=>match l with
 | [.one (.ob .u8 a),.one (.ob .u8 b)]=>some ⟨[.one (.rw 0)],[(0,.row 5 .u8 (LL a b))],none⟩
 |_=>none
theorem yW:af 190 (ar zL):=aB Lp Tryz.func190 (by kernel_rfl) rfl (rs:= [4]) Tryz.results190 fun l g h hp=>by
 unfold zL at h
 split at h
 ·cases h;exact ⟨Nat.le_of_ble_eq_true rfl,rfl,rfl,rfl,MG _ _⟩
 ·cases h
def zC (N b j:Nat):Nat:=N*2^(8-j)+b/2^j
theorem MC (N b:Nat) (hb:b<256):zC N b 8=N:=by simp [zC,Nat.div_eq_of_lt hb]
theorem LY (N b:Nat):zC N b 0=N*256+b:=by simp [zC]
theorem Kf (N b j:Nat) (hj:j<8):zC N b j=zC N b (j+1)+zC N b (j+1)+b/2^j%2:=by
 unfold zC
 rw [show 8-j=8-(j+1)+1 from by omega,Nat.pow_succ,Nat.pow_succ,←Nat.div_div_eq_div_mul,←Nat.mul_assoc]
 generalize N*2^(8-(j+1))=A
 generalize b/2^j=B
 omega
theorem F1:(fn 1:F)=1:=by decide +kernel
def oq (l:List UInt8):Nat:=bm l.reverse
theorem Ik {l:List UInt8} {i:Nat} (h:i<l.length):oq (l.take (i+1))=oq (l.take i)*256+(l.getD i 0).toNat:=by
 rw [oq,List.take_add_one,List.getElem?_eq_getElem h,List.getD_eq_getElem?_getD,List.getElem?_eq_getElem h,List.reverse_append]
 show _+256*_=_
 rw [Nat.mul_comm,Nat.add_comm]
 rfl
set_option maxHeartbeats 1000000 in
theorem U5 (x:F) (e:List UInt8):vc gp (ap Tw) Tryz.f189.ntmps (ah Tryz.f189) ⟨aq 0 [.agg [.ob (.x 1) x],.one (.ro .u8 e)],[],2000⟩ (aI gp Tryz.f189.ntmps [.cell 4 143] [.agg [.ob (.x 1) (aR x (oq e))]] []):=by
 refine Or.inr ⟨{i:Nat // i≤e.length},fun i=>⟨[(6,.one (.ob .int (i.val:Int)))],[(2048,.blk 143 [.ob (.x 1) (aR x (oq (e.take i.val)))])]⟩,fun i=>e.length-i.val,⟨0,by omega⟩,?_⟩
 refine ⟨rfl,⟨rfl,?_⟩,fun i hl=>⟨fun h1=> ?_,fun h1=> ?_⟩⟩
 ·show [aR x 0]= [fn 1]
  rw [mT,F1]
 ·have h1:=of_decide_eq_true h1
  have hi:=i.2
  have hb:=(e.getD i.val 0).toNat_lt
  have hN:=Ik (l:=e) (i:=i.val) (by omega)
  refine Or.inr ⟨{j:Nat // j≤8},fun j=>⟨[(7,.one (.ob .int ((j.val:Int)-1)))],[(2048,.blk 143 [.ob (.x 1) (aR x (zC (oq (e.take i.val)) (e.getD i.val 0).toNat j.val))])]⟩,fun j=>j.val,⟨8,by omega⟩,?_⟩
  refine ⟨rfl,⟨rfl,?_⟩,fun j=>⟨fun h2=> ?_,fun h2=> ?_⟩⟩
  ·show [aR x (zC _ _ 8)]=_
   rw [MC _ _ hb]
   rfl
  ·have h2:=of_decide_eq_true h2
   have hj:=j.2
   have hs:=Kf (oq (e.take i.val)) (e.getD i.val 0).toNat (j.val-1) (by omega)
   rw [show j.val-1+1=j.val by omega] at hs
   have hr:=uJ (e.getD i.val 0) (j.val-1)
   have e1:((j.val:Int)-1).toNat=j.val-1:=by omega
   repeat refine sd ?_
   refine ⟨fun h3=> ?_,fun h3=> ?_⟩
   ·have h3:r8 (e.getD i.val 0) ((j.val:Int)-1).toNat&&&1=1:=of_decide_eq_true h3
    rw [e1] at h3
    rw [h3] at hr
    refine sd<|sj ⟨j.val-1,by omega⟩ ⟨congrArg (fun z:Int=> [z]) ?_,⟨rfl,?_⟩,trivial⟩
    ·show ((j.val-1:Nat):Int)-1=(j.val:Int)-1-1
     omega
    ·show [aR x (zC (oq (e.take i.val)) (e.getD i.val 0).toNat (j.val-1))]= [aR x (zC (oq (e.take i.val)) (e.getD i.val 0).toNat j.val)*aR x (zC (oq (e.take i.val)) (e.getD i.val 0).toNat j.val)*x]
     rw [hs,←hr,dM,dM]
     exact congrArg (fun z=> [_*z]) (lK x)
   ·have h3:¬r8 (e.getD i.val 0) ((j.val:Int)-1).toNat&&&1=1:=of_decide_eq_false h3
    rw [e1] at h3
    have h4:(e.getD i.val 0).toNat/2^(j.val-1)%2=0:=by
     have h5:(r8 (e.getD i.val 0) (j.val-1)&&&1).toNat≠1:=fun h=>h3 (UInt8.toNat_inj.1 h)
     rw [hr] at h5
     omega
    refine sd<|sj ⟨j.val-1,by omega⟩ ⟨congrArg (fun z:Int=> [z]) ?_,⟨rfl,?_⟩,trivial⟩
    ·show ((j.val-1:Nat):Int)-1=(j.val:Int)-1-1
     omega
    ·show [aR x (zC (oq (e.take i.val)) (e.getD i.val 0).toNat (j.val-1))]= [aR x (zC (oq (e.take i.val)) (e.getD i.val 0).toNat j.val)*aR x (zC (oq (e.take i.val)) (e.getD i.val 0).toNat j.val)]
     rw [hs,h4,Nat.add_zero,dM]
  have h2:=of_decide_eq_false h2
  have hj:=j.2
  simp only [maxLen] at hl
  refine sd<|sj ⟨i.val+1,by omega⟩<|sr ⟨⟨rfl,?_⟩,trivial⟩
  show [aR x (oq (e.take (i.val+1)))]=_
  rw [hN,show j.val=0 by omega,LY]
  rfl
 have h1:=of_decide_eq_false h1
 have hi:=i.2
 refine ⟨⟨rfl,?_⟩,trivial⟩
 show [aR x (oq e)]=_
 rw [List.take_of_length_le (by omega)]
 rfl
def SL:GF:=fun l=>match l with
 | [.agg [.ob (.x 1) a],.one (.ro .u8 e)]=>some ⟨[.agg [.ob (.x 1) (aR a (oq e))]],[],none⟩
 |_=>none
theorem E7:af 189 (ar SL):=ai dc Lp Tryz.func189 (by kernel_rfl) rfl (rs:= [.cell 4 143]) Tryz.results189 fun l g h hp=>by
 unfold SL at h
 split at h
 ·cases h;exact ⟨Nat.le_of_ble_eq_true rfl,rfl,rfl,rfl,U5 _ _⟩
 ·cases h
def WA:List (Nat×CF):=(157,ar Je)::(190,ar zL)::(189,ar SL)::Tw
theorem PF:∀p∈WA,af p.1 p.2:=ag AN<|ag yW<|ag E7 Qs
theorem VW:az gp (ap WA):=aD dc (br PF)
theorem QV (x:F):vc gp (ap WA) Tryz.f134.ntmps (ah Tryz.f134) ⟨aq 0 [.agg [.ob (.x 1) x]],[],2000⟩ (aI gp Tryz.f134.ntmps [.cell 2 143] [.agg [.ob (.x 1) (aY x)]] []):=by
 refine ⟨⟨rfl,?_⟩,trivial⟩
 show [aY x]= [aR x (oq (LL (UInt8.ofNat 127) (UInt8.ofNat 235)))]
 rw [show oq (LL (UInt8.ofNat 127) (UInt8.ofNat 235))=gj by decide +kernel]
 rfl
def KU:GF:=fun l=>match l with
 | [.agg [.ob (.x 1) a]]=>some ⟨[.agg [.ob (.x 1) (aY a)]],[],none⟩
 |_=>none
theorem BF:af 134 (ar KU):=ai dc VW Tryz.func134 (by kernel_rfl) rfl (rs:= [.cell 2 143]) Tryz.results134 fun l g h hp=>by
 unfold KU at h
 split at h
 ·cases h;exact ⟨Nat.le_of_ble_eq_true rfl,rfl,rfl,rfl,QV _⟩
 ·cases h
def V_:List (Nat×CF):=(134,ar KU)::WA
theorem QB:∀p∈V_,af p.1 p.2:=ag BF PF
theorem Vk:az gp (ap V_):=aD dc (br QB)
set_option maxRecDepth 10000
def ek (b:List UInt8) (n:Nat):List UInt8:=b.take n++List.replicate (n-b.length) 0
theorem ij (b:List UInt8) (n:Nat):(ek b n).length=n:=by simp [ek];omega
def aM (b:List UInt8):List UInt8:=((ek b 32).set 0 ((ek b 32).getD 0 0&&&248)).set 31 ((((ek b 32).set 0 ((ek b 32).getD 0 0&&&248)).getD 31 0&&&127)|||64)
theorem kZ (b:List UInt8):(aM b).length=32:=by simp [aM,ij]
theorem O2 (b:List UInt8):vc gp (ap V_) Tryz.f86.ntmps (ah Tryz.f86) ⟨aq 0 [.one (.ro .u8 b)],[],2000⟩ (eH [2] [.one (.rw 0)] [(0,.row 5 .u8 (aM b))]):=by
 have hl:(b.take (Int.toNat 32)++List.replicate (Int.toNat 32-b.length) 0).length=32:=ij b 32
 refine sd ?_
 repeat refine sd ?_
 refine ⟨by rw [List.length_set,hl];decide,by rw [List.length_set,hl];decide,by rw [List.length_set,hl];decide,by rw [List.length_set,hl];decide,rfl,trivial⟩
def z_:GF:=fun l=>match l with
 | [.one (.ro .u8 b)]=>some ⟨[.one (.rw 0)],[(0,.row 5 .u8 (aM b))],none⟩
 |_=>none
theorem x_:af 86 (ar z_):=aB Vk Tryz.func86 (by kernel_rfl) rfl (rs:= [2]) Tryz.results86 fun l g h hp=>by
 unfold z_ at h
 split at h
 ·cases h;exact ⟨Nat.le_of_ble_eq_true rfl,rfl,rfl,rfl,O2 _⟩
 ·cases h
def Wr:List (Nat×CF):=(86,ar z_)::V_
theorem PH:∀p∈Wr,af p.1 p.2:=ag x_ QB
theorem UU:az gp (ap Wr):=aD dc (br PH)
structure Ni where
 x2:F
 z2:F
 x3:F
 z3:F
def Ni.swp (s:Ni):Ni:=⟨s.x3,s.z3,s.x2,s.z2⟩
def Ni.step (u:F) (s:Ni):Ni:=
 let a:=s.x2+s.z2
 let aa:=a*a
 let b:=s.x2-s.z2
 let bb:=b*b
 let e:=aa-bb
 let da:=(s.x3-s.z3)*a
 let cb:=(s.x3+s.z3)*b
 ⟨aa*bb,e*(aa+fn 121665*e),(da+cb)*(da+cb),u*((da-cb)*(da-cb))⟩
def eJ (k:List UInt8) (u:F):Nat→Ni×Nat
 |0=>(⟨1,0,u,1⟩,0)
 |m+1=>(((if (eJ k u m).2≠cK k (254-m) then (eJ k u m).1.swp else (eJ k u m).1).step u),cK k (254-m))
def Ge (s:Ni×Nat):Ni:=if s.2=1 then s.1.swp else s.1
def Fm (k u:List UInt8):F:=(Ge (eJ (aM k) (gI u) 255)).x2*aY (Ge (eJ (aM k) (gI u) 255)).z2
set_option maxHeartbeats 4000000 in
theorem Kb (s p:List UInt8):vc gp (ap Wr) Tryz.f80.ntmps (ah Tryz.f80) ⟨aq 0 [.one (.ro .u8 s),.one (.ro .u8 p)],[],2000⟩ (eH [4] [.one (.rw 0)] [(0,.row 5 .u8 (bq 32 (Fm s p).val))]):=by
 have hx:Fm s p=(Ge (eJ (aM s) (gI p) 255)).x2*aY (Ge (eJ (aM s) (gI p) 255)).z2:=rfl
 have hk:=kZ s
 rw [hx]
 clear hx
 refine Or.inr ⟨{m:Nat // m≤255},fun m=>⟨[(12,.one (.ob .int (254-(m.val:Int)))),(11,.one (.ob .int ((eJ (aM s) (gI p) m.val).2:Int)))],[(2192,.blk 143 [.ob (.x 1) (eJ (aM s) (gI p) m.val).1.x2]),(2208,.blk 143 [.ob (.x 1) (eJ (aM s) (gI p) m.val).1.z2]),(2224,.blk 143 [.ob (.x 1) (eJ (aM s) (gI p) m.val).1.x3]),(2240,.blk 143 [.ob (.x 1) (eJ (aM s) (gI p) m.val).1.z3])]⟩,fun m=>255-m.val,⟨0,by omega⟩,?_⟩
 refine ⟨rfl,rfl,⟨rfl,?_⟩,⟨rfl,rfl⟩,⟨rfl,rfl⟩,⟨rfl,?_⟩,fun m=>⟨fun h1=> ?_,fun h1=> ?_⟩⟩
 ·exact congrArg (fun z=> [z]) F1.symm
 ·exact congrArg (fun z=> [z]) F1.symm
 ·have h1:=of_decide_eq_true h1
  have hm:=m.2
  have hS:eJ (aM s) (gI p) (m.val+1)=(((if (eJ (aM s) (gI p) m.val).2≠cK (aM s) (254-m.val) then (eJ (aM s) (gI p) m.val).1.swp else (eJ (aM s) (gI p) m.val).1).step (gI p)),cK (aM s) (254-m.val)):=rfl
  generalize aM s=k at hk hS ⊢
  generalize eJ k (gI p) m.val=S at hS ⊢
  have e0:(254-(m.val:Int)).toNat=254-m.val:=by omega
  have e1:((254-(m.val:Int))/8).toNat=(254-m.val)/8:=by omega
  have e2:((254-(m.val:Int))%8).toNat=(254-m.val)%8:=by omega
  have hb:=uJ (k.getD ((254-m.val)/8) 0) ((254-m.val)%8)
  have e3:(((r8 (k.getD ((254-(m.val:Int))/8).toNat (Kd.df .u8)) ((254-(m.val:Int))%8).toNat&&&UInt8.ofNat 1:UInt8).toNat:Nat):Int)=((cK k (254-m.val):Nat):Int):=by
   rw [e1,e2]
   exact congrArg Int.ofNat hb
  repeat refine sd ?_
  rw [e3]
  generalize cK k (254-m.val)=b at hS ⊢
  have e4:(254:Int)-((m.val+1:Nat):Int)=254-(m.val:Int)-1:=by omega
  refine ⟨fun h2=> ?_,fun h2=> ?_⟩
  ·have h2:S.2≠b:=fun h=>of_decide_eq_true h2 (congrArg Int.ofNat h)
   rw [if_pos h2] at hS
   refine sd<|sj ⟨m.val+1,by omega⟩ ⟨congrArg (fun z:Int=> [z]) e4,?_,⟨rfl,?_⟩,⟨rfl,?_⟩,⟨rfl,?_⟩,⟨rfl,?_⟩,trivial⟩
   ·show [((eJ k (gI p) (m.val+1)).2:Int)]= [(b:Int)]
    rw [hS]
   ·show [(eJ k (gI p) (m.val+1)).1.x2]=_
    rw [hS];rfl
   ·show [(eJ k (gI p) (m.val+1)).1.z2]=_
    rw [hS];rfl
   ·show [(eJ k (gI p) (m.val+1)).1.x3]=_
    rw [hS];rfl
   ·show [(eJ k (gI p) (m.val+1)).1.z3]=_
    rw [hS];rfl
  ·have h2:¬S.2≠b:=fun h=>of_decide_eq_false h2 fun h3=>h (Int.ofNat_inj.1 h3)
   rw [if_neg h2] at hS
   refine sd<|sj ⟨m.val+1,by omega⟩ ⟨congrArg (fun z:Int=> [z]) e4,?_,⟨rfl,?_⟩,⟨rfl,?_⟩,⟨rfl,?_⟩,⟨rfl,?_⟩,trivial⟩
   ·show [((eJ k (gI p) (m.val+1)).2:Int)]= [(b:Int)]
    rw [hS]
   ·show [(eJ k (gI p) (m.val+1)).1.x2]=_
    rw [hS];rfl
   ·show [(eJ k (gI p) (m.val+1)).1.z2]=_
    rw [hS];rfl
   ·show [(eJ k (gI p) (m.val+1)).1.x3]=_
    rw [hS];rfl
   ·show [(eJ k (gI p) (m.val+1)).1.z3]=_
    rw [hS];rfl
 have h1:=of_decide_eq_false h1
 have hm:=m.2
 have hm2:m.val=255:=by omega
 rw [hm2]
 generalize eJ (aM s) (gI p) 255=S
 refine ⟨fun h2=> ?_,fun h2=> ?_⟩
 ·have h2:S.2=1:=by have:=of_decide_eq_true h2;omega
  refine ⟨?_,trivial⟩
  rw [Ge,if_pos h2]
  rfl
 ·have h2:¬S.2=1:=by have:=of_decide_eq_false h2;omega
  refine ⟨?_,trivial⟩
  rw [Ge,if_neg h2]
  rfl
def Km:GF:=fun l=>match l with
 | [.one (.ro .u8 s),.one (.ro .u8 p)]=>some ⟨[.one (.rw 0)],[(0,.row 5 .u8 (bq 32 (Fm s p).val))],none⟩
 |_=>none
theorem Cs:af 80 (ar Km):=aB UU Tryz.func80 (by kernel_rfl) rfl (rs:= [4]) Tryz.results80 fun l g h hp=>by
 unfold Km at h
 split at h
 ·cases h;exact ⟨Nat.le_of_ble_eq_true rfl,rfl,rfl,rfl,Kb _ _⟩
 ·cases h
def Wf:List (Nat×CF):=(80,ar Km)::Wr
theorem Qc:∀p∈Wf,af p.1 p.2:=ag Cs PH
theorem UM:az gp (ap Wf):=aD dc (br Qc)
theorem QM (s:List UInt8):vc gp (ap Wf) Tryz.f52.ntmps (ah Tryz.f52) ⟨aq 0 [.one (.ro .u8 s)],[],2000⟩ (eH [2] [.one (.rw 0)] [(0,.row 5 .u8 (bq 32 (Fm s [9]).val))]):=⟨rfl,trivial⟩
def C8:GF:=fun l=>match l with
 | [.one (.ro .u8 s)]=>some ⟨[.one (.rw 0)],[(0,.row 5 .u8 (bq 32 (Fm s [9]).val))],none⟩
 |_=>none
theorem oG:af 52 (ar C8):=aB UM Tryz.func52 (by kernel_rfl) rfl (rs:= [2]) Tryz.results52 fun l g h hp=>by
 unfold C8 at h
 split at h
 ·cases h;exact ⟨Nat.le_of_ble_eq_true rfl,rfl,rfl,rfl,QM _⟩
 ·cases h
theorem pQ (l:List UInt8):(bZ l).length=l.length+1+(240-(l.length+1)%128)%128+8+8:=by
 simp only [bZ,List.length_append,List.length_cons,List.length_replicate,ou,List.length_reverse,au];omega
theorem Jk (x:UInt64):dC x 8 8=ou x:=by rw [vr,ou]
theorem OI (b:List UInt8):m5 b ((240-(b.length+1)%128)%128)++List.replicate 8 (0:UInt8)++dC (UInt64.ofNat (b.length:Int).toNat*UInt64.ofNat 8) 8 8=bZ b:=by
 unfold bZ m5
 rw [Jk]
 refine congrArg (fun z=>_++ou z) (UInt64.toNat_inj.1 ?_)
 rw [UInt64.toNat_mul,UInt64.toNat_ofNat',UInt64.toNat_ofNat',UInt64.toNat_ofNat',Int.toNat_natCast]
 omega
theorem o_ (b:List UInt64) {j:Nat}:∀ {t:Nat},j<t→cD (wL b t) j=if j<16 then cD b j else Hu (wL b j) j
 |0,h=>by omega
 |t+1,h=>by
  by_cases e:j<t
  ·rw [←o_ b e]
   unfold cD
   rw [wL,List.getD_eq_getElem?_getD,List.getElem?_append_left (by rw [mR];omega)]
   rfl
  ·obtain rfl:j=t:=by omega
   unfold cD
   rw [wL,List.getD_eq_getElem?_getD,List.getElem?_append_right (by rw [mR];omega),mR,Nat.sub_self]
   rfl
theorem PR (b:List UInt64) {j:Nat} (h:j<16):cD (wL b 80) j=cD b j:=by rw [o_ b (by omega),if_pos h]
theorem V3 (b:List UInt64) {j t:Nat} (h:j<t) (ht:t≤80):cD (wL b t) j=cD (wL b 80) j:=by rw [o_ b h,o_ b (Nat.lt_of_lt_of_le h ht)]
theorem Py (b:List UInt64) {j:Nat} (h:16≤j) (h2:j<80):cD (wL b 80) j=up (up (up (cD (wL b 80) (j-16)) (Yp (cD (wL b 80) (j-15)))) (cD (wL b 80) (j-7))) (Yd (cD (wL b 80) (j-2))):=by
 rw [o_ b h2,if_neg (by omega)]
 unfold Hu
 have k:=fun m (h1:0<m)=>V3 b (j:=j-m) (t:=j) (by omega) (by omega)
 rw [k 16 (by omega),k 15 (by omega),k 7 (by omega),k 2 (by omega)]
abbrev rF (b:List UInt8) (i:Nat):List UInt64:=wL (ie ((bZ b).drop (128*i))) 80
abbrev s_ (b:List UInt8) (i j:Nat):List UInt64:=dj 0 80 (cD (rF b i)) (List.replicate 80 0) j
abbrev fD (b:List UInt8) (k:Nat):List UInt8:=((List.range k).map fun i=>ou (cD (ww (bZ b) ((bZ b).length/128)) i)).flatten
theorem ky (b:List UInt8) (k:Nat):(fD b k).length=8*k:=by
 induction k with
 |zero=>rfl
 |succ k ih=>rw [fD,fY,List.length_append,ih,Lm];omega
set_option maxRecDepth 4000 in
set_option maxHeartbeats 4000000 in
theorem H_ (b:List UInt8) (hb:b.length≤8388608):vc cL X7 Tryz.f84.ntmps (ah Tryz.f84) ⟨aq 0 [.one (.ro .u8 b)],[],2000⟩ (eH [2] [.one (.rw 0)] [(0,.row 5 .u8 (bh b))]):=by
 refine sd<|sd<|Or.inr ⟨{i:Nat // i≤(240-(b.length+1)%128)%128},fun i=>⟨[(5,.one (.rw 0))],[(0,.row 5 .u8 (m5 b i.val))]⟩,fun i=>128-i.val,⟨0,by omega⟩,?_⟩
 refine ⟨rfl,fun i=>sd fun hl=>⟨fun h1=> ?_,fun h1=> ?_⟩⟩
 ·have h1:=of_decide_eq_true h1
  have hi:=i.2
  have hn:=ml b i.val
  rw [hn] at h1
  have h2:i.val+1≤(240-(b.length+1)%128)%128:=by omega
  exact ⟨by simp [hn];omega,sj ⟨i.val+1,h2⟩ ⟨sv _ _,trivial⟩⟩
 have h1:=of_decide_eq_false h1
 have hi:=i.2
 have hn:=ml b i.val
 have hp:=pQ b
 have hi2:i.val=(240-(b.length+1)%128)%128:=by rw [hn] at h1;omega
 rw [hi2] at hn ⊢
 have e:=OI b
 refine ⟨by simp [hn];omega,?_⟩
 refine sd<|sd ⟨?_,fun hl=> ?_⟩
 ·show (m5 b ((240-(b.length+1)%128)%128)++List.replicate 8 (0:UInt8)++dC (UInt64.ofNat (b.length:Int).toNat*UInt64.ofNat 8) 8 8).length≤_
  rw [e];omega
 refine Or.inr ⟨{i:Nat // 128*i≤(bZ b).length},fun i=>⟨[(6,.one (.ob .int ((128*i.val:Nat):Int)))],[(2080,.blk 188 [.vec .u64 8 (ww (bZ b) i.val)]),(3384,.row 5 .u8 (bZ b))]⟩,fun i=>8388864-i.val,⟨0,by omega⟩,?_⟩
 refine ⟨rfl,rfl,rfl,e.symm,fun i hl2=>⟨fun h1=> ?_,fun h1=> ?_⟩⟩
 ·have h1:=of_decide_eq_true h1
  have hi:=i.2
  obtain ⟨i,hi0⟩:=i
  dsimp only at hi h1 ⊢
  have hl64:128*i+128≤(bZ b).length:=by rw [hp] at h1 ⊢;omega
  refine Or.inr ⟨{j:Nat // j≤16},fun j=>⟨[(8,.one (.ob .int (j.val:Int)))],[(4496,.blk 186 [.vec .u64 80 (s_ b i j.val)])]⟩,fun j=>16-j.val,⟨0,by omega⟩,?_⟩
  refine ⟨rfl,rfl,eE (by simp),fun j=>⟨fun h1=> ?_,fun h1=> ?_⟩⟩
  ·have h1:=of_decide_eq_true h1
   have hj:=j.2
   repeat refine sd ?_
   refine sj ⟨j.val+1,by omega⟩<|sr<|sr ⟨?_,trivial⟩
   refine (congrArg (fun z=>(s_ b i j.val).set j.val z) ?_).trans bN |>.symm
   have e1:((128*i:Nat):Int)+8*(j.val:Int)+8=((128*i+8*j.val+8:Nat):Int):=by omega
   have e2:((128*i:Nat):Int)+8*(j.val:Int)=((128*i+8*j.val:Nat):Int):=by omega
   show gb (List.take (Int.toNat (((128*i:Nat):Int)+8*(j.val:Int)+8)-Int.toNat (((128*i:Nat):Int)+8*(j.val:Int))) (List.drop (Int.toNat (((128*i:Nat):Int)+8*(j.val:Int))) (bZ b))) 8=_
   rw [e1,e2,Int.toNat_natCast,Int.toNat_natCast,show 128*i+8*j.val+8-(128*i+8*j.val)=8 by omega,YO (by rw [List.length_take,List.length_drop];omega),PR _ (by omega)]
   unfold cD ie
   rw [cA (by omega),List.drop_drop]
  have h1:=of_decide_eq_false h1
  have hj:=j.2
  rw [show j.val=16 by omega]
  refine Or.inr ⟨{j:Nat // 16≤j∧j≤80},fun j=>⟨[(9,.one (.ob .int (j.val:Int)))],[(4496,.blk 186 [.vec .u64 80 (s_ b i j.val)])]⟩,fun j=>80-j.val,⟨16,by omega,by omega⟩,?_⟩
  refine ⟨rfl,rfl,rfl,fun j=>⟨fun h1=> ?_,fun h1=> ?_⟩⟩
  ·have h1:=of_decide_eq_true h1
   have hj:=j.2
   have k:=fun m (h0:0<m) (hm:m≤16)=>show (s_ b i j.val).getD (Int.toNat ((j.val:Int)-(m:Nat))) 0=cD (rF b i) (j.val-m) by rw [show Int.toNat ((j.val:Int)-(m:Nat))=j.val-m by omega,io (by omega),if_pos (by omega)]
   repeat refine sd ?_
   refine sj ⟨j.val+1,by omega⟩<|sr<|sr ⟨?_,trivial⟩
   refine (congrArg (fun z=>(s_ b i j.val).set j.val z) ?_).trans bN |>.symm
   rw [Py _ hj.1 (by omega),←k 16 (by omega) (by omega),←k 15 (by omega) (by omega),←k 7 (by omega) (by omega),←k 2 (by omega) (by omega)]
   rfl
  have h1:=of_decide_eq_false h1
  have hj:=j.2
  rw [show j.val=80 by omega,show s_ b i 80=rF b i from (b_ (by omega)).trans (le (mR _ _))]
  refine Or.inr ⟨{t:Nat // t≤80},fun t=>⟨[(13,.one (.ob .int (t.val:Int)))],[(6624,.blk 188 [.vec .u64 8 (rL (ww (bZ b) i) (rF b i) t.val)])]⟩,fun t=>80-t.val,⟨0,by omega⟩,?_⟩
  refine ⟨rfl,rfl,rfl,fun t=>⟨fun h1=> ?_,fun h1=> ?_⟩⟩
  ·have h1:=of_decide_eq_true h1
   have ht:=t.2
   repeat refine sd ?_
   refine sj ⟨t.val+1,by omega⟩<|sr<|sr ⟨?_,trivial⟩
   rfl
  have h1:=of_decide_eq_false h1
  have ht:=t.2
  rw [show t.val=80 by omega]
  refine Or.inr ⟨{t:Nat // t≤8},fun t=>⟨[(18,.one (.ob .int (t.val:Int)))],[(2080,.blk 188 [.vec .u64 8 (dj 0 8 (fun j=>up (cD (ww (bZ b) i) j) (cD (rL (ww (bZ b) i) (rF b i) 80) j)) (ww (bZ b) i) t.val)])]⟩,fun t=>8-t.val,⟨0,by omega⟩,?_⟩
  refine ⟨rfl,rfl,eE (Dn _ _),fun t=>⟨fun h1=> ?_,fun h1=> ?_⟩⟩
  ·have h1:=of_decide_eq_true h1
   have ht:=t.2
   repeat refine sd ?_
   refine sj ⟨t.val+1,by omega⟩<|sr<|sr ⟨?_,trivial⟩
   refine (congrArg (fun z=>(dj 0 8 (fun j=>up (cD (ww (bZ b) i) j) (cD (rL (ww (bZ b) i) (rF b i) 80) j)) (ww (bZ b) i) t.val).set t.val z) ?_).trans bN |>.symm
   show up ((dj 0 8 _ (ww (bZ b) i) t.val).getD t.val 0) _=_
   rw [io (by omega),if_neg (by omega)]
   rfl
  have h1:=of_decide_eq_false h1
  have ht:=t.2
  rw [show t.val=8 by omega,b_ (by omega)]
  repeat refine sd ?_
  refine ⟨⟨i+1,by omega⟩,(by show 8388864-(i+1)<8388864-i;omega),?_,rfl,rfl,rfl,trivial⟩
  show [((128*(i+1):Nat):Int)]= [((128*i:Nat):Int)+128]
  exact congrArg (fun z=> [z]) (by omega)
 have h1:=of_decide_eq_false h1
 have hi:=i.2
 rw [show i.val=(bZ b).length/128 by omega]
 refine Or.inr ⟨{t:Nat // t≤8},fun t=>⟨[(20,.one (.ob .int (t.val:Int))),(19,.one (.rw 0))],[(0,.row 5 .u8 (fD b t.val))]⟩,fun t=>8-t.val,⟨0,by omega⟩,?_⟩
 refine ⟨rfl,rfl,fun t=>⟨fun h1=> ?_,fun h1=> ?_⟩⟩
 ·have h1:=of_decide_eq_true h1
  have ht:=t.2
  repeat refine sd ?_
  have e4:fD b (t.val+1)=fD b t.val++dC ((ww (bZ b) ((bZ b).length/128)).getD t.val 0) 8 8:=by
   rw [Jk];exact fY _ _
  refine ⟨?_,sd<|sj ⟨t.val+1,by omega⟩<|sr ⟨e4,trivial⟩⟩
  have:=ky b (t.val+1)
  show (fD b t.val++dC ((ww (bZ b) ((bZ b).length/128)).getD t.val 0) 8 8).length≤_
  rw [←e4];omega
 have h1:=of_decide_eq_false h1
 have ht:=t.2
 refine ⟨?_,trivial⟩
 show bh b=fD b t.val
 rw [show t.val=8 by omega]
 rfl
theorem p8 (l:List UInt8):(bh l).length=64:=ky l 8
def uC:GF:=fun l=>match l with
 | [.one (.ro .u8 b)]=>some ⟨[.one (.rw 0)],[(0,.row 5 .u8 (bh b))],some (b.length≤8388608)⟩
 |_=>none
theorem vw:af 84 (ar uC):=aB T7 Tryz.func84 (by kernel_rfl) rfl (rs:= [2]) Tryz.results84 fun l g h hp=>by
 unfold uC at h
 split at h
 ·cases h;exact ⟨Nat.le_of_ble_eq_true rfl,rfl,rfl,rfl,H_ _ hp⟩
 ·cases h
end Go.Proofs.YtknlbpjcjdenbaaGreat
namespace Go.Proofs.YtknlbpjcjdenbaaGreat
open Go.RowKit
end Go.Proofs.YtknlbpjcjdenbaaGreat
namespace Go.Proofs.YtknlbpjcjdenbaaGreat
def dB (n m:Nat):Nat:=n/256^m%256
theorem kl (n m:Nat):dB n m<256:=Nat.mod_lt _ (by omega)
def bR (n x i:Nat):Nat:=dB x (n-1-i)
theorem yq (n x i:Nat):bR n x i<256:=kl _ _
theorem fF (m:Nat):0<256^m:=Nat.pow_pos (by omega)
theorem bL (n m:Nat):n/256^(m+1)=n/256^m/256:=by rw [Nat.pow_succ,Nat.div_div_eq_div_mul]
def Fo (r b m:Nat):Nat:=((r%256^m)*2+b)/256^m
theorem IC (r b:Nat):Fo r b 0=b:=by simp [Fo,Nat.mod_one]
theorem BZ (r b m:Nat) (h:b<2):Fo r b m<2:=by
 have:=Nat.mod_lt r (fF m)
 have hp:=fF m
 unfold Fo
 rw [Nat.div_lt_iff_lt_mul hp]
 omega
theorem JN (r b m:Nat):(2*r+b)/256^m=2*(r/256^m)+Fo r b m:=by
 have hp:=fF m
 have e:=Nat.div_add_mod r (256^m)
 have:2*r+b=(r%256^m*2+b)+256^m*(2*(r/256^m)):=by
  rw [Nat.mul_left_comm];omega
 rw [this,Nat.add_mul_div_left _ _ hp,Nat.add_comm];rfl
theorem NG (r b m:Nat) (h:b<2):dB (2*r+b) m=2*dB r m%256+Fo r b m∧Fo r b (m+1)=dB r m/128:=by
 have hc:=BZ r b m h
 have hc1:=BZ r b (m+1) h
 have e1:=JN r b m
 have e2:=JN r b (m+1)
 have e3:=bL r m
 have e4:=bL (2*r+b) m
 unfold dB
 generalize r/256^(m+1)=q1 at*
 generalize (2*r+b)/256^(m+1)=q2 at*
 generalize (2*r+b)/256^m=q3 at*
 generalize r/256^m=q4 at*
 generalize Fo r b m=c at*
 generalize Fo r b (m+1)=c1 at*
 constructor<;>omega
def lS (a b m:Nat):Nat:=if a%256^m<b%256^m then 1 else 0
theorem KP (a b:Nat):lS a b 0=0:=by simp [lS,Nat.mod_one]
theorem Lc (a b m:Nat):lS a b m≤1:=by unfold lS;split<;>omega
theorem nI (n m:Nat):n%256^(m+1)=dB n m*256^m+n%256^m:=by rw [Nat.pow_succ];exact ic n (256^m) 256
theorem sC {p d e x y:Nat} (hx:x<p) (hy:y<p):d*p+x<e*p+y↔d<e∨(d=e∧x<y):=by
 constructor
 ·intro h
  rcases Nat.lt_trichotomy d e with h1|h1|h1
  ·exact .inl h1
  ·subst h1;exact .inr ⟨rfl,by omega⟩
  ·exfalso
   have:(e+1)*p≤d*p:=Nat.mul_le_mul_right _ h1
   rw [Nat.succ_mul] at this
   omega
 ·rintro (h|⟨rfl,h⟩)
  ·have:(d+1)*p≤e*p:=Nat.mul_le_mul_right _ h
   rw [Nat.succ_mul] at this
   omega
  ·omega
theorem Ix (a b m:Nat):lS a b (m+1)=if dB a m<dB b m+lS a b m then 1 else 0:=by
 have h:=sC (d:=dB a m) (e:=dB b m) (Nat.mod_lt a (fF m)) (Nat.mod_lt b (fF m))
 unfold lS
 rw [nI,nI]
 by_cases h1:a%256^m<b%256^m
 ·rw [if_pos h1]
  by_cases h2:dB a m<dB b m+1
  ·rw [if_pos h2,if_pos (h.2 (by omega))]
  ·rw [if_neg h2,if_neg (fun h3=>by have:=h.1 h3;omega)]
 ·rw [if_neg h1]
  by_cases h2:dB a m<dB b m+0
  ·rw [if_pos h2,if_pos (h.2 (by omega))]
  ·rw [if_neg h2,if_neg (fun h3=>by have:=h.1 h3;omega)]
theorem zW {a b:Nat} (h:b≤a) (m:Nat):(a-b)/256^m=a/256^m-b/256^m-lS a b m∧b/256^m+lS a b m≤a/256^m:=by
 have hp:=fF m
 have ea:=Nat.div_add_mod a (256^m)
 have eb:=Nat.div_add_mod b (256^m)
 have ha:=Nat.mod_lt a hp
 have hb:=Nat.mod_lt b hp
 have hq:b/256^m≤a/256^m:=Nat.div_le_div_right h
 unfold lS
 generalize a/256^m=qa at*
 generalize b/256^m=qb at*
 generalize a%256^m=ra at*
 generalize b%256^m=rb at*
 generalize 256^m=p at*
 obtain ⟨d,rfl⟩:∃d,qa=qb+d:=⟨qa-qb,by omega⟩
 rw [Nat.mul_add] at ea
 by_cases h1:ra<rb
 ·rw [if_pos h1]
  have hd:0<d:=by
   rcases Nat.eq_zero_or_pos d with h0|h0
   ·subst h0;simp at ea;omega
   ·exact h0
  obtain ⟨e,rfl⟩:∃e,d=e+1:=⟨d-1,by omega⟩
  rw [Nat.mul_add,Nat.mul_one] at ea
  refine ⟨?_,by omega⟩
  have:a-b=(p+ra-rb)+p*e:=by omega
  rw [this,Nat.add_mul_div_left _ _ hp,Nat.div_eq_of_lt (by omega)]
  omega
 ·rw [if_neg h1]
  refine ⟨?_,by omega⟩
  have:a-b=(ra-rb)+p*d:=by omega
  rw [this,Nat.add_mul_div_left _ _ hp,Nat.div_eq_of_lt (by omega)]
  omega
theorem IH {a b:Nat} (h:b≤a) (m:Nat):(dB (a-b) m:Int)=if ((dB a m:Nat):Int)-(dB b m:Nat)-(lS a b m:Nat)<0 then ((dB a m:Nat):Int)-(dB b m:Nat)-(lS a b m:Nat)+256 else ((dB a m:Nat):Int)-(dB b m:Nat)-(lS a b m:Nat):=by
 obtain ⟨e,hle⟩:=zW h m
 unfold dB
 rw [e]
 generalize a/256^m=qa at*
 generalize b/256^m=qb at*
 have:=Lc a b m
 generalize lS a b m=w at*
 split<;>omega
theorem LW (a b m:Nat):(lS a b (m+1):Int)=if ((dB a m:Nat):Int)-(dB b m:Nat)-(lS a b m:Nat)<0 then 1 else 0:=by
 rw [Ix]
 by_cases h:dB a m<dB b m+lS a b m
 ·rw [if_pos h,if_pos (by omega)];rfl
 ·rw [if_neg h,if_neg (by omega)];rfl
def rE (l:List UInt8):Nat:=bm l.reverse
theorem Hf (l:List UInt8) (k:Nat) (h:k<l.length):rE (l.take (k+1))=256*rE (l.take k)+l[k].toNat:=by
 unfold rE
 rw [List.take_succ_eq_append_getElem h,List.reverse_append]
 show bm (l[k]::(l.take k).reverse)=_
 show l[k].toNat+256*bm _=_
 omega
theorem II (l:List UInt8):rE (l.take 0)=0:=rfl
def ee (v c k:Nat):Nat:=v*2^(8-k)+c/2^k
theorem Nu (v c:Nat) (h:c<256):ee v c 8=v:=by unfold ee;omega
theorem M4 (v c:Nat):ee v c 0=256*v+c:=by unfold ee;omega
theorem An (v c k:Nat) (h:k<8):ee v c k=2*ee v c (k+1)+c/2^k%2:=by
 have:k=0∨k=1∨k=2∨k=3∨k=4∨k=5∨k=6∨k=7:=by omega
 unfold ee
 rcases this with rfl|rfl|rfl|rfl|rfl|rfl|rfl|rfl<;>simp<;>omega
theorem FQ (v c k:Nat) (h:k<8):ee v c k%Lq=once (2*(ee v c (k+1)%Lq)+c/2^k%2):=by
 have hL:0<Lq:=by unfold Lq;omega
 have h1:=Nat.mod_lt (ee v c (k+1)) hL
 rw [xa (by omega),An v c k h]
 generalize ee v c (k+1)=q at*
 generalize c/2^k%2=b at*
 have e:=Nat.div_add_mod q Lq
 have:2*q+b=(2*(q%Lq)+b)+Lq*(2*(q/Lq)):=by rw [Nat.mul_left_comm];omega
 rw [this,Nat.add_mul_mod_self_left]
theorem FU {x y m:Nat} (hq:x/256^(m+1)=y/256^(m+1)) (hne:dB x m≠dB y m):decide (y≤x)=decide (dB y m<dB x m):=by
 rw [bL,bL] at hq
 have ex:=Nat.div_add_mod x (256^m)
 have ey:=Nat.div_add_mod y (256^m)
 have hx:=Nat.mod_lt x (fF m)
 have hy:=Nat.mod_lt y (fF m)
 unfold dB at*
 rw [decide_eq_decide]
 generalize x/256^m=qx at*
 generalize y/256^m=qy at*
 generalize x%256^m=rx at*
 generalize y%256^m=ry at*
 have hl:=sC (d:=qx) (e:=qy) hx hy
 rw [Nat.mul_comm qx,Nat.mul_comm qy] at hl
 generalize 256^m*qx=X at*
 generalize 256^m*qy=Y at*
 omega
theorem Kv {x y m:Nat} (hq:x/256^(m+1)=y/256^(m+1)) (he:dB x m=dB y m):x/256^m=y/256^m:=by
 rw [bL,bL] at hq
 unfold dB at he
 omega
end Go.Proofs.YtknlbpjcjdenbaaGreat
namespace Go.Proofs.YtknlbpjcjdenbaaGreat
open Go.RowKit
theorem N2 (n x:Nat):rE ((bq n x).reverse)=x%256^n:=by
 unfold rE;rw [List.reverse_reverse,lW,Hg]
def qX (a b m:Nat):Nat:=(a%256^m+b%256^m)/256^m
theorem IG (a b:Nat):qX a b 0=0:=by simp [qX,Nat.mod_one]
theorem pi (a b m:Nat):qX a b m≤1:=by
 have h1:=Nat.mod_lt a (fF m);have h2:=Nat.mod_lt b (fF m)
 unfold qX
 have:(a%256^m+b%256^m)/256^m<2:=by rw [Nat.div_lt_iff_lt_mul (fF m)];omega
 omega
theorem k_ (a b m:Nat):(a+b)/256^m=a/256^m+b/256^m+qX a b m:=by
 have ea:=Nat.div_add_mod a (256^m)
 have eb:=Nat.div_add_mod b (256^m)
 have:a+b=(a%256^m+b%256^m)+256^m*(a/256^m+b/256^m):=by rw [Nat.mul_add];omega
 rw [this,Nat.add_mul_div_left _ _ (fF m),Nat.add_comm];rfl
theorem Hw (a b m:Nat):dB (a+b) m=(dB a m+dB b m+qX a b m)%256∧qX a b (m+1)=(dB a m+dB b m+qX a b m)/256:=by
 have e1:=k_ a b m
 have e2:=k_ a b (m+1)
 have e3:=bL a m
 have e4:=bL b m
 have e5:=bL (a+b) m
 have h1:=pi a b m
 have h2:=pi a b (m+1)
 unfold dB
 generalize qX a b m=c at*
 generalize qX a b (m+1)=c' at*
 generalize (a+b)/256^(m+1)=s' at*
 generalize (a+b)/256^m=s at*
 generalize a/256^(m+1)=a' at*
 generalize b/256^(m+1)=b' at*
 generalize a/256^m=x at*
 generalize b/256^m=y at*
 constructor<;>omega
theorem Mq {a b:Nat} (ha:a<256^32) (hb:b<256^32):dB (a+b) 32=qX a b 32:=by
 have e:=k_ a b 32
 have:=pi a b 32
 rw [Nat.div_eq_of_lt ha,Nat.div_eq_of_lt hb] at e
 unfold dB
 omega
def hv (f:Nat→Nat):Nat→Nat
 |0=>0
 |n+1=>256*hv f n+f n
theorem yP {f g:Nat→Nat}:∀n,(∀i,i<n→f i=g i)→hv f n=hv g n
 |0,_=>rfl
 |n+1,h=>by simp only [hv];rw [yP n (fun i hi=>h i (by omega)),h n (by omega)]
def je (c:Nat→Nat) (m v i:Nat):Nat:=if i=m then v else c i
theorem If (c:Nat→Nat) (m a:Nat):∀n,hv (je c m (c m+a)) (m+1+n)=hv c (m+1+n)+a*256^n
 |0=>by
  show 256*hv (je c m (c m+a)) m+je c m (c m+a) m=256*hv c m+c m+a*256^0
  rw [yP (f:=je c m (c m+a)) (g:=c) m (fun i hi=>by unfold je;rw [if_neg (by omega)])]
  simp only [je,if_true];omega
 |n+1=>by
  show 256*hv (je c m (c m+a)) (m+1+n)+je c m (c m+a) (m+1+n)=256*hv c (m+1+n)+c (m+1+n)+a*256^(n+1)
  rw [If c m a n,Nat.pow_succ]
  simp only [je,if_neg (show ¬m+1+n=m by omega)]
  grind
theorem P4 (n x:Nat):∀k,k≤n→hv (bR n x) k=x/256^(n-k)%256^k
 |0,_=>by simp [hv,Nat.mod_one]
 |k+1,h=>by
  rw [hv,P4 n x k (by omega)]
  unfold bR dB
  rw [show n-k=(n-(k+1))+1 by omega,bL,show n-1-k=n-(k+1) by omega]
  generalize x/256^(n-(k+1))=q
  rw [Nat.pow_succ,Nat.mul_comm (256^k) 256,Nat.mod_mul]
  omega
theorem D9 {n x:Nat} (h:x<256^n):hv (bR n x) n=x:=by
 rw [P4 n x n (Nat.le_refl _),Nat.sub_self,Nat.pow_zero,Nat.div_one,Nat.mod_eq_of_lt h]
def MB:Nat:=65025
theorem JF (x y i k:Nat):bR 32 x i*bR 32 y k≤MB:=by
 have h1:=yq 32 x i;have h2:=yq 32 y k
 exact Nat.le_trans (Nat.mul_le_mul (show bR 32 x i≤255 by omega) (show bR 32 y k≤255 by omega)) (by decide)
structure BS (f g c:Nat→Nat) (i k:Nat):Prop where
 lo:∀j,c j≤(i+1)*MB
 hi:∀j,i+k+1≤j→c j≤i*MB
 v:hv c 64=hv f i*256^(32-i)*hv g 32+f i*256^(31-i)*(hv g k*256^(32-k))
structure mu (f g c:Nat→Nat) (i:Nat):Prop where
 lo:∀j,c j≤i*MB
 v:hv c 64=hv f i*256^(32-i)*hv g 32
theorem mu.start (f g:Nat→Nat):mu f g (fun _=>0) 0:=⟨fun _=>by omega,by
 rw [show hv f 0=0 from rfl]
 simp only [Nat.zero_mul]
 have:∀n,hv (fun _=>0) n=0:=fun n=>by induction n with |zero=>rfl|succ n ih=>simp [hv,ih]
 exact this 64⟩
theorem mu.into {f g c:Nat→Nat} {i:Nat} (h:mu f g c i):BS f g c i 0:=
 ⟨fun j=>Nat.le_trans (h.lo j) (Nat.mul_le_mul_right _ (by omega)),fun j _=>h.lo j,by rw [h.v,show hv g 0=0 from rfl,Nat.zero_mul,Nat.mul_zero,Nat.add_zero]⟩
theorem BS.step {f g c:Nat→Nat} {i k:Nat} (h:BS f g c i k) (hk:k<32) (hi:i<32) (hp:f i*g k≤MB):BS f g (je c (i+k+1) (c (i+k+1)+f i*g k)) i (k+1):=by
 have e:(i+1)*MB=i*MB+MB:=by rw [Nat.add_mul,Nat.one_mul]
 refine ⟨fun j=> ?_,fun j hj=> ?_,?_⟩
 ·unfold je
  split
  ·have:=h.hi (i+k+1) (Nat.le_refl _);omega
  ·exact h.lo j
 ·unfold je
  rw [if_neg (by omega)]
  exact h.hi j (by omega)
 ·have e64:(64:Nat)=i+k+1+1+(62-i-k):=by omega
  have hu:=If c (i+k+1) (f i*g k) (62-i-k)
  rw [←e64] at hu
  rw [hu,h.v]
  show _=_+f i*256^(31-i)*((256*hv g k+g k)*256^(32-(k+1)))
  have e1:62-i-k=(31-i)+(31-k):=by omega
  have e2:32-k=(31-k)+1:=by omega
  have e3:32-(k+1)=31-k:=by omega
  rw [e1,e2,e3,Nat.pow_add 256 (31-i) (31-k),Nat.pow_succ]
  generalize hv f i*256^(32-i)*hv g 32=A
  generalize hv g k=B
  generalize 256^(31-i)=C
  generalize 256^(31-k)=D
  clear h hu e e64 e1 e2 e3 hp hk hi
  generalize f i=p
  generalize g k=q
  grind
theorem BS.out {f g c:Nat→Nat} {i:Nat} (hi:i<32) (h:BS f g c i 32):mu f g c (i+1):=
 ⟨h.lo,by
  rw [h.v,Nat.sub_self,Nat.pow_zero,Nat.mul_one]
  show _=(256*hv f i+f i)*256^(32-(i+1))*hv g 32
  rw [show 32-(i+1)=31-i by omega,show 32-i=(31-i)+1 by omega,Nat.pow_succ]
  generalize hv f i=A
  generalize 256^(31-i)=C
  generalize hv g 32=D
  clear h hi
  generalize f i=p
  grind⟩
theorem mu.fin {x y:Nat} {c:Nat→Nat} (hx:x<256^32) (hy:y<256^32) (h:mu (bR 32 x) (bR 32 y) c 32):hv c 64=x*y:=by
 rw [h.v,D9 hx,D9 hy,Nat.sub_self,Nat.pow_zero,Nat.mul_one]
def B2 (c:Nat→Nat):Nat→Nat
 |0=>0
 |m+1=>(c (63-m)+B2 c m)/256
theorem IY {c:Nat→Nat} (h:∀j,c j≤32*MB):∀m,B2 c m≤10000
 |0=>by simp [B2]
 |m+1=>by
  have h1:=h (63-m)
  have h2:=IY h m
  unfold B2
  unfold MB at h1
  omega
theorem CR (c:Nat→Nat):∀m,m≤64→hv c 64/256^m=hv c (64-m)+B2 c m
 |0,_=>by simp [B2]
 |m+1,h=>by
  rw [bL,CR c m (by omega),show 64-m=(63-m)+1 by omega,hv,B2,show 64-(m+1)=63-m by omega]
  omega
theorem FA (c:Nat→Nat) (m:Nat) (h:m<64):dB (hv c 64) m=(c (63-m)+B2 c m)%256:=by
 unfold dB
 rw [CR c m (by omega),show 64-m=(63-m)+1 by omega,hv]
 omega
end Go.Proofs.YtknlbpjcjdenbaaGreat
namespace Go.Proofs.YtknlbpjcjdenbaaGreat
open Go Go.RowKit
set_option maxRecDepth 10000
def bb (n:Nat) (f:Nat→Nat):List UInt8:=(List.range n).map fun i=>UInt8.ofNat (f i)
theorem kx (n:Nat) (f:Nat→Nat):(bb n f).length=n:=by simp [bb]
theorem gQ {n i:Nat} (f:Nat→Nat) (h:i<n):(bb n f).getD i 0=UInt8.ofNat (f i):=by simp [bb,List.getD_eq_getElem?_getD,h]
theorem fu {n:Nat} {f g:Nat→Nat} (h:∀i,i<n→f i=g i):bb n f=bb n g:=List.map_congr_left fun i hi=>by rw [h i (by simpa using hi)]
theorem vJ {n i:Nat} {f g:Nat→Nat} {x:UInt8} (hx:x=UInt8.ofNat (g i)) (h:∀j,j<n→j≠i→g j=f j):(bb n f).set i x=bb n g:=by
 subst hx
 apply List.ext_getElem (by simp [bb])
 intro j h1 h2
 have hj:j<n:=by simpa [bb] using h2
 rw [List.getElem_set]
 by_cases e:i=j
 ·subst e;simp [bb]
 ·rw [if_neg e];simp [bb,h j hj (fun z=>e z.symm)]
theorem d_ {a:Nat} (h:a<256):(UInt8.ofNat a).toNat=a:=by rw [UInt8.toNat_ofNat',Nat.mod_eq_of_lt (show a<2^8 from h)]
theorem Qf {a b:Nat} (ha:a<256) (hb:b<256) (h:UInt8.ofNat a=UInt8.ofNat b):a=b:=by
 have:=congrArg UInt8.toNat h
 rwa [d_ ha,d_ hb] at this
theorem PV (n x:Nat):bb n (bR n x)=(bq n x).reverse:=by
 apply List.ext_getElem (by simp [bb,au])
 intro j h1 h2
 have hj:j<n:=by simpa [bb] using h1
 rw [List.getElem_reverse,c_]
 simp only [bb,List.getElem_map,List.getElem_range,au,bR,dB]
 rw [Nat.pow_mul,show (2:Nat)^8=256 from rfl]
 exact (UInt8.toNat_inj.1 (by simp))
theorem pr (n x:Nat) (h:x<256^n):rE (bb n (bR n x))=x:=by rw [PV,N2,Nat.mod_eq_of_lt h]
def fR:List UInt8:= [16,0,0,0,0,0,0,0,0,0,0,0,0,0,0,0,20,222,249,222,162,247,156,214,88,18,99,26,92,245,211,237]
theorem rG:fR=bb 32 (bR 32 Lq):=by decide +kernel
theorem NM:vc cL (ap L1) Tryz.f193.ntmps (ah Tryz.f193) ⟨aq 0 [],[],2000⟩ (eH [0] [.one (.rw 0)] [(0,.row 5 .u8 fR)]):=by
 exact ⟨rfl,trivial⟩
def zO:GF:=fun l=>match l with
 | []=>some ⟨[.one (.rw 0)],[(0,.row 5 .u8 fR)],none⟩
 |_=>none
theorem Ul:az cL (ap L1):=aD aW (br RV)
theorem wM:af 193 (ar zO):=aB Ul Tryz.func193 (by kernel_rfl) rfl (rs:= [0]) Tryz.results193 fun l g h hp=>by
 unfold zO at h
 split at h
 ·cases h;exact ⟨Nat.le_of_ble_eq_true rfl,rfl,rfl,rfl,NM⟩
 ·cases h
theorem IZ (b:List UInt8) (hb:b.length≤1000):vc cL (ap L1) Tryz.f142.ntmps (ah Tryz.f142) ⟨aq 0 [.one (.ro .u8 b)],[],2000⟩ (eH [2] [.one (.rw 0)] [(0,.row 5 .u8 b.reverse)]):=by
 refine sd fun hl=>Or.inr ⟨{i:Nat // i≤b.length},fun i=>⟨[(4,.one (.ob .int (((b.length-i.val:Nat):Int)-1))),(3,.one (.rw 0))],[(0,.row 5 .u8 ((b.drop (b.length-i.val)).reverse))]⟩,fun i=>b.length-i.val,⟨0,by omega⟩,?_⟩
 refine ⟨by show [(((b.length-0:Nat):Int)-1)]= [(b.length:Int)-1];rw [Nat.sub_zero],by show (b.drop (b.length-0)).reverse= [];simp,fun i=>⟨fun h1=> ?_,fun h1=> ?_⟩⟩
 ·have h1:=of_decide_eq_true h1
  have hi:=i.2
  have h2:i.val+1≤b.length:=by omega
  have e1:(((b.length-i.val:Nat):Int)-1).toNat=b.length-(i.val+1):=by omega
  have e2:(b.drop (b.length-(i.val+1))).reverse=(b.drop (b.length-i.val)).reverse++ [b.getD (b.length-(i.val+1)) 0]:=by
   rw [List.drop_eq_getElem_cons (show b.length-(i.val+1)<b.length by omega),List.reverse_cons,show b.length-(i.val+1)+1=b.length-i.val by omega,List.getD_eq_getElem?_getD,List.getElem?_eq_getElem (by omega)]
   rfl
  repeat refine sd ?_
  refine ⟨by simp;omega,?_⟩
  refine sd<|sj ⟨i.val+1,h2⟩<|⟨?_,?_,trivial⟩
  ·show [(((b.length-(i.val+1):Nat):Int)-1)]= [((b.length-i.val:Nat):Int)-1-1]
   exact congrArg (fun z=> [z]) (by omega)
  ·exact e2.trans (by rw [e1];rfl)
 have h1:=of_decide_eq_false h1
 have hi:=i.2
 refine ⟨?_,trivial⟩
 show b.reverse=(b.drop (b.length-i.val)).reverse
 rw [show b.length-i.val=0 by omega];rfl
def vY:GF:=fun l=>match l with
 | [.one (.ro .u8 b)]=>some ⟨[.one (.rw 0)],[(0,.row 5 .u8 b.reverse)],some (b.length≤1000)⟩
 |_=>none
theorem we:af 142 (ar vY):=aB Ul Tryz.func142 (by kernel_rfl) rfl (rs:= [2]) Tryz.results142 fun l g h hp=>by
 unfold vY at h
 split at h
 ·cases h;exact ⟨Nat.le_of_ble_eq_true rfl,rfl,rfl,rfl,IZ _ hp⟩
 ·cases h
def WB:List (Nat×CF):=(193,ar zO)::(142,ar vY)::L1
theorem QF:∀p∈WB,af p.1 p.2:=ag wM<|ag we RV
theorem WW:az cL (ap WB):=aD aW (br QF)
theorem Og {x:Nat} (h:dB x 32=0) (hx:x<256^33):x/256^32=Lq/256^32:=by
 have h1:x/256^32<256:=by rw [Nat.div_lt_iff_lt_mul (by decide)];exact hx
 have h2:Lq/256^32=0:=by decide +kernel
 unfold dB at h
 omega
theorem Jq {x:Nat} (h:dB x 32≠0):Lq≤x:=by
 have h1:256^32≤x:=by
  rcases Nat.lt_or_ge x (256^32) with h2|h2
  ·unfold dB at h;rw [Nat.div_eq_of_lt h2] at h;simp at h
  ·exact h2
 exact Nat.le_trans (by decide +kernel) h1
theorem N7 (x:Nat) (hx:x<256^33):vc cL (ap WB) Tryz.f194.ntmps (ah Tryz.f194) ⟨aq 0 [.agg [.vec .u8 33 (bb 33 (bR 33 x))]],[],2000⟩ (eH [2] [.one (.ob .bool (decide (Lq≤x)))] []):=by
 have hd:=kl x
 have g0:(bb 33 (bR 33 x)).getD 0 (Kd.df .u8)=UInt8.ofNat (dB x 32):=gQ _ (by omega)
 have k:∀i,i≤32→(bb 33 (bR 33 x)).getD i (Kd.df .u8)=UInt8.ofNat (dB x (32-i)):=fun i hi=>gQ _ (by omega)
 have m:∀i,i<32→fR.getD i (Kd.df .u8)=UInt8.ofNat (dB Lq (31-i)):=fun i hi=>by rw [rG];exact gQ _ (by omega)
 refine ⟨fun h1=> ?_,fun h1=> ?_⟩
 ·have h1:=of_decide_eq_true h1
  refine ⟨congrArg (fun z:Bool=> [z]) ?_,trivial⟩
  exact decide_eq_true (Jq fun h=>h1 (g0.trans (by rw [h])))
 have h1:dB x 32=0:=by
  have h1:=Decidable.not_not.1 (of_decide_eq_false h1)
  exact Qf (hd 32) (by omega) (g0.symm.trans h1)
 refine Or.inr ⟨{k:Nat // k≤32∧x/256^(32-k)=Lq/256^(32-k)},fun k=>⟨[(4,.one (.ob .int (k.val:Int)))],[]⟩,fun k=>32-k.val,⟨0,by omega,Og h1 hx⟩,?_⟩
 refine ⟨rfl,fun i=>⟨fun h2=> ?_,fun h2=> ?_⟩⟩
 ·have h2:=of_decide_eq_true h2
  obtain ⟨hi,he⟩:=i.2
  have hi2:i.val<32:=by omega
  have e1:((i.val:Int)+1).toNat=i.val+1:=by omega
  have k1:(bb 33 (bR 33 x)).getD ((i.val:Int)+1).toNat (Kd.df .u8)=UInt8.ofNat (dB x (31-i.val)):=by rw [e1,k _ (by omega)];congr 2;omega
  have m1:fR.getD (i.val:Int).toNat (Kd.df .u8)=UInt8.ofNat (dB Lq (31-i.val)):=m _ hi2
  have e2:32-i.val=31-i.val+1:=by omega
  have d2:=kl Lq (31-i.val)
  rw [e2] at he
  have hoL:fR.length=32:=rfl
  repeat refine sd ?_
  refine ⟨fun h3=> ?_,fun h3=> ?_⟩
  ·have h3:=of_decide_eq_true h3
   rw [k1,m1] at h3
   have hne:dB x (31-i.val)≠dB Lq (31-i.val):=fun h=>h3 (by rw [h])
   repeat refine sd ?_
   refine ⟨congrArg (fun z:Bool=> [z]) ?_,trivial⟩
   show decide (Lq≤x)=decide (fR.getD (i.val:Int).toNat (Kd.df .u8)<(bb 33 (bR 33 x)).getD ((i.val:Int)+1).toNat (Kd.df .u8))
   rw [k1,m1,FU he hne]
   refine decide_eq_decide.2 ?_
   rw [UInt8.lt_iff_toNat_lt,d_ d2,d_ (hd _)]
  ·have h3:=Decidable.not_not.1 (of_decide_eq_false h3)
   rw [k1,m1] at h3
   have h4:=Qf (hd _) d2 h3
   refine sd<|sj ⟨i.val+1,by omega,?_⟩ ⟨rfl,trivial⟩
   rw [show 32-(i.val+1)=31-i.val by omega]
   exact Kv he h4
 ·have h2:=of_decide_eq_false h2
  obtain ⟨hi,he⟩:=i.2
  rw [show 32-i.val=0 by omega,Nat.pow_zero,Nat.div_one,Nat.div_one] at he
  refine ⟨congrArg (fun z:Bool=> [z]) ?_,trivial⟩
  exact decide_eq_true (by omega)
def V2 (l:List UInt8):Prop:=∃x,x<256^33∧l=bb 33 (bR 33 x)
def Cf:GF:=fun l=>match l with
 | [.agg [.vec .u8 33 l]]=>some ⟨[.one (.ob .bool (decide (Lq≤rE l)))],[],some (V2 l)⟩
 |_=>none
theorem zy:af 194 (ar Cf):=aB WW Tryz.func194 (by kernel_rfl) rfl (rs:= [2]) Tryz.results194 fun l g h hp=>by
 unfold Cf at h
 split at h
 ·cases h
  obtain ⟨x,hx,rfl⟩:=hp
  rw [pr _ _ hx]
  exact ⟨Nat.le_of_ble_eq_true rfl,rfl,rfl,rfl,N7 x hx⟩
 ·cases h
def Wo:List (Nat×CF):=(194,ar Cf)::WB
theorem Ps:∀p∈Wo,af p.1 p.2:=ag zy QF
theorem WX:az cL (ap Wo):=aD aW (br Ps)
set_option maxRecDepth 10000
def zF (r b m i:Nat):Nat:=if 32-i<m then dB (2*r+b) (32-i) else dB r (32-i)
def wv (x m i:Nat):Nat:=if 32-i<m then dB (x-Lq) (32-i) else dB x (32-i)
theorem UB (r b:Nat):bb 33 (zF r b 0)=bb 33 (bR 33 r):=fu fun i hi=>by unfold zF bR;rw [if_neg (by omega)]
theorem RS (r b:Nat):bb 33 (zF r b 33)=bb 33 (bR 33 (2*r+b)):=fu fun i hi=>by unfold zF bR;rw [if_pos (by omega)]
theorem Uf (x:Nat):bb 33 (wv x 0)=bb 33 (bR 33 x):=fu fun i hi=>by unfold wv bR;rw [if_neg (by omega)]
theorem SD (x:Nat):bb 33 (wv x 33)=bb 33 (bR 33 (x-Lq)):=fu fun i hi=>by unfold wv bR;rw [if_pos (by omega)]
theorem Pa {r b m:Nat} (h:m<33) {x:UInt8} (hx:x=UInt8.ofNat (dB (2*r+b) m)):(bb 33 (zF r b m)).set (32-m) x=bb 33 (zF r b (m+1)):=
 vJ (by rw [hx];unfold zF;rw [show 32-(32-m)=m by omega,if_pos (by omega)]) fun j hj hne=>by
  unfold zF
  by_cases e:32-j<m
  ·rw [if_pos e,if_pos (by omega)]
  ·rw [if_neg e,if_neg (by omega)]
theorem N5 {y m:Nat} (h:m<33) {x:UInt8} (hx:x=UInt8.ofNat (dB (y-Lq) m)):(bb 33 (wv y m)).set (32-m) x=bb 33 (wv y (m+1)):=
 vJ (by rw [hx];unfold wv;rw [show 32-(32-m)=m by omega,if_pos (by omega)]) fun j hj hne=>by
  unfold wv
  by_cases e:32-j<m
  ·rw [if_pos e,if_pos (by omega)]
  ·rw [if_neg e,if_neg (by omega)]
theorem OE {r b m:Nat} (h:m<33):(bb 33 (zF r b m)).getD (32-m) (Kd.df .u8)=UInt8.ofNat (dB r m):=(gQ _ (by omega)).trans (by unfold zF;rw [show 32-(32-m)=m by omega,if_neg (by omega)])
theorem LV {y m:Nat} (h:m<33):(bb 33 (wv y m)).getD (32-m) (Kd.df .u8)=UInt8.ofNat (dB y m):=(gQ _ (by omega)).trans (by unfold wv;rw [show 32-(32-m)=m by omega,if_neg (by omega)])
theorem jY:Lq<256^32:=by decide +kernel
theorem QE {c j:Nat} (hc:c<256):r8 (UInt8.ofNat c) j&&&UInt8.ofNat 1=UInt8.ofNat (c/2^j%2):=by
 have hd:c/2^j≤c:=Nat.div_le_self _ _
 refine UInt8.toNat_inj.1 ?_
 rw [UInt8.toNat_and,r8,d_ hc,d_ (by omega),d_ (by omega),d_ (by omega),Nat.and_one_is_mod]
theorem U1 {d:Nat} (hd:d<256):r8 (UInt8.ofNat d) 7=UInt8.ofNat (d/128):=by rw [r8,d_ hd]
theorem Xb {d c:Nat} (hd:d<256) (hc:c<2):s8 (UInt8.ofNat d) 1|||UInt8.ofNat c=UInt8.ofNat (2*d%256+c):=by
 refine UInt8.toNat_inj.1 ?_
 have h1:(UInt8.ofNat (d*2^1)).toNat=(d%128)*2^1:=by rw [UInt8.toNat_ofNat'];omega
 rw [UInt8.toNat_or,s8,d_ hd,h1,d_ (show c<256 by omega),d_ (show 2*d%256+c<256 by omega),show 2*d%256+c=(d%128)*2^1+c by omega,←Nat.shiftLeft_eq,Nat.shiftLeft_add_eq_or_of_lt (by omega)]
set_option maxHeartbeats 4000000 in
theorem VE (l:List UInt8) (hl:l.length≤1000):vc cL (ap Wo) Tryz.f141.ntmps (ah Tryz.f141) ⟨aq 0 [.one (.ro .u8 l)],[],2000⟩ (aI cL Tryz.f141.ntmps [.cell 2 140] [.agg [.vec .u8 32 (bb 32 (bR 32 (rE l%Lq)))]] []):=by
 refine Or.inr ⟨{i:Nat // i≤l.length},fun i=>⟨[(5,.one (.ob .int (i.val:Int)))],[(2016,.blk 232 [.vec .u8 33 (bb 33 (bR 33 (rE (l.take i.val)%Lq)))])]⟩,fun i=>l.length-i.val,⟨0,by omega⟩,?_⟩
 refine ⟨rfl,rfl,(by show bb 33 (bR 33 (rE (l.take 0)%Lq))=List.replicate 33 0;rw [II];decide +kernel),fun i hl2=>⟨fun h1=> ?_,fun h1=> ?_⟩⟩
 ·have h1:=of_decide_eq_true h1
  have hi:=i.2
  have hlt:i.val<l.length:=by omega
  generalize hv:rE (l.take i.val)=v
  generalize hc:l[i.val].toNat=c
  have hc8:c<256:=by rw [←hc];exact (l[i.val]).toNat_lt
  have hgc:l.getD i.val 0=UInt8.ofNat c:=by
   rw [List.getD_eq_getElem?_getD,List.getElem?_eq_getElem hlt,←hc];simp
  refine Or.inr ⟨{k:Nat // k≤8},fun k=>⟨[(6,.one (.ob .int (7-(k.val:Int))))],[(2016,.blk 232 [.vec .u8 33 (bb 33 (bR 33 (ee v c (8-k.val)%Lq)))])]⟩,fun k=>8-k.val,⟨0,by omega⟩,?_⟩
  refine ⟨rfl,rfl,?_,fun k=>⟨fun h2=> ?_,fun h2=> ?_⟩⟩
  ·show bb 33 (bR 33 (ee v c (8-0)%Lq))=bb 33 (bR 33 (v%Lq))
   rw [Nu v c hc8]
  ·have h2:=of_decide_eq_true h2
   have hk:=k.2
   have hk8:k.val<8:=by omega
   have e1:(i.val:Int).toNat=i.val:=rfl
   have e2:Int.toNat (7-(k.val:Int))=7-k.val:=by omega
   have hL:0<Lq:=by unfold Lq;omega
   have hr:=Nat.mod_lt (ee v c (8-k.val)) hL
   have hB:c/2^(7-k.val)%2<2:=Nat.mod_lt _ (by omega)
   have hnext:ee v c (7-k.val)%Lq=once (2*(ee v c (8-k.val)%Lq)+c/2^(7-k.val)%2):=by rw [FQ _ _ _ (by omega),show 7-k.val+1=8-k.val by omega]
   have hbit:r8 (l.getD (i.val:Int).toNat (Kd.df .u8)) (Int.toNat (7-(k.val:Int)))&&&UInt8.ofNat 1=UInt8.ofNat (c/2^(7-k.val)%2):=by
    rw [e1,e2,show l.getD i.val (Kd.df .u8)=UInt8.ofNat c from hgc,QE hc8]
   generalize ee v c (8-k.val)%Lq=r at hr hnext ⊢
   generalize c/2^(7-k.val)%2=B at hB hnext hbit
   repeat refine sd ?_
   refine Or.inr ⟨{m:Nat // m≤33},fun m=>⟨[(8,.one (.ob .int (32-(m.val:Int)))),(7,.one (.ob .u8 (UInt8.ofNat (Fo r B m.val))))],[(2016,.blk 232 [.vec .u8 33 (bb 33 (zF r B m.val))])]⟩,fun m=>33-m.val,⟨0,by omega⟩,?_⟩
   refine ⟨rfl,?_,rfl,?_,fun m=>⟨fun h3=> ?_,fun h3=> ?_⟩⟩
   ·show [UInt8.ofNat (Fo r B 0)]= [r8 (l.getD (i.val:Int).toNat (Kd.df .u8)) (Int.toNat (7-(k.val:Int)))&&&UInt8.ofNat 1]
    rw [hbit,IC]
   ·exact UB r B
   ·have h3:=of_decide_eq_true h3
    have hm:=m.2
    have hm33:m.val<33:=by omega
    have e3:Int.toNat (32-(m.val:Int))=32-m.val:=by omega
    obtain ⟨s1,s2⟩:=NG r B m.val hB
    have hg:(bb 33 (zF r B m.val)).getD (Int.toNat (32-(m.val:Int))) (Kd.df .u8)=UInt8.ofNat (dB r m.val):=by rw [e3,OE hm33]
    have hd:=kl r m.val
    repeat refine sd ?_
    refine sj ⟨m.val+1,by omega⟩ ⟨?_,?_,rfl,?_,trivial⟩
    ·show [32-((m.val+1:Nat):Int)]= [32-(m.val:Int)-1]
     exact congrArg (fun z=> [z]) (by omega)
    ·refine congrArg (fun z=> [z]) ?_
     show UInt8.ofNat (Fo r B (m.val+1))=r8 ((bb 33 (zF r B m.val)).getD (Int.toNat (32-(m.val:Int))) (Kd.df .u8)) 7
     rw [hg,U1 hd,s2]
    ·show bb 33 (zF r B (m.val+1))=(bb 33 (zF r B m.val)).set (Int.toNat (32-(m.val:Int))) (s8 ((bb 33 (zF r B m.val)).getD (Int.toNat (32-(m.val:Int))) (Kd.df .u8)) 1|||UInt8.ofNat (Fo r B m.val))
     rw [hg,Xb hd (BZ r B _ hB),e3]
     exact (Pa hm33 (by rw [s1])).symm
   ·have h3:=of_decide_eq_false h3
    have hm:=m.2
    have hm33:m.val=33:=by omega
    rw [hm33,RS]
    have hx:2*r+B<256^33:=by have:=jY;rw [Nat.pow_succ];omega
    generalize 2*r+B=x at hx hnext ⊢
    refine ⟨⟨x,hx,rfl⟩,fun h4=> ?_,fun h4=> ?_⟩
    ·have h4:Lq≤x:=by have h4:=of_decide_eq_true h4;rwa [pr _ _ hx] at h4
     refine Or.inr ⟨{m:Nat // m≤33},fun m=>⟨[(11,.one (.ob .int (32-(m.val:Int)))),(10,.one (.ob .int (lS x Lq m.val:Int)))],[(2016,.blk 232 [.vec .u8 33 (bb 33 (wv x m.val))])]⟩,fun m=>33-m.val,⟨0,by omega⟩,?_⟩
     refine ⟨rfl,?_,rfl,Uf x,fun m=>⟨fun h5=> ?_,fun h5=> ?_⟩⟩
     ·show [((lS x Lq 0:Nat):Int)]= [0]
      rw [KP];rfl
     ·have h5:=of_decide_eq_true h5
      have hm:=m.2
      have hm33:m.val<33:=by omega
      have e3:Int.toNat (32-(m.val:Int))=32-m.val:=by omega
      have hd:=kl x m.val
      have hg:(((bb 33 (wv x m.val)).getD (Int.toNat (32-(m.val:Int))) (Kd.df .u8)).toNat:Int)=(dB x m.val:Nat):=by rw [e3,LV hm33,d_ hd]
      have hs:=IH h4 m.val
      have hw:=LW x Lq m.val
      have hb1:=Lc x Lq m.val
      have hdL:=kl Lq m.val
      have hdX:=kl (x-Lq) m.val
      have fin:∀z:Int,z=(dB (x-Lq) m.val:Nat)→bb 33 (wv x (m.val+1))=(bb 33 (wv x m.val)).set (Int.toNat (32-(m.val:Int))) (UInt8.ofNat z.toNat):=fun z hz=>by
       rw [e3,hz,Int.toNat_natCast]
       exact (N5 hm33 rfl).symm
      have f1: [32-((m.val+1:Nat):Int)]= [32-(m.val:Int)-1]:=congrArg (fun z=> [z]) (by omega)
      have fb:∀z:Int,((lS x Lq (m.val+1):Nat):Int)=z→ [((lS x Lq (m.val+1):Nat):Int)]= [z]:=fun z h=>congrArg (fun z=> [z]) h
      refine ⟨fun h6=> ?_,fun h6=> ?_⟩
      ·have h6:=of_decide_eq_true h6
       have ho:((fR.getD (Int.toNat (32-(m.val:Int)-1)) (Kd.df .u8)).toNat:Int)=(dB Lq m.val:Nat):=by
        rw [show Int.toNat (32-(m.val:Int)-1)=31-m.val by omega,rG,show (bb 32 (bR 32 Lq)).getD (31-m.val) (Kd.df .u8)=UInt8.ofNat (bR 32 Lq (31-m.val)) from gQ _ (by omega),bR,show 32-1-(31-m.val)=m.val by omega,d_ hdL]
       have hoL:fR.length=32:=rfl
       repeat refine sd ?_
       refine ⟨fun h7=> ?_,fun h7=> ?_⟩
       ·have h7:=of_decide_eq_true h7
        have hz:((((bb 33 (wv x m.val)).getD (Int.toNat (32-(m.val:Int))) (Kd.df .u8)).toNat:Int)-((fR.getD (Int.toNat (32-(m.val:Int)-1)) (Kd.df .u8)).toNat:Int)-(lS x Lq m.val:Int))+256=(dB (x-Lq) m.val:Nat):=by rw [hg,ho] at h7 ⊢;rw [hs,if_pos h7]
        have hw2:((lS x Lq (m.val+1):Nat):Int)=1:=by rw [hg,ho] at h7;rw [hw,if_pos h7]
        refine sd (hp:=by rw [hz];exact ⟨by omega,by omega⟩) ?_
        refine sd (hp:=by rw [hz];omega) ?_
        repeat refine sd ?_
        exact sj ⟨m.val+1,by omega⟩ ⟨f1,fb _ hw2,rfl,fin _ hz,trivial⟩
       ·have h7:=of_decide_eq_false h7
        have hz:((((bb 33 (wv x m.val)).getD (Int.toNat (32-(m.val:Int))) (Kd.df .u8)).toNat:Int)-((fR.getD (Int.toNat (32-(m.val:Int)-1)) (Kd.df .u8)).toNat:Int)-(lS x Lq m.val:Int))=(dB (x-Lq) m.val:Nat):=by rw [hg,ho] at h7 ⊢;rw [hs,if_neg h7]
        have hw2:((lS x Lq (m.val+1):Nat):Int)=0:=by rw [hg,ho] at h7;rw [hw,if_neg h7]
        refine sd (hp:=by rw [hz];omega) ?_
        repeat refine sd ?_
        exact sj ⟨m.val+1,by omega⟩ ⟨f1,fb _ hw2,rfl,fin _ hz,trivial⟩
      ·have h6:=of_decide_eq_false h6
       have ho:dB Lq m.val=0:=by rw [show m.val=32 by omega];decide +kernel
       repeat refine sd ?_
       refine ⟨fun h7=> ?_,fun h7=> ?_⟩
       ·have h7:=of_decide_eq_true h7
        have hz:((((bb 33 (wv x m.val)).getD (Int.toNat (32-(m.val:Int))) (Kd.df .u8)).toNat:Int)-0-(lS x Lq m.val:Int))+256=(dB (x-Lq) m.val:Nat):=by rw [hg] at h7 ⊢;rw [hs,if_pos (by omega)];omega
        have hw2:((lS x Lq (m.val+1):Nat):Int)=1:=by rw [hg] at h7;rw [hw,if_pos (by omega)]
        refine sd (hp:=by rw [hz];exact ⟨by omega,by omega⟩) ?_
        refine sd (hp:=by rw [hz];omega) ?_
        repeat refine sd ?_
        exact sj ⟨m.val+1,by omega⟩ ⟨f1,fb _ hw2,rfl,fin _ hz,trivial⟩
       ·have h7:=of_decide_eq_false h7
        have hz:((((bb 33 (wv x m.val)).getD (Int.toNat (32-(m.val:Int))) (Kd.df .u8)).toNat:Int)-0-(lS x Lq m.val:Int))=(dB (x-Lq) m.val:Nat):=by rw [hg] at h7 ⊢;rw [hs,if_neg (by omega)];omega
        have hw2:((lS x Lq (m.val+1):Nat):Int)=0:=by rw [hg] at h7;rw [hw,if_neg (by omega)]
        refine sd (hp:=by rw [hz];omega) ?_
        repeat refine sd ?_
        exact sj ⟨m.val+1,by omega⟩ ⟨f1,fb _ hw2,rfl,fin _ hz,trivial⟩
     ·have h5:=of_decide_eq_false h5
      have hm:=m.2
      rw [show m.val=33 by omega,SD]
      refine sd<|sj ⟨k.val+1,by omega⟩ ⟨?_,rfl,?_,trivial⟩
      ·show [7-((k.val+1:Nat):Int)]= [7-(k.val:Int)-1]
       exact congrArg (fun z=> [z]) (by omega)
      ·show bb 33 (bR 33 (ee v c (8-(k.val+1))%Lq))=bb 33 (bR 33 (x-Lq))
       rw [show 8-(k.val+1)=7-k.val by omega,hnext,once,if_neg (by omega)]
    ·have h4:¬Lq≤x:=by have h4:=of_decide_eq_false h4;rwa [pr _ _ hx] at h4
     refine sd<|sj ⟨k.val+1,by omega⟩ ⟨?_,rfl,?_,trivial⟩
     ·show [7-((k.val+1:Nat):Int)]= [7-(k.val:Int)-1]
      exact congrArg (fun z=> [z]) (by omega)
     ·show bb 33 (bR 33 (ee v c (8-(k.val+1))%Lq))=bb 33 (bR 33 x)
      rw [show 8-(k.val+1)=7-k.val by omega,hnext,once,if_pos (by omega)]
  ·have h2:=of_decide_eq_false h2
   have hk:=k.2
   refine sd<|sj ⟨i.val+1,by omega⟩ ⟨rfl,rfl,?_,trivial⟩
   show bb 33 (bR 33 (rE (l.take (i.val+1))%Lq))=bb 33 (bR 33 (ee v c (8-k.val)%Lq))
   rw [show 8-k.val=0 by omega,M4,Hf l i.val hlt,hv,hc]
 ·have h1:=of_decide_eq_false h1
  have hi:=i.2
  rw [show i.val=l.length by omega,List.take_length]
  have hV:rE l%Lq<Lq:=Nat.mod_lt _ (by unfold Lq;omega)
  generalize rE l%Lq=V at hV ⊢
  repeat refine sd ?_
  refine ⟨?_,trivial⟩
  show bb 32 (bR 32 V)=_
  have key:List.take (33-1) (List.drop (0+1) (bb 33 (bR 33 V)))=bb 32 (bR 32 V):=by
   apply List.ext_getElem (by simp [bb])
   intro j h1 h2
   have hj:j<32:=by simpa [bb] using h2
   simp only [bb,List.getElem_take,List.getElem_drop,List.getElem_map,List.getElem_range,bR]
   congr 2
   omega
  rw [key,kx]
  exact (List.take_of_length_le (Nat.le_of_eq (kx 32 (bR 32 V)))).symm
def Ry:GF:=fun l=>match l with
 | [.one (.ro .u8 l)]=>some ⟨[.agg [.vec .u8 32 (bb 32 (bR 32 (rE l%Lq)))]],[],some (l.length≤1000)⟩
 |_=>none
theorem FX:af 141 (ar Ry):=ai aW WX Tryz.func141 (by kernel_rfl) rfl (rs:= [.cell 2 140]) Tryz.results141 fun l g h hp=>by
 unfold Ry at h
 split at h
 ·cases h;exact ⟨Nat.le_of_ble_eq_true rfl,rfl,rfl,rfl,VE _ hp⟩
 ·cases h
def S7:List (Nat×CF):=(141,ar Ry)::Wo
theorem UX:∀p∈S7,af p.1 p.2:=ag FX Ps
theorem Jc:az cL (ap S7):=aD aW (br UX)
set_option maxRecDepth 10000
def iy (x:Nat):List UInt8:=bb 32 (bR 32 x)
theorem Eh (x:Nat):(iy x).length=32:=kx _ _
theorem NE (x:Nat):(iy x).reverse=bq 32 x:=by rw [iy,PV,List.reverse_reverse]
theorem Sr (l:List UInt8):vc cL (ap S7) Tryz.f85.ntmps (ah Tryz.f85) ⟨aq 0 [.one (.ro .u8 l)],[],2000⟩ (aI cL Tryz.f85.ntmps [.cell 2 140] [.agg [.vec .u8 32 (iy (bm (ek l 64)%Lq))]] []):=by
 refine sd<|sd (hp:=by show (ek l 64).length≤1000;rw [ij];omega) ?_
 refine sd (hp:=by show (ek l 64).reverse.length≤1000;rw [List.length_reverse,ij];omega) ?_
 refine ⟨rfl,?_,trivial⟩
 show iy (bm (ek l 64)%Lq)=iy (rE (ek l 64).reverse%Lq)
 rw [rE,List.reverse_reverse]
theorem My (x k:Nat) (_h:k<256):dB x (k/8)/2^(k%8)%2=x/2^k%2:=by
 unfold dB
 have e:x/2^k=x/256^(k/8)/2^(k%8):=by
  rw [Nat.div_div_eq_div_mul,Hg,←Nat.pow_add,show 8*(k/8)+k%8=k by omega]
 rw [e]
 generalize x/256^(k/8)=q
 have:k%8=0∨k%8=1∨k%8=2∨k%8=3∨k%8=4∨k%8=5∨k%8=6∨k%8=7:=by omega
 rcases this with h|h|h|h|h|h|h|h<;>rw [h]<;>simp<;>omega
set_option maxRecDepth 10000
def zB (a b m i:Nat):Nat:=if 32-i<m then dB (a+b) (32-i) else 0
theorem Uz (a b:Nat):bb 33 (zB a b 0)=List.replicate 33 0:=(fu (g:=fun _=>0) fun i hi=>by unfold zB;rw [if_neg (by omega)]).trans (by decide +kernel)
theorem CT {a b m:Nat} (h:m<33) {x:UInt8} (hx:x=UInt8.ofNat (dB (a+b) m)):(bb 33 (zB a b m)).set (32-m) x=bb 33 (zB a b (m+1)):=
 vJ (by rw [hx];unfold zB;rw [show 32-(32-m)=m by omega,if_pos (by omega)]) fun j hj hne=>by
  unfold zB
  by_cases e:32-j<m
  ·rw [if_pos e,if_pos (by omega)]
  ·rw [if_neg e,if_neg (by omega)]
theorem R_ (a b:Nat):bb 33 (zB a b 33)=bb 33 (bR 33 (a+b)):=fu fun i hi=>by unfold zB bR;rw [if_pos (by omega)]
theorem Dx {x m:Nat} (h:m<32):(iy x).getD (31-m) (Kd.df .u8)=UInt8.ofNat (dB x m):=(gQ _ (by omega)).trans (by rw [bR,show 32-1-(31-m)=m by omega])
theorem NC (a b:Nat) (ha:a<256^32) (hb:b<256^32):vc cL (ap S7) Tryz.f91.ntmps (ah Tryz.f91) ⟨aq 0 [.agg [.vec .u8 32 (iy a)],.agg [.vec .u8 32 (iy b)]],[],2000⟩ (aI cL Tryz.f91.ntmps [.cell 4 140] [.agg [.vec .u8 32 (iy ((a+b)%Lq))]] []):=by
 refine sd<|Or.inr ⟨{m:Nat // m≤32},fun m=>⟨[(7,.one (.ob .int (31-(m.val:Int)))),(6,.one (.ob .int (qX a b m.val:Int)))],[(2048,.row 5 .u8 (bb 33 (zB a b m.val)))]⟩,fun m=>32-m.val,⟨0,by omega⟩,?_⟩
 refine ⟨rfl,?_,Uz a b,fun m=>⟨fun h1=> ?_,fun h1=> ?_⟩⟩
 ·show [((qX a b 0:Nat):Int)]= [0]
  rw [IG];rfl
 ·have h1:=of_decide_eq_true h1
  have hm:=m.2
  have hm32:m.val<32:=by omega
  have e3:Int.toNat (31-(m.val:Int))=31-m.val:=by omega
  have e4:Int.toNat (31-(m.val:Int)+1)=32-m.val:=by omega
  have da:=kl a m.val
  have db:=kl b m.val
  have hga:(((iy a).getD (Int.toNat (31-(m.val:Int))) (Kd.df .u8)).toNat:Int)=(dB a m.val:Nat):=by rw [e3,Dx hm32,d_ da]
  have hgb:(((iy b).getD (Int.toNat (31-(m.val:Int))) (Kd.df .u8)).toNat:Int)=(dB b m.val:Nat):=by rw [e3,Dx hm32,d_ db]
  have hc:=pi a b m.val
  have hlen:=kx 33 (zB a b m.val)
  obtain ⟨s1,s2⟩:=Hw a b m.val
  have hz:(((iy a).getD (Int.toNat (31-(m.val:Int))) (Kd.df .u8)).toNat:Int)+(((iy b).getD (Int.toNat (31-(m.val:Int))) (Kd.df .u8)).toNat:Int)+(qX a b m.val:Int)=((dB a m.val+dB b m.val+qX a b m.val:Nat):Int):=by rw [hga,hgb];omega
  repeat refine sd ?_
  refine sj ⟨m.val+1,by omega⟩ ⟨congrArg (fun z=> [z]) (show 31-((m.val+1:Nat):Int)=31-(m.val:Int)-1 by omega),congrArg (fun z=> [z]) ?_,?_,trivial⟩
  ·show ((qX a b (m.val+1):Nat):Int)=((((iy a).getD (Int.toNat (31-(m.val:Int))) (Kd.df .u8)).toNat:Int)+(((iy b).getD (Int.toNat (31-(m.val:Int))) (Kd.df .u8)).toNat:Int)+(qX a b m.val:Int))/2^8
   rw [hz,s2];omega
  ·show bb 33 (zB a b (m.val+1))=(bb 33 (zB a b m.val)).set (Int.toNat (31-(m.val:Int)+1)) (UInt8.ofNat ((((iy a).getD (Int.toNat (31-(m.val:Int))) (Kd.df .u8)).toNat:Int)+(((iy b).getD (Int.toNat (31-(m.val:Int))) (Kd.df .u8)).toNat:Int)+(qX a b m.val:Int)).toNat)
   rw [hz,e4,Int.toNat_natCast]
   exact (CT (by omega) (by rw [s1];exact UInt8.toNat_inj.1 (by simp))).symm
 ·have h1:=of_decide_eq_false h1
  have hm:=m.2
  rw [show m.val=32 by omega]
  have hlen:=kx 33 (zB a b 32)
  have hc:=pi a b 32
  repeat refine sd ?_
  have e5:(bb 33 (zB a b 32)).set 0 (UInt8.ofNat ((qX a b 32:Nat):Int).toNat)=bb 33 (bR 33 (a+b)):=by
   rw [Int.toNat_natCast,←Mq ha hb,←R_]
   exact CT (m:=32) (by omega) rfl
  refine sd (hp:=by show ((bb 33 (zB a b 32)).set 0 (UInt8.ofNat ((qX a b 32:Nat):Int).toNat)).length≤1000;rw [List.length_set,hlen];omega) ?_
  refine ⟨rfl,?_,trivial⟩
  show iy ((a+b)%Lq)=iy (rE ((bb 33 (zB a b 32)).set 0 (UInt8.ofNat ((qX a b 32:Nat):Int).toNat))%Lq)
  rw [e5,pr _ _ (by rw [Nat.pow_succ];omega)]
set_option maxRecDepth 10000
def il (n:Nat) (c:Nat→Nat):List Int:=(List.range n).map fun i=>(c i:Int)
theorem KJ (n:Nat) (c:Nat→Nat):(il n c).length=n:=by simp [il]
theorem KC {n i:Nat} (c:Nat→Nat) (h:i<n):(il n c).getD i 0=(c i:Int):=by simp [il,List.getD_eq_getElem?_getD,h]
theorem RK {n m v:Nat} {c:Nat→Nat} {x:Int} (hx:x=v):(il n c).set m x=il n (je c m v):=by
 subst hx
 apply List.ext_getElem (by simp [il])
 intro j h1 h2
 rw [List.getElem_set]
 by_cases e:m=j
 ·subst e;simp [il,je]
 ·rw [if_neg e];simp [il,je,Ne.symm e]
def GK (n m i:Nat):Nat:=if 63-i<m then dB n (63-i) else 0
theorem Vf (n:Nat):bb 64 (GK n 0)=List.replicate 64 0:=(fu (g:=fun _=>0) fun i hi=>by unfold GK;rw [if_neg (by omega)]).trans (by decide +kernel)
theorem LT {n m:Nat} (h:m<64) {x:UInt8} (hx:x=UInt8.ofNat (dB n m)):(bb 64 (GK n m)).set (63-m) x=bb 64 (GK n (m+1)):=
 vJ (by rw [hx];unfold GK;rw [show 63-(63-m)=m by omega,if_pos (by omega)]) fun j hj hne=>by
  unfold GK
  by_cases e:63-j<m
  ·rw [if_pos e,if_pos (by omega)]
  ·rw [if_neg e,if_neg (by omega)]
theorem QL (n:Nat):bb 64 (GK n 64)=bb 64 (bR 64 n):=fu fun i hi=>by unfold GK bR;rw [if_pos (by omega)]
theorem On (x y:Nat) (hx:x<256^32) (hy:y<256^32):vc cL (ap S7) Tryz.f92.ntmps (ah Tryz.f92) ⟨aq 0 [.agg [.vec .u8 32 (iy x)],.agg [.vec .u8 32 (iy y)]],[],2000⟩ (aI cL Tryz.f92.ntmps [.cell 4 140] [.agg [.vec .u8 32 (iy (x*y%Lq))]] []):=by
 refine sd<|Or.inr ⟨{s:Nat×(Nat→Nat) // s.1≤32∧mu (bR 32 x) (bR 32 y) s.2 s.1},fun s=>⟨[(6,.one (.ob .int (s.val.1:Int)))],[(2048,.row 3 .int (il 64 s.val.2))]⟩,fun s=>32-s.val.1,⟨(0,fun _=>0),by omega,mu.start _ _⟩,?_⟩
 refine ⟨rfl,(by show il 64 (fun _=>0)=List.replicate 64 0;decide +kernel),fun s=>⟨fun h1=> ?_,fun h1=> ?_⟩⟩
 ·have h1:=of_decide_eq_true h1
  obtain ⟨⟨i,c⟩,hi,hM⟩:=s
  dsimp only at hi h1 hM ⊢
  have kL:i<32:=by omega
  refine Or.inr ⟨{s:Nat×(Nat→Nat) // s.1≤32∧BS (bR 32 x) (bR 32 y) s.2 i s.1},fun s=>⟨[(7,.one (.ob .int (s.val.1:Int)))],[(2048,.row 3 .int (il 64 s.val.2))]⟩,fun s=>32-s.val.1,⟨(0,c),by omega,hM.into⟩,?_⟩
  refine ⟨rfl,rfl,fun s=>⟨fun h2=> ?_,fun h2=> ?_⟩⟩
  ·have h2:=of_decide_eq_true h2
   obtain ⟨⟨k,c⟩,hk,hM⟩:=s
   dsimp only at hk h2 hM ⊢
   have hk32:k<32:=by omega
   have hlen:=KJ 64 c
   have hp:=JF x y i k
   have hst:=hM.step hk32 kL hp
   have hlo:=hM.lo (i+k+1)
   have hga:(((iy x).getD (i:Int).toNat (Kd.df .u8)).toNat:Int)=(bR 32 x i:Nat):=by rw [Int.toNat_natCast,show (iy x).getD i (Kd.df .u8)=UInt8.ofNat (bR 32 x i) from gQ _ kL,d_ (yq _ _ _)]
   have hgb:(((iy y).getD (k:Int).toNat (Kd.df .u8)).toNat:Int)=(bR 32 y k:Nat):=by rw [Int.toNat_natCast,show (iy y).getD k (Kd.df .u8)=UInt8.ofNat (bR 32 y k) from gQ _ hk32,d_ (yq _ _ _)]
   have hgc:(il 64 c).getD ((i:Int)+(k:Int)+1).toNat (Kd.df .int)=(c (i+k+1):Int):=by rw [show ((i:Int)+(k:Int)+1).toNat=i+k+1 by omega];exact KC _ (by omega)
   obtain ⟨P,hP⟩:∃P,bR 32 x i*bR 32 y k=P:=⟨_,rfl⟩
   have hz:(((iy x).getD (i:Int).toNat (Kd.df .u8)).toNat:Int)*(((iy y).getD (k:Int).toNat (Kd.df .u8)).toNat:Int)=(P:Int):=by rw [hga,hgb,←hP];exact (Int.natCast_mul _ _).symm
   rw [hP] at hp hst
   unfold MB at hp hlo
   repeat refine sd ?_
   refine ⟨⟨(k+1,je c (i+k+1) (c (i+k+1)+P)),by omega,hst⟩,(by show 32-(k+1)<32-k;omega),rfl,?_,trivial⟩
   show il 64 (je c (i+k+1) (c (i+k+1)+P))=(il 64 c).set ((i:Int)+(k:Int)+1).toNat _
   rw [show ((i:Int)+(k:Int)+1).toNat=i+k+1 by omega]
   exact (RK (by rw [show i+k+1=((i:Int)+(k:Int)+1).toNat by omega,hgc,hz];rfl)).symm
  ·have h2:=of_decide_eq_false h2
   obtain ⟨⟨k,c⟩,hk,hM⟩:=s
   dsimp only at hk h2 hM ⊢
   obtain rfl:k=32:=by omega
   refine sd ?_
   exact ⟨⟨(i+1,c),by omega,hM.out kL⟩,(by show 32-(i+1)<32-i;omega),rfl,rfl,trivial⟩
 ·have h1:=of_decide_eq_false h1
  obtain ⟨⟨i,c⟩,hi,hM⟩:=s
  dsimp only at hi h1 hM ⊢
  obtain rfl:i=32:=by omega
  have hv:=hM.fin hx hy
  have hle:=IY hM.lo
  have hdg:=FA c
  rw [hv] at hdg
  refine sd<|Or.inr ⟨{m:Nat // m≤64},fun m=>⟨[(10,.one (.ob .int (63-(m.val:Int)))),(9,.one (.ob .int (B2 c m.val:Int)))],[(3128,.row 5 .u8 (bb 64 (GK (x*y) m.val)))]⟩,fun m=>64-m.val,⟨0,by omega⟩,?_⟩
  refine ⟨rfl,rfl,Vf _,fun m=>⟨fun h2=> ?_,fun h2=> ?_⟩⟩
  ·have h2:=of_decide_eq_true h2
   have hm:=m.2
   have hm64:m.val<64:=by omega
   have e3:Int.toNat (63-(m.val:Int))=63-m.val:=by omega
   have hlen:=KJ 64 c
   have hlen2:=kx 64 (GK (x*y) m.val)
   have hgc:(il 64 c).getD (63-(m.val:Int)).toNat (Kd.df .int)=(c (63-m.val):Int):=by rw [e3];exact KC _ (by omega)
   have hc1:=hle m.val
   have hc2:=hM.lo (63-m.val)
   unfold MB at hc2
   have hdm:=hdg m.val hm64
   have hz:(il 64 c).getD (63-(m.val:Int)).toNat (Kd.df .int)+(B2 c m.val:Int)=((c (63-m.val)+B2 c m.val:Nat):Int):=by rw [hgc];rfl
   repeat refine sd ?_
   refine ⟨⟨m.val+1,by omega⟩,(by show 64-(m.val+1)<64-m.val;omega),?_,?_,?_,trivial⟩
   ·show [63-((m.val+1:Nat):Int)]= [63-(m.val:Int)-1]
    exact congrArg (fun z=> [z]) (by omega)
   ·show [((B2 c (m.val+1):Nat):Int)]= [((il 64 c).getD (63-(m.val:Int)).toNat (Kd.df .int)+(B2 c m.val:Int))/2^8]
    rw [hz,B2]
    exact congrArg (fun z=> [z]) (by omega)
   ·show bb 64 (GK (x*y) (m.val+1))=(bb 64 (GK (x*y) m.val)).set (63-(m.val:Int)).toNat (UInt8.ofNat ((il 64 c).getD (63-(m.val:Int)).toNat (Kd.df .int)+(B2 c m.val:Int)).toNat)
    rw [hz,e3,Int.toNat_natCast]
    exact (LT hm64 (by rw [hdm];exact UInt8.toNat_inj.1 (by simp))).symm
  ·have h2:=of_decide_eq_false h2
   have hm:=m.2
   rw [show m.val=64 by omega,QL]
   refine sd (hp:=by show (bb 64 (bR 64 (x*y))).length≤1000;rw [kx];omega) ?_
   refine ⟨rfl,?_,trivial⟩
   show iy (x*y%Lq)=iy (rE (bb 64 (bR 64 (x*y)))%Lq)
   have h:=Nat.mul_lt_mul'' hx hy
   rw [←Nat.pow_add] at h
   rw [pr _ _ h]
set_option maxRecDepth 10000
theorem ru (x:Nat):(iy x).map bV=(List.range 32).map fun i=> .int .u8 ((x/256^(31-i)%256:Nat):Int):=by
 rw [iy,bb,List.map_map]
 refine List.map_congr_left fun i _=> ?_
 show Value.int .u8 ((UInt8.ofNat (bR 32 x i)).toNat:Int)=_
 rw [d_ (yq _ _ _)]
 rfl
def Cl.ls (c:Cl):Cl:=match c with
 | .ob (.x 3) x=> .vec .u8 32 (iy x)
 |c=>c
def AV.ls:AV→AV
 | .one x=> .one x
 | .agg l=> .agg (l.map Cl.ls)
def Cl.lsOk (c:Cl):Prop:=match c with
 | .ob (.x 3) x=>(show Nat from x)<Lq
 |_=>True
def sD:List Cl→Prop
 | []=>True
 |c::r=>c.lsOk∧sD r
def AV.lsOk:AV→Prop
 | .one _=>True
 | .agg l=>sD l
section
variable {η:bx} {A:Nat→Prop} {w:World}
theorem Cl.ls_to {c:Cl} {cs:List Value} (h:c.H η A w cs):(c.ls).H η A w cs∧c.lsOk:=by
 unfold Cl.ls Cl.lsOk
 split
 ·rename_i x
  obtain ⟨h1,h2⟩:=h
  exact ⟨⟨Eh _,jS.2 (h2.trans (ru x).symm)⟩,h1⟩
 ·refine ⟨h,?_⟩
  trivial
theorem Cl.ls_of {c:Cl} {cs:List Value} (ho:c.lsOk) (h:(c.ls).H η A w cs):c.H η A w cs:=by
 unfold Cl.ls at h
 split at h
 ·rename_i x
  obtain ⟨_,h⟩:=h
  exact ⟨ho,(jS.1 h).trans (ru x)⟩
 ·exact h
theorem sg:∀ {l:List Cl} {cs:List Value},aK η A w l cs→aK η A w (l.map Cl.ls) cs∧sD l
 | [],_,h=>⟨h,trivial⟩
 |x::r,cs,⟨h,t,e,h1,h2⟩=>by
  obtain ⟨a1,a2⟩:=Cl.ls_to h1
  obtain ⟨b1,b2⟩:=sg h2
  exact ⟨⟨h,t,e,a1,b1⟩,a2,b2⟩
theorem tm:∀ {l:List Cl} {cs:List Value},sD l→aK η A w (l.map Cl.ls) cs→aK η A w l cs
 | [],_,_,h=>h
 |x::r,cs,ho,⟨h,t,e,h1,h2⟩=>⟨h,t,e,Cl.ls_of ho.1 h1,tm ho.2 h2⟩
theorem AV.ls_to {x:AV} {v:Value} (h:x.H η A w v):(x.ls).H η A w v∧x.lsOk:=by
 cases x with
 |one x=>exact ⟨h,trivial⟩
 |agg l=>
  obtain ⟨cs,e,h1,h2⟩:=h
  obtain ⟨a1,a2⟩:=sg h1
  exact ⟨⟨cs,e,a1,h2⟩,a2⟩
theorem AV.ls_of {x:AV} {v:Value} (ho:x.lsOk) (h:(x.ls).H η A w v):x.H η A w v:=by
 cases x with
 |one x=>exact h
 |agg l=>
  obtain ⟨cs,e,h1,h2⟩:=h
  exact ⟨cs,e,tm ho h1,h2⟩
def nr:List AV→Prop
 | []=>True
 |x::r=>x.lsOk∧nr r
theorem rR:∀ {l:List AV} {vs:List Value},bQ η A w l vs→bQ η A w (l.map AV.ls) vs∧nr l
 | [],_,h=>⟨h,trivial⟩
 |x::r,vs,⟨v,t,e,h1,h2⟩=>by
  obtain ⟨a1,a2⟩:=AV.ls_to h1
  obtain ⟨b1,b2⟩:=rR h2
  exact ⟨⟨v,t,e,a1,b1⟩,a2,b2⟩
theorem si:∀ {l:List AV} {vs:List Value},nr l→bQ η A w (l.map AV.ls) vs→bQ η A w l vs
 | [],_,_,h=>h
 |x::r,vs,ho,⟨v,t,e,h1,h2⟩=>⟨v,t,e,AV.ls_of ho.1 h1,si ho.2 h2⟩
theorem E4 {l:List AV} {v:Value} (ho:nr l) (h:bz η A w (l.map AV.ls) v):bz η A w l v:=by
 rcases l with _|⟨x,_|⟨y,l⟩⟩
 ·trivial
 ·exact AV.ls_of ho.1 h
 ·obtain ⟨vs,e,h⟩:=h
  have h2:bQ η A w ((x::y::l).map AV.ls) vs:=h
  exact ⟨vs,e,si ho h2⟩
theorem Cl.ls_rn (n:Nat) (c:Cl):(c.ls).rn n=(c.rn n).ls∧((c.rn n).lsOk↔c.lsOk):=by
 rcases c with _|_|_|⟨k,x⟩|_|_|_|_|_|_|_|_|_|_<;>try exact ⟨rfl,Iff.rfl⟩
 rcases k with _|_|_|_|_|_|_|i<;>try exact ⟨rfl,Iff.rfl⟩
 rcases i with _|_|_|_|i<;>exact ⟨rfl,Iff.rfl⟩
theorem yQ (n:Nat):∀l:List Cl,sD (l.map (Cl.rn n))↔sD l
 | []=>Iff.rfl
 |c::r=>and_congr (Cl.ls_rn n c).2 (yQ n r)
theorem AV.ls_rn (n:Nat) (x:AV):(x.ls).rn n=(x.rn n).ls∧((x.rn n).lsOk↔x.lsOk):=by
 cases x with
 |one x=>exact ⟨rfl,Iff.rfl⟩
 |agg l=>
  refine ⟨congrArg AV.agg ?_,yQ n l⟩
  rw [List.map_map,List.map_map]
  exact List.map_congr_left fun c _=>(Cl.ls_rn n c).1
theorem yw (n:Nat):∀l:List AV,nr (l.map (AV.rn n))↔nr l
 | []=>Iff.rfl
 |x::r=>and_congr (AV.ls_rn n x).2 (yw n r)
end
theorem h_ {ty : Nat → TE} {ct : Nat → Option CF} (hT : bk ty) (hO : az ty ct) {f : Nat} {fn : Func} {c : Code} {rs : List ResultVar} (hf : Tryz.prog.funcs[f]? = some fn) (hn : (fn.name == "runtime.NumGoroutine") = false) (hb : fn.body = some c) (hr : fn.results = rs.toArray) {G : GF}
  (hG:∀l g,G l=some g→bn g.pre→nr l→l.length≤fn.ntmps∧g.outs.length=rs.length∧nr g.outs∧eC (g.outs.map AV.ls)=true∧gB g.us=true∧fI 0 (l.map AV.ls)=true∧vc ty ct fn.ntmps c ⟨aq 0 (l.map AV.ls),[],2000⟩ (aI ty fn.ntmps rs (g.outs.map AV.ls) g.us)):af f (ar G):=by
 refine ⟨⟨fn,c,hf,hn,hb⟩,fun nx args sl H ds res rd qs h hq hp η w vs hH hv hfree=> ?_⟩
 obtain ⟨l,rd1,h1,hl⟩:=eV hH h hv
 split at h1
 ·rename_i e1 e2
  split at h1
  ·rename_i outs us p e3
   have:=j5 h1
   subst this
   obtain ⟨a1,a2⟩:=rR (en hl)
   obtain ⟨g1,g2,g0,g3,g4,g6,g5⟩:=hG _ _ e3 hp a2
   rw [me g4]
   refine (tF (pre:=p) cP hT hO hf hb hr g6 (by rw [List.length_map];exact g1) (by rw [List.length_map];exact g2) g3 g4 g5 (cZ e2) hH hfree a1).mono fun e w' hR=> ?_
   obtain ⟨v,η',he,o1,o2,o3,o4,o5⟩:=hR
   refine ⟨v,η',he,⟨E4 ((yw nx outs).2 g0) ?_,o2,o3,o4,o5⟩⟩
   have e5:(outs.map AV.ls).map (AV.rn nx)=(outs.map (AV.rn nx)).map AV.ls:=by
    rw [List.map_map,List.map_map]
    exact List.map_congr_left fun x _=>(AV.ls_rn nx x).1
   rw [←e5]
   exact o1
  ·cases h1
 ·cases h1
theorem iA:0<Lq:=by unfold Lq;omega
def Jv (a b:Nat):Nat:=(a+b)%Lq
def Lb (a b:Nat):Nat:=a*b%Lq
def Bz:GF:=fun l=>match l with
 | [.agg [.ob (.x 3) a],.agg [.ob (.x 3) b]]=>some ⟨[.agg [.ob (.x 3) (Jv a b)]],[],none⟩
 |_=>none
theorem yv:af 91 (ar Bz):=h_ aW Jc Tryz.func91 (by kernel_rfl) rfl (rs:= [.cell 4 140]) Tryz.results91 fun l g h hp ho=>by
 unfold Bz at h
 split at h
 ·rename_i a b
  cases h
  exact ⟨Nat.le_of_ble_eq_true rfl,rfl,⟨⟨Nat.mod_lt _ iA,trivial⟩,trivial⟩,rfl,rfl,rfl,NC a b (Nat.lt_trans ho.1.1 jY) (Nat.lt_trans ho.2.1.1 jY)⟩
 ·cases h
def Aj:GF:=fun l=>match l with
 | [.agg [.ob (.x 3) a],.agg [.ob (.x 3) b]]=>some ⟨[.agg [.ob (.x 3) (Lb a b)]],[],none⟩
 |_=>none
theorem za:af 92 (ar Aj):=h_ aW Jc Tryz.func92 (by kernel_rfl) rfl (rs:= [.cell 4 140]) Tryz.results92 fun l g h hp ho=>by
 unfold Aj at h
 split at h
 ·rename_i a b
  cases h
  exact ⟨Nat.le_of_ble_eq_true rfl,rfl,⟨⟨Nat.mod_lt _ iA,trivial⟩,trivial⟩,rfl,rfl,rfl,On a b (Nat.lt_trans ho.1.1 jY) (Nat.lt_trans ho.2.1.1 jY)⟩
 ·cases h
def cl (l:List UInt8):Nat:=bm (ek l 64)%Lq
def uq:GF:=fun l=>match l with
 | [.one (.ro .u8 l)]=>some ⟨[.agg [.ob (.x 3) (cl l)]],[],none⟩
 |_=>none
theorem uD:af 85 (ar uq):=h_ aW Jc Tryz.func85 (by kernel_rfl) rfl (rs:= [.cell 2 140]) Tryz.results85 fun l g h hp ho=>by
 unfold uq at h
 split at h
 ·cases h
  exact ⟨Nat.le_of_ble_eq_true rfl,rfl,⟨⟨Nat.mod_lt _ iA,trivial⟩,trivial⟩,rfl,rfl,rfl,Sr _⟩
 ·cases h
theorem CE (x:Nat):vc cL (ap S7) Tryz.f93.ntmps (ah Tryz.f93) ⟨aq 0 [.agg [.vec .u8 32 (iy x)]],[],2000⟩ (aI cL Tryz.f93.ntmps [.tmp 2] [.one (.rw 0)] [(0,.row 5 .u8 (bq 32 x))]):=by
 refine sd (hp:=by show (iy x).length≤1000;rw [Eh];omega) ?_
 refine ⟨?_,trivial⟩
 show bq 32 x=(iy x).reverse
 rw [NE]
def qq:GF:=fun l=>match l with
 | [.agg [.ob (.x 3) x]]=>some ⟨[.one (.rw 0)],[(0,.row 5 .u8 (bq 32 x))],none⟩
 |_=>none
theorem qY:af 93 (ar qq):=h_ aW Jc Tryz.func93 (by kernel_rfl) rfl (rs:= [.tmp 2]) Tryz.results93 fun l g h hp ho=>by
 unfold qq at h
 split at h
 ·cases h
  exact ⟨Nat.le_of_ble_eq_true rfl,rfl,⟨trivial,trivial⟩,rfl,rfl,rfl,CE _⟩
 ·cases h
def tY (x:Nat) (k:Int):Int:=if 0≤k∧k≤255 then ((x/2^k.toNat%2:Nat):Int) else 0
theorem JM (x:Nat) (k:Int):vc cL (ap S7) Tryz.f147.ntmps (ah Tryz.f147) ⟨aq 0 [.agg [.vec .u8 32 (iy x)],.one (.ob .int k)],[],2000⟩ (aI cL Tryz.f147.ntmps [.tmp 4] [.one (.ob .int (tY x k))] []):=by
 refine ⟨fun h0=> ?_,fun h0=> ?_⟩
 ·have h1:=of_decide_eq_true h0
  refine ⟨h0,?_,trivial⟩
  show [if 0≤k∧k≤255 then ((x/2^k.toNat%2:Nat):Int) else 0]= [0]
  rw [if_neg (by omega)]
 ·have h1:=of_decide_eq_false h0
  refine ⟨h0,fun h2=> ?_,fun h2=> ?_⟩
  ·have h2:=of_decide_eq_true h2
   refine ⟨?_,trivial⟩
   show [if 0≤k∧k≤255 then ((x/2^k.toNat%2:Nat):Int) else 0]= [0]
   rw [if_neg (by omega)]
  ·have h2:=of_decide_eq_false h2
   repeat refine sd ?_
   refine ⟨?_,trivial⟩
   obtain ⟨n,rfl⟩:∃n:Nat,k=n:=⟨k.toNat,by omega⟩
   show [if 0≤(n:Int)∧(n:Int)≤255 then ((x/2^(n:Int).toNat%2:Nat):Int) else 0]= [((r8 ((iy x).getD (31-(n:Int)/8).toNat (Kd.df .u8)) ((n:Int)%8).toNat&&&UInt8.ofNat 1).toNat:Int)]
   have hd:=kl x (n/8)
   have hm:dB x (n/8)/2^(n%8)%2<2:=Nat.mod_lt _ (by omega)
   rw [if_pos (by omega),show (31-(n:Int)/8).toNat=31-n/8 by omega,show ((n:Int)%8).toNat=n%8 by omega,show (iy x).getD (31-n/8) (Kd.df .u8)=UInt8.ofNat (dB x (n/8)) from (gQ _ (by omega)).trans (by rw [bR,show 32-1-(31-n/8)=n/8 by omega]),QE hd,d_ (by omega),My x n (by omega)]
   rfl
def CI:GF:=fun l=>match l with
 | [.agg [.ob (.x 3) x],.one (.ob .int k)]=>some ⟨[.one (.ob .int (tY x k))],[],none⟩
 |_=>none
theorem zb:af 147 (ar CI):=h_ aW Jc Tryz.func147 (by kernel_rfl) rfl (rs:= [.tmp 4]) Tryz.results147 fun l g h hp ho=>by
 unfold CI at h
 split at h
 ·cases h
  exact ⟨Nat.le_of_ble_eq_true rfl,rfl,⟨trivial,trivial⟩,rfl,rfl,rfl,JM _ _⟩
 ·cases h
instance decEP:DecidableEq EP:=fun P Q=>decidable_of_iff (P.x=Q.x∧P.y=Q.y) ⟨fun h=>Cp.ext' h.1 h.2,fun h=>by subst h;exact ⟨rfl,rfl⟩⟩
theorem pt (n:Nat):Cp.mul (n%Lq) base=Cp.mul n base:=(Cp.mul_mod A3 n).symm
theorem I3 {m n:Nat} (h:Cp.mul m base=Cp.mul n base):m%Lq=n%Lq:=by
 have h1:Cp.mul (m+(Lq-n%Lq)) base=Cp.mul (n+(Lq-n%Lq)) base:=by rw [Cp.mul_add,h,←Cp.mul_add]
 have h2:Cp.mul (n+(Lq-n%Lq)) base=Cp.zero:=by
  rw [←pt]
  have:(n+(Lq-n%Lq))%Lq=0:=by unfold Lq;omega
  rw [this];rfl
 rw [h2] at h1
 have h3:=yL h1
 have h4:=Nat.mod_eq_zero_of_dvd h3
 unfold Lq at*
 omega
theorem IL (a b:Nat):(Cp.mul a base).add (Cp.mul b base)=Cp.mul (Jv a b) base:=by
 rw [←Cp.mul_add,Jv,pt]
theorem Gu (a b:Nat):Cp.mul b (Cp.mul a base)=Cp.mul (Lb b a) base:=by
 rw [Cp.mul_mul,Lb,pt]
theorem FJ {s:Nat} (hs:s<Lq):Cp.mul s base=Cp.zero↔s=0:=by
 constructor
 ·intro h
  have h1:=I3 (m:=s) (n:=0) h
  rw [Nat.mod_eq_of_lt hs,Nat.zero_mod] at h1
  exact h1
 ·rintro rfl;rfl
theorem T0:¬Lq∣8:=fun h=>by have:=Nat.le_of_dvd (by omega) h;unfold Lq at this;omega
theorem Bo {s:Nat} {P:EP} (hP:Cp.mul s base=P):Cp.mul 8 P=Cp.zero↔P=Cp.zero:=by
 subst hP
 constructor
 ·intro h
  rw [Cp.mul_mul] at h
  have h1:=yL h
  rcases XY.mul h1 with h2|h2
  ·exact absurd h2 T0
  ·obtain ⟨k,rfl⟩:=h2
   rw [Nat.mul_comm,←Cp.mul_mul,A3,Cp.mul_zero]
 ·intro h;rw [h,Cp.mul_zero]
theorem Hq:gv base=88::List.replicate 31 102:=by decide +kernel
theorem rA (P:EP) (n k:Nat):Cp.mul (n/2^k) P=if n/2^k%2=1 then ((Cp.mul (n/2^(k+1)) P).add (Cp.mul (n/2^(k+1)) P)).add P else (Cp.mul (n/2^(k+1)) P).add (Cp.mul (n/2^(k+1)) P):=by
 rw [←Cp.mul_add]
 have h:n/2^(k+1)=n/2^k/2:=by rw [Nat.pow_succ,←Nat.div_div_eq_div_mul]
 rw [h]
 generalize n/2^k=m
 split
 ·rename_i h1
  have e:m=m/2+m/2+1:=by omega
  conv=>lhs;rw [e]
  rfl
 ·rename_i h1
  have e:m=m/2+m/2:=by omega
  conv=>lhs;rw [e]
theorem Rv {x:Nat} (hx:x<Pq):(bq 32 x).set 31 ((bq 32 x).getD 31 0|||128)=bq 32 (x+57896044618658097711785492504343953926634992332820282019728792003956564819968):=by
 have h31:(bq 32 x).getD 31 0=UInt8.ofNat (x/2^248):=by
  simp [bq]
 have hd:x/2^248<128:=by unfold Pq at hx;simp only [Nat.reducePow];omega
 apply List.ext_getElem
 ·simp [au]
 ·intro i h1 h2
  have hi:i<32:=by simpa [au] using h2
  rw [c_,List.getElem_set]
  by_cases h:31=i
  ·subst h
   rw [if_pos rfl,h31]
   apply UInt8.toNat_inj.1
   have e1:(x+57896044618658097711785492504343953926634992332820282019728792003956564819968)/2^(8*31)=x/2^248+128:=by simp only [Nat.reduceMul,Nat.reducePow];omega
   rw [e1]
   generalize x/2^248=y at*
   have h4:=Nat.shiftLeft_add_eq_or_of_lt (show y<2^7 by omega) 1
   rw [show (1:Nat)<<<7=128 from rfl] at h4
   simp
   rw [Nat.mod_eq_of_lt (show y<256 by omega),Nat.mod_eq_of_lt (show y+128<256 by omega),Nat.or_comm]
   omega
  ·rw [if_neg h,c_,←jU,←jU (_/_)]
   congr 1
   have hi':i<31:=by omega
   have:i=0∨i=1∨i=2∨i=3∨i=4∨i=5∨i=6∨i=7∨i=8∨i=9∨i=10∨i=11∨i=12∨i=13∨i=14∨i=15∨i=16∨i=17∨i=18∨i=19∨i=20∨i=21∨i=22∨i=23∨i=24∨i=25∨i=26∨i=27∨i=28∨i=29∨i=30:=by omega
   rcases this with rfl|rfl|rfl|rfl|rfl|rfl|rfl|rfl|rfl|rfl|rfl|rfl|rfl|rfl|rfl|rfl|rfl|rfl|rfl|rfl|rfl|rfl|rfl|rfl|rfl|rfl|rfl|rfl|rfl|rfl|rfl<;>simp only [Nat.reduceMul,Nat.reducePow]<;>omega
theorem XD:2^255=57896044618658097711785492504343953926634992332820282019728792003956564819968:=by decide +kernel
theorem Mx {P:EP} (h:P.x.val%2=1):(bq 32 P.y.val).set 31 ((bq 32 P.y.val).getD 31 0|||128)=gv P:=by
 rw [Rv P.y.isLt]
 unfold gv
 rw [h,Nat.mul_one,XD]
theorem IM {P:EP} (h:¬P.x.val%2=1):bq 32 P.y.val=gv P:=by
 unfold gv
 rw [show P.x.val%2=0 by omega,Nat.mul_zero,Nat.add_zero]
theorem Ln:∀c:Nat,c<256→(UInt8.ofNat c&&&127).toNat=c%128:=by decide +kernel
def nP (b:List UInt8):List UInt8:=b.set 31 (b.getD 31 0&&&127)
theorem CY (b:List UInt8):(nP b).length=b.length:=by simp [nP]
theorem l9 {b:List UInt8} (h:b.length=32):bm b=bm (b.take 31)+256^31*(b.getD 31 0).toNat:=by
 have e:=fy b 31 (by omega)
 rw [List.take_of_length_le (by omega)] at e
 rw [e,Nat.mul_comm]
 congr 3
 rw [List.getD_eq_getElem?_getD,List.getElem?_eq_getElem (by omega)]
 rfl
theorem XL:(256:Nat)^31*128=2^255:=by decide +kernel
theorem Oz {b:List UInt8} (h:b.length=32):bm (nP b)=dJ b:=by
 have e:=l9 h
 have e2:=l9 (b:=nP b) (by rw [CY,h])
 have e3:(nP b).take 31=b.take 31:=by unfold nP;rw [List.take_set_of_le (by omega)]
 have e4:(nP b).getD 31 0=b.getD 31 0&&&127:=by unfold nP;rw [List.getD_eq_getElem?_getD,List.getElem?_set_self (by omega)];rfl
 rw [e3,e4] at e2
 have h5:=Ln (b.getD 31 0).toNat (b.getD 31 0).toNat_lt
 rw [UInt8.ofNat_toNat] at h5
 rw [h5] at e2
 have h6:=dY b 31
 unfold dJ
 rw [e2,e,←XL]
 generalize (b.getD 31 0).toNat=c at*
 generalize bm (b.take 31)=r at*
 generalize 256^31=T at*
 clear e e2 e3 e4 h5
 have hc:=Nat.div_add_mod c 128
 have hm:c%128<128:=Nat.mod_lt _ (by omega)
 generalize c/128=q at*
 generalize c%128=m at*
 subst hc
 have:r+T*(128*q+m)=(r+T*m)+T*128*q:=by rw [Nat.mul_add,Nat.mul_assoc];omega
 rw [this,Nat.add_mul_mod_self_left,Nat.mod_eq_of_lt]
 have:T*m≤T*127:=Nat.mul_le_mul_left _ (by omega)
 omega
theorem xc {b:List UInt8} (h:b.length=32):zl b=((b.getD 31 0).toNat/128%2 ==1):=by
 have e:=l9 h
 have h6:=dY b 31
 unfold zl
 rw [e,←XL,←Nat.div_div_eq_div_mul]
 generalize bm (b.take 31)=r at*
 generalize (b.getD 31 0).toNat=c at*
 have:(r+256^31*c)/256^31=c:=by rw [Nat.add_mul_div_left _ _ (Nat.pos_of_ne_zero (by decide +kernel)),Nat.div_eq_of_lt h6,Nat.zero_add]
 rw [this]
def dV (l:List UInt8):EP:=(ng l).getD Cp.zero
def dx (l:List UInt8):Int:=if (ng l).isSome then 0 else 12
theorem wk {b:List UInt8} (h:b.length≠32):dV b=Cp.zero∧dx b=12:=by
 have:ng b=none:=by unfold ng;rw [if_neg (fun k=>h k.1)]
 unfold dV dx;rw [this];exact ⟨rfl,rfl⟩
theorem C7 {b:List UInt8} (h:¬dJ b<Pq):dV b=Cp.zero∧dx b=12:=by
 have:ng b=none:=by unfold ng;rw [if_neg (fun k=>h k.2)]
 unfold dV dx;rw [this];exact ⟨rfl,rfl⟩
theorem w_ {b:List UInt8} {y:F} (h1:b.length=32) (h2:dJ b<Pq) (hy:fn (dJ b)=y) (hr:¬bM (xx y)=0):dV b=Cp.zero∧dx b=12:=by
 subst hy
 have:ng b=none:=by unfold ng;rw [if_pos ⟨h1,h2⟩,dif_neg hr]
 unfold dV dx;rw [this];exact ⟨rfl,rfl⟩
theorem Ev {b:List UInt8} {y:F} (h1:b.length=32) (h2:dJ b<Pq) (hy:fn (dJ b)=y) (hr:bM (xx y)=0) (hs:zl b=true) (hx:aT (xx y)=0):dV b=Cp.zero∧dx b=12:=by
 subst hy
 have:ng b=none:=by unfold ng;rw [if_pos ⟨h1,h2⟩,dif_pos hr,if_pos ⟨hs,hx⟩]
 unfold dV dx;rw [this];exact ⟨rfl,rfl⟩
theorem uV {b:List UInt8} {y:F} {o:Bool} (h1:b.length=32) (h2:dJ b<Pq) (hy:fn (dJ b)=y) (hr:bM (xx y)=0) (hs:zl b=o) (hx:¬(o=true∧aT (xx y)=0)):
  dx b=0∧(dV b).x=(if o then -aT (xx y) else aT (xx y))∧(dV b).y=y:=by
 have:=rB h1 h2 hy hs hr hx
 unfold dV dx
 rw [this]
 exact ⟨rfl,rfl,rfl⟩
theorem nZ (P:EP):dV (gv P)=P∧dx (gv P)=0:=by
 unfold dV dx
 rw [KY]
 exact ⟨rfl,rfl⟩
def qA (seed:List UInt8):Nat:=cl (aM ((bh seed).take 32))
def qP (seed:List UInt8):List UInt8:=(bh seed).drop 32
def ll (seed:List UInt8):List UInt8:=gv (Cp.mul (qA seed) base)
def qR (p l:List UInt8):List UInt8:=gv (Cp.mul (cl (bh (p++l))) base)
def qS (s:Nat) (p q l:List UInt8):Nat:=Jv (cl (bh (p++l))) (Lb (cl (bh (qR p l++(q++l)))) s)
def fG (seed l:List UInt8):List UInt8:=qR (qP seed) l++bq 32 (qS (qA seed) (qP seed) (ll seed) l)
theorem wQ (seed:List UInt8):(ll seed).length=32:=qk _
theorem A7 (p l:List UInt8):(qR p l).length=32:=qk _
theorem ig (seed l:List UInt8):(fG seed l).length=64:=by unfold fG;rw [List.length_append,A7,au]
theorem ly (l:List UInt8):cl l<Lq:=Nat.mod_lt _ iA
theorem Vt (s:Nat) (p q l:List UInt8):qS s p q l<Lq:=Nat.mod_lt _ iA
def iq (pub sig l:List UInt8):Int:=
 if dx pub=0 then
  if Cp.mul 8 (dV pub)=Cp.zero then 12
  else if sig.length=64 then
   if dx (sig.take 32)=0 then
    if bm (sig.drop 32)<Lq then
     if Cp.mul (bm (sig.drop 32)) base=Cp.add (dV (sig.take 32)) (Cp.mul (cl (bh (sig.take 32++(pub++l)))) (dV pub)) then 0 else 3
    else 3
   else 3
  else 3
 else 12
theorem Si:∀c:Nat,c<256→(UInt8.ofNat c&&&248).toNat%8=0:=by decide +kernel
theorem Ms:∀c:Nat,c<256→64≤(UInt8.ofNat c&&&127|||64).toNat∧(UInt8.ofNat c&&&127|||64).toNat<128:=by decide +kernel
theorem Jy (l:List UInt8):bm (aM l)%8=0∧0<bm (aM l)∧bm (aM l)<2^255:=by
 have hlen:=kZ l
 have h8:bm (aM l)%8=0:=by
  obtain ⟨c,r,hcr⟩:∃c r,ek l 32=c::r:=by
   cases h:ek l 32 with
   |nil=>have:=ij l 32;rw [h] at this;simp at this
   |cons c r=>exact ⟨c,r,rfl⟩
  unfold aM
  rw [hcr]
  simp only [List.set_cons_zero,List.set_cons_succ,List.getD_cons_zero,bm]
  have:=Si c.toNat c.toNat_lt
  rw [UInt8.ofNat_toNat] at this
  omega
 have e:=fy (aM l) 31 (by omega)
 rw [List.take_of_length_le (by omega)] at e
 have hlt:=dY (aM l) 31
 have h31:64≤((aM l)[31]'(by omega)).toNat∧((aM l)[31]'(by omega)).toNat<128:=by
  have h:=Ms ((ek l 32).getD 31 0).toNat (UInt8.toNat_lt _)
  rw [UInt8.ofNat_toNat] at h
  have e31:(aM l)[31]'(by omega)=((ek l 32).getD 31 0&&&127)|||64:=by
   unfold aM
   rw [List.getElem_set_self,show ((ek l 32).set 0 ((ek l 32).getD 0 0&&&248)).getD 31 0=(ek l 32).getD 31 0 by simp [List.getD_eq_getElem?_getD,List.getElem?_set]]
  rw [e31];exact h
 generalize bm (aM l)=k at*
 generalize ((aM l)[31]'(by omega)).toNat=c at*
 generalize bm ((aM l).take 31)=r at*
 have p:(256:Nat)^31=452312848583266388373324160190187140051835877600158453279131187530910662656:=by decide +kernel
 rw [p] at e hlt
 have p2:(2:Nat)^255=57896044618658097711785492504343953926634992332820282019728792003956564819968:=by decide +kernel
 rw [p2]
 omega
theorem K4 (seed:List UInt8):qA seed<Lq:=ly _
theorem o6 {l:List UInt8} (h:l.length=32):cl l=bm l%Lq:=by
 rw [cl,ek,List.take_of_length_le (by omega),uF]
theorem VH (seed:List UInt8):qA seed≠0:=by
 intro h0
 unfold qA at h0
 rw [o6 (kZ _)] at h0
 obtain ⟨h1,h2,h3⟩:=Jy ((bh seed).take 32)
 generalize bm (aM ((bh seed).take 32))=k at*
 obtain ⟨j,rfl⟩:∃j,k=8*j:=⟨k/8,by omega⟩
 rcases XY.mul (Nat.dvd_of_mod_eq_zero h0) with h4|h4
 ·exact absurd h4 T0
 ·have h5:=Nat.le_of_dvd (by omega) h4
  have p2:(2:Nat)^255=57896044618658097711785492504343953926634992332820282019728792003956564819968:=by decide +kernel
  rw [p2] at h3
  unfold Lq at h5
  omega
theorem Of (seed:List UInt8):¬Cp.mul 8 (Cp.mul (qA seed) base)=Cp.zero:=by
 intro h
 exact VH seed ((FJ (K4 seed)).1 ((Bo rfl).1 h))
theorem xT (seed l:List UInt8):iq (ll seed) (fG seed l) l=0:=by
 unfold iq
 obtain ⟨h1,h2⟩:dV (ll seed)=Cp.mul (qA seed) base∧dx (ll seed)=0:=nZ _
 obtain ⟨h3,h4⟩:dV (qR (qP seed) l)=Cp.mul (cl (bh (qP seed++l))) base∧dx (qR (qP seed) l)=0:=nZ _
 have e1:(fG seed l).take 32=qR (qP seed) l:=List.take_left' (A7 _ _)
 have e2:(fG seed l).drop 32=bq 32 (qS (qA seed) (qP seed) (ll seed) l):=List.drop_left' (A7 _ _)
 have hs:=Vt (qA seed) (qP seed) (ll seed) l
 have e3:bm ((fG seed l).drop 32)=qS (qA seed) (qP seed) (ll seed) l:=by
  rw [e2,lW]
  exact Nat.mod_eq_of_lt (Nat.lt_trans hs (by decide +kernel))
 rw [if_pos h2,h1,if_neg (Of seed),if_pos (ig seed l),e1,if_pos h4,e3,if_pos hs,if_pos]
 rw [h3,Gu,IL]
 rfl
set_option maxRecDepth 10000
theorem iQ (b:List UInt8):bq 32 (gI b).val=b↔b.length=32∧bm b<Pq:=by
 constructor
 ·intro h
  have h1:=congrArg List.length h
  rw [au] at h1
  refine ⟨h1.symm,?_⟩
  have h2:=congrArg bm h
  rw [lW,Nat.mod_eq_of_lt (Nat.lt_trans (gI b).isLt (by decide +kernel))] at h2
  rw [←h2]
  exact (gI b).isLt
 ·rintro ⟨h1,h2⟩
  have e:(gI b).val=bm b:=by
   show bm (b.take 32)%k8%Pq=bm b
   rw [List.take_of_length_le (by omega),Nat.mod_eq_of_lt (Nat.lt_trans h2 (by decide +kernel)),Nat.mod_eq_of_lt h2]
  rw [e,←h1,Dd]
theorem Cc {b:List UInt8} (h:b.length=32∧bm b<Pq):gI b=fn (bm b):=by
 show fn _=_
 rw [List.take_of_length_le (by omega),Nat.mod_eq_of_lt (Nat.lt_trans h.2 (by decide +kernel))]
def LJ (b:List UInt8):Bool:=decide (b.length=32∧bm b<Pq)
def Qh:List (Nat×CF):=(52,ar C8)::(84,ar uC)::(85,ar uq)::(91,ar Bz)::(92,ar Aj)::(93,ar qq)::(147,ar CI)::Wf
theorem Pn:∀p∈Qh,af p.1 p.2:=ag oG<|ag vw<|ag uD<|ag yv<|ag za<|ag qY<|ag zb Qc
theorem Ip:az gp (ap Qh):=aD dc (br Pn)
theorem Vl {n:Nat} (h:n<65536):(UInt64.ofNat n&&&UInt64.ofNat 1=UInt64.ofNat 1)↔n%2=1:=by
 have e:(UInt64.ofNat n&&&UInt64.ofNat 1).toNat=n%2:=by
  rw [UInt64.toNat_and,kq (by omega),kq (by omega),show (1:Nat)=2^1-1 from rfl,Nat.and_two_pow_sub_one_eq_mod]
 constructor
 ·intro h;rw [←e,h];rfl
 ·intro h;exact UInt64.toNat_inj.1 (by rw [e,h];rfl)
theorem D1 (x:F):bG x.val 0%2=x.val%2:=by
 unfold bG
 rw [Nat.pow_zero,Nat.div_one]
 omega
theorem C5 (x:F):(UInt64.ofNat (bG x.val 0)&&&UInt64.ofNat 1=UInt64.ofNat 1)↔x.val%2=1:=by
 rw [Vl (di _ _),D1]
theorem VX:oq (LL 31 251)=14474011154664524427946373126085988481658748083205070504932198000989141204987:=by decide +kernel
theorem VS:oq (LL 15 254)=ft:=by decide +kernel
theorem IW:aR (fn 2) (oq (LL 31 251))=ni:=by
 rw [VX]
 apply F.ext'
 rw [ce,show (fn 2).val=2 from rfl,←dk Pq 256 2 14474011154664524427946373126085988481658748083205070504932198000989141204987 (by decide +kernel)]
 decide +kernel
def GL (x:F):F:=aR x (oq (LL (UInt8.ofNat 15) (UInt8.ofNat 254)))
def Wn (x:F):F:=aO (GL x) (aR (fn (UInt64.ofNat 2).toNat) (oq (LL (UInt8.ofNat 31) (UInt8.ofNat 251))))
theorem Nn (x:F):fC x=if aO (GL x) (GL x)=x then GL x else Wn x:=by
 have e0:GL x=aR x ft:=congrArg (aR x) VS
 have e1:Wn x=aR x ft*ni:=by
  show GL x*aR (fn 2) (oq (LL 31 251))=_
  rw [e0,IW]
 rw [e0,e1]
 rfl
theorem Cb {x y:F} (h:(!decide (x=y))=true):¬x=y:=fun he=>by rw [decide_eq_true he] at h;cases h
theorem PT {x y:F} (h:(!decide (x=y))=false):x=y:=by
 by_cases he:x=y
 ·exact he
 ·rw [decide_eq_false he] at h;cases h
theorem MT {x r:F} (hc:fC x=r) (h:¬aO r r=x):aT x=0∧bM x=7:=by
 unfold bM aT
 rw [hc]
 exact ⟨if_neg h,if_neg h⟩
theorem yi {x r:F} (hc:fC x=r) (h:aO r r=x) (h2:UInt64.ofNat (bG r.val 0)&&&UInt64.ofNat 1=UInt64.ofNat 1):aT x=lM r∧bM x=0:=by
 unfold bM aT
 rw [hc]
 exact ⟨(if_pos h).trans (if_pos ((C5 r).1 h2)),if_pos h⟩
theorem sh {x r:F} (hc:fC x=r) (h:aO r r=x) (h2:¬UInt64.ofNat (bG r.val 0)&&&UInt64.ofNat 1=UInt64.ofNat 1):aT x=r∧bM x=0:=by
 unfold bM aT
 rw [hc]
 exact ⟨(if_pos h).trans (if_neg fun h3=>h2 ((C5 r).2 h3)),if_pos h⟩
theorem OH (x:F):vc gp (ap Qh) Tryz.f156.ntmps (ah Tryz.f156) ⟨aq 0 [.agg [.ob (.x 1) x]],[],2000⟩ (aI gp Tryz.f156.ntmps [.cell 2 143,.tmp 3] [.agg [.ob (.x 1) (aT x)],.one (.ob .int (bM x))] []):=by
 have hc:=Nn x
 refine ⟨fun h=> ?_,fun h=> ?_⟩
 ·have h:¬aO (GL x) (GL x)=x:=Cb h
  rw [if_neg h] at hc
  refine ⟨fun h=> ?_,fun h=> ?_⟩
  ·obtain ⟨a1,a2⟩:=MT hc (Cb h)
   rw [a1,a2]
   exact ⟨⟨rfl,rfl⟩,rfl,trivial⟩
  ·have h:aO (Wn x) (Wn x)=x:=PT h
   refine ⟨fun h2=> ?_,fun h2=> ?_⟩
   ·obtain ⟨a1,a2⟩:=yi hc h (of_decide_eq_true h2)
    rw [a1,a2]
    exact ⟨⟨rfl,rfl⟩,rfl,trivial⟩
   ·obtain ⟨a1,a2⟩:=sh hc h (of_decide_eq_false h2)
    rw [a1,a2]
    exact ⟨⟨rfl,rfl⟩,rfl,trivial⟩
 ·have h:aO (GL x) (GL x)=x:=PT h
  rw [if_pos h] at hc
  refine ⟨fun h=> ?_,fun h2=>⟨fun h2=> ?_,fun h2=> ?_⟩⟩
  ·exact absurd ‹aO (GL x) (GL x)=x› (Cb h)
  ·obtain ⟨a1,a2⟩:=yi hc h (of_decide_eq_true h2)
   rw [a1,a2]
   exact ⟨⟨rfl,rfl⟩,rfl,trivial⟩
  ·obtain ⟨a1,a2⟩:=sh hc h (of_decide_eq_false h2)
   rw [a1,a2]
   exact ⟨⟨rfl,rfl⟩,rfl,trivial⟩
def Be:GF:=fun l=>match l with
 | [.agg [.ob (.x 1) x]]=>some ⟨[.agg [.ob (.x 1) (aT x)],.one (.ob .int (bM x))],[],none⟩
 |_=>none
theorem xb:af 156 (ar Be):=ai dc Ip Tryz.func156 (by kernel_rfl) rfl (rs:= [.cell 2 143,.tmp 3]) Tryz.results156 fun l g h hp=>by
 unfold Be at h
 split at h
 ·cases h;exact ⟨Nat.le_of_ble_eq_true rfl,rfl,rfl,rfl,OH _⟩
 ·cases h
def xI (b:List UInt8):F:=if LJ b then fn (bm b) else 0
def zE (b:List UInt8):Int:=if LJ b then 0 else 2
theorem ur {b:List UInt8} (h:¬(b.length=32∧bm b<Pq)):xI b=0∧zE b=2:=by
 have e:LJ b=false:=decide_eq_false h
 unfold xI zE
 rw [e]
 exact ⟨rfl,rfl⟩
theorem Ei {b:List UInt8} (h:b.length=32∧bm b<Pq):xI b=gI b∧zE b=0:=by
 have e:LJ b=true:=decide_eq_true h
 unfold xI zE
 rw [e,Cc h]
 exact ⟨rfl,rfl⟩
theorem WH {b:List UInt8} (h:b.length=32) (h2:UInt8.ofNat 127<b.getD 31 0):¬bm b<Pq:=by
 have e:=l9 h
 have h2:127<(b.getD 31 0).toNat:=UInt8.lt_iff_toNat_lt.1 h2
 have p:=XL
 have q:=Oa
 rw [←p] at q
 intro hlt
 rw [e] at hlt
 generalize (b.getD 31 0).toNat=c at h2 hlt
 generalize bm (b.take 31)=r at hlt
 have:256^31*128≤256^31*c:=Nat.mul_le_mul_left _ h2
 omega
theorem GC (b:List UInt8):vc gp (ap Qh) Tryz.f155.ntmps (ah Tryz.f155) ⟨aq 0 [.one (.ro .u8 b)],[],2000⟩ (aI gp Tryz.f155.ntmps [.cell 2 143,.tmp 3] [.agg [.ob (.x 1) (xI b)],.one (.ob .int (zE b))] []):=by
 refine ⟨fun h=> ?_,fun h=> ?_⟩
 ·have h1:=of_decide_eq_true h
  obtain ⟨a1,a2⟩:=ur (b:=b) fun k=>by omega
  rw [a1,a2]
  exact ⟨h,fun _=>⟨⟨rfl,rfl⟩,rfl,trivial⟩⟩
 ·have h1:b.length=32:=by have:=of_decide_eq_false h;omega
  refine ⟨fun h2=> ?_,fun h2=> ?_⟩
  ·obtain ⟨a1,a2⟩:=ur (b:=b) fun k=>WH h1 (of_decide_eq_true h2) k.2
   rw [a1,a2]
   refine ⟨h,h2,by show (31:Nat)<b.length;omega,fun _=>⟨⟨rfl,rfl⟩,rfl,trivial⟩⟩
  ·refine ⟨h,h2,by show (31:Nat)<b.length;omega,fun _=>⟨fun h3=> ?_,fun h3=> ?_⟩⟩
   ·obtain ⟨a1,a2⟩:=ur (b:=b) fun k=>by
     rw [Le,decide_eq_true ((iQ b).2 k)] at h3
     cases h3
    rw [a1,a2]
    exact ⟨⟨rfl,rfl⟩,rfl,trivial⟩
   ·have h3:bq 32 (gI b).val=b:=by
     rw [Le] at h3
     exact of_decide_eq_true (by simpa using h3)
    obtain ⟨a1,a2⟩:=Ei ((iQ b).1 h3)
    rw [a1,a2]
    exact ⟨⟨rfl,rfl⟩,rfl,trivial⟩
def pJ:GF:=fun l=>match l with
 | [.one (.ro .u8 b)]=>some ⟨[.agg [.ob (.x 1) (xI b)],.one (.ob .int (zE b))],[],none⟩
 |_=>none
theorem qW:af 155 (ar pJ):=ai dc Ip Tryz.func155 (by kernel_rfl) rfl (rs:= [.cell 2 143,.tmp 3]) Tryz.results155 fun l g h hp=>by
 unfold pJ at h
 split at h
 ·cases h;exact ⟨Nat.le_of_ble_eq_true rfl,rfl,rfl,rfl,GC _⟩
 ·cases h
end Go.Proofs.YtknlbpjcjdenbaaGreat
