/- What SK rests on, part 5 of 6: my own texts, put together (merge.py). -/
import Derived.Test.YtknlbpjcjdenbaaGreatRows
import Derived.WalkKit
import Derived.ProofKit
import Derived.Lib.Hide
import Derived.OpenShut
import Derived.WalkSpells
import Derived.StillTactics
import Derived.Laws.Pointers
import Derived.Laws.CopyOwn
import Derived.Laws.AppendOwnNone
import Derived.Deep.RegionHeld3
import Derived.RowKit3
import Derived.BigQuiet
import Derived.Deep.QuietTactic
import Derived.Deep.LoopGhost
import Derived.Deep.DeepFit
import Derived.WalkLawsBesides
import Derived.Shelf.Spec.BitsCarry
import Derived.Maps.RangeWalk
import Derived.Deep.MidRow
import Derived.Laws.IdiomStrings
import Derived.Great.BuildSlice
import Derived.Lib.AppendZerosOnto
import Derived.Deep.DeepCutAuto
import Derived.Lib.SliceRun
import Derived.Laws.ResultCell
import Derived.Laws.CopyRow
import Derived.Deep.Cut
import Derived.Deep.RegionLaw
import Derived.Laws.Tables
import Derived.StillTailTactics
import Derived.ShutString
import Derived.ChangeOld
import Derived.Test.YtknlbpjcjdenbaaGreatZSKD
set_option maxRecDepth 100000
namespace Go.Proofs.YtknlbpjcjdenbaaGreat
open Go Go.RowKit
set_option maxRecDepth 10000
theorem OPN:OpsOk TYQ (ctOf []):=opsOk TYQok (ctOk fun p hp=>by cases hp)
def gRev8:GFB:=fun l cs=>match l,cs with
 | [.one (.rw 1000)],[.row 5 .u8 [a,b,c,d,e,f,g,h]]=>some ⟨[],[(1000,.row 5 .u8 [h,g,f,e,d,c,b,a])],[],none⟩
 |_,_=>none
theorem rev8_sound:CSound 186 (cfB gRev8):=cfB_sound TYQok OPN Tryz.func186 (by kernel_rfl) rfl (rs:= []) Tryz.results186 fun l cs g h hp=>by
 unfold gRev8 at h
 split at h
 ·cases h;exact ⟨Nat.le_of_ble_eq_true rfl,rfl,rfl,rfl,vcRev8 _ _ _ _ _ _ _ _⟩
 ·cases h
def gGet64:GF:=fun l=>match l with
 | [.one (.ro .u8 b)]=>some ⟨[.one (.ob .u64 (gb b 8))],[],none⟩
 |_=>none
theorem get64_sound:CSound 211 (cfA gGet64):=cfR_sound TYQok OPN Tryz.func211 (by kernel_rfl) rfl (rs:= [.tmp 2]) Tryz.results211 fun l g h hp=>by
 unfold gGet64 at h
 split at h
 ·cases h;exact ⟨Nat.le_of_ble_eq_true rfl,rfl,rfl,rfl,vcGet64 _⟩
 ·cases h
theorem vcPStart:vc TYQ (ctOf []) Tryz.f181.ntmps (bodyOf Tryz.f181) ⟨mkSl 0 [],[],2000⟩ (retR TYQ Tryz.f181.ntmps [.cell 0 188] [.agg [.vec .u64 8 hTab]] []):=
 ⟨rfl,rfl,trivial⟩
theorem vcPRounds:vc TYQ (ctOf []) Tryz.f210.ntmps (bodyOf Tryz.f210) ⟨mkSl 0 [],[],2000⟩ (retR TYQ Tryz.f210.ntmps [.cell 0 186] [.agg [.vec .u64 80 kTab]] []):=
 ⟨rfl,rfl,trivial⟩
theorem pstart_sound:CSound 181 (cfA gStart):=cfR_sound TYQok OPN Tryz.func181 (by kernel_rfl) rfl (rs:= [.cell 0 188]) Tryz.results181 fun l g h hp=>by
 unfold gStart at h
 split at h
 ·cases h;exact ⟨Nat.le_of_ble_eq_true rfl,rfl,rfl,rfl,vcPStart⟩
 ·cases h
theorem prounds_sound:CSound 210 (cfA gRounds):=cfR_sound TYQok OPN Tryz.func210 (by kernel_rfl) rfl (rs:= [.cell 0 186]) Tryz.results210 fun l g h hp=>by
 unfold gRounds at h
 split at h
 ·cases h;exact ⟨Nat.le_of_ble_eq_true rfl,rfl,rfl,rfl,vcPRounds⟩
 ·cases h
def LR0:List (Nat×CF):= [(50,cfA gPClone),(71,cfA gPCat),(178,cfA gPLittle),(181,cfA gStart),(186,cfB gRev8),(210,cfA gRounds),(211,cfA gGet64),(212,cfA gRotl)]
theorem LR0ok:∀p∈LR0,CSound p.1 p.2:=ctCons pclone_sound<|ctCons pcat_sound<|ctCons plittle_sound<|ctCons pstart_sound<|ctCons rev8_sound<|ctCons prounds_sound<|ctCons get64_sound<|ctCons rotl_sound fun p hp=>by cases hp
theorem OPR0:OpsOk TYQ (ctOf LR0):=opsOk TYQok (ctOk LR0ok)
theorem vcPut64 (x:UInt64):vc TYQ (ctOf LR0) Tryz.f127.ntmps (bodyOf Tryz.f127) ⟨mkSl 0 [.one (.ob .u64 x)],[],2000⟩ (retR TYQ Tryz.f127.ntmps [.tmp 2] [.one (.rw 0)] [(0,.row 5 .u8 (be8 x))]):=⟨rfl,trivial⟩
def gPut64:GF:=fun l=>match l with
 | [.one (.ob .u64 x)]=>some ⟨[.one (.rw 0)],[(0,.row 5 .u8 (be8 x))],none⟩
 |_=>none
theorem put64_sound:CSound 127 (cfA gPut64):=cfR_sound TYQok OPR0 Tryz.func127 (by kernel_rfl) rfl (rs:= [.tmp 2]) Tryz.results127 fun l g h hp=>by
 unfold gPut64 at h
 split at h
 ·cases h;exact ⟨Nat.le_of_ble_eq_true rfl,rfl,rfl,rfl,vcPut64 _⟩
 ·cases h
def LR1:List (Nat×CF):=(127,cfA gPut64)::LR0
theorem LR1ok:∀p∈LR1,CSound p.1 p.2:=ctCons put64_sound LR0ok
theorem OPR1:OpsOk TYQ (ctOf LR1):=opsOk TYQok (ctOk LR1ok)
theorem vcPut32 (x:UInt32):vc TYQ (ctOf LR1) Tryz.f76.ntmps (bodyOf Tryz.f76) ⟨mkSl 0 [.one (.ob .u32 x)],[],2000⟩ (retR TYQ Tryz.f76.ntmps [.tmp 2] [.one (.sub 0 4 4)] [(0,.row 5 .u8 (be8 x.toUInt64))]):=by
 have hl:(be8 x.toUInt64).length=8:=by simp [be8,leB_len]
 refine ⟨⟨by decide,by show (4:Int)≤((be8 x.toUInt64).length:Nat);omega⟩,rfl,by show 4=(be8 x.toUInt64).length-4;omega,rfl,trivial⟩
def gPut32:GF:=fun l=>match l with
 | [.one (.ob .u32 x)]=>some ⟨[.one (.sub 0 4 4)],[(0,.row 5 .u8 (be8 x.toUInt64))],none⟩
 |_=>none
theorem put32_sound:CSound 76 (cfA gPut32):=cfR_sound TYQok OPR1 Tryz.func76 (by kernel_rfl) rfl (rs:= [.tmp 2]) Tryz.results76 fun l g h hp=>by
 unfold gPut32 at h
 split at h
 ·cases h;exact ⟨Nat.le_of_ble_eq_true rfl,rfl,rfl,rfl,vcPut32 _⟩
 ·cases h
theorem gb_take {l:List UInt8} (h:8≤l.length):gb l 8=beW (l.take 8):=by
 have:=gb_eq l 8 (by omega) h
 exact UInt64.toNat_inj.1 (by rw [this.1,beW,UInt64.toNat_ofNat',Nat.mod_eq_of_lt this.2])
theorem gb_word {b:List UInt8} (hb:128≤b.length) {i:Nat} (hi:i<16):gb (b.drop (8*(i:Int)).toNat) 8=at0 (wL (words b) 80) i:=by
 rw [show (8*(i:Int)).toNat=8*i by omega,gb_take (by rw [List.length_drop];omega),wL_lo _ hi]
 unfold at0 words
 rw [rangeMap_getD (by omega)]
abbrev mwT (b:List UInt8) (i:Nat):List UInt64:=mapI 0 80 (at0 (wL (words b) 80)) (List.replicate 80 0) i
set_option maxHeartbeats 4000000 in
theorem vcTurn (h:List UInt64) (b:List UInt8) (hh:h.length=8) (hb:128≤b.length) (hb2:b.length≤16777216):vc TYQ (ctOf LR1) Tryz.f183.ntmps (bodyOf Tryz.f183) ⟨mkSl 0 [.agg [.vec .u64 8 h],.one (.ro .u8 b)],[],2000⟩ (retR TYQ Tryz.f183.ntmps [.cell 4 188] [.agg [.vec .u64 8 (turn h (words b))]] []):=by
 refine Or.inr ⟨{i:Nat // i≤80},fun i=>⟨[(22,.one (.ob .int (i.val:Int)))],[(2032,.blk 186 [.vec .u64 80 (mwT b i.val)])]⟩,fun i=>80-i.val,⟨0,by omega⟩,?_⟩
 refine ⟨rfl,rfl,mapI_0 (by simp),fun i=>⟨fun h1=>⟨fun h2=> ?_,fun h2=> ?_⟩,fun h1=> ?_⟩⟩
 ·have h1:=of_decide_eq_true h1
  have h2:=of_decide_eq_true h2
  have hi:=i.2
  repeat refine sd ?_
  refine sj ⟨i.val+1,by omega⟩<|sr<|sr ⟨?_,trivial⟩
  exact ((congrArg (fun z=>(mwT b i.val).set i.val z) (gb_word hb (by omega))).trans mapI_set).symm
 ·have h1:=of_decide_eq_true h1
  have h2:=of_decide_eq_false h2
  have hi:=i.2
  have k:=fun m (h0:0<m) (hm:m≤16)=>show (mwT b i.val).getD (Int.toNat ((i.val:Int)-(m:Nat))) 0=at0 (wL (words b) 80) (i.val-m) by rw [show Int.toNat ((i.val:Int)-(m:Nat))=i.val-m by omega,mapI_get (by omega),if_pos (by omega)]
  repeat refine sd ?_
  refine sj ⟨i.val+1,by omega⟩<|sr<|sr ⟨?_,trivial⟩
  refine ((congrArg (fun z=>(mwT b i.val).set i.val z) ?_).trans mapI_set).symm
  rw [wL_hi _ (by omega) (by omega),←k 16 (by omega) (by omega),←k 15 (by omega) (by omega),←k 7 (by omega) (by omega),←k 2 (by omega) (by omega)]
  rfl
 ·have h1:=of_decide_eq_false h1
  have hi:=i.2
  rw [show i.val=80 by omega,show mwT b 80=wL (words b) 80 from (mapI_end (by omega)).trans (range_getD (wL_len _ _))]
  refine Or.inr ⟨{t:Nat // t≤80},fun t=>⟨[(75,.one (.ob .int (t.val:Int)))],[(3144,.blk 188 [.vec .u64 8 (rL h (wL (words b) 80) t.val)])]⟩,fun t=>80-t.val,⟨0,by omega⟩,?_⟩
  refine ⟨rfl,rfl,rfl,fun t=>⟨fun h1=> ?_,fun h1=> ?_⟩⟩
  ·have h1:=of_decide_eq_true h1
   have ht:=t.2
   repeat refine sd ?_
   refine sj ⟨t.val+1,by omega⟩<|sr<|sr ⟨?_,trivial⟩
   rfl
  have h1:=of_decide_eq_false h1
  have ht:=t.2
  rw [show t.val=80 by omega]
  refine Or.inr ⟨{t:Nat // t≤8},fun t=>⟨[(157,.one (.ob .int (t.val:Int)))],[(2000,.blk 188 [.vec .u64 8 (mapI 0 8 (fun j=>up (at0 h j) (at0 (rL h (wL (words b) 80) 80) j)) h t.val)])]⟩,fun t=>8-t.val,⟨0,by omega⟩,?_⟩
  refine ⟨rfl,rfl,mapI_0 hh,fun t=>⟨fun h1=> ?_,fun h1=> ?_⟩⟩
  ·have h1:=of_decide_eq_true h1
   have ht:=t.2
   repeat refine sd ?_
   refine sj ⟨t.val+1,by omega⟩<|sr<|sr ⟨?_,trivial⟩
   refine (congrArg (fun z=>(mapI 0 8 (fun j=>up (at0 h j) (at0 (rL h (wL (words b) 80) 80) j)) h t.val).set t.val z) ?_).trans mapI_set |>.symm
   show up ((mapI 0 8 _ h t.val).getD t.val 0) _=_
   rw [mapI_get (by omega),if_neg (by omega)]
   rfl
  have h1:=of_decide_eq_false h1
  have ht:=t.2
  rw [show t.val=8 by omega,mapI_end (by omega)]
  exact ⟨rfl,rfl,trivial⟩
def gTurn:GF:=fun l=>match l with
 | [.agg [.vec .u64 8 h],.one (.ro .u8 b)]=>some ⟨[.agg [.vec .u64 8 (turn h (words b))]],[],some (h.length=8∧128≤b.length∧b.length≤16777216)⟩
 |_=>none
theorem pturn_sound:CSound 183 (cfA gTurn):=cfR_sound TYQok OPR1 Tryz.func183 (by kernel_rfl) rfl (rs:= [.cell 4 188]) Tryz.results183 fun l g h hp=>by
 unfold gTurn at h
 split at h
 ·cases h;exact ⟨Nat.le_of_ble_eq_true rfl,rfl,rfl,rfl,vcTurn _ _ hp.1 hp.2.1 hp.2.2⟩
 ·cases h
set_option maxRecDepth 10000
theorem padP_eq (b:List UInt8):b++ [UInt8.ofNat 128]++List.replicate ((2*128-128/8-((b++ [UInt8.ofNat 128]).length:Int)%128)%128).toNat 0++List.replicate ((128:Int)/8-8).toNat 0++be8 (UInt64.ofNat 8*UInt64.ofNat b.length)=padB b:=by
 have e1:((2*128-128/8-((b++ [UInt8.ofNat 128]).length:Int)%128)%128).toNat=(240-(b.length+1)%128)%128:=by
  rw [List.length_append,List.length_singleton]
  omega
 have e2:UInt64.ofNat 8*UInt64.ofNat b.length=UInt64.ofNat (8*b.length):=by
  refine UInt64.toNat_inj.1 ?_
  rw [UInt64.toNat_mul,UInt64.toNat_ofNat',UInt64.toNat_ofNat',UInt64.toNat_ofNat']
  omega
 rw [e1,e2,show ((128:Int)/8-8).toNat=8 from rfl]
 simp only [padB,List.append_assoc,List.singleton_append,List.cons_append]
 rfl
theorem vcPad (b:List UInt8) (hb:b.length≤8388608):vc TYQ (ctOf LR1) Tryz.f182.ntmps (bodyOf Tryz.f182) ⟨mkSl 0 [.one (.ro .u8 b),.one (.ob .u64 (UInt64.ofNat b.length)),.one (.ob .int 128)],[],2000⟩ (retR TYQ Tryz.f182.ntmps [.tmp 6] [.one (.rw 0)] [(0,.row 5 .u8 (padB b))]):=by
 have hl:(b++ [UInt8.ofNat 128]).length=b.length+1:=by rw [List.length_append];rfl
 have hp:=bpad_len b
 refine ⟨by show b.length≤16777216;omega,by show (b++ [UInt8.ofNat 128]).length≤_;omega,?_⟩
 repeat refine sd ?_
 refine fun _=> ?_
 repeat refine sd ?_
 exact ⟨Nat.le_trans (Nat.le_of_eq (congrArg List.length (padP_eq b))) (by omega),(padP_eq b).symm,trivial⟩
def gPad:GF:=fun l=>match l with
 | [.one (.ro .u8 b),.one (.ob .u64 n),.one (.ob .int k)]=>some ⟨[.one (.rw 0)],[(0,.row 5 .u8 (padB b))],some (n=UInt64.ofNat b.length∧k=(128:Int)∧b.length≤8388608)⟩
 |_=>none
theorem pad_sound:CSound 182 (cfA gPad):=cfR_sound TYQok OPR1 Tryz.func182 (by kernel_rfl) rfl (rs:= [.tmp 6]) Tryz.results182 fun l g h hp=>by
 unfold gPad at h
 split at h
 ·rename_i b n k
  cases h
  obtain ⟨h1,h2,h3⟩:=hp
  subst h1 h2
  exact ⟨Nat.le_of_ble_eq_true rfl,rfl,rfl,rfl,vcPad _ h3⟩
 ·cases h
def LR2:List (Nat×CF):=(182,cfA gPad)::(183,cfA gTurn)::LR1
theorem LR2ok:∀p∈LR2,CSound p.1 p.2:=ctCons pad_sound<|ctCons pturn_sound LR1ok
theorem OPR2:OpsOk TYQ (ctOf LR2):=opsOk TYQok (ctOk LR2ok)
set_option maxHeartbeats 1000000 in
theorem vcPSum (q:List (List UInt8)) (hq:q.flatten.length≤8388608):vc TYQ (ctOf LR2) Tryz.f120.ntmps (bodyOf Tryz.f120) ⟨mkSl 0 [.one (.bb q)],[],2000⟩ (retR TYQ Tryz.f120.ntmps [.tmp 2] [.one (.rw 0)] [(0,.row 5 .u8 (sha512 q.flatten))]):=by
 have hp:=bpad_len q.flatten
 refine ⟨by show q.flatten.length≤16777216;omega,Int.natCast_nonneg _,⟨rfl,rfl,hq⟩,fun _=> ?_⟩
 generalize q.flatten=m at hq hp ⊢
 refine Or.inr ⟨{i:Nat // 128*i≤(padB m).length},fun i=>⟨[(5,.one (.ro .u8 ((padB m).drop (128*i.val))))],[(2080,.blk 188 [.vec .u64 8 (hSt (padB m) i.val)])]⟩,fun i=>8388864-i.val,⟨0,by omega⟩,?_⟩
 refine ⟨rfl,rfl,rfl,fun i hl2=>⟨fun h1=> ?_,fun h1=> ?_⟩⟩
 ·have h1:=of_decide_eq_true h1
  have hi:=i.2
  obtain ⟨i,hi0⟩:=i
  dsimp only at hi h1 ⊢
  have hd:((padB m).drop (128*i)).length=(padB m).length-128*i:=List.length_drop
  rw [hd] at h1
  have hl64:128*i+128≤(padB m).length:=by rw [hp] at h1 ⊢;omega
  refine ⟨⟨hSt_len _ _,by rw [hd];omega,by rw [hd];omega⟩,?_⟩
  refine ⟨⟨by decide,by show (128:Int)≤(((padB m).drop (128*i)).length:Nat);rw [hd];omega⟩,⟨i+1,by omega⟩,(by show 8388864-(i+1)<8388864-i;omega),?_,rfl,rfl,trivial⟩
  show (padB m).drop (128*(i+1))=((padB m).drop (128*i)).drop 128
  rw [List.drop_drop]
  rfl
 have h1:=of_decide_eq_false h1
 have hi:=i.2
 have hd:((padB m).drop (128*i.val)).length=(padB m).length-128*i.val:=List.length_drop
 rw [hd] at h1
 rw [show i.val=(padB m).length/128 by omega]
 refine Or.inr ⟨{t:Nat // t≤8},fun t=>⟨[(25,.one (.ob .int (t.val:Int))),(2,.one (.rw 0))],[(0,.row 5 .u8 (out512 m t.val))]⟩,fun t=>8-t.val,⟨0,by omega⟩,?_⟩
 refine ⟨rfl,rfl,fun t=>⟨fun h1=> ?_,fun h1=> ?_⟩⟩
 ·have h1:=of_decide_eq_true h1
  have ht:=t.2
  repeat refine sd ?_
  have e4:out512 m (t.val+1)=out512 m t.val++be8 ((hSt (padB m) ((padB m).length/128)).getD t.val 0):=range_flat _ _
  refine ⟨?_,sd<|sj ⟨t.val+1,by omega⟩<|sr ⟨e4,trivial⟩⟩
  have:=out512_len m (t.val+1)
  show (out512 m t.val++be8 ((hSt (padB m) ((padB m).length/128)).getD t.val 0)).length≤_
  rw [←e4];omega
 have h1:=of_decide_eq_false h1
 have ht:=t.2
 refine ⟨?_,trivial⟩
 show sha512 m=out512 m t.val
 rw [show t.val=8 by omega]
 rfl
def gPSum:GF:=fun l=>match l with
 | [.one (.bb q)]=>some ⟨[.one (.rw 0)],[(0,.row 5 .u8 (sha512 q.flatten))],some (q.flatten.length≤8388608)⟩
 |_=>none
theorem psum_sound:CSound 120 (cfA gPSum):=cfR_sound TYQok OPR2 Tryz.func120 (by kernel_rfl) rfl (rs:= [.tmp 2]) Tryz.results120 fun l g h hp=>by
 unfold gPSum at h
 split at h
 ·cases h;exact ⟨Nat.le_of_ble_eq_true rfl,rfl,rfl,rfl,vcPSum _ hp⟩
 ·cases h
set_option maxRecDepth 10000
theorem bmul_32 (w:World):Calls Tryz.prog 185 #[.int .u64 1,.int .u64 32] w fun e w'=>e= .returned (.tuple #[.int .u64 0,.int .u64 32])∧w=w':=by
 have h:=mul64_any (x:=1) (y:=32) ⟨by omega,by omega⟩ ⟨by omega,by omega⟩ w
 rw [show (1:Int)*32/18446744073709551616=0 by omega,show (1:Int)*32%18446744073709551616=32 by omega] at h
 go_enter Tryz.func185,Tryz.ntmps185
 go_wp2_with (go_at_call 206;go_must (refine h.mono ?_;rintro e w1 ⟨rfl,rfl⟩))
 go_ret2
 exact ⟨rfl,rfl⟩
def gMulU:GF:=fun l=>match l with
 | [.one (.ob .u64 a),.one (.ob .u64 b)]=>some ⟨[.one (.ob .u64 0),.one (.ob .u64 32)],[],some (a=UInt64.ofNat 1∧b=UInt64.ofNat 32)⟩
 |_=>none
theorem mulU_sound:CSound 185 (cfA gMulU):=cfV_sound Tryz.func185 (by kernel_rfl) rfl fun l g h hp=>by
 unfold gMulU at h
 split at h
 ·rename_i a b
  cases h
  obtain ⟨rfl,rfl⟩:=hp
  refine ⟨rfl,rfl,fun η w vs ⟨v1,t,e1,h1,v2,t2,e2,h2,e3⟩=> ?_⟩
  subst e3 e2 e1
  cases List.singleton_inj.1 (show [v1]= [_] from h1)
  cases List.singleton_inj.1 (show [v2]= [_] from h2)
  exact (bmul_32 w).mono fun e w' ⟨he,hb⟩=>⟨_,he,by subst hb;exact Below.refl _ _,fun _ _=>⟨_,rfl,_,_,rfl,rfl,_,_,rfl,rfl,rfl⟩⟩
 ·cases h
def LT1:List (Nat×CF):= [(185,cfA gMulU)]
theorem LT1ok:∀p∈LT1,CSound p.1 p.2:=ctCons mulU_sound fun p hp=>by cases hp
theorem OPT1:OpsOk TYQ (ctOf LT1):=opsOk TYQok (ctOk LT1ok)
def rep5 (i:Nat):List UInt8:=List.replicate (2^i) 102++List.replicate (32-2^i) 0
theorem vcRepeat:vc TYQ (ctOf LT1) Tryz.f122.ntmps (bodyOf Tryz.f122) ⟨mkSl 0 [.one (.ro .u8 [102]),.one (.ob .int 32)],[],2000⟩ (retR TYQ Tryz.f122.ntmps [.tmp 4] [.one (.rw 0)] [(0,.row 5 .u8 (List.replicate 32 102))]):=by
 refine ⟨fun h=>(by cases h),fun _=> ?_⟩
 refine sd (hp:=Int.natCast_nonneg _)<|sd (hp:=(by decide))<|sd (hp:=⟨rfl,rfl⟩)<|fun _=> ?_
 refine ⟨fun h=>absurd (of_decide_eq_true h) (by decide),fun h=>⟨h,fun h2=>absurd (of_decide_eq_true h2) (by decide),fun _=> ?_⟩⟩
 refine ⟨by decide,⟨by decide,rfl,by decide⟩,?_⟩
 refine Or.inr ⟨Fin 6,fun i=>⟨[(8,.one (.ob .int ((2^i.val:Nat):Int)))],[(2352,.row 5 .u8 (rep5 i.val))]⟩,fun i=>5-i.val,0,?_⟩
 refine ⟨by rfl,by rfl,fun i=> ?_⟩
 have hc:i=0∨i=1∨i=2∨i=3∨i=4∨i=5:=by revert i;decide
 rcases hc with rfl|rfl|rfl|rfl|rfl|rfl
 ·exact fun _=>⟨fun _=>⟨⟨by decide,by decide⟩,⟨⟨by decide,by decide⟩,trivial⟩,⟨by decide,by decide⟩,1,by decide,by rfl,by rfl,trivial⟩,fun h=>absurd (by decide) (of_decide_eq_false h)⟩
 ·exact fun _=>⟨fun _=>⟨⟨by decide,by decide⟩,⟨⟨by decide,by decide⟩,trivial⟩,⟨by decide,by decide⟩,2,by decide,by rfl,by rfl,trivial⟩,fun h=>absurd (by decide) (of_decide_eq_false h)⟩
 ·exact fun _=>⟨fun _=>⟨⟨by decide,by decide⟩,⟨⟨by decide,by decide⟩,trivial⟩,⟨by decide,by decide⟩,3,by decide,by rfl,by rfl,trivial⟩,fun h=>absurd (by decide) (of_decide_eq_false h)⟩
 ·exact fun _=>⟨fun _=>⟨⟨by decide,by decide⟩,⟨⟨by decide,by decide⟩,trivial⟩,⟨by decide,by decide⟩,4,by decide,by rfl,by rfl,trivial⟩,fun h=>absurd (by decide) (of_decide_eq_false h)⟩
 ·exact fun _=>⟨fun _=>⟨⟨by decide,by decide⟩,⟨⟨by decide,by decide⟩,trivial⟩,⟨by decide,by decide⟩,5,by decide,by rfl,by rfl,trivial⟩,fun h=>absurd (by decide) (of_decide_eq_false h)⟩
 ·exact fun _=>⟨fun h=>absurd (of_decide_eq_true h) (by decide),fun _=>⟨by rfl,trivial⟩⟩
def gRepeat:GF:=fun l=>match l with
 | [.one (.ro .u8 q),.one (.ob .int n)]=>some ⟨[.one (.rw 0)],[(0,.row 5 .u8 (List.replicate 32 102))],some (q= [102]∧n=(32:Int))⟩
 |_=>none
theorem repeat_sound:CSound 122 (cfA gRepeat):=cfR_sound TYQok OPT1 Tryz.func122 (by kernel_rfl) rfl (rs:= [.tmp 4]) Tryz.results122 fun l g h hp=>by
 unfold gRepeat at h
 split at h
 ·rename_i q n
  cases h
  obtain ⟨rfl,h2⟩:=hp
  subst h2
  exact ⟨Nat.le_of_ble_eq_true rfl,rfl,rfl,rfl,vcRepeat⟩
 ·cases h
def LQ5:List (Nat×CF):=(67,cfA gDec4)::(122,cfA gRepeat)::(120,cfA gPSum)::LQ4
theorem LQ5ok:∀p∈LQ5,CSound p.1 p.2:=ctCons dec4_sound<|ctCons repeat_sound<|ctCons psum_sound LQ4ok
theorem OPQ5:OpsOk TYQ (ctOf LQ5):=opsOk TYQok (ctOk LQ5ok)
theorem dec4_enc (P:EP):dec4 (encP P)=pt4 P.x P.y∧decC (encP P)=0:=by
 obtain ⟨h1,h2⟩:=dec_enc P
 exact ⟨by rw [dec4,if_pos h2,h1],h2⟩
theorem vcBase4:vc TYQ (ctOf LQ5) Tryz.f72.ntmps (bodyOf Tryz.f72) ⟨mkSl 0 [],[],2000⟩ (retR TYQ Tryz.f72.ntmps [.cell 0 116] [(pt4 base.x base.y).av] []):=by
 have e:dec4 ((List.replicate 32 102).set 0 88)=pt4 base.x base.y:=by
  rw [←(dec4_enc base).1,base_enc]
  rfl
 refine ⟨⟨rfl,rfl⟩,by show (0:Nat)<32;decide,by show (0:Nat)<32;decide,⟨rfl,congrArg (fun q:Q4=> [q.x]) e.symm⟩,⟨rfl,congrArg (fun q:Q4=> [q.y]) e.symm⟩,⟨rfl,congrArg (fun q:Q4=> [q.z]) e.symm⟩,⟨rfl,congrArg (fun q:Q4=> [q.t]) e.symm⟩,trivial⟩
def gBase4:GF:=fun l=>match l with
 | []=>some ⟨[(pt4 base.x base.y).av],[],none⟩
 |_=>none
theorem base4_sound:CSound 72 (cfA gBase4):=cfR_sound TYQok OPQ5 Tryz.func72 (by kernel_rfl) rfl (rs:= [.cell 0 116]) Tryz.results72 fun l g h hp=>by
 unfold gBase4 at h
 split at h
 ·cases h;exact ⟨Nat.le_of_ble_eq_true rfl,rfl,rfl,rfl,vcBase4⟩
 ·cases h
theorem vcTimes8 (q:Q4):vc TYQ (ctOf LQ5) Tryz.f117.ntmps (bodyOf Tryz.f117) ⟨mkSl 0 [q.av,.one (.ob .int 8)],[],2000⟩ (retR TYQ Tryz.f117.ntmps [.cell 4 116] [(mul4 dE2 (rdy4 q) 8 253).av] []):=by
 have e:sWide (leB 8 (UInt64.ofNat (8:Int).toNat).toNat)=8:=by decide +kernel
 have e2:mul4 dE2 (rdy4 q) 8 253=mul4 dE2 (rdy4 ⟨q.x,q.y,q.z,q.t⟩) (sWide (leB 8 (UInt64.ofNat (8:Int).toNat).toNat)) 253:=by rw [e]
 refine ⟨fun h=>absurd (of_decide_eq_true h) (by decide),fun h=>⟨h,fun h2=>absurd (of_decide_eq_true h2) (by decide),fun _=>⟨by decide,⟨rfl,congrArg (fun q:Q4=> [q.x]) e2⟩,⟨rfl,congrArg (fun q:Q4=> [q.y]) e2⟩,⟨rfl,congrArg (fun q:Q4=> [q.z]) e2⟩,⟨rfl,congrArg (fun q:Q4=> [q.t]) e2⟩,trivial⟩⟩⟩
def gTimes8:GF:=fun l=>match l with
 | [.agg [.ob (.x 4) x,.ob (.x 4) y,.ob (.x 4) z,.ob (.x 4) t],.one (.ob .int k)]=>some ⟨[(mul4 dE2 (rdy4 ⟨x,y,z,t⟩) 8 253).av],[],some (k=(8:Int))⟩
 |_=>none
theorem times8_sound:CSound 117 (cfA gTimes8):=cfR_sound TYQok OPQ5 Tryz.func117 (by kernel_rfl) rfl (rs:= [.cell 4 116]) Tryz.results117 fun l g h hp=>by
 unfold gTimes8 at h
 split at h
 ·cases h
  cases (show _=(8:Int) from hp)
  exact ⟨Nat.le_of_ble_eq_true rfl,rfl,rfl,rfl,vcTimes8 ⟨_,_,_,_⟩⟩
 ·cases h
theorem vcHash (q:List (List UInt8)) (hq:q.flatten.length≤8388608):vc TYQ (ctOf LQ5) Tryz.f70.ntmps (bodyOf Tryz.f70) ⟨mkSl 0 [.one (.bb q)],[],2000⟩ (retR TYQ Tryz.f70.ntmps [.cell 2 121] [.agg [.ob (.x 2) (sWide (sha512 q.flatten))]] []):=⟨hq,⟨rfl,rfl⟩,trivial⟩
def gHash:GF:=fun l=>match l with
 | [.one (.bb q)]=>some ⟨[.agg [.ob (.x 2) (sWide (sha512 q.flatten))]],[],some (q.flatten.length≤8388608)⟩
 |_=>none
theorem hash_sound:CSound 70 (cfA gHash):=cfR_sound TYQok OPQ5 Tryz.func70 (by kernel_rfl) rfl (rs:= [.cell 2 121]) Tryz.results70 fun l g h hp=>by
 unfold gHash at h
 split at h
 ·cases h;exact ⟨Nat.le_of_ble_eq_true rfl,rfl,rfl,rfl,vcHash _ hp⟩
 ·cases h
def LQ6:List (Nat×CF):=(70,cfA gHash)::(72,cfA gBase4)::(117,cfA gTimes8)::LQ5
theorem LQ6ok:∀p∈LQ6,CSound p.1 p.2:=ctCons hash_sound<|ctCons base4_sound<|ctCons times8_sound LQ5ok
theorem OPQ6:OpsOk TYQ (ctOf LQ6):=opsOk TYQok (ctOk LQ6ok)
def small4 (q:Q4):Bool:=same4 (rdy4 (mul4 dE2 (rdy4 q) 8 253)) (rdy4 nil4)
theorem vcSmall4 (q:Q4):vc TYQ (ctOf LQ6) Tryz.f68.ntmps (bodyOf Tryz.f68) ⟨mkSl 0 [q.av],[],2000⟩ (retR TYQ Tryz.f68.ntmps [.tmp 2] [.one (.ob .bool (small4 q))] []):=⟨rfl,rfl,trivial⟩
def gSmall4:GF:=fun l=>match l with
 | [.agg [.ob (.x 4) x,.ob (.x 4) y,.ob (.x 4) z,.ob (.x 4) t]]=>some ⟨[.one (.ob .bool (small4 ⟨x,y,z,t⟩))],[],none⟩
 |_=>none
theorem small4_sound:CSound 68 (cfA gSmall4):=cfR_sound TYQok OPQ6 Tryz.func68 (by kernel_rfl) rfl (rs:= [.tmp 2]) Tryz.results68 fun l g h hp=>by
 unfold gSmall4 at h
 split at h
 ·cases h;exact ⟨Nat.le_of_ble_eq_true rfl,rfl,rfl,rfl,vcSmall4 ⟨_,_,_,_⟩⟩
 ·cases h
set_option maxRecDepth 10000
def xg (y:F):F:=xMul (xSub (xMul y y) (fn (UInt64.ofNat 1).toNat)) (finv (xAdd (xMul dE (xMul y y)) (fn (UInt64.ofNat 1).toNat)))
theorem xg_eq (y:F):xg y=xx y:=by
 show (y*y-fn 1)*finv (dE*(y*y)+fn 1)=(y*y-1)*finv (y*y*dE+1)
 rw [F1,show dE*(y*y)=y*y*dE by generalize dE=d;grind]
theorem dec_zero {b:List UInt8} (h:decV b=Cp.zero∧decC b=12):dec3 b=zero3∧decC b=12:=by
 refine ⟨?_,h.2⟩
 unfold dec3
 rw [h.1,F1]
 show (⟨0,1,1⟩:Q3)=⟨0,fn 1,fn 1⟩
 rw [F1]
theorem odd_7 (c:UInt8):(r8 c 7=UInt8.ofNat 1)↔(c.toNat/128%2 ==1)=true:=by
 have h:∀c:Nat,c<256→(decide (r8 (UInt8.ofNat c) 7=UInt8.ofNat 1))=(c/128%2 ==1):=by decide +kernel
 have:=h c.toNat c.toNat_lt
 rw [UInt8.ofNat_toNat] at this
 rw [←this,decide_eq_true_iff]
theorem dec_t {b:List UInt8} {y:F} (h1:b.length=32) (h2:lowN b<Pq) (hy:fn (lowN b)=y) (hr:rootC (xx y)=0) (hs:sgn b=true) (hx:¬rootV (xx y)=0):dec3 b=⟨xNeg (rootV (xg y)),y,fn 1⟩∧decC b=0:=by
 obtain ⟨a1,a2,a3⟩:=dec_yes h1 h2 hy hr hs (fun k=>hx k.2)
 refine ⟨?_,a1⟩
 unfold dec3
 rw [a2,a3,xg_eq,if_pos rfl,xNeg]
theorem dec_f {b:List UInt8} {y:F} (h1:b.length=32) (h2:lowN b<Pq) (hy:fn (lowN b)=y) (hr:rootC (xx y)=0) (hs:sgn b=false):dec3 b=⟨rootV (xg y),y,fn 1⟩∧decC b=0:=by
 obtain ⟨a1,a2,a3⟩:=dec_yes h1 h2 hy hr hs (fun k=>by cases k.1)
 refine ⟨?_,a1⟩
 unfold dec3
 rw [a2,a3,xg_eq,if_neg Bool.false_ne_true]
set_option maxHeartbeats 2000000 in
theorem vcDec3 (b:List UInt8):vc TYF (ctOf LF2) Tryz.f96.ntmps (bodyOf Tryz.f96) ⟨mkSl 0 [.one (.ro .u8 b)],[],2000⟩ (retR TYF Tryz.f96.ntmps [.cell 2 145,.tmp 3] [(dec3 b).av,.one (.ob .int (decC b))] []):=by
 refine fun hl=>⟨fun h=> ?_,fun h=> ?_⟩
 ·have h1:b.length≠32:=by have:=of_decide_eq_true h;omega
  obtain ⟨a1,a2⟩:=dec_zero (dec_len h1)
  rw [a1,a2]
  exact ⟨⟨rfl,rfl⟩,⟨rfl,rfl⟩,⟨rfl,rfl⟩,rfl,trivial⟩
 ·have h1:b.length=32:=by have:=of_decide_eq_false h;omega
  clear h
  have h31:31<b.length:=by omega
  obtain ⟨c1,c2⟩:=clr_ok h1
  refine ⟨by show b.length≤_;omega,h31,h31,h31,h31,fun h=> ?_,fun h=> ?_⟩
  ·have h2:¬lowN b<Pq:=fun hlt=>by
    have h:decide (feC (clr b)≠0)=true:=h
    have e:okB (clr b)=true:=decide_eq_true ⟨c1,by rw [c2];exact hlt⟩
    unfold feC at h
    rw [e] at h
    cases h
   obtain ⟨a1,a2⟩:=dec_zero (dec_big h2)
   rw [a1,a2]
   exact ⟨⟨rfl,rfl⟩,⟨rfl,rfl⟩,⟨rfl,rfl⟩,rfl,trivial⟩
  ·have h2:lowN b<Pq:=by
    have h:decide (feC (clr b)≠0)=false:=h
    unfold feC at h
    cases e:okB (clr b) with
    |false=>rw [e] at h;cases h
    |true=>
     have:=of_decide_eq_true e
     rw [←c2];exact this.2
   have hy:fn (lowN b)=feS (clr b):=by
    have e:okB (clr b)=true:=decide_eq_true ⟨c1,by rw [c2];exact h2⟩
    unfold feS
    rw [e,c2]
    rfl
   clear h
   have hs:=sgn_byte h1
   refine ⟨h31,fun h=> ?_,fun h=> ?_⟩
   ·have h3:¬rootC (xx (feS (clr b)))=0:=by
     rw [←xg_eq]
     exact of_decide_eq_true h
    obtain ⟨a1,a2⟩:=dec_zero (dec_root h1 h2 hy h3)
    rw [a1,a2]
    exact ⟨h,⟨rfl,rfl⟩,⟨rfl,rfl⟩,⟨rfl,rfl⟩,rfl,trivial⟩
   ·have h3:rootC (xx (feS (clr b)))=0:=by
     rw [←xg_eq]
     have:=of_decide_eq_false h
     exact Decidable.not_not.1 this
    have hodd:=odd_7 (b.getD 31 0)
    rw [←hs] at hodd
    refine ⟨fun h4=>⟨h,h4,fun h5=> ?_,fun h5=>⟨fun h6=> ?_,fun h6=> ?_⟩⟩,fun h4=>⟨h,h4,fun h5=> ?_,fun h5=> ?_⟩⟩
    ·have h4:rootV (xx (feS (clr b)))=0:=by rw [←xg_eq];exact of_decide_eq_true h4
     obtain ⟨a1,a2⟩:=dec_zero (dec_sgn h1 h2 hy h3 (hodd.1 (of_decide_eq_true h5)) h4)
     rw [a1,a2]
     exact ⟨⟨rfl,rfl⟩,⟨rfl,rfl⟩,⟨rfl,rfl⟩,rfl,trivial⟩
    ·exact absurd (of_decide_eq_true h6) (of_decide_eq_false h5)
    ·have h5:sgn b=false:=by
      cases e:sgn b with
      |false=>rfl
      |true=>exact absurd (hodd.2 e) (of_decide_eq_false h5)
     obtain ⟨a1,a2⟩:=dec_f h1 h2 hy h3 h5
     rw [a1,a2]
     exact ⟨⟨rfl,rfl⟩,⟨rfl,rfl⟩,⟨rfl,rfl⟩,rfl,trivial⟩
    ·have h4:¬rootV (xx (feS (clr b)))=0:=by rw [←xg_eq];exact of_decide_eq_false h4
     obtain ⟨a1,a2⟩:=dec_t h1 h2 hy h3 (hodd.1 (of_decide_eq_true h5)) h4
     rw [a1,a2]
     exact ⟨⟨rfl,rfl⟩,⟨rfl,rfl⟩,⟨rfl,rfl⟩,rfl,trivial⟩
    ·have h5:sgn b=false:=by
      cases e:sgn b with
      |false=>rfl
      |true=>exact absurd (hodd.2 e) (of_decide_eq_false h5)
     obtain ⟨a1,a2⟩:=dec_f h1 h2 hy h3 h5
     rw [a1,a2]
     exact ⟨⟨rfl,rfl⟩,⟨rfl,rfl⟩,⟨rfl,rfl⟩,rfl,trivial⟩
def gDec3:GF:=fun l=>match l with
 | [.one (.ro .u8 b)]=>some ⟨[(dec3 b).av,.one (.ob .int (decC b))],[],none⟩
 |_=>none
theorem dec3_sound:CSound 96 (cfA gDec3):=cfR_sound TYFok OPX2 Tryz.func96 (by kernel_rfl) rfl (rs:= [.cell 2 145,.tmp 3]) Tryz.results96 fun l g h hp=>by
 unfold gDec3 at h
 split at h
 ·cases h;exact ⟨Nat.le_of_ble_eq_true rfl,rfl,rfl,rfl,vcDec3 _⟩
 ·cases h
def LF3:List (Nat×CF):=(88,cfA gMul3)::(89,cfA gEnc3)::(96,cfA gDec3)::LF2
theorem LF3ok:∀p∈LF3,CSound p.1 p.2:=ctCons mul3_sound<|ctCons enc3_sound<|ctCons dec3_sound LF2ok
theorem OPX3:OpsOk TYF (ctOf LF3):=opsOk TYFok (ctOk LF3ok)
theorem vcBasePt:vc TYF (ctOf LF3) Tryz.f87.ntmps (bodyOf Tryz.f87) ⟨mkSl 0 [],[],2000⟩ (retR TYF Tryz.f87.ntmps [.cell 0 145] [.agg [.ob (.x 1) base.x,.ob (.x 1) base.y,.ob (.x 1) (fn 1)]] []):=by
 have h2:fn 5*finv (fn 5)=1:=finv_mul (by decide +kernel)
 have h3:fn 5*baseY=fn 4:=by decide +kernel
 have e:xMul (fn (UInt64.ofNat 4).toNat) (finv (fn (UInt64.ofNat 5).toNat))=baseY:=by
  show fn 4*finv (fn 5)=baseY
  rw [←h3]
  generalize finv (fn 5)=i at h2 ⊢
  generalize (fn 5:F)=w at h2 ⊢
  generalize baseY=d
  grind
 have e2:leB 32 (xMul (fn (UInt64.ofNat 4).toNat) (finv (fn (UInt64.ofNat 5).toNat))).val=encP base:=by
  rw [e]
  decide +kernel
 have e3:=dec_enc base
 have ex:dec3 (leB 32 (xMul (fn (UInt64.ofNat 4).toNat) (finv (fn (UInt64.ofNat 5).toNat))).val)=⟨base.x,base.y,fn 1⟩:=by
  rw [e2]
  unfold dec3
  rw [e3.1]
 exact ⟨⟨rfl,congrArg (fun q:Q3=> [q.x]) ex.symm⟩,⟨rfl,congrArg (fun q:Q3=> [q.y]) ex.symm⟩,⟨rfl,rfl⟩,trivial⟩
def gBasePt:GF:=fun l=>match l with
 | []=>some ⟨[.agg [.ob (.x 1) base.x,.ob (.x 1) base.y,.ob (.x 1) (fn 1)]],[],none⟩
 |_=>none
theorem basept_sound:CSound 87 (cfA gBasePt):=cfR_sound TYFok OPX3 Tryz.func87 (by kernel_rfl) rfl (rs:= [.cell 0 145]) Tryz.results87 fun l g h hp=>by
 unfold gBasePt at h
 split at h
 ·cases h;exact ⟨Nat.le_of_ble_eq_true rfl,rfl,rfl,rfl,vcBasePt⟩
 ·cases h
def LF4:List (Nat×CF):=(87,cfA gBasePt)::LF3
theorem LF4ok:∀p∈LF4,CSound p.1 p.2:=ctCons basept_sound LF3ok
theorem OPX4:OpsOk TYF (ctOf LF4):=opsOk TYFok (ctOk LF4ok)
set_option maxRecDepth 10000
def baseM (n:Nat):Q3:=mul3 dE ⟨base.x,base.y,fn 1⟩ n 256
def encB (n:Nat):List UInt8:=enc2 (xMul (baseM n).x (finv (baseM n).z)) (xMul (baseM n).y (finv (baseM n).z))
theorem encB_eq {n:Nat} (h:n<Lq):encB n=encP (Cp.mul n base):=enc3_ok (mul3_all (q3_ok base) n (Nat.lt_trans h (by decide +kernel)))
theorem vcPublic (seed:List UInt8) (hs:seed.length≤8388608):vc TYF (ctOf LF4) Tryz.f82.ntmps (bodyOf Tryz.f82) ⟨mkSl 0 [.one (.ro .u8 seed)],[],2000⟩ (retR TYF Tryz.f82.ntmps [.tmp 2] [.one (.rw 0)] [(0,.row 5 .u8 (qPub seed))]):=by
 have hl:=sha512_len seed
 refine ⟨hs,⟨⟨by decide,by show (32:Int)≤((sha512 seed).length:Nat);omega⟩,trivial⟩,?_,trivial⟩
 show qPub seed=encB (qA seed)
 rw [encB_eq (qA_lt seed)]
 rfl
def gPublic:GF:=fun l=>match l with
 | [.one (.ro .u8 seed)]=>some ⟨[.one (.rw 0)],[(0,.row 5 .u8 (qPub seed))],some (seed.length≤8388608)⟩
 |_=>none
theorem public_sound:CSound 82 (cfA gPublic):=cfR_sound TYFok OPX4 Tryz.func82 (by kernel_rfl) rfl (rs:= [.tmp 2]) Tryz.results82 fun l g h hp=>by
 unfold gPublic at h
 split at h
 ·cases h;exact ⟨Nat.le_of_ble_eq_true rfl,rfl,rfl,rfl,vcPublic _ hp⟩
 ·cases h
theorem enc2_len (x y:F):(enc2 x y).length=32:=by
 unfold enc2
 split
 ·rw [List.length_set,leB_len]
 ·exact leB_len _ _
theorem cat2 (a b:List UInt8): [a,b].flatten=a++b:=by simp
theorem cat3 (a b c:List UInt8): [a,b,c].flatten=a++(b++c):=by simp
theorem vcSign (seed text:List UInt8) (hs:seed.length≤8388608) (ht:text.length≤8388000):vc TYF (ctOf LF4) Tryz.f55.ntmps (bodyOf Tryz.f55) ⟨mkSl 0 [.one (.ro .u8 seed),.one (.ro .u8 text)],[],2000⟩ (retR TYF Tryz.f55.ntmps [.tmp 4] [.one (.rw 0)] [(0,.row 5 .u8 (qSign seed text))]):=by
 have hl:=sha512_len seed
 have hl1:(32:Int)≤((sha512 seed).length:Nat):=by omega
 obtain ⟨T,eT⟩:∃T,T=((sha512 seed).drop 32).take ((sha512 seed).length-32):=⟨_,rfl⟩
 have hT:T=qP seed:=by rw [eT,List.take_of_length_le (by rw [List.length_drop];omega)];rfl
 have hT2:T.length=32:=by rw [hT,qP,List.length_drop];omega
 have h2: [T,text].flatten.length≤8388608:=by rw [cat2,List.length_append];omega
 have h3:∀n m,[encB n,encB m,text].flatten.length≤8388608:=fun n m=>by
  have e1:(encB n).length=32:=enc2_len _ _
  have e2:(encB m).length=32:=enc2_len _ _
  rw [cat3,List.length_append,List.length_append];omega
 have h4:∀n m,[encB n,leB 32 m].flatten.length≤16777216:=fun n m=>by
  have e1:(encB n).length=32:=enc2_len _ _
  rw [cat2,List.length_append,leB_len];omega
 have h5:∀n m,[encB n,encB m,text].flatten.length≤16777216:=fun n m=>Nat.le_trans (h3 n m) (by decide)
 have e1:encB (sWide (sha512 [T,text].flatten))=qR (qP seed) text:=by
  rw [encB_eq (sWide_lt _),cat2,hT]
  rfl
 have e2:encB (qA seed)=qPub seed:=encB_eq (qA_lt seed)
 have eq:qSign seed text= [encB (sWide (sha512 [T,text].flatten)),leB 32 (sAdd (sWide (sha512 [T,text].flatten)) (sMul (sWide (sha512 [encB (sWide (sha512 [T,text].flatten)),encB (qA seed),text].flatten)) (qA seed)))].flatten:=by
  rw [e1,e2,cat2,cat2,cat3,hT]
  rfl
 have n2:2≤1000:=by decide
 have n3:3≤1000:=by decide
 subst eT
 refine ⟨hs,⟨⟨by decide,hl1⟩,trivial⟩,⟨by decide,hl1⟩,⟨n2,Nat.le_trans h2 (by decide)⟩,h2,⟨n3,h5 _ _⟩,h3 _ _,⟨n2,h4 _ _⟩,eq,trivial⟩
def gSign:GF:=fun l=>match l with
 | [.one (.ro .u8 seed),.one (.ro .u8 text)]=>some ⟨[.one (.rw 0)],[(0,.row 5 .u8 (qSign seed text))],some (seed.length≤8388608∧text.length≤8388000)⟩
 |_=>none
theorem sign_sound:CSound 55 (cfA gSign):=cfR_sound TYFok OPX4 Tryz.func55 (by kernel_rfl) rfl (rs:= [.tmp 4]) Tryz.results55 fun l g h hp=>by
 unfold gSign at h
 split at h
 ·cases h;exact ⟨Nat.le_of_ble_eq_true rfl,rfl,rfl,rfl,vcSign _ _ hp.1 hp.2⟩
 ·cases h
set_option maxRecDepth 10000
def LQ7:List (Nat×CF):=(68,cfA gSmall4)::LQ6
theorem LQ7ok:∀p∈LQ7,CSound p.1 p.2:=ctCons small4_sound LQ6ok
theorem OPQ7:OpsOk TYQ (ctOf LQ7):=opsOk TYQok (ctOk LQ7ok)
theorem same4_raw {a b:Q4} {P Q:EP} (h:Ok4 a P) (h':Ok4 b Q):same4 a b=decide (P=Q):=by
 have:=same4_ok h h'
 rwa [rdy4_ok h,rdy4_ok h'] at this
theorem small4_pt (P:EP):small4 (pt4 P.x P.y)=decide (Cp.mul 8 P=Cp.zero):=by
 have h:=mul4_all (pt4_ok P) 8 (by decide +kernel)
 unfold small4
 rw [rdy4_ok h]
 exact same4_raw h nil4_ok
theorem ver4_pt (A R:EP) (s k:Nat) (hs:s<Lq) (hk:k<Lq):same4 (rdy4 (mul4 dE2 (rdy4 (pt4 base.x base.y)) s 253)) (rdy4 (sum4 (rdy4 (pt4 R.x R.y)) (rdy4 (mul4 dE2 (rdy4 (pt4 A.x A.y)) k 253)) dE2))=decide (Cp.mul s base=Cp.add R (Cp.mul k A)):=by
 have h1:=mul4_all (pt4_ok base) s hs
 have h2:=mul4_all (pt4_ok A) k hk
 have h3:=pt4_ok R
 rw [rdy4_ok h3,rdy4_ok h2]
 exact same4_ok h1 (sum4_ok h3 h2)
theorem dec4_pt {b:List UInt8} (h:decC b=0):dec4 b=pt4 (decV b).x (decV b).y:=if_pos h
theorem decC_len {b:List UInt8} (h:decC b=0):b.length=32:=by
 by_cases k:b.length=32
 ·exact k
 ·rw [(dec_len k).2] at h;cases h
theorem scC_0 {b:List UInt8} (h:scC b=0):b.length=32∧leN b<Lq∧scS b=leN b:=by
 cases e:okS b with
 |false=>rw [scC,e] at h;cases h
 |true=>
  obtain ⟨h1,h2⟩:=of_decide_eq_true e
  exact ⟨h1,h2,by rw [scS,e];rfl⟩
theorem scC_1 {b:List UInt8} (hl:b.length=32) (h:scC b≠0):¬leN b<Lq:=fun k=>h (okS_yes ⟨hl,k⟩).2
theorem vcVerify (pub sig:List UInt8) (q:List (List UInt8)) (hq:q.flatten.length≤8388000):vc TYQ (ctOf LQ7) Tryz.f45.ntmps (bodyOf Tryz.f45) ⟨mkSl 0 [.one (.ro .u8 pub),.one (.ro .u8 sig),.one (.bb q)],[],2000⟩ (retR TYQ Tryz.f45.ntmps [.tmp 6] [.one (.ob .int (verC pub sig q.flatten))] []):=by
 refine ⟨fun h1=> ?_,fun h1=> ?_⟩
 ·refine ⟨h1,?_,trivial⟩
  show [verC pub sig q.flatten]= [12]
  rw [verC,if_neg (of_decide_eq_true h1)]
 have c1:decC pub=0:=Decidable.not_not.1 (of_decide_eq_false h1)
 have l1:=decC_len c1
 refine ⟨h1,fun h2=> ?_,fun h2=> ?_⟩
 ·refine ⟨?_,trivial⟩
  show [verC pub sig q.flatten]= [12]
  have h2:small4 (dec4 pub)=true:=h2
  rw [dec4_pt c1,small4_pt] at h2
  rw [verC,if_pos c1,if_pos (of_decide_eq_true h2)]
 have c2:¬Cp.mul 8 (decV pub)=Cp.zero:=by
  have h2:small4 (dec4 pub)=false:=h2
  rw [dec4_pt c1,small4_pt] at h2
  exact of_decide_eq_false h2
 refine fun hl=>⟨fun h3=> ?_,fun h3=> ?_⟩
 ·refine ⟨?_,trivial⟩
  show [verC pub sig q.flatten]= [3]
  have h3:sig.length≠64:=by have:=of_decide_eq_true h3;omega
  rw [verC,if_pos c1,if_neg c2,if_neg h3]
 have c3:sig.length=64:=by have:=of_decide_eq_false h3;omega
 have l2:(sig.take 32).length=32:=by rw [List.length_take];omega
 have l3:(sig.drop 32).length=32:=by rw [List.length_drop];omega
 have s1:(32:Int)≤(sig.length:Nat):=by omega
 refine ⟨⟨⟨by decide,s1⟩,trivial⟩,fun h4=> ?_,fun h4=> ?_⟩
 ·refine ⟨?_,trivial⟩
  show [verC pub sig q.flatten]= [3]
  have h4:¬decC (sig.take 32)=0:=of_decide_eq_true h4
  rw [verC,if_pos c1,if_neg c2,if_pos c3,if_neg h4]
 have c4:decC (sig.take 32)=0:=Decidable.not_not.1 (of_decide_eq_false h4)
 refine ⟨⟨by decide,s1⟩,fun h5=> ?_,fun h5=> ?_⟩
 ·refine ⟨?_,trivial⟩
  show [verC pub sig q.flatten]= [3]
  have h5:¬scC (sig.drop 32)=0:=of_decide_eq_true h5
  rw [verC,if_pos c1,if_neg c2,if_pos c3,if_pos c4,if_neg (scC_1 l3 h5)]
 have c5:scC (sig.drop 32)=0:=Decidable.not_not.1 (of_decide_eq_false h5)
 obtain ⟨_,c6,c7⟩:=scC_0 c5
 have hc: [sig.take 32,pub,q.flatten].flatten.length≤8388608:=by
  rw [cat3,List.length_append,List.length_append];omega
 have key:same4 (rdy4 (mul4 dE2 (rdy4 (pt4 base.x base.y)) (scS (sig.drop 32)) 253)) (rdy4 (sum4 (rdy4 (dec4 (sig.take 32))) (rdy4 (mul4 dE2 (rdy4 (dec4 pub)) (sWide (sha512 [sig.take 32,pub,q.flatten].flatten)) 253)) dE2))=decide (Cp.mul (leN (sig.drop 32)) base=Cp.add (decV (sig.take 32)) (Cp.mul (sWide (sha512 (sig.take 32++(pub++q.flatten)))) (decV pub))):=by
  rw [dec4_pt c4,dec4_pt c1,ver4_pt _ _ _ _ (scS_lt _) (sWide_lt _),c7,cat3]
 refine ⟨⟨⟨by decide,s1⟩,trivial⟩,by show q.flatten.length≤16777216;omega,hc,fun h6=> ?_,fun h6=> ?_⟩
 ·refine ⟨?_,trivial⟩
  show [verC pub sig q.flatten]= [3]
  replace h6:(!same4 (rdy4 (mul4 dE2 (rdy4 (pt4 base.x base.y)) (scS (sig.drop 32)) 253)) (rdy4 (sum4 (rdy4 (dec4 (sig.take 32))) (rdy4 (mul4 dE2 (rdy4 (dec4 pub)) (sWide (sha512 [sig.take 32,pub,q.flatten].flatten)) 253)) dE2)))=true:=h6
  rw [key] at h6
  rw [verC,if_pos c1,if_neg c2,if_pos c3,if_pos c4,if_pos c6,if_neg fun k=>by rw [decide_eq_true k] at h6;cases h6]
 ·refine ⟨?_,trivial⟩
  show [verC pub sig q.flatten]= [0]
  replace h6:(!same4 (rdy4 (mul4 dE2 (rdy4 (pt4 base.x base.y)) (scS (sig.drop 32)) 253)) (rdy4 (sum4 (rdy4 (dec4 (sig.take 32))) (rdy4 (mul4 dE2 (rdy4 (dec4 pub)) (sWide (sha512 [sig.take 32,pub,q.flatten].flatten)) 253)) dE2)))=false:=h6
  rw [key] at h6
  rw [verC,if_pos c1,if_neg c2,if_pos c3,if_pos c4,if_pos c6,if_pos (of_decide_eq_true (by simpa using h6))]
def gVerify:GF:=fun l=>match l with
 | [.one (.ro .u8 pub),.one (.ro .u8 sig),.one (.bb q)]=>some ⟨[.one (.ob .int (verC pub sig q.flatten))],[],some (q.flatten.length≤8388000)⟩
 |_=>none
theorem verify_sound:CSound 45 (cfA gVerify):=cfR_sound TYQok OPQ7 Tryz.func45 (by kernel_rfl) rfl (rs:= [.tmp 6]) Tryz.results45 fun l g h hp=>by
 unfold gVerify at h
 split at h
 ·cases h;exact ⟨Nat.le_of_ble_eq_true rfl,rfl,rfl,rfl,vcVerify _ _ _ hp⟩
 ·cases h
set_option maxRecDepth 10000
theorem OPN0:OpsOk TYQ (ctOf []):=opsOk TYQok (ctOk fun p hp=>by cases hp)
def numB (c:List UInt8) (i:Nat):Nat→Nat
 |0=>0
 |k+1=>numB c i k+bitN c (12*i+k)*2^k
theorem numB_lt (c:List UInt8) (i:Nat):∀k,numB c i k<2^k
 |0=>by simp [numB]
 |k+1=>by
  have h:=numB_lt c i k
  have hb:=bitN_lt c (12*i+k)
  rw [numB,Nat.pow_succ]
  have:bitN c (12*i+k)=0∨bitN c (12*i+k)=1:=by omega
  rcases this with e|e<;>rw [e]<;>omega
theorem numB_or (c:List UInt8) (i k:Nat) (hk:k<12):UInt16.ofNat (numB c i k)|||s16 (r8 (c.getD ((12*i+k)/8) 0) ((12*i+k)%8)&&&1).toUInt16 k=UInt16.ofNat (numB c i (k+1)):=by
 have h:=numB_lt c i k
 have h2:=numB_lt c i (k+1)
 have hb:=bitN_lt c (12*i+k)
 have hp:2^k≤2^11:=Nat.pow_le_pow_right (by omega) (by omega)
 have hp2:2^(k+1)≤2^12:=Nat.pow_le_pow_right (by omega) (by omega)
 refine UInt16.toNat_inj.1 ?_
 rw [UInt16.toNat_or,s16,UInt16.toNat_ofNat',UInt16.toNat_ofNat',UInt16.toNat_ofNat',UInt8.toNat_toUInt16,r8_bit,←bitN]
 rw [Nat.mod_eq_of_lt (show numB c i k<2^16 by omega),Nat.mod_eq_of_lt (show numB c i (k+1)<2^16 by omega),numB]
 have:bitN c (12*i+k)=0∨bitN c (12*i+k)=1:=by omega
 rcases this with e|e
 ·rw [e,Nat.zero_mul,Nat.zero_mod,Nat.or_zero,Nat.add_zero]
 ·rw [e,Nat.one_mul,Nat.mod_eq_of_lt (show 2^k<2^16 by omega),Nat.or_comm]
  have h4:=Nat.shiftLeft_add_eq_or_of_lt h 1
  rw [Nat.shiftLeft_eq,Nat.one_mul] at h4
  omega
def unp (c:List UInt8) (i:Nat):UInt16:=UInt16.ofNat (numB c i 12)
abbrev upI (c:List UInt8) (i:Nat):List UInt16:=mapI 0 256 (unp c) (List.replicate 256 0) i
theorem upI_set0 (c:List UInt8) {i:Nat} (h:i<256):(upI c i).set i (UInt16.ofNat (numB c i 0))=upI c i:=by
 apply List.ext_getElem (by simp)
 intro j h1 h2
 rw [List.getElem_set]
 split
 ·rename_i e
  subst e
  simp only [mapI,List.getElem_map,List.getElem_range]
  rw [if_neg (Nat.lt_irrefl _),List.getD_eq_getElem?_getD,List.getElem?_replicate]
  split<;>rfl
 ·rfl
theorem vcUnpack (b:List UInt8) (hb:384≤b.length):vc TYQ (ctOf []) Tryz.f128.ntmps (bodyOf Tryz.f128) ⟨mkSl 0 [.one (.ob .int 12),.one (.ro .u8 b)],[],2000⟩ (retR TYQ Tryz.f128.ntmps [.cell 4 135] [.agg [.vec .u16 256 ((List.range 256).map (unp b))]] []):=by
 refine Or.inr ⟨{i:Nat // i≤256},fun i=>⟨[(8,.one (.ob .int (i.val:Int)))],[(2000,.blk 135 [.vec .u16 256 (upI b i.val)])]⟩,fun i=>256-i.val,⟨0,by omega⟩,?_⟩
 refine ⟨rfl,rfl,mapI_0 (by simp),fun i=>⟨fun h1=> ?_,fun h1=> ?_⟩⟩
 ·have h1:=of_decide_eq_true h1
  have hi:=i.2
  refine Or.inr ⟨{k:Nat // k≤12},fun k=>⟨[(12,.one (.ob .int (k.val:Int)))],[(2000,.blk 135 [.vec .u16 256 ((upI b i.val).set i.val (UInt16.ofNat (numB b i.val k.val)))])]⟩,fun k=>12-k.val,⟨0,by omega⟩,?_⟩
  refine ⟨rfl,rfl,upI_set0 b (by omega),fun k=>⟨fun h2=> ?_,fun h2=> ?_⟩⟩
  ·have h2:=of_decide_eq_true h2
   have hk:=k.2
   repeat refine sd ?_
   refine sj ⟨k.val+1,by omega⟩<|sr<|sr ⟨?_,trivial⟩
   have e1:((i.val:Int)*12+(k.val:Int))/8=(((12*i.val+k.val)/8:Nat):Int):=by omega
   have e2:((i.val:Int)*12+(k.val:Int))%8=(((12*i.val+k.val)%8:Nat):Int):=by omega
   have e3:((upI b i.val).set i.val (UInt16.ofNat (numB b i.val k.val))).getD (i.val:Int).toNat 0=UInt16.ofNat (numB b i.val k.val):=by
    rw [Int.toNat_natCast,List.getD_eq_getElem?_getD,List.getElem?_set_self (by rw [mapI_len];omega)]
    rfl
   have e4:=numB_or b i.val k.val (by omega)
   show (upI b i.val).set i.val (UInt16.ofNat (numB b i.val (k.val+1)))=((upI b i.val).set i.val (UInt16.ofNat (numB b i.val k.val))).set (i.val:Int).toNat (((upI b i.val).set i.val (UInt16.ofNat (numB b i.val k.val))).getD (i.val:Int).toNat 0|||s16 (r8 (b.getD (((i.val:Int)*12+(k.val:Int))/8).toNat 0) (((i.val:Int)*12+(k.val:Int))%8).toNat&&&1).toUInt16 (k.val:Int).toNat)
   rw [e3,e1,e2,Int.toNat_natCast,Int.toNat_natCast,Int.toNat_natCast,Int.toNat_natCast,e4,List.set_set]
  ·have h2:=of_decide_eq_false h2
   have hk:=k.2
   rw [show k.val=12 by omega]
   repeat refine sd ?_
   exact sj ⟨i.val+1,by omega⟩<|sr<|sr ⟨mapI_set.symm,trivial⟩
 ·have h1:=of_decide_eq_false h1
  have hi:=i.2
  rw [show i.val=256 by omega,show upI b 256=(List.range 256).map (unp b) from mapI_end (by omega)]
  exact ⟨rfl,rfl,trivial⟩
def gUnpack:GF:=fun l=>match l with
 | [.one (.ob .int d),.one (.ro .u8 b)]=>some ⟨[.agg [.vec .u16 256 ((List.range 256).map (unp b))]],[],some (d=(12:Int)∧384≤b.length)⟩
 |_=>none
theorem unpack_sound:CSound 128 (cfA gUnpack):=cfR_sound TYQok OPN0 Tryz.func128 (by kernel_rfl) rfl (rs:= [.cell 4 135]) Tryz.results128 fun l g h hp=>by
 unfold gUnpack at h
 split at h
 ·cases h
  obtain ⟨h1,h2⟩:=hp
  subst h1
  exact ⟨Nat.le_of_ble_eq_true rfl,rfl,rfl,rfl,vcUnpack _ h2⟩
 ·cases h
def mayL (f:List UInt16):Bool:=(List.range 256).all fun i=>decide ((f.getD i 0).toNat<3329)
theorem vcMay (f:List UInt16):vc TYQ (ctOf []) Tryz.f79.ntmps (bodyOf Tryz.f79) ⟨mkSl 0 [.agg [.vec .u16 256 f]],[],2000⟩ (retR TYQ Tryz.f79.ntmps [.tmp 2] [.one (.ob .bool (mayL f))] []):=by
 refine Or.inr ⟨{i:Nat // i≤256∧∀j,j<i→(f.getD j 0).toNat<3329},fun i=>⟨[(6,.one (.ob .int (i.val:Int)))],[]⟩,fun i=>256-i.val,⟨0,by omega,fun j hj=>by omega⟩,?_⟩
 refine ⟨rfl,fun i=>⟨fun h1=> ?_,fun h1=> ?_⟩⟩
 ·have h1:=of_decide_eq_true h1
  obtain ⟨i,hi,hall⟩:=i
  dsimp only at h1 ⊢
  repeat refine sd ?_
  refine ⟨fun h2=> ?_,fun h2=> ?_⟩
  ·have h2:UInt16.ofNat 3329≤f.getD (i:Int).toNat 0:=of_decide_eq_true h2
   refine ⟨?_,trivial⟩
   show [mayL f]= [false]
   refine congrArg (fun z=> [z]) ?_
   unfold mayL
   rw [List.all_eq_false]
   refine ⟨i,List.mem_range.2 (by omega),?_⟩
   have:(3329:Nat)≤(f.getD i 0).toNat:=h2
   simp only [decide_eq_true_eq]
   omega
  ·have h2:¬UInt16.ofNat 3329≤f.getD (i:Int).toNat 0:=of_decide_eq_false h2
   have h3:(f.getD i 0).toNat<3329:=Nat.lt_of_not_le h2
   repeat refine sd ?_
   have hnew:∀j,j<i+1→(f.getD j 0).toNat<3329:=fun j hj=>by
    by_cases e:j<i
    ·exact hall j e
    ·rw [show j=i by omega];exact h3
   exact ⟨⟨i+1,by omega,hnew⟩,(by show 256-(i+1)<256-i;omega),by rfl,trivial⟩
 ·have h1:=of_decide_eq_false h1
  obtain ⟨i,hi,hall⟩:=i
  dsimp only at h1
  refine ⟨?_,trivial⟩
  show [mayL f]= [true]
  refine congrArg (fun z=> [z]) ?_
  unfold mayL
  rw [List.all_eq_true]
  intro j hj
  rw [List.mem_range] at hj
  exact decide_eq_true (hall j (by omega))
def gMay:GF:=fun l=>match l with
 | [.agg [.vec .u16 256 f]]=>some ⟨[.one (.ob .bool (mayL f))],[],none⟩
 |_=>none
theorem may_sound:CSound 79 (cfA gMay):=cfR_sound TYQok OPN0 Tryz.func79 (by kernel_rfl) rfl (rs:= [.tmp 2]) Tryz.results79 fun l g h hp=>by
 unfold gMay at h
 split at h
 ·cases h;exact ⟨Nat.le_of_ble_eq_true rfl,rfl,rfl,rfl,vcMay _⟩
 ·cases h
def LK0:List (Nat×CF):= [(79,cfA gMay),(128,cfA gUnpack)]
theorem LK0ok:∀p∈LK0,CSound p.1 p.2:=ctCons may_sound<|ctCons unpack_sound fun p hp=>by cases hp
theorem OPK0:OpsOk TYQ (ctOf LK0):=opsOk TYQok (ctOk LK0ok)
def poly (b:List UInt8) (i:Nat):List UInt16:=(List.range 256).map (unp (b.drop (384*i)))
theorem lo_ok {n m:Nat} (h:n≤m):loP (some (.lit (Int.ofNat n))) m:=⟨Int.natCast_nonneg _,Int.ofNat_le.2 h⟩
theorem vcRowOf (b:List UInt8) (hb:1152≤b.length):vc TYQ (ctOf LK0) Tryz.f78.ntmps (bodyOf Tryz.f78) ⟨mkSl 0 [.one (.ro .u8 b)],[],2000⟩ (retR TYQ Tryz.f78.ntmps [.cell 2 137] [.agg [.vec .u16 256 (poly b 0),.vec .u16 256 (poly b 1),.vec .u16 256 (poly b 2)]] []):=by
 refine Or.inl ⟨4,?_⟩
 have hd:∀i,(b.drop i).length=b.length-i:=fun i=>List.length_drop
 have hc:∀i,i≤768→384≤(b.drop i).length:=fun i hi=>by rw [hd];omega
 have l1:384≤b.length:=by omega
 have l2:768≤b.length:=by omega
 exact ⟨lo_ok (n:=0) (Nat.zero_le _),⟨rfl,hc 0 (by omega)⟩,lo_ok (n:=384) l1,⟨rfl,hc 384 (by omega)⟩,lo_ok (n:=768) l2,⟨rfl,hc 768 (by omega)⟩,rfl,rfl,rfl,rfl,rfl,rfl,trivial⟩
def gRowOf:GF:=fun l=>match l with
 | [.one (.ro .u8 b)]=>some ⟨[.agg [.vec .u16 256 (poly b 0),.vec .u16 256 (poly b 1),.vec .u16 256 (poly b 2)]],[],some (1152≤b.length)⟩
 |_=>none
theorem rowof_sound:CSound 78 (cfA gRowOf):=cfR_sound TYQok OPK0 Tryz.func78 (by kernel_rfl) rfl (rs:= [.cell 2 137]) Tryz.results78 fun l g h hp=>by
 unfold gRowOf at h
 split at h
 ·cases h;exact ⟨Nat.le_of_ble_eq_true rfl,rfl,rfl,rfl,vcRowOf _ hp⟩
 ·cases h
def LK1:List (Nat×CF):=(78,cfA gRowOf)::LK0
theorem LK1ok:∀p∈LK1,CSound p.1 p.2:=ctCons rowof_sound LK0ok
theorem OPK1:OpsOk TYQ (ctOf LK1):=opsOk TYQok (ctOk LK1ok)
def ckP (b:List UInt8):Int:=if b.length=1184 then (if mayL (poly b 0)=true then (if mayL (poly b 1)=true then (if mayL (poly b 2)=true then 0 else 2) else 2) else 2) else 1
theorem vcCheck (b:List UInt8):vc TYQ (ctOf LK1) Tryz.f48.ntmps (bodyOf Tryz.f48) ⟨mkSl 0 [.one (.ro .u8 b)],[],2000⟩ (retR TYQ Tryz.f48.ntmps [.tmp 2] [.one (.ob .int (ckP b))] []):=by
 refine fun _=>⟨fun h=> ?_,fun h=> ?_⟩
 ·have h1:b.length≠1184:=by have:=of_decide_eq_true h;omega
  refine ⟨?_,trivial⟩
  show [ckP b]= [1]
  rw [ckP,if_neg h1]
 have h1:b.length=1184:=by have:=of_decide_eq_false h;omega
 refine ⟨by show 1152≤b.length;omega,Or.inl ⟨4,fun h2=> ?_,fun h2=>⟨fun h3=> ?_,fun h3=>⟨fun h4=> ?_,fun h4=> ?_⟩⟩⟩⟩
 ·refine ⟨?_,trivial⟩
  show [ckP b]= [2]
  have h2:(!mayL (poly b 0))=true:=h2
  rw [ckP,if_pos h1,if_neg (by simpa using h2)]
 ·refine ⟨?_,trivial⟩
  show [ckP b]= [2]
  have h2:(!mayL (poly b 0))=false:=h2
  have h3:(!mayL (poly b 1))=true:=h3
  rw [ckP,if_pos h1,if_pos (by simpa using h2),if_neg (by simpa using h3)]
 ·refine ⟨?_,trivial⟩
  show [ckP b]= [2]
  have h2:(!mayL (poly b 0))=false:=h2
  have h3:(!mayL (poly b 1))=false:=h3
  have h4:(!mayL (poly b 2))=true:=h4
  rw [ckP,if_pos h1,if_pos (by simpa using h2),if_pos (by simpa using h3),if_neg (by simpa using h4)]
 ·refine ⟨?_,trivial⟩
  show [ckP b]= [0]
  have h2:(!mayL (poly b 0))=false:=h2
  have h3:(!mayL (poly b 1))=false:=h3
  have h4:(!mayL (poly b 2))=false:=h4
  rw [ckP,if_pos h1,if_pos (by simpa using h2),if_pos (by simpa using h3),if_pos (by simpa using h4)]
def gCheck:GF:=fun l=>match l with
 | [.one (.ro .u8 b)]=>some ⟨[.one (.ob .int (ckP b))],[],none⟩
 |_=>none
theorem check_sound:CSound 48 (cfA gCheck):=cfR_sound TYQok OPK1 Tryz.func48 (by kernel_rfl) rfl (rs:= [.tmp 2]) Tryz.results48 fun l g h hp=>by
 unfold gCheck at h
 split at h
 ·cases h;exact ⟨Nat.le_of_ble_eq_true rfl,rfl,rfl,rfl,vcCheck _⟩
 ·cases h
set_option maxRecDepth 10000
structure Bn where
 sign:List UInt8
 ident:List UInt8
 medium:List UInt8
 medsig:List UInt8
 onceId:Int
 once:List UInt8
 kemId:Int
 kem:List UInt8
 kemsig:List UInt8
 last:Bool
 version:Int
@[reducible] def Bn.av (B:Bn):AV:= .agg [.ro .u8 B.sign,.ro .u8 B.ident,.ro .u8 B.medium,.ro .u8 B.medsig,.ob .int B.onceId,.ro .u8 B.once,.ob .int B.kemId,.ro .u8 B.kem,.ro .u8 B.kemsig,.ob .bool B.last,.ob .int B.version]
@[reducible] def Bn.nv (B:Bn):AV:= .agg [.rw 1000,.rw 1001,.rw 1002,.rw 1003,.ob .int B.onceId,.rw 1004,.ob .int B.kemId,.rw 1005,.rw 1006,.ob .bool B.last,.ob .int B.version]
def Bn.nm (B:Bn):Nat→Option (List UInt8)
 |1000=>some B.sign|1001=>some B.ident|1002=>some B.medium|1003=>some B.medsig|1004=>some B.once|1005=>some B.kem|1006=>some B.kemsig
 |_=>none
def rowIs (S':AS) (ex:Nat→Option (List UInt8)):Cl→List UInt8→Prop
 | .rw c,l=>match lkH S'.hp c with |some (.row _ .u8 m)=>l=m|some _=>False|none=>ex c=some l
 | .sub c lo n,l=>match lkH S'.hp c with |some (.row _ .u8 m)=>l=(m.drop lo).take n|_=>False
 |_,_=>False
def rowsAre (S':AS) (ex:Nat→Option (List UInt8)):List Cl→List (List UInt8)→Prop
 | [],[]=>True
 |x::r,l::q=>rowIs S' ex x l∧rowsAre S' ex r q
 |_,_=>False
def retBB (t:Nat) (ls:List (List UInt8)) (ex:Nat→Option (List UInt8)):KK:=fun e S'=>match e with
 | .exit _=>False
 |_=>match lkS S'.sl t with
  | [.one (.sl b 0 m c)]=>match lkH S'.hp b with
   |some (.blk _ l)=>m=ls.length∧c≤16777216∧rowsAre S' ex l ls
   |_=>False
  |_=>False
def cfBB (P:Bn→Option Prop) (R:Bn→List (List UInt8)):CF:=fun _ args=>match args with
 | [.agg [.ro .u8 a,.ro .u8 b,.ro .u8 c,.ro .u8 d,.ob .int e,.ro .u8 f,.ob .int g,.ro .u8 h,.ro .u8 i,.ob .bool j,.ob .int k]]=> .pure ⟨[.one (.bb (R ⟨a,b,c,d,e,f,g,h,i,j,k⟩))],[],P ⟨a,b,c,d,e,f,g,h,i,j,k⟩,none⟩
 |_=> .fail
section
variable {ty:Nat→TE} {ct:Nat→Option CF}
theorem ResH.still {H:Nat→Option Ch} {η:Env} {w w':World} {nx:Nat} (hH:HpOk H η w) (hb:Below w.heap.size w w') {out:List AV} {v:Value} {pre:Option Prop} (ho:OutH η (Anon H η) w' out v):ResH H η w nx ⟨out,[],pre,none⟩ v w' η:=by
 have hfw:Fw H η w H η w':=⟨hb.os,hb.tape,hb.output,hb.size,fun _ _ h=>h,fun g hg ha=>⟨hb.block g hg,ha⟩⟩
 exact ⟨ho,⟨fun b c hbc=>(hH.chunk b c hbc).later hfw.lt fun g hg=>hb.block g (hp_lt hH (fun h0=>by have hbc:H b=some c:=hbc;rw [h0] at hbc;cases hbc) hg),hH.apart⟩,hfw,fun _ _=>rfl,trivial⟩
theorem rows_ok {S':AS} {ex:Nat→Option (List UInt8)} {η':Env} {A A':Nat→Prop} {w':World} (hch:∀b c,lkH S'.hp b=some c→c.H η' A' w' b) (hA:∀b g,lkH S'.hp b≠none→fpE η' b=some g→A g) (hex:∀c l,ex c=some l→∃v,η' c=some v∧RoH A w' .u8 l v):
  ∀ {l:List Cl} {ls:List (List UInt8)} {cs:List Value},rowsAre S' ex l ls→ClsH η' A' w' l cs→cs.length=ls.length∧∀i (h:i<ls.length) (h':i<cs.length),RoH A w' .u8 ls[i] cs[i]
 | [],[],cs,_,hc=>by cases hc;exact ⟨rfl,fun i h=>(by cases h)⟩
 | [],_::_,_,h,_=>h.elim
 |_::_,[],_,h,_=>h.elim
 |x::r,l::q,cs,⟨h1,h2⟩,⟨c1,t,e,hx,hr⟩=>by
  obtain ⟨g1,g2⟩:=rows_ok hch hA hex h2 hr
  have key:∃v,c1= [v]∧RoH A w' .u8 l v:=by
   unfold rowIs at h1
   split at h1
   ·rename_i c _
    obtain ⟨v,e1,e2,_⟩:=hx
    refine ⟨v,e2,?_⟩
    split at h1
    ·rename_i E m hm
     subst h1
     obtain ⟨v',e3,hR⟩:=row_ro (hch _ _ hm) (A':=A) fun g hg=>hA _ g (by rw [hm];simp) hg
     rw [e1] at e3;cases e3
     exact hR
    ·exact h1.elim
    ·obtain ⟨v',e3,hR⟩:=hex _ _ h1
     rw [e1] at e3;cases e3
     exact hR
   ·rename_i c lo n _
    split at h1
    ·rename_i E m hm
     subst h1
     exact sub_ro rfl (hch _ _ hm) hx (A':=A) fun g hg=>hA _ g (by rw [hm];simp) hg
    ·exact h1.elim
   ·exact h1.elim
  obtain ⟨v,rfl,hR⟩:=key
  subst e
  refine ⟨by simp [g1],fun i hi hi'=> ?_⟩
  cases i with
  |zero=>exact hR
  |succ i=>exact g2 i (by simpa using hi) (by simpa using hi')
theorem cfBB_sound (hO : OpsOk ty ct) {f : Nat} {fn : Func} {c : Code} {t : Nat} (hf : Tryz.prog.funcs[f]? = some fn) (hn : (fn.name == "runtime.NumGoroutine") = false) (hb : fn.body = some c) (hr : fn.results = #[.tmp t]) (hN : 1 ≤ fn.ntmps) {P : Bn → Option Prop} {R : Bn → List (List UInt8)}
  (hG:∀B,preOk (P B)→vc ty ct fn.ntmps c ⟨mkSl 0 [B.nv],[],2000⟩ (retBB t (R B) B.nm)):CSound f (cfBB P R):=by
 refine ⟨⟨fn,c,hf,hn,hb⟩,fun nx args sl H ds res rd qs h hq hp η w vs hH hv hfree=> ?_⟩
 unfold cfBB at h
 split at h
 ·rename_i s1 s2 s3 s4 i1 s5 i2 s6 s7 la ve
  have:=pure_run h
  subst this
  obtain ⟨v,_,rfl,⟨cs,rfl,⟨_,_,e0,⟨v0,rfl,r0⟩,_,_,e1,⟨v1,rfl,r1⟩,_,_,e2,⟨v2,rfl,r2⟩,_,_,e3,⟨v3,rfl,r3⟩,_,_,e4,h4,_,_,e5,⟨v4,rfl,r4⟩,_,_,e6,h6,_,_,e7,⟨v5,rfl,r5⟩,_,_,e8,⟨v6,rfl,r6⟩,_,_,e9,h9,_,_,ea,ha,rfl⟩,hone⟩,rfl⟩:=hv
  cases (show _= [Value.int .i64 i1] from h4)
  cases (show _= [Value.int .i64 i2] from h6)
  cases (show _= [Value.bool la] from h9)
  cases (show _= [Value.int .i64 ve] from ha)
  subst ea e9 e8 e7 e6 e5 e4 e3 e2 e1 e0
  let η0:Env:=fun b=>if b=1000 then some v0 else if b=1001 then some v1 else if b=1002 then some v2 else if b=1003 then some v3 else if b=1004 then some v4 else if b=1005 then some v5 else if b=1006 then some v6 else none
  have hsl:∀ {k:Kd} {l:List k.T} {v:Value} {A:Nat→Prop},RoH A w k l v→v.oneCell'=true:=fun ⟨_,_,e,_⟩=>by rw [e];rfl
  have hv0:AvsH η0 (Anon (lkH []) η0) w [Bn.nv ⟨s1,s2,s3,s4,i1,s5,i2,s6,s7,la,ve⟩] _:=⟨_,[],rfl,⟨_,rfl,⟨_,_,rfl,⟨v0,rfl,rfl,hsl r0⟩,_,_,rfl,⟨v1,rfl,rfl,hsl r1⟩,_,_,rfl,⟨v2,rfl,rfl,hsl r2⟩,_,_,rfl,⟨v3,rfl,rfl,hsl r3⟩,_,_,rfl,rfl,_,_,rfl,⟨v4,rfl,rfl,hsl r4⟩,_,_,rfl,rfl,_,_,rfl,⟨v5,rfl,rfl,hsl r5⟩,_,_,rfl,⟨v6,rfl,rfl,hsl r6⟩,_,_,rfl,rfl,_,_,rfl,rfl,rfl⟩,hone⟩,rfl⟩
  generalize ([v0]++([v1]++([v2]++([v3]++([Value.int .i64 i1]++([v4]++([Value.int .i64 i2]++([v5]++([v6]++([Value.bool la]++([Value.int .i64 ve]++ [])))))))))))=cs at hv0
  generalize hB:(⟨s1,s2,s3,s4,i1,s5,i2,s6,s7,la,ve⟩:Bn)=B at hv0 hp ⊢
  refine calls_of_wp hf hb ?_
  obtain ⟨hvl,hsl0⟩:=mkSl_ok (i:=0) hv0
  have hS:SatS fn.ntmps ⟨mkSl 0 [B.nv],[],2000⟩ η0 {tmps:= #[.agg cs.toArray]++Array.replicate (fn.ntmps-1) undef,defers:= []} w:=by
   refine ⟨⟨rfl,by simp;omega,fun t=> ?_,fun b c h=>(by cases h),fun b b' g _ h=>absurd rfl h⟩,fun b hb=> ?_⟩
   ·rcases hsl0 t with h|⟨x,v,h1,h2,h3,h4⟩
    ·show OutH _ _ _ (lkS (mkSl 0 [B.nv]) t) _
     rw [h];trivial
    ·show OutH _ _ _ (lkS (mkSl 0 [B.nv]) t) _
     rw [h1]
     have e:(#[.agg cs.toArray]++Array.replicate (fn.ntmps-1) undef:Array Value).getD t undef=v:=by
      rw [Array.getD_eq_getD_getElem?,Array.getElem?_append_left (by simp;have:=(List.getElem?_eq_some_iff.1 h3).1;simp at this;omega)]
      simp only [Nat.sub_zero] at h3
      rw [List.getElem?_toArray,h3];rfl
     show OutH _ _ _ [x] (Array.getD _ t undef)
     rw [e]
     exact h4
   ·have hb:2000≤b:=hb
    show (if b=1000 then some v0 else if b=1001 then some v1 else if b=1002 then some v2 else if b=1003 then some v3 else if b=1004 then some v4 else if b=1005 then some v5 else if b=1006 then some v6 else none)=none
    rw [if_neg (by omega),if_neg (by omega),if_neg (by omega),if_neg (by omega),if_neg (by omega),if_neg (by omega),if_neg (by omega)]
  refine wp_mono (vc_sound followsMixed hO c _ _ (hG B hp) _ _ _ hS) fun e a' w' hP=> ?_
  obtain ⟨e',S',η',k1,k2,⟨hS',_⟩,hF,_,hE,_⟩:=hP
  have hbl:Below w.heap.size w w':=⟨hF.os,hF.tape,hF.output,hF.size,fun g hg=>(hF.anon g hg fun b hb=>absurd rfl hb).1⟩
  have hA:∀b g,lkH S'.hp b≠none→fpE η' b=some g→Anon H η g:=fun b g hb hg=>by
   have hge:w.heap.size≤g:=by
    rcases Nat.lt_or_ge g w.heap.size with h|h
    ·exact absurd hg ((hF.anon g h fun b hb=>absurd rfl hb).2 b hb)
    ·exact h
   intro b2 hb2 hg2
   have:=hp_lt hH hb2 hg2
   omega
  have hlt:Lt η (Anon H η) w η (Anon H η) w':=⟨fun _ _ h=>h,fun g hg ha=>⟨hbl.block g hg,ha⟩⟩
  have hex:∀c l,B.nm c=some l→∃v,η' c=some v∧RoH (Anon H η) w' .u8 l v:=fun c l hc=>by
   subst hB
   have hc2:c<2000→η' c=η0 c:=hE c
   unfold Bn.nm at hc
   split at hc<;>first |(cases hc;done)|skip
   all_goals (cases hc;rw [hc2 (by omega)])
   ·exact ⟨v0,rfl,r0.later hlt⟩
   ·exact ⟨v1,rfl,r1.later hlt⟩
   ·exact ⟨v2,rfl,r2.later hlt⟩
   ·exact ⟨v3,rfl,r3.later hlt⟩
   ·exact ⟨v4,rfl,r4.later hlt⟩
   ·exact ⟨v5,rfl,r5.later hlt⟩
   ·exact ⟨v6,rfl,r6.later hlt⟩
  have key:(match lkS S'.sl t with
    | [.one (.sl b 0 m c)]=>match lkH S'.hp b with
     |some (.blk _ l)=>m=(R B).length∧c≤16777216∧rowsAre S' B.nm l (R B)
     |_=>False
    |_=>False)→a'.defers= []∧∃v,(results fn a'.tmps).run Tryz.prog w'= .ok v w'∧∃v' η'',Ending.returned v= .returned v'∧ResH H η w nx ⟨[.one (.bb (R B))],[],P B,none⟩ v' w' η'':=fun hK=>by
   refine ⟨hS'.df,_,run_results (rs:= [t]) hr a'.tmps w',_,η,rfl,ResH.still hH hbl ?_⟩
   have hs:=hS'.slot t
   split at hK
   ·rename_i b m cc e1
    rw [e1] at hs
    obtain ⟨hmc,g,hg,hvv⟩:=hs
    split at hK
    ·rename_i E l e2
     obtain ⟨x1,x2,x3⟩:=hK
     obtain ⟨g',us,y1,y2,y3,y4⟩:=hS'.chunk b _ e2
     rw [hg] at y1
     cases y1
     obtain ⟨z1,z2⟩:=rows_ok hS'.chunk hA hex x3 y3
     have hr0:=y2.range (q:=0) (n:=us.length)
     rw [List.drop_zero,List.take_length] at hr0
     exact ⟨some ⟨g,0,none⟩,cc,by rw [←x1];exact hvv,by omega,by simp only [maxLen];omega,fun h=>(by cases h),fun _=>⟨g,0,us,rfl,hA b g (by rw [e2];simp) (by unfold fpE;rw [hg];rfl),hr0,z1,z2⟩⟩
    ·exact hK.elim
   ·exact hK.elim
  cases e with
  |normal=>cases k1;exact key k2
  |ret=>cases k1;exact key k2
  |exit id=>cases k1;exact k2.elim
  |panic c=>cases k1
  |outgrown=>cases k1
  |goto l=>cases k1
 ·cases h
end
set_option maxRecDepth 10000
def flg (b:Bool):UInt8:=match b with |true=>1|false=>0
theorem vcFlag (b:Bool):vc TYQ (ctOf []) Tryz.f77.ntmps (bodyOf Tryz.f77) ⟨mkSl 0 [.one (.ob .bool b)],[],2000⟩ (retR TYQ Tryz.f77.ntmps [.tmp 2] [.one (.ob .u8 (flg b))] []):=by
 refine ⟨fun h=> ?_,fun h=> ?_⟩
 ·cases (show b=true from h)
  exact ⟨rfl,trivial⟩
 ·cases (show b=false from h)
  exact ⟨rfl,trivial⟩
def gFlag:GF:=fun l=>match l with
 | [.one (.ob .bool b)]=>some ⟨[.one (.ob .u8 (flg b))],[],none⟩
 |_=>none
theorem flag_sound:CSound 77 (cfA gFlag):=cfR_sound TYQok OPN Tryz.func77 (by kernel_rfl) rfl (rs:= [.tmp 2]) Tryz.results77 fun l g h hp=>by
 unfold gFlag at h
 split at h
 ·cases h;exact ⟨Nat.le_of_ble_eq_true rfl,rfl,rfl,rfl,vcFlag _⟩
 ·cases h
def LB0:List (Nat×CF):= [(76,cfA gPut32),(77,cfA gFlag)]
theorem LB0ok:∀p∈LB0,CSound p.1 p.2:=ctCons put32_sound<|ctCons flag_sound fun p hp=>by cases hp
theorem OPB0:OpsOk TYQ (ctOf LB0):=opsOk TYQok (ctOk LB0ok)
def vB (B:Bn):UInt8:=UInt8.ofNat B.version.toNat
def medR (B:Bn):List (List UInt8):= [[UInt8.ofNat 1,vB B],B.medium]
def id4 (n:Int):List UInt8:=((be8 (UInt32.ofNat n.toNat).toUInt64).drop 4).take 4
def kemR (B:Bn):List (List UInt8):= [[UInt8.ofNat 2,vB B],id4 B.kemId,[flg B.last],B.kem]
theorem vcMedT (B:Bn) (hv:0≤B.version):vc TYQ (ctOf LB0) Tryz.f46.ntmps (bodyOf Tryz.f46) ⟨mkSl 0 [B.nv],[],2000⟩ (retBB 2 (medR B) B.nm):=⟨hv,rfl,by decide,rfl,rfl,trivial⟩
theorem medt_sound:CSound 46 (cfBB (fun B=>some (0≤B.version)) medR):=cfBB_sound OPB0 Tryz.func46 (by kernel_rfl) rfl (t:=2) Tryz.results46 (Nat.le_of_ble_eq_true rfl) fun B hp=>vcMedT B hp
theorem vcKemT (B:Bn) (hv:0≤B.version∧0≤B.kemId):vc TYQ (ctOf LB0) Tryz.f47.ntmps (bodyOf Tryz.f47) ⟨mkSl 0 [B.nv],[],2000⟩ (retBB 2 (kemR B) B.nm):=⟨hv.1,hv.2,rfl,by decide,rfl,rfl,rfl,rfl,trivial⟩
theorem kemt_sound:CSound 47 (cfBB (fun B=>some (0≤B.version∧0≤B.kemId)) kemR):=cfBB_sound OPB0 Tryz.func47 (by kernel_rfl) rfl (t:=2) Tryz.results47 (Nat.le_of_ble_eq_true rfl) fun B hp=>vcKemT B hp
def shp (B:Bn):Bool:=match decide (B.version=1) with
 |true=>decide (B.kemId=0)&&decide ((B.kem.length:Int)=0)&&decide ((B.kemsig.length:Int)=0)&& !B.last
 |false=>decide (B.version=2)&&decide ((B.kem.length:Int)=1184)&&decide ((B.kemsig.length:Int)=64)&&decide (0≤B.kemId)&&(B.last ==decide (B.kemId=0))
theorem vcShp (B:Bn):vc TYQ (ctOf LB0) Tryz.f44.ntmps (bodyOf Tryz.f44) ⟨mkSl 0 [B.av],[],2000⟩ (retR TYQ Tryz.f44.ntmps [.tmp 2] [.one (.ob .bool (shp B))] []):=by
 refine ⟨fun h0=> ?_,fun h0=> ?_⟩
 ·refine ⟨fun h1=>⟨fun h2=>⟨fun h3=> ?_,fun h3=> ?_⟩,fun h2=> ?_⟩,fun h1=> ?_⟩
  ·refine ⟨h1,h2,h3,fun _ _=>⟨?_,trivial⟩⟩
   show [shp B]= [_]
   rw [shp,h0,h1,h2,h3];rfl
  ·refine ⟨h1,h2,h3,fun _ _=>⟨?_,trivial⟩⟩
   show [shp B]= [_]
   rw [shp,h0,h1,h2,h3];rfl
  ·refine ⟨h1,h2,fun _=>⟨?_,trivial⟩⟩
   show [shp B]= [_]
   rw [shp,h0,h1,h2];rfl
  ·refine ⟨h1,?_,trivial⟩
   show [shp B]= [_]
   rw [shp,h0,h1];rfl
 ·refine ⟨fun h1=>⟨fun h2=>⟨fun h3=>⟨fun h4=> ?_,fun h4=> ?_⟩,fun h3=> ?_⟩,fun h2=> ?_⟩,fun h1=> ?_⟩
  ·refine ⟨h1,h2,h3,h4,fun _ _=>⟨?_,trivial⟩⟩
   show [shp B]= [_]
   rw [shp,h0,h1,h2,h3,h4];rfl
  ·refine ⟨h1,h2,h3,h4,fun _ _=>⟨?_,trivial⟩⟩
   show [shp B]= [_]
   rw [shp,h0,h1,h2,h3,h4];rfl
  ·refine ⟨h1,h2,h3,fun _ _=>⟨?_,trivial⟩⟩
   show [shp B]= [_]
   rw [shp,h0,h1,h2,h3];rfl
  ·refine ⟨h1,h2,fun _=>⟨?_,trivial⟩⟩
   show [shp B]= [_]
   rw [shp,h0,h1,h2];rfl
  ·refine ⟨h1,?_,trivial⟩
   show [shp B]= [_]
   rw [shp,h0,h1];rfl
def gShp:GF:=fun l=>match l with
 | [.agg [.ro .u8 a,.ro .u8 b,.ro .u8 c,.ro .u8 d,.ob .int e,.ro .u8 f,.ob .int g,.ro .u8 h,.ro .u8 i,.ob .bool j,.ob .int k]]=>some ⟨[.one (.ob .bool (shp ⟨a,b,c,d,e,f,g,h,i,j,k⟩))],[],none⟩
 |_=>none
theorem shp_sound:CSound 44 (cfA gShp):=cfR_sound TYQok OPB0 Tryz.func44 (by kernel_rfl) rfl (rs:= [.tmp 2]) Tryz.results44 fun l g h hp=>by
 unfold gShp at h
 split at h
 ·cases h;exact ⟨Nat.le_of_ble_eq_true rfl,rfl,rfl,rfl,vcShp ⟨_,_,_,_,_,_,_,_,_,_,_⟩⟩
 ·cases h
def LB1:List (Nat×CF):= [(44,cfA gShp),(45,cfA gVerify),(46,cfBB (fun B=>some (0≤B.version)) medR),(47,cfBB (fun B=>some (0≤B.version∧0≤B.kemId)) kemR),(48,cfA gCheck)]
theorem LB1ok:∀p∈LB1,CSound p.1 p.2:=ctCons shp_sound<|ctCons verify_sound<|ctCons medt_sound<|ctCons kemt_sound<|ctCons check_sound fun p hp=>by cases hp
theorem OPB1:OpsOk TYQ (ctOf LB1):=opsOk TYQok (ctOk LB1ok)
set_option maxRecDepth 10000
def wantL (B:Bn):Int:=match decide (0<B.onceId) with |true=>32|false=>0
def badB (B:Bn):Bool:=match decide ((B.sign.length:Int)=32) with
 |false=>true
 |true=>match decide ((B.ident.length:Int)=32) with
  |false=>true
  |true=> !decide ((B.medium.length:Int)=32)||decide ((B.medsig.length:Int)≠64)||decide (B.onceId<0)||decide ((B.once.length:Int)≠wantL B)|| !shp B
def verM (B:Bn):Int:=verC B.sign B.medsig (medR B).flatten
def verK (B:Bn):Int:=verC B.sign B.kemsig (kemR B).flatten
def verB (B:Bn) (least:Int):Int:=match badB B with
 |true=>1
 |false=>match decide (B.version<least) with
  |true=>4
  |false=>match decide (verM B≠0) with
   |true=>verM B
   |false=>match decide (B.version=1) with
    |true=>verM B
    |false=>match decide (verK B≠0) with
     |true=>verK B
     |false=>ckP B.kem
theorem shp_v {B:Bn} (h:shp B=true):B.version=1∨(B.version=2∧0≤B.kemId∧B.kem.length=1184):=by
 unfold shp at h
 split at h
 ·rename_i e;exact Or.inl (of_decide_eq_true e)
 ·simp only [Bool.and_eq_true,decide_eq_true_eq] at h
  exact Or.inr ⟨h.1.1.1.1,h.1.2,by omega⟩
set_option maxHeartbeats 4000000 in
theorem vcVerB (B:Bn) (least:Int):vc TYQ (ctOf LB1) Tryz.f25.ntmps (bodyOf Tryz.f25) ⟨mkSl 0 [B.av,.one (.ob .int least)],[],2000⟩ (retR TYQ Tryz.f25.ntmps [.tmp 4] [.one (.ob .int (verB B least))] []):=by
 refine ⟨fun h0=> ?_,fun h0=> ?_⟩
 ·have hw:wantL B=32:=by rw [wantL,h0]
  refine ⟨fun h1=>⟨fun h2=>⟨h1,h2,fun _ _ hmed=>⟨fun h3=> ?_,fun h3=> ?_⟩⟩,fun h2=> ?_⟩,fun h1=> ?_⟩
  ·refine ⟨h3,?_,trivial⟩
   have hb:badB B=true:=by rw [badB,h1,h2,h3];try rfl
   show [verB B least]= [_]
   rw [verB,hb]
  ·refine ⟨fun h4=> ?_,fun h4=>⟨fun h5=> ?_,fun h5=>⟨fun h6=> ?_,fun h6=> ?_⟩⟩⟩
   ·refine ⟨h3,h4,fun _=>⟨?_,trivial⟩⟩
    have hb:badB B=true:=by rw [badB,h1,h2,h3,h4];try rfl
    show [verB B least]= [_]
    rw [verB,hb]
   ·refine ⟨h3,h4,h5,fun _=>⟨?_,trivial⟩⟩
    have hb:badB B=true:=by rw [badB,h1,h2,h3,h4,h5];try rfl
    show [verB B least]= [_]
    rw [verB,hb]
   ·refine ⟨h3,h4,h5,h6,fun _ _=>⟨?_,trivial⟩⟩
    have hb:badB B=true:=by rw [badB,h1,h2,h3,h4,h5,hw,h6];try rfl
    show [verB B least]= [_]
    rw [verB,hb]
   ·refine ⟨h3,h4,h5,h6,fun _ _=>⟨fun h7=> ?_,fun h7=> ?_⟩⟩
    ·refine ⟨?_,trivial⟩
     have hb:badB B=true:=by rw [badB,h1,h2,h3,h4,h5,hw,h6,h7];try rfl
     show [verB B least]= [_]
     rw [verB,hb]
    ·have hb:badB B=false:=by rw [badB,h1,h2,h3,h4,h5,hw,h6,h7];rfl
     have hs:shp B=true:=by simpa using h7
     have hv:=shp_v hs
     refine ⟨fun h8=> ?_,fun h8=> ?_⟩
     ·refine ⟨?_,trivial⟩
      show [verB B least]= [_]
      rw [verB,hb,h8]
     have v0:0≤B.version:=by omega
     have hm:(medR B).flatten.length≤8388000:=by
      show ([UInt8.ofNat 1,vB B]++(B.medium++ [])).length≤8388000
      have:B.medium.length=32:=by have:=of_decide_eq_true (show decide ((B.medium.length:Int)=32)=true by simpa using h3);omega
      simp [this]
     refine ⟨v0,hm,fun h9=> ?_,fun h9=>⟨h9,fun h10=> ?_,fun h10=> ?_⟩⟩
     ·refine ⟨h9,?_,trivial⟩
      show [verB B least]= [_]
      have h9:decide (verM B≠0)=true:=h9
      rw [verB,hb,h8,h9];rfl
     ·refine ⟨?_,trivial⟩
      show [verB B least]= [_]
      have h9:decide (verM B≠0)=false:=h9
      rw [verB,hb,h8,h9,h10];rfl
     have k0:0≤B.kemId∧B.kem.length=1184:=by
      have:¬B.version=1:=of_decide_eq_false h10
      omega
     have hk:(kemR B).flatten.length≤8388000:=by
      show ([UInt8.ofNat 2,vB B]++(id4 B.kemId++([flg B.last]++(B.kem++ [])))).length≤8388000
      have:(id4 B.kemId).length≤4:=by rw [id4,List.length_take];omega
      simp [k0.2];omega
     have h9:decide (verM B≠0)=false:=h9
     refine ⟨⟨v0,k0.1⟩,hk,fun h11=> ?_,fun h11=> ?_⟩
     ·refine ⟨?_,trivial⟩
      show [verB B least]= [_]
      have h11:decide (verK B≠0)=true:=h11
      rw [verB,hb,h8,h9,h10,h11];rfl
     ·refine ⟨?_,trivial⟩
      show [verB B least]= [_]
      have h11:decide (verK B≠0)=false:=h11
      rw [verB,hb,h8,h9,h10,h11]
  ·refine ⟨h1,h2,fun _ _=>⟨?_,trivial⟩⟩
   have hb:badB B=true:=by rw [badB,h1,h2];try rfl
   show [verB B least]= [_]
   rw [verB,hb]
  ·refine ⟨h1,fun _=>⟨?_,trivial⟩⟩
   have hb:badB B=true:=by rw [badB,h1];try rfl
   show [verB B least]= [_]
   rw [verB,hb]
 ·have hw:wantL B=0:=by rw [wantL,h0]
  refine ⟨fun h1=>⟨fun h2=>⟨h1,h2,fun _ _ hmed=>⟨fun h3=> ?_,fun h3=> ?_⟩⟩,fun h2=> ?_⟩,fun h1=> ?_⟩
  ·refine ⟨h3,?_,trivial⟩
   have hb:badB B=true:=by rw [badB,h1,h2,h3];try rfl
   show [verB B least]= [_]
   rw [verB,hb]
  ·refine ⟨fun h4=> ?_,fun h4=>⟨fun h5=> ?_,fun h5=>⟨fun h6=> ?_,fun h6=> ?_⟩⟩⟩
   ·refine ⟨h3,h4,fun _=>⟨?_,trivial⟩⟩
    have hb:badB B=true:=by rw [badB,h1,h2,h3,h4];try rfl
    show [verB B least]= [_]
    rw [verB,hb]
   ·refine ⟨h3,h4,h5,fun _=>⟨?_,trivial⟩⟩
    have hb:badB B=true:=by rw [badB,h1,h2,h3,h4,h5];try rfl
    show [verB B least]= [_]
    rw [verB,hb]
   ·refine ⟨h3,h4,h5,h6,fun _ _=>⟨?_,trivial⟩⟩
    have hb:badB B=true:=by rw [badB,h1,h2,h3,h4,h5,hw,h6];try rfl
    show [verB B least]= [_]
    rw [verB,hb]
   ·refine ⟨h3,h4,h5,h6,fun _ _=>⟨fun h7=> ?_,fun h7=> ?_⟩⟩
    ·refine ⟨?_,trivial⟩
     have hb:badB B=true:=by rw [badB,h1,h2,h3,h4,h5,hw,h6,h7];try rfl
     show [verB B least]= [_]
     rw [verB,hb]
    ·have hb:badB B=false:=by rw [badB,h1,h2,h3,h4,h5,hw,h6,h7];rfl
     have hs:shp B=true:=by simpa using h7
     have hv:=shp_v hs
     refine ⟨fun h8=> ?_,fun h8=> ?_⟩
     ·refine ⟨?_,trivial⟩
      show [verB B least]= [_]
      rw [verB,hb,h8]
     have v0:0≤B.version:=by omega
     have hm:(medR B).flatten.length≤8388000:=by
      show ([UInt8.ofNat 1,vB B]++(B.medium++ [])).length≤8388000
      have:B.medium.length=32:=by have:=of_decide_eq_true (show decide ((B.medium.length:Int)=32)=true by simpa using h3);omega
      simp [this]
     refine ⟨v0,hm,fun h9=> ?_,fun h9=>⟨h9,fun h10=> ?_,fun h10=> ?_⟩⟩
     ·refine ⟨h9,?_,trivial⟩
      show [verB B least]= [_]
      have h9:decide (verM B≠0)=true:=h9
      rw [verB,hb,h8,h9];rfl
     ·refine ⟨?_,trivial⟩
      show [verB B least]= [_]
      have h9:decide (verM B≠0)=false:=h9
      rw [verB,hb,h8,h9,h10];rfl
     have k0:0≤B.kemId∧B.kem.length=1184:=by
      have:¬B.version=1:=of_decide_eq_false h10
      omega
     have hk:(kemR B).flatten.length≤8388000:=by
      show ([UInt8.ofNat 2,vB B]++(id4 B.kemId++([flg B.last]++(B.kem++ [])))).length≤8388000
      have:(id4 B.kemId).length≤4:=by rw [id4,List.length_take];omega
      simp [k0.2];omega
     have h9:decide (verM B≠0)=false:=h9
     refine ⟨⟨v0,k0.1⟩,hk,fun h11=> ?_,fun h11=> ?_⟩
     ·refine ⟨?_,trivial⟩
      show [verB B least]= [_]
      have h11:decide (verK B≠0)=true:=h11
      rw [verB,hb,h8,h9,h10,h11];rfl
     ·refine ⟨?_,trivial⟩
      show [verB B least]= [_]
      have h11:decide (verK B≠0)=false:=h11
      rw [verB,hb,h8,h9,h10,h11]
  ·refine ⟨h1,h2,fun _ _=>⟨?_,trivial⟩⟩
   have hb:badB B=true:=by rw [badB,h1,h2];try rfl
   show [verB B least]= [_]
   rw [verB,hb]
  ·refine ⟨h1,fun _=>⟨?_,trivial⟩⟩
   have hb:badB B=true:=by rw [badB,h1];try rfl
   show [verB B least]= [_]
   rw [verB,hb]
def gVerB:GF:=fun l=>match l with
 | [.agg [.ro .u8 a,.ro .u8 b,.ro .u8 c,.ro .u8 d,.ob .int e,.ro .u8 f,.ob .int g,.ro .u8 h,.ro .u8 i,.ob .bool j,.ob .int k],.one (.ob .int n)]=>some ⟨[.one (.ob .int (verB ⟨a,b,c,d,e,f,g,h,i,j,k⟩ n))],[],none⟩
 |_=>none
theorem verB_sound:CSound 25 (cfA gVerB):=cfR_sound TYQok OPB1 Tryz.func25 (by kernel_rfl) rfl (rs:= [.tmp 4]) Tryz.results25 fun l g h hp=>by
 unfold gVerB at h
 split at h
 ·cases h;exact ⟨Nat.le_of_ble_eq_true rfl,rfl,rfl,rfl,vcVerB ⟨_,_,_,_,_,_,_,_,_,_,_⟩ _⟩
 ·cases h
set_option maxRecDepth 10000
set_option linter.unusedVariables false
theorem inI_up {c n:Int} (hc:0≤c∧c≤1000) (h0:0≤n) (h1:n≤1000000):InI (c+n):=⟨by omega,by omega⟩
theorem up0 {c n:Int} (hc:0≤c) (h0:0≤n):0≤c+n:=by omega
def LY0:List (Nat×CF):= [(95,cfA gBig),(90,cfA gCat),(136,cfA gDerive),(94,cfA gKeys),(52,cfA gBase),(82,cfA gPublic),(55,cfA gSign)]
theorem LY0ok:∀p∈LY0,CSound p.1 p.2:=ctCons big_sound<|ctCons cat_sound<|ctCons derive_sound<|ctCons keys_sound<|ctCons base_sound<|ctCons public_sound<|ctCons sign_sound fun p hp=>by cases hp
theorem OPY0:OpsOk TYQ (ctOf LY0):=opsOk TYQok (ctOk LY0ok)
def partT (n:Int):List UInt8:= [[UInt8.ofNat 112,UInt8.ofNat 97,UInt8.ofNat 114,UInt8.ofNat 116],bigI (UInt64.ofNat n.toNat) 4 4].flatten
def partB (seed:List UInt8) (n:Int):List UInt8:=hkO (hmac [] seed) (partT n) 2
theorem partB_len (seed:List UInt8) (n:Int):(partB seed n).length=64:=hkO_len _ _ 2
theorem partT_len (n:Int):(partT n).length=8:=by rw [partT];simp [bigI_len]
def kcs (seed:List UInt8) (v:Int) (o k:List Int):List Ch:= [.blk 99 [.rw 1001,.ob .int v,.rw 1002,.rw 1003],.row 5 .u8 seed,.row 3 .int o,.row 3 .int k]
theorem vcPart (seed:List UInt8) (v:Int) (o k:List Int) (n:Int) (hp:seed.length≤65536∧0≤n):vc TYQ (ctOf LY0) Tryz.f81.ntmps (bodyOf Tryz.f81) ⟨mkSl 0 [.one (.ptr 1000 0),.one (.ob .int n)],hpOf 1000 (kcs seed v o k),2000⟩ (retB TYQ Tryz.f81.ntmps [.tmp 4] [.one (.sub 0 0 64)] [(0,.row 5 .u8 (partB seed n))] (kcs seed v o k) []):=by
 have h1:=partT_len n
 refine ⟨hp.2,⟨by decide,by decide⟩,⟨by show (2:Nat)≤1000;decide,by show (partT n).length≤16777216;omega⟩,⟨by decide,hp.1,by show (partT n).length≤65536;omega,by decide,by decide⟩,rfl,rfl,rfl,trivial⟩
def gPart:GFB:=fun l cs=>match l,cs with
 | [.one (.ptr 1000 0),.one (.ob .int n)],[.blk 99 [.rw 1001,.ob .int v,.rw 1002,.rw 1003],.row 5 .u8 seed,.row 3 .int o,.row 3 .int k]=>some ⟨[.one (.sub 0 0 64)],[(0,.row 5 .u8 (partB seed n))],[],some (seed.length≤65536∧0≤n)⟩
 |_,_=>none
theorem part_sound:CSound 81 (cfB gPart):=cfB_sound TYQok OPY0 Tryz.func81 (by kernel_rfl) rfl (rs:= [.tmp 4]) Tryz.results81 fun l cs g h hp=>by
 unfold gPart at h
 split at h
 ·cases h;exact ⟨Nat.le_of_ble_eq_true rfl,rfl,rfl,rfl,vcPart _ _ _ _ _ hp⟩
 ·cases h
def LY1:List (Nat×CF):=(81,cfB gPart)::LY0
theorem LY1ok:∀p∈LY1,CSound p.1 p.2:=ctCons part_sound LY0ok
theorem OPY1:OpsOk TYQ (ctOf LY1):=opsOk TYQok (ctOk LY1ok)
theorem vcSignk (seed:List UInt8) (v:Int) (o k:List Int) (hp:seed.length≤65536):vc TYQ (ctOf LY1) Tryz.f56.ntmps (bodyOf Tryz.f56) ⟨mkSl 0 [.one (.ptr 1000 0)],hpOf 1000 (kcs seed v o k),2000⟩ (retB TYQ Tryz.f56.ntmps [.tmp 2] [.one (.sub 0 0 32)] [(0,.row 5 .u8 (partB seed 0))] (kcs seed v o k) []):=
 ⟨⟨hp,by decide⟩,⟨⟨by decide,by decide⟩,trivial⟩,rfl,rfl,rfl,trivial⟩
def gSignk:GFB:=fun l cs=>match l,cs with
 | [.one (.ptr 1000 0)],[.blk 99 [.rw 1001,.ob .int v,.rw 1002,.rw 1003],.row 5 .u8 seed,.row 3 .int o,.row 3 .int k]=>some ⟨[.one (.sub 0 0 32)],[(0,.row 5 .u8 (partB seed 0))],[],some (seed.length≤65536)⟩
 |_,_=>none
theorem signk_sound:CSound 56 (cfB gSignk):=cfB_sound TYQok OPY1 Tryz.func56 (by kernel_rfl) rfl (rs:= [.tmp 2]) Tryz.results56 fun l cs g h hp=>by
 unfold gSignk at h
 split at h
 ·cases h;exact ⟨Nat.le_of_ble_eq_true rfl,rfl,rfl,rfl,vcSignk _ _ _ _ hp⟩
 ·cases h
theorem vcIdent (seed:List UInt8) (v:Int) (o k:List Int) (hp:seed.length≤65536):vc TYQ (ctOf LY1) Tryz.f83.ntmps (bodyOf Tryz.f83) ⟨mkSl 0 [.one (.ptr 1000 0)],hpOf 1000 (kcs seed v o k),2000⟩ (retB TYQ Tryz.f83.ntmps [.tmp 2] [.one (.sub 0 0 32)] [(0,.row 5 .u8 (partB seed 1))] (kcs seed v o k) []):=
 ⟨⟨hp,by decide⟩,⟨⟨by decide,by decide⟩,trivial⟩,rfl,rfl,rfl,trivial⟩
def gIdent:GFB:=fun l cs=>match l,cs with
 | [.one (.ptr 1000 0)],[.blk 99 [.rw 1001,.ob .int v,.rw 1002,.rw 1003],.row 5 .u8 seed,.row 3 .int o,.row 3 .int k]=>some ⟨[.one (.sub 0 0 32)],[(0,.row 5 .u8 (partB seed 1))],[],some (seed.length≤65536)⟩
 |_,_=>none
theorem ident_sound:CSound 83 (cfB gIdent):=cfB_sound TYQok OPY1 Tryz.func83 (by kernel_rfl) rfl (rs:= [.tmp 2]) Tryz.results83 fun l cs g h hp=>by
 unfold gIdent at h
 split at h
 ·cases h;exact ⟨Nat.le_of_ble_eq_true rfl,rfl,rfl,rfl,vcIdent _ _ _ _ hp⟩
 ·cases h
theorem vcMedium (seed:List UInt8) (v:Int) (o k:List Int) (hp:seed.length≤65536):vc TYQ (ctOf LY1) Tryz.f53.ntmps (bodyOf Tryz.f53) ⟨mkSl 0 [.one (.ptr 1000 0)],hpOf 1000 (kcs seed v o k),2000⟩ (retB TYQ Tryz.f53.ntmps [.tmp 2] [.one (.sub 0 0 32)] [(0,.row 5 .u8 (partB seed 2))] (kcs seed v o k) []):=
 ⟨⟨hp,by decide⟩,⟨⟨by decide,by decide⟩,trivial⟩,rfl,rfl,rfl,trivial⟩
def gMedium:GFB:=fun l cs=>match l,cs with
 | [.one (.ptr 1000 0)],[.blk 99 [.rw 1001,.ob .int v,.rw 1002,.rw 1003],.row 5 .u8 seed,.row 3 .int o,.row 3 .int k]=>some ⟨[.one (.sub 0 0 32)],[(0,.row 5 .u8 (partB seed 2))],[],some (seed.length≤65536)⟩
 |_,_=>none
theorem medium_sound:CSound 53 (cfB gMedium):=cfB_sound TYQok OPY1 Tryz.func53 (by kernel_rfl) rfl (rs:= [.tmp 2]) Tryz.results53 fun l cs g h hp=>by
 unfold gMedium at h
 split at h
 ·cases h;exact ⟨Nat.le_of_ble_eq_true rfl,rfl,rfl,rfl,vcMedium _ _ _ _ hp⟩
 ·cases h
theorem vcOncek (seed:List UInt8) (v:Int) (o k:List Int) (n:Int) (hp:seed.length≤65536∧0≤n∧n≤1000000):vc TYQ (ctOf LY1) Tryz.f58.ntmps (bodyOf Tryz.f58) ⟨mkSl 0 [.one (.ptr 1000 0),.one (.ob .int n)],hpOf 1000 (kcs seed v o k),2000⟩ (retB TYQ Tryz.f58.ntmps [.tmp 4] [.one (.sub 0 0 32)] [(0,.row 5 .u8 (partB seed (100+n)))] (kcs seed v o k) []):=
 ⟨inI_up (by decide) hp.2.1 hp.2.2,⟨hp.1,up0 (by decide) hp.2.1⟩,⟨⟨by decide,by decide⟩,trivial⟩,rfl,rfl,rfl,trivial⟩
def gOncek:GFB:=fun l cs=>match l,cs with
 | [.one (.ptr 1000 0),.one (.ob .int n)],[.blk 99 [.rw 1001,.ob .int v,.rw 1002,.rw 1003],.row 5 .u8 seed,.row 3 .int o,.row 3 .int k]=>some ⟨[.one (.sub 0 0 32)],[(0,.row 5 .u8 (partB seed (100+n)))],[],some (seed.length≤65536∧0≤n∧n≤1000000)⟩
 |_,_=>none
theorem oncek_sound:CSound 58 (cfB gOncek):=cfB_sound TYQok OPY1 Tryz.func58 (by kernel_rfl) rfl (rs:= [.tmp 4]) Tryz.results58 fun l cs g h hp=>by
 unfold gOncek at h
 split at h
 ·cases h;exact ⟨Nat.le_of_ble_eq_true rfl,rfl,rfl,rfl,vcOncek _ _ _ _ _ hp⟩
 ·cases h
def dz (seed:List UInt8) (n:Int):List UInt8×List UInt8:=((partB seed (200+n)).take 32,((partB seed (200+n)).drop 32).take 32)
theorem vcKemk (seed:List UInt8) (v:Int) (o k:List Int) (n:Int) (hp:seed.length≤65536∧0≤n∧n≤1000000):vc TYQ (ctOf LY1) Tryz.f59.ntmps (bodyOf Tryz.f59) ⟨mkSl 0 [.one (.ptr 1000 0),.one (.ob .int n)],hpOf 1000 (kcs seed v o k),2000⟩ (retB TYQ Tryz.f59.ntmps [.tmp 4,.tmp 5] [.one (.rw 0),.one (.rw 1)] [(0,.row 5 .u8 (kEk (dz seed n).1)),(1,.row 5 .u8 (kDk (dz seed n).1 (dz seed n).2))] (kcs seed v o k) []):=by
 have h1:=partB_len seed (200+n)
 refine ⟨inI_up (by decide) hp.2.1 hp.2.2,⟨hp.1,up0 (by decide) hp.2.1⟩,⟨⟨by decide,by decide⟩,trivial⟩,⟨by decide,by decide⟩,⟨?_,?_⟩,rfl,rfl,trivial⟩
 ·show ((partB seed (200+n)).take 32).length=32
  rw [List.length_take];omega
 ·show (((partB seed (200+n)).drop 32).take 32).length=32
  rw [List.length_take,List.length_drop];omega
def gKemk:GFB:=fun l cs=>match l,cs with
 | [.one (.ptr 1000 0),.one (.ob .int n)],[.blk 99 [.rw 1001,.ob .int v,.rw 1002,.rw 1003],.row 5 .u8 seed,.row 3 .int o,.row 3 .int k]=>some ⟨[.one (.rw 0),.one (.rw 1)],[(0,.row 5 .u8 (kEk (dz seed n).1)),(1,.row 5 .u8 (kDk (dz seed n).1 (dz seed n).2))],[],some (seed.length≤65536∧0≤n∧n≤1000000)⟩
 |_,_=>none
theorem kemk_sound:CSound 59 (cfB gKemk):=cfB_sound TYQok OPY1 Tryz.func59 (by kernel_rfl) rfl (rs:= [.tmp 4,.tmp 5]) Tryz.results59 fun l cs g h hp=>by
 unfold gKemk at h
 split at h
 ·cases h;exact ⟨Nat.le_of_ble_eq_true rfl,rfl,rfl,rfl,vcKemk _ _ _ _ _ hp⟩
 ·cases h
def LY2:List (Nat×CF):=(56,cfB gSignk)::(83,cfB gIdent)::(53,cfB gMedium)::(58,cfB gOncek)::(59,cfB gKemk)::LY1
theorem LY2ok:∀p∈LY2,CSound p.1 p.2:=ctCons signk_sound<|ctCons ident_sound<|ctCons medium_sound<|ctCons oncek_sound<|ctCons kemk_sound LY1ok
theorem OPY2:OpsOk TYQ (ctOf LY2):=opsOk TYQok (ctOk LY2ok)
def kSign (seed:List UInt8):List UInt8:=(partB seed 0).take 32
def kIdent (seed:List UInt8):List UInt8:=(partB seed 1).take 32
def kMed (seed:List UInt8):List UInt8:=(partB seed 2).take 32
def kOnce (seed:List UInt8) (n:Int):List UInt8:=(partB seed (100+n)).take 32
def xPub (s:List UInt8):List UInt8:=leB 32 (x255 s [9]).val
theorem vcPublick (seed:List UInt8) (v:Int) (o k:List Int) (hp:seed.length≤65536):vc TYQ (ctOf LY2) Tryz.f54.ntmps (bodyOf Tryz.f54) ⟨mkSl 0 [.one (.ptr 1000 0)],hpOf 1000 (kcs seed v o k),2000⟩ (retB TYQ Tryz.f54.ntmps [.tmp 2,.tmp 3] [.one (.rw 0),.one (.rw 1)] [(0,.row 5 .u8 (qPub (kSign seed))),(1,.row 5 .u8 (xPub (kIdent seed)))] (kcs seed v o k) []):=by
 have h1:=partB_len seed 0
 refine ⟨hp,?_,hp,rfl,rfl,trivial⟩
 show ((partB seed 0).take 32).length≤8388608
 rw [List.length_take];omega
def gPublick:GFB:=fun l cs=>match l,cs with
 | [.one (.ptr 1000 0)],[.blk 99 [.rw 1001,.ob .int v,.rw 1002,.rw 1003],.row 5 .u8 seed,.row 3 .int o,.row 3 .int k]=>some ⟨[.one (.rw 0),.one (.rw 1)],[(0,.row 5 .u8 (qPub (kSign seed))),(1,.row 5 .u8 (xPub (kIdent seed)))],[],some (seed.length≤65536)⟩
 |_,_=>none
theorem publick_sound:CSound 54 (cfB gPublick):=cfB_sound TYQok OPY2 Tryz.func54 (by kernel_rfl) rfl (rs:= [.tmp 2,.tmp 3]) Tryz.results54 fun l cs g h hp=>by
 unfold gPublick at h
 split at h
 ·cases h;exact ⟨Nat.le_of_ble_eq_true rfl,rfl,rfl,rfl,vcPublick _ _ _ _ hp⟩
 ·cases h
def medT (v:Int) (m:List UInt8):List UInt8:= [[UInt8.ofNat 1,UInt8.ofNat v.toNat],m].flatten
def kemT (v n:Int) (l:Bool) (m:List UInt8):List UInt8:= [[UInt8.ofNat 2,UInt8.ofNat v.toNat],bigI (UInt64.ofNat n.toNat) 4 4,[flg l],m].flatten
theorem vcMedText (v:Int) (m:List UInt8) (hp:0≤v∧m.length≤65536):vc TYQ (ctOf LY0) Tryz.f57.ntmps (bodyOf Tryz.f57) ⟨mkSl 0 [.one (.ob .int v),.one (.ro .u8 m)],[],2000⟩ (retR TYQ Tryz.f57.ntmps [.tmp 4] [.one (.rw 0)] [(0,.row 5 .u8 (medT v m))]):=by
 have h:(medT v m).length≤16777216:=by rw [medT];simp;omega
 exact ⟨hp.1,⟨(by show (2:Nat)≤1000;decide),h⟩,rfl,trivial⟩
def gMedText:GF:=fun l=>match l with
 | [.one (.ob .int v),.one (.ro .u8 m)]=>some ⟨[.one (.rw 0)],[(0,.row 5 .u8 (medT v m))],some (0≤v∧m.length≤65536)⟩
 |_=>none
theorem medtext_sound:CSound 57 (cfA gMedText):=cfR_sound TYQok OPY0 Tryz.func57 (by kernel_rfl) rfl (rs:= [.tmp 4]) Tryz.results57 fun l g h hp=>by
 unfold gMedText at h
 split at h
 ·cases h;exact ⟨Nat.le_of_ble_eq_true rfl,rfl,rfl,rfl,vcMedText _ _ hp⟩
 ·cases h
theorem vcKemText (v n:Int) (l:Bool) (m:List UInt8) (hp:0≤v∧0≤n∧m.length≤65536):vc TYQ (ctOf LY0) Tryz.f60.ntmps (bodyOf Tryz.f60) ⟨mkSl 0 [.one (.ob .int v),.one (.ob .int n),.one (.ob .bool l),.one (.ro .u8 m)],[],2000⟩ (retR TYQ Tryz.f60.ntmps [.tmp 8] [.one (.rw 0)] [(0,.row 5 .u8 (kemT v n l m))]):=by
 have h:(kemT v n l m).length≤16777216:=by rw [kemT];simp [bigI_len];omega
 refine ⟨fun e=> ?_,fun e=> ?_⟩
 ·cases (show l=true from e)
  exact ⟨hp.1,hp.2.1,⟨by decide,by decide⟩,⟨(by show (4:Nat)≤1000;decide),h⟩,rfl,trivial⟩
 ·cases (show l=false from e)
  exact ⟨hp.1,hp.2.1,⟨by decide,by decide⟩,⟨(by show (4:Nat)≤1000;decide),h⟩,rfl,trivial⟩
def gKemText:GF:=fun l=>match l with
 | [.one (.ob .int v),.one (.ob .int n),.one (.ob .bool l),.one (.ro .u8 m)]=>some ⟨[.one (.rw 0)],[(0,.row 5 .u8 (kemT v n l m))],some (0≤v∧0≤n∧m.length≤65536)⟩
 |_=>none
theorem kemtext_sound:CSound 60 (cfA gKemText):=cfR_sound TYQok OPY0 Tryz.func60 (by kernel_rfl) rfl (rs:= [.tmp 8]) Tryz.results60 fun l g h hp=>by
 unfold gKemText at h
 split at h
 ·cases h;exact ⟨Nat.le_of_ble_eq_true rfl,rfl,rfl,rfl,vcKemText _ _ _ _ hp⟩
 ·cases h
set_option maxRecDepth 10000
set_option linter.unusedVariables false
theorem inI_nat {n:Nat} (h:n<9223372036854775807):InI ((n:Int)+1):=⟨by omega,by omega⟩
theorem vcIn (l:List Int) (n:Int):vc TYQ (ctOf []) Tryz.f41.ntmps (bodyOf Tryz.f41) ⟨mkSl 0 [.one (.ro .int l),.one (.ob .int n)],[],2000⟩ (retR TYQ Tryz.f41.ntmps [.tmp 4] [.one (.ob .bool (decide (n∈l)))] []):=by
 refine Or.inr ⟨{i:Nat // i≤l.length∧n ∉ l.take i},fun i=>⟨[(5,.one (.ob .int (i.1:Int)))],[]⟩,fun i=>l.length-i.1,⟨0,Nat.zero_le _,by simp⟩,?_⟩
 refine ⟨by rfl,fun i=>fun hl=> ?_⟩
 obtain ⟨i,hi,hn⟩:=i
 refine ⟨fun h=> ?_,fun h=> ?_⟩
 ·have h:=of_decide_eq_true h
  have hi2:i<l.length:=by
   have h:(i:Int)<(l.length:Int):=h
   omega
  have eg:l.getD ((i:Int)).toNat Kd.int.df=l[i]:=by
   rw [List.getD_eq_getElem?_getD,show ((i:Int)).toNat=i from Int.toNat_natCast i,List.getElem?_eq_getElem hi2];rfl
  refine ⟨⟨Int.natCast_nonneg _,h⟩,fun e=> ?_,fun e=> ?_⟩
  ·have e1:l[i]=n:=eg.symm.trans (of_decide_eq_true e)
   have e2:decide (n∈l)=true:=decide_eq_true (e1▸List.getElem_mem hi2)
   refine ⟨?_,trivial⟩
   show [decide (n∈l)]= [true]
   rw [e2]
  ·have e1:l[i]≠n:=fun k=>of_decide_eq_false e (eg.trans k)
   have hm:l.length≤9223372036854775807:=hl
   refine ⟨inI_nat (n:=i) (by omega),⟨i+1,hi2,?_⟩,?_⟩
   ·rw [List.take_add_one,List.getElem?_eq_getElem hi2,List.mem_append]
    rintro (k|k)
    ·exact hn k
    ·exact e1 (List.mem_singleton.1 k).symm
   ·exact ⟨by show l.length-(i+1)<l.length-i;omega,rfl,trivial⟩
 ·have h:=of_decide_eq_false h
  have hi2:i=l.length:=by
   have h:¬(i:Int)<(l.length:Int):=h
   omega
  refine ⟨?_,trivial⟩
  show [decide (n∈l)]= [false]
  rw [decide_eq_false]
  rw [hi2,List.take_length] at hn
  exact hn
def gIn:GF:=fun l=>match l with
 | [.one (.ro .int l),.one (.ob .int n)]=>some ⟨[.one (.ob .bool (decide (n∈l)))],[],none⟩
 |_=>none
theorem inl_sound:CSound 41 (cfA gIn):=cfR_sound TYQok OPN Tryz.func41 (by kernel_rfl) rfl (rs:= [.tmp 4]) Tryz.results41 fun l g h hp=>by
 unfold gIn at h
 split at h
 ·cases h;exact ⟨Nat.le_of_ble_eq_true rfl,rfl,rfl,rfl,vcIn _ _⟩
 ·cases h
def seqI (n:Nat):List Int:=(List.range n).map fun (i:Nat)=>(i:Int)+1
theorem seqI_succ (n:Nat):seqI (n+1)=seqI n++ [(n:Int)+1]:=by rw [seqI,List.range_succ,List.map_append];rfl
theorem seqI_len (n:Nat):(seqI n).length=n:=by rw [seqI,List.length_map,List.length_range]
theorem seqI_mem {n:Nat} {x:Int}:x∈seqI n↔1≤x∧x≤n:=by
 rw [seqI,List.mem_map]
 constructor
 ·rintro ⟨i,hi,rfl⟩
  have:=List.mem_range.1 hi
  omega
 ·intro h
  exact ⟨(x-1).toNat,List.mem_range.2 (by omega),by omega⟩
def kemL (v:Int) (n:Nat):List Int:=match decide (v=2) with |true=>seqI n|false=> []
theorem inI_two {n:Nat} (h:n<1000):InI ((n:Int)+1+1):=⟨by omega,by omega⟩
theorem kemL_0 (v:Int):kemL v 0= []:=by unfold kemL;split<;>rfl
theorem kemL_succ (v:Int) (n:Nat):kemL v (n+1)=match decide (v=2) with |true=>kemL v n++ [(n:Int)+1]|false=>kemL v n:=by
 unfold kemL
 split
 ·exact seqI_succ n
 ·rfl
theorem vcNewK (seed:List UInt8) (v n:Int) (hp:seed.length=32∧1≤v∧v≤2∧0≤n∧n≤10):vc TYQ (ctOf []) Tryz.f30.ntmps (bodyOf Tryz.f30) ⟨mkSl 0 [.one (.rw 1000),.one (.ob .int v),.one (.ob .int n)],hpOf 1000 [.row 5 .u8 seed],2000⟩ (retB TYQ Tryz.f30.ntmps [.tmp 6,.tmp 7] [.one (.ptr 0 0),.one (.ob .int 0)] [(0,.blk 99 [.rw 1000,.ob .int v,.rw 1,.rw 2]),(1,.row 3 .int (seqI n.toNat)),(2,.row 3 .int (kemL v n.toNat))] [.row 5 .u8 seed] []):=by
 obtain ⟨hl,hv1,hv2,hn0,hn1⟩:=hp
 refine ⟨fun h0=> ?_,fun h0=>⟨fun h1=> ?_,fun h1=>⟨fun h2=> ?_,fun h2=>⟨fun h3=> ?_,fun h3=> ?_⟩⟩⟩⟩
 ·exact absurd (of_decide_eq_true h0) (fun k=>k (by omega))
 ·exact absurd (of_decide_eq_true h1) (Int.not_lt.2 hv1)
 ·exact absurd (of_decide_eq_true h2) (Int.not_lt.2 hv2)
 ·exact absurd (of_decide_eq_true h3) (Int.not_lt.2 hn0)
 ·refine ⟨h0,h1,h2,h3,fun _=>⟨fun h4=> ?_,fun h4=> ?_⟩⟩
  ·exact absurd (of_decide_eq_true h4) (Int.not_lt.2 hn1)
  ·refine Or.inr ⟨{i:Nat // (i:Int)≤n},fun i=>⟨[(9,.one (.ob .int ((i.1:Int)+1)))],[(2384,.blk 99 [.rw 1000,.ob .int v,.rw 0,.rw 1]),(0,.row 3 .int (seqI i.1)),(1,.row 3 .int (kemL v i.1))]⟩,fun i=>n.toNat-i.1,⟨0,hn0⟩,?_⟩
   refine ⟨rfl,rfl,rfl,kemL_0 v,fun i=>⟨fun h5=> ?_,fun h5=> ?_⟩⟩
   ·obtain ⟨i,hi⟩:=i
    have h5:(i:Int)+1≤n:=of_decide_eq_true h5
    have e1:seqI i++ [(i:Int)+1]=seqI (i+1):=(seqI_succ i).symm
    have l1:=seqI_len i
    have l2:=seqI_len (i+1)
    refine ⟨?_,fun h6=> ?_,fun h6=> ?_⟩
    ·show (seqI i++ [(i:Int)+1]).length≤16777216
     rw [e1];omega
    ·have e2:kemL v (i+1)=kemL v i++ [(i:Int)+1]:=by rw [kemL_succ,h6]
     have e3:kemL v i=seqI i:=by rw [kemL,h6]
     refine ⟨?_,inI_two (n:=i) (by omega),⟨i+1,h5⟩,?_,rfl,rfl,seqI_succ i,e2,trivial⟩
     ·show (kemL v i++ [(i:Int)+1]).length≤16777216
      rw [e3,e1];omega
     ·show n.toNat-(i+1)<n.toNat-i
      omega
    ·have e2:kemL v (i+1)=kemL v i:=by rw [kemL_succ,h6]
     refine ⟨inI_two (n:=i) (by omega),⟨i+1,h5⟩,?_,rfl,rfl,seqI_succ i,e2,trivial⟩
     show n.toNat-(i+1)<n.toNat-i
     omega
   ·obtain ⟨i,hi⟩:=i
    have h5:¬(i:Int)+1≤n:=of_decide_eq_false h5
    obtain rfl:i=n.toNat:=by omega
    exact ⟨rfl,rfl,rfl,rfl,trivial⟩
def gNewK:GFB:=fun l cs=>match l,cs with
 | [.one (.rw 1000),.one (.ob .int v),.one (.ob .int n)],[.row 5 .u8 seed]=>some ⟨[.one (.ptr 0 0),.one (.ob .int 0)],[(0,.blk 99 [.rw 1000,.ob .int v,.rw 1,.rw 2]),(1,.row 3 .int (seqI n.toNat)),(2,.row 3 .int (kemL v n.toNat))],[],some (seed.length=32∧1≤v∧v≤2∧0≤n∧n≤10)⟩
 |_,_=>none
theorem newk_sound:CSound 30 (cfB gNewK):=cfB_sound TYQok OPN Tryz.func30 (by kernel_rfl) rfl (rs:= [.tmp 6,.tmp 7]) Tryz.results30 fun l cs g h hp=>by
 unfold gNewK at h
 split at h
 ·cases h;exact ⟨Nat.le_of_ble_eq_true rfl,rfl,rfl,rfl,vcNewK _ _ _ hp⟩
 ·cases h
set_option maxRecDepth 10000
set_option linter.unusedVariables false
def LY3:List (Nat×CF):=(54,cfB gPublick)::(57,cfA gMedText)::(60,cfA gKemText)::(41,cfA gIn)::LY2
theorem LY3ok:∀p∈LY3,CSound p.1 p.2:=ctCons publick_sound<|ctCons medtext_sound<|ctCons kemtext_sound<|ctCons inl_sound LY2ok
theorem OPY3:OpsOk TYQ (ctOf LY3):=opsOk TYQok (ctOk LY3ok)
def onL (seed:List UInt8) (n:Int):List UInt8:=match decide (0<n) with |true=>xPub (kOnce seed n)|false=> []
def keL (seed:List UInt8) (v n:Int):List UInt8:=match decide (v=2) with |true=>kEk (dz seed n).1|false=> []
def ksL (seed:List UInt8) (v n:Int):List UInt8:=match decide (v=2) with |true=>qSign (kSign seed) (kemT v n (decide (n=0)) (kEk (dz seed n).1))|false=> []
def kiL (v n:Int):Int:=match decide (v=2) with |true=>n|false=>0
def laL (v n:Int):Bool:=match decide (v=2) with |true=>decide (n=0)|false=>false
def pubB (seed:List UInt8) (v n m:Int):Bn:=⟨qPub (kSign seed),xPub (kIdent seed),xPub (kMed seed),qSign (kSign seed) (medT v (xPub (kMed seed))),n,onL seed n,kiL v m,keL seed v m,ksL seed v m,laL v m,v⟩
def Bn.rv (B:Bn):AV:= .agg [.rw 0,.rw 1,.rw 2,.rw 3,.ob .int B.onceId,.rw 4,.ob .int B.kemId,.rw 5,.rw 6,.ob .bool B.last,.ob .int B.version]
def Bn.us (B:Bn):List (Nat×Ch):= [(0,.row 5 .u8 B.sign),(1,.row 5 .u8 B.ident),(2,.row 5 .u8 B.medium),(3,.row 5 .u8 B.medsig),(4,.row 5 .u8 B.once),(5,.row 5 .u8 B.kem),(6,.row 5 .u8 B.kemsig)]
def pubP (seed:List UInt8) (v:Int) (o k:List Int) (n m:Int):Prop:=seed.length≤65536∧1≤v∧v≤2∧0≤n∧n≤1000∧0≤m∧m≤1000∧(0<n→n∈o)∧(v=2→0<m→m∈k)
theorem xPub_len (s:List UInt8):(xPub s).length=32:=leB_len _ _
theorem medT_len (v:Int) (m:List UInt8):(medT v m).length=m.length+2:=by rw [medT];simp
theorem kemT_len (v n:Int) (l:Bool) (m:List UInt8):(kemT v n l m).length=m.length+7:=by rw [kemT];simp [bigI_len];omega
set_option maxHeartbeats 16000000 in
theorem vcPub (seed:List UInt8) (v:Int) (o k:List Int) (n m:Int) (hp:pubP seed v o k n m):vc TYQ (ctOf LY3) Tryz.f33.ntmps (bodyOf Tryz.f33) ⟨mkSl 0 [.one (.ptr 1000 0),.one (.ob .int n),.one (.ob .int m)],hpOf 1000 (kcs seed v o k),2000⟩ (retB TYQ Tryz.f33.ntmps [.cell 6 32,.tmp 7] [(pubB seed v n m).rv,.one (.ob .int 0)] (pubB seed v n m).us (kcs seed v o k) []):=by
 obtain ⟨hl,hv1,hv2,hn0,hn1,hm0,hm1,hno,hmk⟩:=hp
 have hv0:(0:Int)≤v:=by omega
 have hn2:n≤1000000:=by omega
 have hm2:m≤1000000:=by omega
 have q1:(medT v (xPub (kMed seed))).length≤8388000:=by rw [medT_len,xPub_len];decide
 have q2:(xPub (kMed seed)).length≤65536:=by rw [xPub_len];decide
 have q3:(kSign seed).length≤8388608:=by rw [kSign,List.length_take];omega
 have q4:(kEk (dz seed m).1).length≤65536:=by have:=kEk_len (dz seed m).1;omega
 have q5:∀b,(kemT v m b (kEk (dz seed m).1)).length≤8388000:=fun b=>by have:=kEk_len (dz seed m).1;rw [kemT_len];omega
 refine ⟨fun h0=>absurd (of_decide_eq_true h0) (Int.not_lt.2 hn0),fun h0=>⟨h0,fun h1=>absurd (of_decide_eq_true h1) (Int.not_lt.2 hm0),fun h1=> ?_⟩⟩
 refine ⟨fun h2=>⟨fun h3=> ?_,fun h3=>⟨fun h4=>⟨fun h5=> ?_,fun h5=> ?_⟩,fun h4=> ?_⟩⟩,fun h2=>⟨fun h4=>⟨fun h5=> ?_,fun h5=> ?_⟩,fun h4=> ?_⟩⟩
 ·exact absurd (hno (of_decide_eq_true h2)) (of_decide_eq_false (by simpa using h3))
 ·refine ⟨h2,h3,h4,h5,fun h6=> ?_,fun h6=> ?_⟩
  ·exact absurd (hmk (of_decide_eq_true h4) (of_decide_eq_true h5)) (of_decide_eq_false (by simpa using h6))
  have c1: [kiL v m]= [m]:=by rw [kiL,h4]
  have c2: [laL v m]= [decide (m=0)]:=by rw [laL,h4]
  have c3:onL seed n=xPub (kOnce seed n):=by rw [onL,h2]
  have c4:keL seed v m=kEk (dz seed m).1:=by rw [keL,h4]
  have c5:ksL seed v m=qSign (kSign seed) (kemT v m (decide (m=0)) (kEk (dz seed m).1)):=by rw [ksL,h4]
  refine ⟨hl,hl,hl,⟨hv0,q2⟩,⟨q3,q1⟩,fun h7=> ?_,fun h7=> ?_⟩
  ·refine ⟨⟨hl,hn0,hn2⟩,fun h8=> ?_,fun h8=> ?_⟩
   ·refine ⟨⟨hl,hm0,hm2⟩,hl,⟨hv0,hm0,q4⟩,⟨q3,q5 _⟩,rfl,c1,c2,rfl,rfl,rfl,rfl,rfl,rfl,c3,c4,c5,trivial⟩
   ·exact absurd (h4.symm.trans h8) Bool.noConfusion
  ·exact absurd (h2.symm.trans h7) Bool.noConfusion
 ·refine ⟨h2,h3,h4,h5,?_⟩
  have c1: [kiL v m]= [m]:=by rw [kiL,h4]
  have c2: [laL v m]= [decide (m=0)]:=by rw [laL,h4]
  have c3:onL seed n=xPub (kOnce seed n):=by rw [onL,h2]
  have c4:keL seed v m=kEk (dz seed m).1:=by rw [keL,h4]
  have c5:ksL seed v m=qSign (kSign seed) (kemT v m (decide (m=0)) (kEk (dz seed m).1)):=by rw [ksL,h4]
  refine ⟨hl,hl,hl,⟨hv0,q2⟩,⟨q3,q1⟩,fun h7=> ?_,fun h7=> ?_⟩
  ·refine ⟨⟨hl,hn0,hn2⟩,fun h8=> ?_,fun h8=> ?_⟩
   ·refine ⟨⟨hl,hm0,hm2⟩,hl,⟨hv0,hm0,q4⟩,⟨q3,q5 _⟩,rfl,c1,c2,rfl,rfl,rfl,rfl,rfl,rfl,c3,c4,c5,trivial⟩
   ·exact absurd (h4.symm.trans h8) Bool.noConfusion
  ·exact absurd (h2.symm.trans h7) Bool.noConfusion
 ·refine ⟨h2,h3,h4,?_⟩
  have c1: [kiL v m]= [0]:=by rw [kiL,h4]
  have c2: [laL v m]= [false]:=by rw [laL,h4]
  have c3:onL seed n=xPub (kOnce seed n):=by rw [onL,h2]
  have c4:keL seed v m= []:=by rw [keL,h4]
  have c5:ksL seed v m= []:=by rw [ksL,h4]
  refine ⟨hl,hl,hl,⟨hv0,q2⟩,⟨q3,q1⟩,fun h7=> ?_,fun h7=> ?_⟩
  ·refine ⟨⟨hl,hn0,hn2⟩,fun h8=> ?_,fun h8=> ?_⟩
   ·exact absurd (h4.symm.trans h8) Bool.noConfusion
   ·refine ⟨rfl,c1,c2,rfl,rfl,rfl,rfl,rfl,rfl,c3,c4,c5,trivial⟩
  ·exact absurd (h2.symm.trans h7) Bool.noConfusion
 ·refine ⟨h2,h4,h5,fun h6=> ?_,fun h6=> ?_⟩
  ·exact absurd (hmk (of_decide_eq_true h4) (of_decide_eq_true h5)) (of_decide_eq_false (by simpa using h6))
  have c1: [kiL v m]= [m]:=by rw [kiL,h4]
  have c2: [laL v m]= [decide (m=0)]:=by rw [laL,h4]
  have c3:onL seed n= []:=by rw [onL,h2]
  have c4:keL seed v m=kEk (dz seed m).1:=by rw [keL,h4]
  have c5:ksL seed v m=qSign (kSign seed) (kemT v m (decide (m=0)) (kEk (dz seed m).1)):=by rw [ksL,h4]
  have z0: [n]= [0]:=by rw [show n=0 from Int.le_antisymm (Int.not_lt.1 (of_decide_eq_false h2)) hn0]
  refine ⟨hl,hl,hl,⟨hv0,q2⟩,⟨q3,q1⟩,fun h7=> ?_,fun h7=> ?_⟩
  ·exact absurd (h2.symm.trans h7) Bool.noConfusion
  ·refine ⟨fun h8=> ?_,fun h8=> ?_⟩
   ·refine ⟨⟨hl,hm0,hm2⟩,hl,⟨hv0,hm0,q4⟩,⟨q3,q5 _⟩,z0,c1,c2,rfl,rfl,rfl,rfl,rfl,rfl,c3,c4,c5,trivial⟩
   ·exact absurd (h4.symm.trans h8) Bool.noConfusion
 ·refine ⟨h2,h4,h5,?_⟩
  have c1: [kiL v m]= [m]:=by rw [kiL,h4]
  have c2: [laL v m]= [decide (m=0)]:=by rw [laL,h4]
  have c3:onL seed n= []:=by rw [onL,h2]
  have c4:keL seed v m=kEk (dz seed m).1:=by rw [keL,h4]
  have c5:ksL seed v m=qSign (kSign seed) (kemT v m (decide (m=0)) (kEk (dz seed m).1)):=by rw [ksL,h4]
  have z0: [n]= [0]:=by rw [show n=0 from Int.le_antisymm (Int.not_lt.1 (of_decide_eq_false h2)) hn0]
  refine ⟨hl,hl,hl,⟨hv0,q2⟩,⟨q3,q1⟩,fun h7=> ?_,fun h7=> ?_⟩
  ·exact absurd (h2.symm.trans h7) Bool.noConfusion
  ·refine ⟨fun h8=> ?_,fun h8=> ?_⟩
   ·refine ⟨⟨hl,hm0,hm2⟩,hl,⟨hv0,hm0,q4⟩,⟨q3,q5 _⟩,z0,c1,c2,rfl,rfl,rfl,rfl,rfl,rfl,c3,c4,c5,trivial⟩
   ·exact absurd (h4.symm.trans h8) Bool.noConfusion
 ·refine ⟨h2,h4,?_⟩
  have c1: [kiL v m]= [0]:=by rw [kiL,h4]
  have c2: [laL v m]= [false]:=by rw [laL,h4]
  have c3:onL seed n= []:=by rw [onL,h2]
  have c4:keL seed v m= []:=by rw [keL,h4]
  have c5:ksL seed v m= []:=by rw [ksL,h4]
  have z0: [n]= [0]:=by rw [show n=0 from Int.le_antisymm (Int.not_lt.1 (of_decide_eq_false h2)) hn0]
  refine ⟨hl,hl,hl,⟨hv0,q2⟩,⟨q3,q1⟩,fun h7=> ?_,fun h7=> ?_⟩
  ·exact absurd (h2.symm.trans h7) Bool.noConfusion
  ·refine ⟨fun h8=> ?_,fun h8=> ?_⟩
   ·exact absurd (h4.symm.trans h8) Bool.noConfusion
   ·refine ⟨z0,c1,c2,rfl,rfl,rfl,rfl,rfl,rfl,c3,c4,c5,trivial⟩
def gPub:GFB:=fun l cs=>match l,cs with
 | [.one (.ptr 1000 0),.one (.ob .int n),.one (.ob .int m)],[.blk 99 [.rw 1001,.ob .int v,.rw 1002,.rw 1003],.row 5 .u8 seed,.row 3 .int o,.row 3 .int k]=>some ⟨[(pubB seed v n m).rv,.one (.ob .int 0)],(pubB seed v n m).us,[],some (pubP seed v o k n m)⟩
 |_,_=>none
theorem pub_sound:CSound 33 (cfB gPub):=cfB_sound TYQok OPY3 Tryz.func33 (by kernel_rfl) rfl (rs:= [.cell 6 32,.tmp 7]) Tryz.results33 fun l cs g h hp=>by
 unfold gPub at h
 split at h
 ·cases h;exact ⟨Nat.le_of_ble_eq_true rfl,rfl,rfl,rfl,vcPub _ _ _ _ _ _ hp⟩
 ·cases h
set_option maxRecDepth 10000
set_option linter.unusedVariables false
theorem rnd_neg {k n:Int} (hn:0<n) (h:k.tmod n<0):k.tmod n+n=k%n:=by
 have h1:=Int.tmod_eq_emod (a:=k) (b:=n)
 have h2:=Int.emod_nonneg k (show n≠0 by omega)
 have h3:(n.natAbs:Int)=n:=by omega
 generalize k%n=r at*
 generalize k.tmod n=t at*
 split at h1<;>omega
theorem rnd_pos {k n:Int} (hn:0<n) (h:¬k.tmod n<0):k.tmod n=k%n:=by
 have h1:=Int.tmod_eq_emod (a:=k) (b:=n)
 have h2:=Int.emod_lt_of_pos k hn
 have h3:(n.natAbs:Int)=n:=by omega
 generalize k%n=r at*
 generalize k.tmod n=t at*
 split at h1<;>omega
set_option maxHeartbeats 1000000 in
theorem rnd_any {k n:Int} {w:World} (hn:0<n) (hn2:n≤4611686018427387904):Calls Tryz.prog 32 #[.int .i64 k,.int .i64 n] w fun e w'=>e= .returned (.int .i64 (k%n))∧w=w':=by
 have hz:n≠0:=by omega
 by_cases ht:k.tmod n<0
 ·have hd:decide (k.tmod n<0)=true:=decide_eq_true ht
  have hlo: -n<k.tmod n:=Int.lt_tmod_of_pos k hn
  have HE:=Lib.hid (rnd_neg hn ht)
  have hw:IntKind.i64.wrap (k.tmod n+n)=k.tmod n+n:=by rw [IntKind.wrap_i64];omega
  obtain ⟨t,hte⟩:∃t,k.tmod n=t:=⟨_,rfl⟩
  rw [hte] at hd hlo HE hw ht
  go_enter Tryz.func32,Tryz.ntmps32
  go_wp2
  go_ret
  rw [←HE.out]
  exact ⟨rfl,rfl⟩
 ·have hd:decide (k.tmod n<0)=false:=decide_eq_false ht
  have HE:=Lib.hid (rnd_pos hn ht)
  obtain ⟨t,hte⟩:∃t,k.tmod n=t:=⟨_,rfl⟩
  rw [hte] at hd HE ht
  go_enter Tryz.func32,Tryz.ntmps32
  go_wp2
  go_ret
  rw [←HE.out]
  exact ⟨rfl,rfl⟩
def gRound:GF:=fun l=>match l with
 | [.one (.ob .int z),.one (.ob .int n)]=>some ⟨[.one (.ob .int (z%n))],[],some (0<n∧n≤(4611686018427387904:Int))⟩
 |_=>none
theorem round_sound:CSound 32 (cfA gRound):=cfV_sound Tryz.func32 (by kernel_rfl) rfl fun l g h hp=>by
 unfold gRound at h
 split at h
 ·rename_i z n
  cases h
  refine ⟨rfl,rfl,fun η w vs ⟨v1,t1,e1,h1,v2,t2,e2,h2,e3⟩=> ?_⟩
  subst e3 e2 e1
  cases List.singleton_inj.1 (show [v1]= [_] from h1)
  cases List.singleton_inj.1 (show [v2]= [_] from h2)
  exact (rnd_any (k:=z) (n:=n) hp.1 hp.2).mono fun e w' ⟨he,hb⟩=>⟨_,he,by subst hb;exact Below.refl _ _,fun _ _=>rfl⟩
 ·cases h
def LYr:List (Nat×CF):= [(32,cfA gRound)]
theorem LYrok:∀p∈LYr,CSound p.1 p.2:=ctCons round_sound fun p hp=>by cases hp
theorem OPYr:OpsOk TYQ (ctOf LYr):=opsOk TYQok (ctOk LYrok)
def bkB (t:Int) (i:Nat):UInt8:=UInt8.ofNat (((i:Int)*i+t*7+1)%251).toNat
def bkP (n:Nat) (t:Int) (i:Nat):List UInt8:=(List.range n).map fun j=>if j<i then bkB t j else 0
def bkL (n:Nat) (t:Int):List UInt8:=(List.range n).map (bkB t)
theorem bkP_0 (n:Nat) (t:Int):bkP n t 0=List.replicate n 0:=by
 refine List.ext_getElem (by simp [bkP]) fun i h1 h2=> ?_
 simp [bkP]
theorem bkP_len (n:Nat) (t:Int) (i:Nat):(bkP n t i).length=n:=by simp [bkP]
theorem bkL_len (n:Nat) (t:Int):(bkL n t).length=n:=by simp [bkL]
theorem bkP_n (n:Nat) (t:Int):bkP n t n=bkL n t:=by
 refine List.ext_getElem (by simp [bkP,bkL]) fun i h1 h2=> ?_
 have:i<n:=by simpa [bkP] using h1
 simp [bkP,bkL,this]
theorem bkP_set {n:Nat} (t:Int) {i:Nat} (h:i<n):bkP n t (i+1)=(bkP n t i).set i (bkB t i):=by
 refine List.ext_getElem (by simp [bkP]) fun j h1 h2=> ?_
 rw [List.getElem_set]
 by_cases e:i=j
 ·subst e;simp [bkP]
 ·by_cases k:j<i
  ·simp [bkP,e,k,show j<i+1 by omega]
  ·simp [bkP,e,k,show ¬j<i+1 by omega]
theorem bk_in {i:Nat} {t:Int} (h:i≤1000) (t0:0≤t) (t1:t≤1000000):InI ((i:Int)*i)∧InI (t*7)∧InI ((i:Int)*i+t*7)∧InI ((i:Int)*i+t*7+1)∧0≤((i:Int)*i+t*7+1)%251∧InI ((i:Int)+1):=by
 have h1:(i:Int)*i≤1000*1000:=Int.mul_le_mul (by omega) (by omega) (by omega) (by omega)
 have h0:0≤(i:Int)*i:=Int.mul_nonneg (by omega) (by omega)
 generalize (i:Int)*i=q at*
 exact ⟨⟨by omega,by omega⟩,⟨by omega,by omega⟩,⟨by omega,by omega⟩,⟨by omega,by omega⟩,by omega,⟨by omega,by omega⟩⟩
theorem vcBlockI (n t:Int) (hp:0≤n∧n≤1000∧0≤t∧t≤1000000):vc TYQ (ctOf LYr) Tryz.f31.ntmps (bodyOf Tryz.f31) ⟨mkSl 0 [.one (.ob .int n),.one (.ob .int t)],[],2000⟩ (retR TYQ Tryz.f31.ntmps [.tmp 4] [.one (.rw 0)] [(0,.row 5 .u8 (bkL n.toNat t))]):=by
 obtain ⟨n0,n1,t0,t1⟩:=hp
 have em:max n (0:Int)=n:=Int.max_eq_left n0
 refine ⟨⟨?_,rfl,?_⟩,?_⟩
 ·show (0:Int)≤max n (0:Int)
  rw [em];exact n0
 ·show max n (0:Int)≤16777216
  rw [em];omega
 refine Or.inr ⟨{i:Nat // i≤n.toNat},fun i=>⟨[(6,.one (.ob .int (i.1:Int)))],[(2048,.row 5 .u8 (bkP n.toNat t i.1))]⟩,fun i=>n.toNat-i.1,⟨0,Nat.zero_le _⟩,?_⟩
 refine ⟨rfl,?_,fun i=> ?_⟩
 ·show bkP n.toNat t 0=List.replicate (max n (0:Int)).toNat 0
  rw [em,bkP_0]
 ·obtain ⟨i,hi⟩:=i
  intro hl
  refine ⟨fun h=> ?_,fun h=> ?_⟩
  ·have hln:=bkP_len n.toNat t i
   have h:(i:Int)<((bkP n.toNat t i).length:Int):=of_decide_eq_true h
   have hi2:i<n.toNat:=by omega
   obtain ⟨p1,p2,p3,p4,p5,p6⟩:=bk_in (i:=i) (t:=t) (by omega) t0 t1
   refine ⟨p1,p2,p3,p4,⟨by decide,by decide⟩,p5,⟨Int.natCast_nonneg _,h⟩,(by show ((i:Int)).toNat<(bkP n.toNat t i).length;omega),p6,⟨i+1,hi2⟩,?_,rfl,?_,trivial⟩
   ·show n.toNat-(i+1)<n.toNat-i
    omega
   ·exact bkP_set t hi2
  ·have hln:=bkP_len n.toNat t i
   have h:¬(i:Int)<((bkP n.toNat t i).length:Int):=of_decide_eq_false h
   obtain rfl:i=n.toNat:=by omega
   exact ⟨(bkP_n _ _).symm,trivial⟩
def gBlockL:GF:=fun l=>match l with
 | [.one (.ob .int n),.one (.ob .int k)]=>some ⟨[.one (.rw 0)],[(0,.row 5 .u8 (bkL n.toNat k))],some (0≤n∧n≤(1000:Int)∧0≤k∧k≤(1000000:Int))⟩
 |_=>none
theorem blockl_sound:CSound 31 (cfA gBlockL):=cfR_sound TYQok OPYr Tryz.func31 (by kernel_rfl) rfl (rs:= [.tmp 4]) Tryz.results31 fun l g h hp=>by
 unfold gBlockL at h
 split at h
 ·cases h;exact ⟨Nat.le_of_ble_eq_true rfl,rfl,rfl,rfl,vcBlockI _ _ hp⟩
 ·cases h
set_option maxRecDepth 10000
set_option linter.unusedVariables false
def LYu:List (Nat×CF):= [(30,cfB gNewK),(31,cfA gBlockL),(32,cfA gRound),(33,cfB gPub)]
theorem LYuok:∀p∈LYu,CSound p.1 p.2:=ctCons newk_sound<|ctCons blockl_sound<|ctCons round_sound<|ctCons pub_sound fun p hp=>by cases hp
theorem OPYu:OpsOk TYQ (ctOf LYu):=opsOk TYQok (ctOk LYuok)
def lawB (n v i:Int):Bn:=pubB (bkL 32 (n%3)) (1+v%2) (i%4) (i%4)
theorem lawB_pre (n v i:Int):pubP (bkL 32 (n%3)) (1+v%2) (seqI 3) (kemL (1+v%2) 3) (i%4) (i%4):=by
 refine ⟨by rw [bkL_len];decide,by omega,by omega,by omega,by omega,by omega,by omega,fun h=>seqI_mem.2 ⟨by omega,by omega⟩,fun e h=> ?_⟩
 rw [kemL,decide_eq_true e]
 exact seqI_mem.2 ⟨by omega,by omega⟩
set_option maxHeartbeats 4000000 in
theorem vcLawB (k n v tr i:Int) (nm:ByteArray) (L:List Int) (hp:tr≤0):vc TYQ (ctOf LYu) Tryz.f11.ntmps (bodyOf Tryz.f11) ⟨mkSl 0 [.agg [.ob .int k,.ob .str nm,.ob .int n,.ob .int v,.ro .int L,.ob .int tr],.one (.ob .int i)],[],2000⟩ (retR TYQ Tryz.f11.ntmps [.cell 4 32] [(lawB n v i).rv] (lawB n v i).us):=by
 have b1:(0:Int)≤32∧(32:Int)≤1000∧0≤n%3∧n%3≤1000000:=by omega
 have b2:InI (1+v%2):=⟨by omega,by omega⟩
 have b3:(bkL 32 (n%3)).length=32∧1≤1+v%2∧1+v%2≤2∧(0:Int)≤3∧(3:Int)≤10:=⟨bkL_len _ _,by omega,by omega,by omega,by omega⟩
 refine ⟨⟨by decide,by decide⟩,b1,⟨by decide,by decide⟩,b2,b3,fun h0=>absurd rfl (of_decide_eq_true h0),fun h0=> ?_⟩
 refine ⟨⟨by decide,by decide⟩,⟨by decide,by decide⟩,lawB_pre n v i,fun h1=>absurd (of_decide_eq_true h1) (Int.not_lt.2 hp),fun h1=> ?_⟩
 exact ⟨h1,rfl,rfl,rfl,rfl,rfl,rfl,rfl,rfl,rfl,rfl,rfl,trivial⟩
def gLawB:GF:=fun l=>match l with
 | [.agg [.ob .int k,.ob .str nm,.ob .int n,.ob .int v,.ro .int L,.ob .int tr],.one (.ob .int i)]=>some ⟨[(lawB n v i).rv],(lawB n v i).us,some (tr≤(0:Int))⟩
 |_=>none
theorem lawB_sound:CSound 11 (cfA gLawB):=cfR_sound TYQok OPYu Tryz.func11 (by kernel_rfl) rfl (rs:= [.cell 4 32]) Tryz.results11 fun l g h hp=>by
 unfold gLawB at h
 split at h
 ·cases h;exact ⟨Nat.le_of_ble_eq_true rfl,rfl,rfl,rfl,vcLawB _ _ _ _ _ _ _ hp⟩
 ·cases h
set_option maxRecDepth 10000
set_option linter.unusedVariables false
theorem bitN_leB {L N a:Nat} (h:a<8*L):bitN (leB L N) a=N/2^a%2:=by
 have hd:a/8<L:=by omega
 have e:((leB L N).getD (a/8) 0).toNat=N/2^(8*(a/8))%256:=by
  rw [List.getD_eq_getElem?_getD,List.getElem?_eq_getElem (by rw [leB_len];exact hd)]
  simp [leB]
 rw [bitN,e]
 have e2:2^a=2^(8*(a/8))*2^(a%8):=by rw [←Nat.pow_add];congr 1;omega
 rw [e2,←Nat.div_div_eq_div_mul]
 generalize N/2^(8*(a/8))=M
 have hr:a%8<8:=Nat.mod_lt _ (by omega)
 generalize a%8=r at*
 have hc:r=0∨r=1∨r=2∨r=3∨r=4∨r=5∨r=6∨r=7:=by omega
 rcases hc with rfl|rfl|rfl|rfl|rfl|rfl|rfl|rfl<;>omega
theorem numB_eq {c:List UInt8} {i v:Nat}:∀ {m:Nat},(∀k,k<m→bitN c (12*i+k)=v/2^k%2)→numB c i m=v%2^m
 |0,_=>by simp [numB,Nat.mod_one]
 |m+1,h=>by
  rw [numB,numB_eq fun k hk=>h k (by omega),h m (by omega),Nat.mod_pow_succ,Nat.mul_comm]
theorem mayL_ok {b:List UInt8} {i:Nat} {f:List UInt16} (h:∀j,j<384→(b.drop (384*i)).getD j 0=(encL 12 f).getD j 0):mayL (poly b i)=true:=by
 rw [mayL,List.all_eq_true]
 intro j hj
 have hj:j<256:=List.mem_range.1 hj
 refine decide_eq_true ?_
 have e:numB (b.drop (384*i)) j 12=pv 12 f j%2^12:=numB_eq fun k hk=>by
  rw [bitN,h _ (by omega),←bitN,encL,bitN_leB (by omega),encN_bit f hj hk]
 have hv:pv 12 f j<3329:=by
  unfold pv
  rw [if_pos rfl]
  exact Nat.mod_lt _ (by omega)
 rw [poly,rangeMap_getD hj,unp,e,Nat.mod_eq_of_lt (by omega),UInt16.toNat_ofNat',Nat.mod_eq_of_lt (by omega)]
 exact hv
theorem ckP_ek (d:List UInt8):ckP (kEk d)=0:=by
 have l0:(encL 12 (kT d 0)).length=384:=encL_len _ _
 have l1:(encL 12 (kT d 1)).length=384:=encL_len _ _
 have l2:(encL 12 (kT d 2)).length=384:=encL_len _ _
 have h0:mayL (poly (kEk d) 0)=true:=mayL_ok (f:=kT d 0) fun j hj=>by
  rw [List.getD_eq_getElem?_getD,List.getD_eq_getElem?_getD,List.getElem?_drop,kEk,List.append_assoc,List.append_assoc,List.getElem?_append_left (by omega)]
  simp
 have h1:mayL (poly (kEk d) 1)=true:=mayL_ok (f:=kT d 1) fun j hj=>by
  rw [List.getD_eq_getElem?_getD,List.getD_eq_getElem?_getD,List.getElem?_drop,kEk,List.append_assoc,List.append_assoc,List.getElem?_append_right (by omega),List.getElem?_append_left (by omega),l0,show 384*1+j-384=j by omega]
 have h2:mayL (poly (kEk d) 2)=true:=mayL_ok (f:=kT d 2) fun j hj=>by
  rw [List.getD_eq_getElem?_getD,List.getD_eq_getElem?_getD,List.getElem?_drop,kEk,List.append_assoc,List.getElem?_append_right (by rw [List.length_append];omega),List.getElem?_append_left (by rw [List.length_append];omega),List.length_append,l0,l1,show 384*2+j-(384+384)=j by omega]
 rw [ckP,if_pos (kEk_len d),if_pos h0,if_pos h1,if_pos h2]
theorem id4_eq {n:Int} (h0:0≤n) (h1:n≤1000):id4 n=bigI (UInt64.ofNat n.toNat) 4 4:=by
 have e1:(UInt32.ofNat n.toNat).toUInt64=UInt64.ofNat n.toNat:=by
  apply UInt64.toNat_inj.1
  rw [UInt32.toNat_toUInt64,UInt32.toNat_ofNat',UInt64.toNat_ofNat',Nat.mod_eq_of_lt (by omega),Nat.mod_eq_of_lt (by omega)]
 rw [id4,e1,beI_eq,be8,show (8:Nat)=4+4 from rfl,leB_append,List.reverse_append,List.drop_append_of_le_length (by rw [List.length_reverse,leB_len];exact Nat.le_refl _),List.drop_of_length_le (by rw [List.length_reverse,leB_len];exact Nat.le_refl _),List.nil_append,List.take_of_length_le (by rw [List.length_reverse,leB_len];exact Nat.le_refl _)]
def pubOk (v n m:Int):Prop:=1≤v∧v≤2∧0≤n∧n≤1000∧0≤m∧m≤1000
theorem pubB_good (seed:List UInt8) {v n m:Int} (h:pubOk v n m):badB (pubB seed v n m)=false:=by
 obtain ⟨hv1,hv2,hn0,hn1,hm0,hm1⟩:=h
 have a1:decide (((pubB seed v n m).sign.length:Int)=32)=true:=decide_eq_true (by rw [show (pubB seed v n m).sign.length=32 from qPub_len _];rfl)
 have a2:decide (((pubB seed v n m).ident.length:Int)=32)=true:=decide_eq_true (by rw [show (pubB seed v n m).ident.length=32 from xPub_len _];rfl)
 have a3:decide (((pubB seed v n m).medium.length:Int)=32)=true:=decide_eq_true (by rw [show (pubB seed v n m).medium.length=32 from xPub_len _];rfl)
 have a4:decide (((pubB seed v n m).medsig.length:Int)≠64)=false:=decide_eq_false (by rw [show (pubB seed v n m).medsig.length=64 from qSign_len _ _];simp)
 have a5:decide ((pubB seed v n m).onceId<0)=false:=decide_eq_false (Int.not_lt.2 hn0)
 have a6:decide (((pubB seed v n m).once.length:Int)≠wantL (pubB seed v n m))=false:=decide_eq_false (by
  rw [Decidable.not_not]
  show ((onL seed n).length:Int)=match decide (0<n) with |true=>32|false=>0
  unfold onL
  cases decide (0<n) with
  |true=>show ((xPub (kOnce seed n)).length:Int)=32;rw [xPub_len];rfl
  |false=>rfl)
 have a7:shp (pubB seed v n m)=true:=by
  rw [shp]
  split
  ·rename_i e
   have e:v=1:=of_decide_eq_true e
   have e2:decide (v=2)=false:=decide_eq_false (by omega)
   simp [pubB,kiL,keL,ksL,laL,e2]
  ·rename_i e
   have e:¬v=1:=of_decide_eq_false e
   have e1:v=2:=by omega
   have e2:decide (v=2)=true:=decide_eq_true e1
   simp [pubB,kiL,keL,ksL,laL,e1,kEk_len,qSign_len,hm0]
 rw [badB,a1,a2,a3,a4,a5,a6,a7];rfl
theorem verB_pub (seed:List UInt8) {v n m:Int} (h:pubOk v n m) {least:Int} (hl:least≤v):verB (pubB seed v n m) least=0:=by
 have hm:verM (pubB seed v n m)=0:=ver_sign (kSign seed) (medT v (xPub (kMed seed)))
 have h8:decide ((pubB seed v n m).version<least)=false:=decide_eq_false (Int.not_lt.2 hl)
 rw [verB,pubB_good seed h,h8,hm]
 by_cases e:v=1
 ·rw [show decide ((0:Int)≠0)=false from rfl,show decide ((pubB seed v n m).version=1)=true from decide_eq_true e]
 ·obtain ⟨hv1,hv2,hn0,hn1,hm0,hm1⟩:=h
  have e1:v=2:=by omega
  have e2:decide (v=2)=true:=decide_eq_true e1
  have hk:verK (pubB seed v n m)=0:=by
   have k1:(pubB seed v n m).kemsig=qSign (kSign seed) (kemT v m (decide (m=0)) (kEk (dz seed m).1)):=by show ksL seed v m=_;rw [ksL,e2]
   have k2:(kemR (pubB seed v n m)).flatten=kemT v m (decide (m=0)) (kEk (dz seed m).1):=by
    rw [kemR,show (pubB seed v n m).kemId=m by show kiL v m=m;rw [kiL,e2],show (pubB seed v n m).last=decide (m=0) by show laL v m=_;rw [laL,e2],show (pubB seed v n m).kem=kEk (dz seed m).1 by show keL seed v m=_;rw [keL,e2],id4_eq hm0 hm1]
    rfl
   rw [verK,k1,k2]
   exact ver_sign _ _
  rw [show decide ((0:Int)≠0)=false from rfl,show decide ((pubB seed v n m).version=1)=false from decide_eq_false e,hk,show (pubB seed v n m).kem=kEk (dz seed m).1 by show keL seed v m=_;rw [keL,e2],ckP_ek]
  rfl
theorem lawB_ok (n v i:Int):pubOk (1+v%2) (i%4) (i%4):=by unfold pubOk;omega
theorem verB_law (n v i:Int):verB (lawB n v i) 1=0:=verB_pub _ (lawB_ok n v i) (by omega)
set_option maxRecDepth 10000
set_option linter.unusedVariables false
def LYc:List (Nat×CF):= [(26,cfA gPEq),(50,cfA gPClone)]
theorem LYcok:∀p∈LYc,CSound p.1 p.2:=ctCons peq_sound<|ctCons pclone_sound fun p hp=>by cases hp
theorem OPYc:OpsOk TYQ (ctOf LYc):=opsOk TYQok (ctOk LYcok)
def Bn.small (B:Bn):Prop:=B.sign.length≤16777216∧B.ident.length≤16777216∧B.medium.length≤16777216∧B.medsig.length≤16777216∧B.once.length≤16777216∧B.kem.length≤16777216∧B.kemsig.length≤16777216
set_option maxHeartbeats 4000000 in
theorem vcOwn (B:Bn) (hp:B.small):vc TYQ (ctOf LYc) Tryz.f27.ntmps (bodyOf Tryz.f27) ⟨mkSl 0 [B.av],[],2000⟩ (retR TYQ Tryz.f27.ntmps [.cell 2 32] [B.rv] B.us):=by
 refine Or.inl ⟨8,?_⟩
 obtain ⟨h1,h2,h3,h4,h5,h6,h7⟩:=hp
 refine ⟨h1,?_⟩
 refine ⟨h2,?_⟩
 refine ⟨h3,?_⟩
 refine ⟨h4,?_⟩
 refine ⟨h5,?_⟩
 refine ⟨h6,?_⟩
 refine ⟨h7,?_⟩
 exact ⟨rfl,rfl,rfl,rfl,rfl,rfl,rfl,rfl,rfl,rfl,rfl,trivial⟩
def gOwn:GF:=fun l=>match l with
 | [.agg [.ro .u8 a,.ro .u8 b,.ro .u8 c,.ro .u8 d,.ob .int e,.ro .u8 f,.ob .int g,.ro .u8 h,.ro .u8 i,.ob .bool j,.ob .int k]]=>some ⟨[(⟨a,b,c,d,e,f,g,h,i,j,k⟩:Bn).rv],(⟨a,b,c,d,e,f,g,h,i,j,k⟩:Bn).us,some (Bn.small ⟨a,b,c,d,e,f,g,h,i,j,k⟩)⟩
 |_=>none
theorem own_sound:CSound 27 (cfA gOwn):=cfR_sound TYQok OPYc Tryz.func27 (by kernel_rfl) rfl (rs:= [.cell 2 32]) Tryz.results27 fun l g h hp=>by
 unfold gOwn at h
 split at h
 ·cases h;exact ⟨Nat.le_of_ble_eq_true rfl,rfl,rfl,rfl,vcOwn ⟨_,_,_,_,_,_,_,_,_,_,_⟩ hp⟩
 ·cases h
set_option maxRecDepth 10000
set_option linter.unusedVariables false
def H0:Nat→Option Ch:=fun _=>none
def E0:Env:=fun _=>none
theorem hp0 (w:World):HpOk H0 E0 w:=⟨fun b c h=>(by cases h),fun b b' g _ h=>absurd rfl h⟩
theorem anon0 (g:Nat):Anon H0 E0 g:=fun b h=>absurd rfl h
theorem fw0 {w w':World} {H':Nat→Option Ch} {η':Env} (h:Fw H0 E0 w H' η' w'):Below w.heap.size w w'∧∀b g,H' b≠none→fpE η' b=some g→w.heap.size≤g:=by
 refine ⟨⟨h.os,h.tape,h.output,h.size,fun g hg=>(h.anon g hg (anon0 g)).1⟩,fun b g hb hg=> ?_⟩
 rcases Nat.lt_or_ge g w.heap.size with hl|hl
 ·exact absurd hg ((h.anon g hl (anon0 g)).2 b hb)
 ·exact hl
def BnV (A:Nat→Prop) (w:World) (B:Bn) (v:Value):Prop:=B.av.H E0 A w v
theorem av_top {A:Nat→Prop} {w:World} {B:Bn} {v:Value} (h:BnV A w B v):B.av.H E0 (Anon H0 E0) w v:=by
 obtain ⟨cs,e,hc,h1⟩:=h
 obtain ⟨_,_,e0,⟨v0,f0,r0⟩,_,_,e1,⟨v1,f1,r1⟩,_,_,e2,⟨v2,f2,r2⟩,_,_,e3,⟨v3,f3,r3⟩,_,_,e4,h4,_,_,e5,⟨v4,f4,r4⟩,_,_,e6,h6,_,_,e7,⟨v5,f5,r5⟩,_,_,e8,⟨v6,f6,r6⟩,hr⟩:=hc
 have m:∀ {l:List UInt8} {v:Value},RoH A w .u8 l v→RoH (Anon H0 E0) w .u8 l v:=fun ⟨a,c,q1,q2,q3,q4,q5⟩=>⟨a,c,q1,q2,q3,q4,fun k=>by obtain ⟨g,o,cs,z1,_,z2⟩:=q5 k;exact ⟨g,o,cs,z1,anon0 g,z2⟩⟩
 exact ⟨cs,e,⟨_,_,e0,⟨v0,f0,m r0⟩,_,_,e1,⟨v1,f1,m r1⟩,_,_,e2,⟨v2,f2,m r2⟩,_,_,e3,⟨v3,f3,m r3⟩,_,_,e4,h4,_,_,e5,⟨v4,f4,m r4⟩,_,_,e6,h6,_,_,e7,⟨v5,f5,m r5⟩,_,_,e8,⟨v6,f6,m r6⟩,hr⟩,h1⟩
def Bn.rx (B:Bn) (n:Nat):AV:= .agg [.rw n,.rw (n+1),.rw (n+2),.rw (n+3),.ob .int B.onceId,.rw (n+4),.ob .int B.kemId,.rw (n+5),.rw (n+6),.ob .bool B.last,.ob .int B.version]
def Bn.ux (B:Bn) (n:Nat):List (Nat×Option Ch):= [(n,some (.row 5 .u8 B.sign)),(n+1,some (.row 5 .u8 B.ident)),(n+2,some (.row 5 .u8 B.medium)),(n+3,some (.row 5 .u8 B.medsig)),(n+4,some (.row 5 .u8 B.once)),(n+5,some (.row 5 .u8 B.kem)),(n+6,some (.row 5 .u8 B.kemsig))]
theorem rx_av {w w':World} {B:Bn} {v:Value} {η':Env} {p f:Option Prop} (h:ResH H0 E0 w 1000 ⟨[B.rx 1000],B.ux 1000,p,f⟩ v w' η'):Below w.heap.size w w'∧BnV (fun g=>w.heap.size≤g) w' B v:=by
 obtain ⟨hb,hfr⟩:=fw0 h.fw
 refine ⟨hb,?_⟩
 have key:∀ {b:Nat} {l:List UInt8},updF (B.ux 1000) H0 b=some (.row 5 .u8 l)→∀ {v:Value},η' b=some v→RoH (fun g=>w.heap.size≤g) w' .u8 l v:=fun {b l} hu {v} hv=>by
  obtain ⟨v',e1,hr⟩:=row_ro (h.hp.chunk b _ hu) (A':=fun g=>w.heap.size≤g) fun g hg=>hfr b g (by rw [hu];simp) hg
  rw [hv] at e1
  cases e1
  exact hr
 obtain ⟨cs,e,hc,h1⟩:=h.out
 obtain ⟨_,_,e0,⟨v0,g0,f0,_⟩,_,_,e1,⟨v1,g1,f1,_⟩,_,_,e2,⟨v2,g2,f2,_⟩,_,_,e3,⟨v3,g3,f3,_⟩,_,_,e4,h4,_,_,e5,⟨v4,g4,f4,_⟩,_,_,e6,h6,_,_,e7,⟨v5,g5,f5,_⟩,_,_,e8,⟨v6,g6,f6,_⟩,hr⟩:=hc
 exact ⟨cs,e,⟨_,_,e0,⟨v0,f0,key rfl g0⟩,_,_,e1,⟨v1,f1,key rfl g1⟩,_,_,e2,⟨v2,f2,key rfl g2⟩,_,_,e3,⟨v3,f3,key rfl g3⟩,_,_,e4,h4,_,_,e5,⟨v4,f4,key rfl g4⟩,_,_,e6,h6,_,_,e7,⟨v5,f5,key rfl g5⟩,_,_,e8,⟨v6,f6,key rfl g6⟩,hr⟩,h1⟩
theorem own_call {A:Nat→Prop} {w:World} {B:Bn} {v:Value} (h:BnV A w B v) (hs:B.small):Calls Tryz.prog 27 #[v] w fun e w'=>∃v',e= .returned v'∧Below w.heap.size w w'∧BnV (fun g=>w.heap.size≤g) w' B v':=by
 refine (own_sound.call 1000 [B.av] (fun _=> []) H0 [] ⟨[B.rx 1000],B.ux 1000,some B.small,none⟩ _ _ rfl (fun q hq=>by cases hq) hs E0 w [v] (hp0 w) ⟨v,[],rfl,av_top h,rfl⟩ fun _ _ _=>rfl).mono fun e w' ⟨v',η',he,hr⟩=>⟨v',he,rx_av hr⟩
theorem ro_one {A:Nat→Prop} {w:World} {k:Kd} {l:List k.T} {v:Value} (h:RoH A w k l v):v.oneCell'=true:=by
 obtain ⟨_,_,e,_⟩:=h
 rw [e];rfl
theorem ro_top {A:Nat→Prop} {w:World} {k:Kd} {l:List k.T} {v:Value}:RoH A w k l v→RoH (Anon H0 E0) w k l v:=fun ⟨a,c,q1,q2,q3,q4,q5⟩=>⟨a,c,q1,q2,q3,q4,fun z=>by obtain ⟨g,o,cs,z1,_,z2⟩:=q5 z;exact ⟨g,o,cs,z1,anon0 g,z2⟩⟩
theorem law_call {A:Nat→Prop} {w:World} (k n v tr i:Int) (nm:ByteArray) {L:List Int} {ls x:Value} (hL:RoH A w .int L ls) (hx:x= .agg #[.int .i64 k,.string nm,.int .i64 n,.int .i64 v,ls,.int .i64 tr]) (ht:tr≤0):Calls Tryz.prog 11 #[x,.int .i64 i] w fun e w'=>∃v',e= .returned v'∧Below w.heap.size w w'∧BnV (fun g=>w.heap.size≤g) w' (lawB n v i) v':=by
 have hx2:AV.H E0 (Anon H0 E0) w (.agg [.ob .int k,.ob .str nm,.ob .int n,.ob .int v,.ro .int L,.ob .int tr]) x:=by
  subst hx
  refine ⟨[.int .i64 k,.string nm,.int .i64 n,.int .i64 v,ls,.int .i64 tr],rfl,⟨[.int .i64 k],_,rfl,rfl,[.string nm],_,rfl,rfl,[.int .i64 n],_,rfl,rfl,[.int .i64 v],_,rfl,rfl,[ls],_,rfl,⟨ls,rfl,ro_top hL⟩,[.int .i64 tr],_,rfl,rfl,rfl⟩,?_⟩
  intro u hu
  simp only [List.mem_cons,List.not_mem_nil,or_false] at hu
  rcases hu with rfl|rfl|rfl|rfl|rfl|rfl<;>first |rfl|exact ro_one hL
 exact (lawB_sound.call 1000 [.agg [.ob .int k,.ob .str nm,.ob .int n,.ob .int v,.ro .int L,.ob .int tr],.one (.ob .int i)] (fun _=> []) H0 [] ⟨[(lawB n v i).rx 1000],(lawB n v i).ux 1000,some (tr≤(0:Int)),none⟩ _ _ rfl (fun q hq=>by cases hq) ht E0 w [x,.int .i64 i] (hp0 w) ⟨x,_,rfl,hx2,.int .i64 i,_,rfl,rfl,rfl⟩ fun _ _ _=>rfl).mono fun e w' ⟨v',η',he,hr⟩=>⟨v',he,rx_av hr⟩
theorem ver_call {A:Nat→Prop} {w:World} {B:Bn} {v:Value} (h:BnV A w B v) (n:Int):Calls Tryz.prog 25 #[v,.int .i64 n] w fun e w'=>e= .returned (.int .i64 (verB B n))∧Below w.heap.size w w':=by
 refine (verB_sound.call 1000 [B.av,.one (.ob .int n)] (fun _=> []) H0 [] ⟨[.one (.ob .int (verB B n))],[],none,none⟩ _ _ rfl (fun q hq=>by cases hq) trivial E0 w [v,.int .i64 n] (hp0 w) ⟨v,_,rfl,av_top h,.int .i64 n,_,rfl,rfl,rfl⟩ fun _ _ _=>rfl).mono fun e w' ⟨v',η',he,hr⟩=> ?_
 have ho: [v']= [_]:=hr.out
 cases List.singleton_inj.1 ho
 exact ⟨he,(fw0 hr.fw).1⟩
theorem equal_call {A A':Nat→Prop} {w:World} {l m:List UInt8} {u v:Value} (h:RoH A w .u8 l u) (h':RoH A' w .u8 m v):Calls Tryz.prog 26 #[u,v] w fun e w'=>e= .returned (.bool (decide (l=m)))∧Below w.heap.size w w':=by
 refine (peq_sound.call 1000 [.one (.ro .u8 l),.one (.ro .u8 m)] (fun _=> []) H0 [] ⟨[.one (.ob .bool (decide (l=m)))],[],none,none⟩ _ _ rfl (fun q hq=>by cases hq) trivial E0 w [u,v] (hp0 w) ⟨u,_,rfl,⟨u,rfl,ro_top h⟩,v,_,rfl,⟨v,rfl,ro_top h'⟩,rfl⟩ fun _ _ _=>rfl).mono fun e w' ⟨v',η',he,hr⟩=> ?_
 have ho: [v']= [_]:=hr.out
 cases List.singleton_inj.1 ho
 exact ⟨he,(fw0 hr.fw).1⟩
end Go.Proofs.YtknlbpjcjdenbaaGreat
namespace Go.Proofs.YtknlbpjcjdenbaaGreat
open Go Go.RowKit Go.Maps
set_option linter.unusedVariables false
theorem bn_cells {A:Nat→Prop} {w:World} {B:Bn} {v:Value} (h:BnV A w B v):∃a b c d e f g,v= .agg #[a,b,c,d,.int .i64 B.onceId,e,.int .i64 B.kemId,f,g,.bool B.last,.int .i64 B.version]∧RoH A w .u8 B.sign a∧RoH A w .u8 B.ident b∧RoH A w .u8 B.medium c∧RoH A w .u8 B.medsig d∧RoH A w .u8 B.once e∧RoH A w .u8 B.kem f∧RoH A w .u8 B.kemsig g:=by
 obtain ⟨cs,rfl,⟨_,_,e0,⟨v0,f0,r0⟩,_,_,e1,⟨v1,f1,r1⟩,_,_,e2,⟨v2,f2,r2⟩,_,_,e3,⟨v3,f3,r3⟩,_,_,e4,h4,_,_,e5,⟨v4,f4,r4⟩,_,_,e6,h6,_,_,e7,⟨v5,f5,r5⟩,_,_,e8,⟨v6,f6,r6⟩,_,_,e9,h9,_,_,ea,ha,eb⟩,_⟩:=h
 cases (show _= [Value.int .i64 B.onceId] from h4)
 cases (show _= [Value.int .i64 B.kemId] from h6)
 cases (show _= [Value.bool B.last] from h9)
 cases (show _= [Value.int .i64 B.version] from ha)
 subst eb ea e9 e8 e7 e6 e5 e4 e3 e2 e1 e0 f0 f1 f2 f3 f4 f5 f6
 exact ⟨v0,v1,v2,v3,v4,v5,v6,rfl,r0,r1,r2,r3,r4,r5,r6⟩
theorem results_bn {fn:Func} {p u:Tmp} (h:fn.results= #[.cell p 32,.tmp u]) (tmps:Array Value) (w:World) {g:Nat} {cs:List Value} (hp:tmps.getD p undef= .pointer (some ⟨g,0,none⟩)) (hB:Blk w g cs 32) (hl:cs.length=11):(results fn tmps).run Tryz.prog w= .ok (.tuple #[.agg cs.toArray,tmps.getD u undef]) w:=by
 have hi:(Tryz.prog.info? 32).map (·.size)=some cs.toArray.size:=by
  have:(Tryz.prog.info? 32).map (·.size)=some 11:=by kernel_rfl
  rw [this];simp [hl]
 have hx:(loadVar 32 ⟨g,0,none⟩).run Tryz.prog w= .ok (.agg cs.toArray) w:=run_loadVar_row w g 32 32 cs.toArray (0,0) _ hB Tryz.underlying32 rfl hi
 rw [results_cell_tmp h,hp]
 simp [asAddr,Result.andThen,hx]
theorem bn_range {A:Nat→Prop} {w:World} {B:Bn} {cs:List Value} {b o:Nat} (h:BnV A w B (.agg cs.toArray)) (hr:w.rangeAt b o cs):∃v0 v1 v2 v3 v5 v7 v8,cs= [v0,v1,v2,v3,.int .i64 B.onceId,v5,.int .i64 B.kemId,v7,v8,.bool B.last,.int .i64 B.version]∧
  w.cell? ⟨b,o,none⟩=some v0∧w.cell? ⟨b,o+1,none⟩=some v1∧w.cell? ⟨b,o+2,none⟩=some v2∧w.cell? ⟨b,o+3,none⟩=some v3∧w.cell? ⟨b,o+4,none⟩=some (.int .i64 B.onceId)∧w.cell? ⟨b,o+5,none⟩=some v5∧w.cell? ⟨b,o+6,none⟩=some (.int .i64 B.kemId)∧w.cell? ⟨b,o+7,none⟩=some v7∧w.cell? ⟨b,o+8,none⟩=some v8∧w.cell? ⟨b,o+9,none⟩=some (.bool B.last)∧w.cell? ⟨b,o+10,none⟩=some (.int .i64 B.version):=by
 obtain ⟨v0,v1,v2,v3,v5,v7,v8,e,_⟩:=bn_cells h
 obtain rfl:cs= [v0,v1,v2,v3,.int .i64 B.onceId,v5,.int .i64 B.kemId,v7,v8,.bool B.last,.int .i64 B.version]:=by
  have:cs.toArray= #[v0,v1,v2,v3,.int .i64 B.onceId,v5,.int .i64 B.kemId,v7,v8,.bool B.last,.int .i64 B.version]:=by injection e
  exact congrArg Array.toList this
 exact ⟨v0,v1,v2,v3,v5,v7,v8,rfl,hr 0 _ rfl,hr 1 _ rfl,hr 2 _ rfl,hr 3 _ rfl,hr 4 _ rfl,hr 5 _ rfl,hr 6 _ rfl,hr 7 _ rfl,hr 8 _ rfl,hr 9 _ rfl,hr 10 _ rfl⟩
end Go.Proofs.YtknlbpjcjdenbaaGreat
namespace Go.Proofs.YtknlbpjcjdenbaaGreat
open Go Go.RowKit
def mrg:List Value→List (Nat×Nat)→(Nat→Value)→List Value
 |l,[],_=>l
 | [],_::_,_=> []
 |_::l,(0,i)::p,u=>u i::mrg l p u
 |a::l,(s+1,i)::p,u=>a::mrg l ((s,i)::p) u
theorem mrg_at (j:Nat) (p:List (Nat×Nat)) (u:Nat→Value):∀(s:Nat) (l:List Value),mrg l ((s,j)::p) u=if s<l.length then l.take s++u j::mrg (l.drop (s+1)) p u else l
 |0,[]=>by simp [mrg]
 |0,a::l=>by simp [mrg]
 |s+1,[]=>by simp [mrg]
 |s+1,a::l=>by
  rw [mrg,mrg_at j p u s l]
  by_cases h:s<l.length
  ·rw [if_pos h,if_pos (by simpa using h)];simp
  ·rw [if_neg h,if_neg (by simpa using h)]
def hasI (p:List (Nat×Nat)) (i:Nat):Bool:=p.any fun x=>x.2 ==i
def hasP:List (Nat×Nat)→Nat→Nat→Bool
 | [],_,_=>false
 |(s,j)::p,d,i=>if j ==i then d ==s&& !hasI p i else decide (s<d)&&hasP p (d-s-1) i
def onceP:List (Nat×Nat)→Bool
 | []=>true
 |(_,j)::p=> !hasI p j&&onceP p
theorem mrg_out {i:Nat} {v:Value} {u:Nat→Value}:∀(p:List (Nat×Nat)) (l:List Value),hasI p i=false→mrg l p (putV u i v)=mrg l p u
 | [],l,_=>by cases l<;>simp [mrg]
 |(s,j)::p,l,h=>by
  simp only [hasI,List.any_cons,Bool.or_eq_false_iff] at h
  rw [mrg_at,mrg_at,mrg_out p _ h.2,putV_ne (by simpa using h.1)]
theorem mrg_put {i:Nat} {v:Value} {u:Nat→Value}:∀(p:List (Nat×Nat)) (d:Nat) (l:List Value),hasP p d i=true→mrg l p (putV u i v)=(mrg l p u).set d v
 | [],d,l,h=>by simp [hasP] at h
 |(s,j)::p,d,l,h=>by
  rw [hasP] at h
  rw [mrg_at,mrg_at]
  by_cases hj:j=i
  ·subst hj
   rw [if_pos (by simp)] at h
   simp only [Bool.and_eq_true,beq_iff_eq,Bool.not_eq_true'] at h
   obtain ⟨rfl,h2⟩:=h
   by_cases hl:d<l.length
   ·rw [if_pos hl,if_pos hl,mrg_out p _ h2,putV_same,List.set_append_right _ _ (by rw [List.length_take];omega),List.length_take,Nat.min_eq_left (by omega),Nat.sub_self,List.set_cons_zero]
   ·rw [if_neg hl,if_neg hl,List.set_eq_of_length_le (by omega)]
  ·rw [if_neg (by simpa using hj)] at h
   simp only [Bool.and_eq_true,decide_eq_true_eq] at h
   by_cases hl:s<l.length
   ·rw [if_pos hl,if_pos hl,mrg_put p _ _ h.2,putV_ne hj,List.set_append_right _ _ (by rw [List.length_take];omega),List.length_take,Nat.min_eq_left (by omega),show d-s=(d-s-1)+1 by omega,List.set_cons_succ]
    rfl
   ·rw [if_neg hl,if_neg hl,List.set_eq_of_length_le (by omega)]
theorem mrg_self:∀(p:List (Nat×Nat)) (l:List Value),onceP p=true→∃u,mrg l p u=l
 | [],l,_=>⟨fun _=>undef,by cases l<;>simp [mrg]⟩
 |(s,j)::p,l,h=>by
  simp only [onceP,Bool.and_eq_true,Bool.not_eq_true'] at h
  obtain ⟨u,hu⟩:=mrg_self p (l.drop (s+1)) h.2
  by_cases hl:s<l.length
  ·refine ⟨putV u j l[s],?_⟩
   rw [mrg_at,if_pos hl,mrg_out p _ h.1,hu,putV_same,List.getElem_cons_drop,List.take_append_drop]
  ·exact ⟨u,by rw [mrg_at,if_neg hl]⟩
def okP (p:List (Nat×Nat)) (ops:Array Oper):Bool:=onceP p&&(List.range ops.size).all fun i=>match (ops[i]?).bind (·.dst) with |some d=>hasP p d i|none=> !hasI p i
theorem okP_put {p:List (Nat×Nat)} {ops:Array Oper} (h:okP p ops=true) {fr:(Nat→Value)→Array Value} {F:List Value} {df:List Deferred} (hF:∀u,(mrg F p u).toArray=fr u) (u:Nat→Value) (i:Nat) (v:Value) (hi:i<ops.size):
  (⟨fr u,df⟩:Act).put ((ops[i]?).bind (·.dst)) v=⟨fr (putV u i v),df⟩:=by
 simp only [okP,Bool.and_eq_true,List.all_eq_true,List.mem_range] at h
 have h2:=h.2 i hi
 cases hd:(ops[i]?).bind (·.dst) with
 |none=>
  rw [hd] at h2
  rw [←hF,←hF,mrg_out p F (by simpa using h2)];rfl
 |some d=>
  rw [hd] at h2
  rw [←hF,←hF,mrg_put p d F h2]
  simp [Act.put]
section
variable {F:List Value} {fr:(Nat→Value)→Array Value} {df:List Deferred} {ops:Array Oper} {id:Nat} {Q:Exit→Act→World→Prop} {w:World}
end
section
variable {α:Type} {R:Rp α} {ops:Array Oper} {wt:Nat→Nat→Bool} {Q:Exit→Act→World→Prop} {fr:(Nat→Value)→Array Value} {df:List Deferred} {l:List Fact} {W0:World} {i:Nat} {o:Oper}
end
section
variable {α:Type} {m:Nat} {l:List Fact} {W0 W w:World} {L:Nat→Bool} {u:Nat→Value} {wt:Nat→Nat→Bool} {i:Nat}
end
inductive Path (wt:Nat→Nat→Bool):Nat→Nat→Prop
 |one {a b:Nat}:wt a b=true→Path wt a b
 |cons {a c b:Nat}:wt a c=true→Path wt c b→Path wt a b
theorem Path.listed {wt:Nat→Nat→Bool} {L:Nat→Bool} (hcl:∀k d,L k=true→wt k d=true→L d=true) {a b:Nat} (h:Path wt a b) (ha:L a=true):L b=true:=by
 induction h with
 |one h=>exact hcl _ _ ha h
 |cons h _ ih=>exact ih (hcl _ _ ha h)
theorem Path.first {wt:Nat→Nat→Bool} {L:Nat→Bool} {a b:Nat} (hcl:∀k d,L k=true→wt k d=true→L d=true) (hdep:∀d,wt a d=true→L d=true) (h:Path wt a b):L b=true:=by
 cases h with
 |one h=>exact hdep _ h
 |cons h h2=>exact h2.listed hcl (hdep _ h)
theorem putL_false' {L:Nat→Bool} {i j:Nat} (h:putL L i j=false):j≠i:=by
 rintro rfl;rw [putL_same] at h;cases h
section
variable {α:Type} {R:Rp α} {ops:Array Oper} {wt:Nat→Nat→Bool} {Q:Exit→Act→World→Prop} {fr:(Nat→Value)→Array Value} {df:List Deferred} {l:List Fact} {W0:World} {i:Nat} {o:Oper}
end
section
variable {n:Nat} {w1:World} {X:List Value} {P:World→Prop} {ops:Array Oper} {wt:Nat→Nat→Bool} {Q:Exit→Act→World→Prop} {fr:(Nat→Value)→Array Value} {df:List Deferred} {i:Nat} {o:Oper}
theorem notL {L:Nat→Bool} {a b:Nat} (hcl:∀k d,L k=true→wt k d=true→L d=true) (hp:Path wt a b) (hL:L b=false):L a=false:=by
 cases h:L a with
 |false=>rfl
 |true=>have:=hp.listed hcl h;rw [hL] at this;cases this
end
section
variable {F:List Value} {fr:(Nat→Value)→Array Value} {df:List Deferred} {ops:Array Oper} {id:Nat} {Q:Exit→Act→World→Prop} {w:World}
end
def knw (x:Value):WP:=⟨fun v _=>v=x,fun _ _ _ h _=>h⟩
def kany:WP:=⟨fun _ _=>True,fun _ _ _ _ _=>trivial⟩
structure GT (n:Nat) (T:List WP) (i:Nat) (L:Nat→Bool) (u:Nat→Value) (W:World):Prop where
 soft:i<n→L n=false→(T.getD i kany).P (u i) W
 val:i<n→∀x,T.getD i kany=knw x→u i=x
theorem GT.keep {n k i:Nat} {T:List WP} {L:Nat→Bool} {u:Nat→Value} {z:Value} {W W':World} (hki:k≠i) (hb:Below W.heap.size W W') (h:GT n T k L u W):GT n T k (putL L i) (putV u i z) W':=
 ⟨fun hk hl=>by rw [putV_ne hki];exact (T.getD k kany).st _ _ _ (h.soft hk (putL_false hl)) hb,fun hk x e=>by rw [putV_ne hki];exact h.val hk x e⟩
section
variable {n:Nat} {w1:World} {T:List WP} {P:World→Prop} {ops:Array Oper} {wt:Nat→Nat→Bool} {Q:Exit→Act→World→Prop} {fr:(Nat→Value)→Array Value} {df:List Deferred} {i:Nat} {o:Oper}
theorem soft_GT:Soft wt (GT n T):=⟨fun _ _ _ _ _ _ hki _ h=>GT.keep hki (Below.refl _ _) h,fun _ _ _ _ _ hb h=>⟨fun hk hl=>(T.getD _ kany).st _ _ _ (h.soft hk hl) hb,h.val⟩⟩
theorem GT.here {L:Nat→Bool} {u:Nat→Value} {v:Value} {W:World} (h:(T.getD i kany).P v W):GT n T i L (putV u i v) W:=⟨fun _ _=>by rw [putV_same];exact h,fun _ x e=>by rw [putV_same];rw [e] at h;exact h⟩
end
section
variable {F:List Value} {fr:(Nat→Value)→Array Value} {df:List Deferred} {ops:Array Oper} {id:Nat} {Q:Exit→Act→World→Prop} {w:World}
end
def JQ (c:List Nat) (Pj:Nat→World→Prop) (L:Nat→Bool) (_u:Nat→Value) (W:World):Prop:=∃j,j≤c.length∧(∀t k,c[t]?=some k→L k=decide (t<j))∧Pj j W
def GQ (X:List Value) (i:Nat) (_L:Nat→Bool) (u:Nat→Value) (_W:World):Prop:=u i=X.getD i undef
section
variable {c:List Nat} {Pj:Nat→World→Prop} {X:List Value} {ops:Array Oper} {wt:Nat→Nat→Bool} {Q:Exit→Act→World→Prop} {fr:(Nat→Value)→Array Value} {df:List Deferred} {i:Nat} {o:Oper}
theorem soft_GQ:Soft wt (GQ X):=⟨fun _ _ _ _ _ _ hki _ h=>by unfold GQ at *;rw [putV_ne hki];exact h,fun _ _ _ _ _ _ h=>h⟩
theorem kkP (hi:i ∉ c) (hr:∀u W j,Pj j W→(∀t k,c[t]?=some k→Path wt i k→t<j)→(∀t k,c[t]?=some k→Path wt k i→j≤t)→(∀d,wt i d=true→u d=X.getD d undef)→(execOp (⟨fr u,df⟩:Act).eval o).run Tryz.prog W= .ok (.value (X.getD i undef)) W) (hg:o.guard=none:=by rfl):
  StepAt Tryz.prog ops wt Q fr df (GQ X) (JQ c Pj) i o:=by
 intro L u W hcl hJ hG hL hdep K hK
 rw [if_pos (by simp [Region.wanted,hg])]
 obtain ⟨j,hj,hc,hP⟩:=hJ
 unfold Oper.wp
 rw [hr u W j hP (fun t k hk hp=>by have h1:=hp.first hcl hdep;rw [hc t k hk] at h1;exact of_decide_eq_true h1) (fun t k hk hp=>by have h1:=notL hcl hp hL;rw [hc t k hk] at h1;have:=of_decide_eq_false h1;omega) (fun d hd=>hG d (hdep d hd))]
 refine hK.out _ W ⟨j,hj,fun t k hk=> ?_,hP⟩ (fun k hk hki _ h=>by unfold GQ at *;rw [putV_ne hki];exact h) (by unfold GQ;exact putV_same _ _ _)
 have hne:k≠i:=fun e=>hi (by rw [←e];exact List.mem_of_getElem? hk)
 rw [putL_ne hne];exact hc t k hk
theorem kkC {t:Nat} (ht:c[t]?=some i) (hnd:c.Nodup) (hord:∀s k,s<t→c[s]?=some k→Path wt i k) (hr:∀u W,Pj t W→(∀d,wt i d=true→u d=X.getD d undef)→∀K:Act→World→Prop,Shut (∀w',Pj (t+1) w'→K ((⟨fr u,df⟩:Act).put o.dst (X.getD i undef)) w')→Oper.wp Tryz.prog o ⟨fr u,df⟩ W K Q) (hg:o.guard=none:=by rfl):
  StepAt Tryz.prog ops wt Q fr df (GQ X) (JQ c Pj) i o:=by
 intro L u W hcl hJ hG hL hdep K hK
 rw [if_pos (by simp [Region.wanted,hg])]
 obtain ⟨j,hj,hc,hP⟩:=hJ
 have htl:=(List.getElem?_eq_some_iff.1 ht).1
 have hjt:j=t:=by
  have h1:=hc t i ht
  rw [hL] at h1
  have h2:=of_decide_eq_false h1.symm
  rcases Nat.lt_or_ge j t with h|h
  ·obtain ⟨k,hk⟩:∃k,c[j]?=some k:=⟨_,List.getElem?_eq_getElem (by omega)⟩
   have h3:=(hord j k h hk).first hcl hdep
   rw [hc j k hk] at h3
   have:=of_decide_eq_true h3
   omega
  ·omega
 subst hjt
 refine hr u W hP (fun d hd=>hG d (hdep d hd)) K (fun w' hP'=> ?_)
 refine hK.out _ w' ⟨j+1,htl,fun s k hk=> ?_,hP'⟩ (fun k hk hki _ h=>by unfold GQ at *;rw [putV_ne hki];exact h) (by unfold GQ;exact putV_same _ _ _)
 by_cases e:s=j
 ·subst e
  rw [ht] at hk;cases hk
  rw [putL_same];simp
 ·have hki:k≠i:=fun h=>by
   subst h
   have h1:=(List.getElem?_eq_some_iff.1 hk);have h2:=(List.getElem?_eq_some_iff.1 ht)
   exact e ((List.getElem_inj (h₀:=h1.1) (h₁:=h2.1) hnd).1 (h1.2.trans h2.2.symm))
  rw [putL_ne hki,hc s k hk]
  simp only [decide_eq_decide];omega
end
section
variable {F:List Value} {fr:(Nat→Value)→Array Value} {df:List Deferred} {ops:Array Oper} {id:Nat} {Q:Exit→Act→World→Prop} {w:World}
theorem rgQ (n:Nat) (p:List (Nat×Nat)) (X:List Value) (c:List Nat) (Pj:Nat→World→Prop) (hP0:Pj 0 w.drew) (hcn:∀k∈c,k<n)
  (hsteps:AllSteps Tryz.prog ops (waitsOn .any ops) Q fr df (GQ X) (JQ c Pj) 0 ops.toList)
  (hdone:∀u W,Pj c.length W→(∀k,k<n→u k=X.getD k undef)→Q .normal ⟨fr u,df⟩ W)
  (hF:∀u,(mrg F p u).toArray=fr u:=by intro u;dsimp only [mrg];try exact rfl)
  (hc:okP p ops=true:=by kernel_rfl) (hn:ops.size=n:=by kernel_rfl) (hm:Tryz.prog.follows .mixedOrders=true:=by kernel_rfl) (he:earlier .any ops=true:=by kernel_rfl):(Code.region id ops true).wp Tryz.prog Q ⟨F.toArray,df⟩ w:=by
 obtain ⟨u0,hu⟩:=mrg_self p F (by simp only [okP,Bool.and_eq_true] at hc;exact hc.1)
 refine wp_region_mid (a:=⟨F.toArray,df⟩) fr (GQ X) (JQ c Pj) u0 hm he (okP_put hc hF) (by rw [←hF,hu]) ⟨0,Nat.zero_le _,fun t k hk=>by simp,hP0⟩ soft_GQ (fun _=>hsteps) (fun L u W hall hJ hG=> ?_)
 obtain ⟨j,hj,hcj,hP⟩:=hJ
 have:j=c.length:=by
  rcases Nat.lt_or_ge j c.length with h|h
  ·have h1:=hcj j _ (List.getElem?_eq_getElem h)
   rw [hall _ (by rw [hn];exact hcn _ (List.getElem_mem h))] at h1
   have:=of_decide_eq_true h1.symm
   omega
  ·omega
 subst this
 exact hdone u W hP (fun k hk=>hG k (by omega))
end
set_option linter.unusedVariables false
abbrev bn0:Array Value:= #[.slice none 0 0,.slice none 0 0,.slice none 0 0,.slice none 0 0,.int .i64 0,.slice none 0 0,.int .i64 0,.slice none 0 0,.slice none 0 0,.bool false,.int .i64 0]
theorem info32:(Tryz.prog.info? 32).map (·.size)=some 11:=by kernel_rfl
theorem zero32 (w:World):(zeroValue 32).run Tryz.prog w= .ok (.agg bn0) w:=by kernel_rfl
theorem bn0_one:bn0.all (·.oneCell')=true:=by first |decide|kernel_rfl
theorem setRow_blk {w:World} {g E:Nat} {cs ds:List Value} (h:Blk w g cs E):Blk (w.setRow g ds.toArray) g ds E:=setRow_heap w g _ _ E _ h
theorem Fr.setRow {F:Nat→Prop} {a w:World} {g:Nat} (h:Fr F a w) (hg:F g∨a.heap.size≤g) (cs:Array Value):Fr F a (w.setRow g cs):=
 h.trans (F':=fun x=>x=g) ⟨rfl,rfl,rfl,by simp,fun b _ hn=>setRow_other w g b _ hn⟩ (fun x hx=>by cases hx;exact hg)
theorem setCells_half {g E:Nat}:∀(vs pre old post:List Value) (w:World),old.length=vs.length→Blk w g (pre++(old++post)) E→Blk (w.setCells g pre.length vs) g (pre++(vs++post)) E:=by
 intro vs
 induction vs with
 |nil=>
  intro pre old post w ho h
  rw [List.length_eq_zero_iff.1 ho] at h
  exact h
 |cons v vs ih=>
  intro pre old post w ho h
  obtain ⟨o,old,rfl⟩:∃o r,old=o::r:=by cases old with |nil=>cases ho|cons o r=>exact ⟨o,r,rfl⟩
  have h1:=h.set pre.length v
  rw [show (pre++(o::old++post)).set pre.length v=(pre++ [v])++(old++post) by rw [List.set_append_right _ _ (Nat.le_refl _)];simp] at h1
  have h2:=ih (pre++ [v]) old post _ (by simpa using ho) h1
  rw [show (pre++ [v]).length=pre.length+1 by simp] at h2
  rw [show pre++(v::vs++post)=pre++ [v]++(vs++post) by simp]
  exact h2
theorem setCells_blk {w:World} {g E o:Nat} {cs ds:List Value} (h:Blk w g cs E) (hd:o+ds.length≤cs.length):Blk (w.setCells g o ds) g (cs.take o++(ds++cs.drop (o+ds.length))) E:=by
 have h1:=setCells_half ds (cs.take o) ((cs.drop o).take ds.length) (cs.drop (o+ds.length)) w (by rw [List.length_take,List.length_drop];omega) (by
  rw [←List.drop_drop,List.take_append_drop,List.take_append_drop];exact h)
 rw [List.length_take,Nat.min_eq_left (by omega)] at h1
 exact h1
theorem Fr.setCells {F:Nat→Prop} {a:World} {g:Nat}:∀ {ds:List Value} {o:Nat} {w:World},Fr F a w→(F g∨a.heap.size≤g)→Fr F a (w.setCells g o ds)
 | [],_,_,h,_=>h
 |v::r,o,w,h,hg=>Fr.setCells (ds:=r) (h.setCell hg v) hg
theorem clear_one {w:World} {q n c ty:Nat} {xs:List Value} (hB:Blk w q xs 32) (hx:n*11+11≤xs.length):
  (Builtin.clear_ #[49] ty #[.slice (some ⟨q,n*11,none⟩) 1 c]).run Tryz.prog w= .ok (.tuple #[]) (w.setRow q (xs.take (n*11)++bn0.toList++xs.drop (n*11+11)).toArray):=by
 have hz:(Builtin.zeroCells (Value.agg bn0).cells 1).toList=bn0.toList:=by kernel_rfl
 have hst:=run_storeCells_at Tryz.prog q (n*11) 32 bn0.toList 0 xs.toArray w hB (by simpa using hx) (by simpa using bn0_one)
 simp only [Nat.add_zero] at hst
 simp [Builtin.clear_,run_underlying Tryz.underlying49,zero32,hz,hst]
set_option maxHeartbeats 2000000 in
theorem sdel_any {w:World} {q n c:Nat} {xs:List Value} (hB:Blk w q xs 32) (hx:xs.length=c*11) (h1:∀u∈xs.take ((n+1)*11),u.oneCell'=true) (hn:n+1≤c) (hc:c≤maxLen):
  Calls Tryz.prog 38 #[.slice (some ⟨q,0,none⟩) (n+1) c,.int .i64 0,.int .i64 1] w fun e w'=>e= .returned (.slice (some ⟨q,0,none⟩) n c)∧∃xs',Blk w' q xs' 32∧xs'.length=c*11∧xs'.take (n*11)=(xs.drop 11).take (n*11)∧Fr (fun x=>x=q) w w':=by
 obtain ⟨ys,hys⟩:∃ys,ys=(xs.drop 11).take (n*11):=⟨_,rfl⟩
 have hl:ys.length=n*11:=by rw [hys,List.length_take,List.length_drop];omega
 obtain ⟨AD,hAD,hsrc⟩:∃AD:Addr,(if c=1 then some (⟨q,0,none⟩:Addr) else some ⟨q,11,none⟩)=some AD∧Hid (∀j u,ys[j]?=some u→w.drew.cell? (AD.add j)=some u):=by
  by_cases h:c=1
  ·refine ⟨⟨q,0,none⟩,by simp [h],fun j u hu=> ?_⟩
   rw [List.length_eq_zero_iff.1 (show ys.length=0 by omega)] at hu
   cases hu
  ·refine ⟨⟨q,11,none⟩,by simp [h],fun j u hu=> ?_⟩
   have hj:j<n*11:=by rw [←hl];exact (List.getElem?_eq_some_iff.1 hu).1
   rw [show (⟨q,11,none⟩:Addr).add j=⟨q,11+j,none⟩ by unfold Addr.add;split<;>simp_all]
   show w.cell? _=_
   rw [hB.cell,←hu,hys,List.getElem?_take,if_pos hj,List.getElem?_drop]
 obtain ⟨i0,hi0,hi1⟩:=Option.map_eq_some_iff.1 info32
 have s1:=Lib.hid hl
 have s2:=Lib.hid (show ∀u∈ys,u.oneCell'=true from fun u hu=>h1 u (by rw [hys,show n*11=(n+1)*11-11 by omega,←List.drop_take] at hu;exact List.mem_of_mem_drop hu))
 have s3:Hid (∀t,t<ys.length→(w.drew.cell? ⟨q,0+0*11+t,none⟩).isSome=true∧w.drew.frozen? ⟨q,0+0*11+t,none⟩=false):=Lib.hid fun t ht=>by
  constructor
  ·show (w.cell? _).isSome=true
   rw [hB.cell,List.getElem?_eq_getElem (by omega)];rfl
  ·exact hB.frozen _
 obtain ⟨W1,hW1⟩:∃W1,W1=w.drew.setCells q (0+0*11) ys:=⟨_,rfl⟩
 have hB1:Blk W1 q (ys++xs.drop (n*11)) 32:=by
  have h:=setCells_blk (w:=w.drew) (o:=0) hB (ds:=ys) (by omega)
  rw [hW1]
  rw [hl] at h
  simpa using h
 have hf1:Fr (fun x=>x=q) w W1:=by rw [hW1];exact (Fr.refl _ w).drew.setCells (.inl rfl)
 have hB2:(ys++xs.drop (n*11)).length=c*11:=by rw [List.length_append,List.length_drop];omega
 have hcl:∀ty,(Builtin.clear_ #[49] ty #[.slice (some ⟨q,n*11,none⟩) 1 (c-n)]).run Tryz.prog W1= .ok (.tuple #[]) (W1.setRow q ((ys++xs.drop (n*11)).take (n*11)++bn0.toList++(ys++xs.drop (n*11)).drop (n*11+11)).toArray):=fun ty=>clear_one hB1 (by omega)
 have HW:=Lib.hid hW1
 have HB1:=Lib.hid hB1
 have HF1:=Lib.hid hf1
 have HY:=Lib.hid hys
 have HX:=Lib.hid hx
 have hne:¬(0:Int)=1:=by omega
 have hge:(1:Int)≤(n:Int)+1:=by omega
 clear hB hx hl hys h1 hB1 hB2 hf1 hW1
 go_enter Tryz.func38,Tryz.ntmps38
 go_upto_region 5 with fail
 go_region_law (refine step_append_room rfl (.tmp 22) (.tmp 25) 49 rfl 32 i0 11 Tryz.underlying49 hi0 hi1 q 0 0 c (by simp [Act.eval,Act.put]) AD n (c-1) ys (by simp [Act.eval,Act.put]) s1.out hsrc.out s2.out (by omega) s3.out ?_;rw [←HW.out])
 go_wp2
 go_ret
 have hL:=s1.out
 have hX:=HX.out
 have hY:=HY.out
 refine ⟨by simp,_,setRow_blk HB1.out,?_,?_,HF1.out.setRow (.inl rfl) _⟩
 ·simp only [List.length_append,List.length_take,List.length_drop,bn0,List.length_cons,List.length_nil]
  omega
 ·rw [List.take_append_of_le_length (by rw [List.length_take,List.length_append];omega),List.take_take,Nat.min_self,List.take_append_of_le_length (by omega),List.take_of_length_le (by omega),hY]
end Go.Proofs.YtknlbpjcjdenbaaGreat
namespace Go.Proofs.YtknlbpjcjdenbaaGreat
open Go Go.RowKit Go.Maps
set_option linter.unusedVariables false
theorem bn_one {A:Nat→Prop} {w:World} {B:Bn} {cs:Array Value} (h:BnV A w B (.agg cs)):cs.all (·.oneCell')=true:=by
 obtain ⟨l,e,_,h1⟩:=h
 injection e with e
 subst e
 rw [Array.all_eq_true_iff_forall_mem]
 intro v hv
 exact h1 v (by simpa using hv)
set_option maxHeartbeats 4000000 in
theorem look_base (p:Option Addr) (s:ByteArray) {w:World} {A:Nat→Prop} {b c:Nat} {a:Option Addr} {B:Bn} {cs:List Value} (hs:B.small)
  (hw:∀w1,Below w.heap.size w w1→w1.cell? ⟨b,11,none⟩=some (.slice a 0 c)∧BnV A w1 B (.agg cs.toArray)∧w1.rangeAt b 0 cs)
  (hf:∀w1,Below w.heap.size w w1→Calls Tryz.prog 35 #[.pointer p,.string s] w1 fun e w'=>e= .returned (.tuple #[.pointer (some ⟨b,0,none⟩),.int .i64 0])∧w1=w'):
  Calls Tryz.prog 37 #[.pointer p,.string s] w fun e w'=>∃z,e= .returned (.tuple #[z,.int .i64 0])∧Below w.heap.size w w'∧BnV (fun g=>w.heap.size≤g) w' B z:=by
 have HF:=Lib.hid hf
 obtain ⟨k1,k2,k3⟩:=hw (w.alloc (.cells #[.slice none 0 0,.slice none 0 0,.slice none 0 0,.slice none 0 0,.int .i64 0,.slice none 0 0,.int .i64 0,.slice none 0 0,.slice none 0 0,.bool false,.int .i64 0] 32)) ((by repeat (first|(with_reducible refine Below.alloc' ?_ _)|(with_reducible refine Below.drew ?_)|(with_reducible refine below_drewN ?_ _)|((with_reducible refine Below.setCell ?_ ?_ _);rotate_left;(focus (first|exact Nat.le_refl _|(simp;done)|(simp;omega))))|(with_reducible assumption)|(with_reducible exact Below.refl _ _))))
 have HS:=Lib.hid hs
 obtain ⟨v0,v1,v2,v3,v5,v7,v8,rfl,c0,c1,c2,c3,c4,c5,c6,c7,c8,c9,ca⟩:=bn_range k2 k3
 simp only [Nat.zero_add] at c0 c1 c2 c3 c4 c5 c6 c7 c8 c9 ca
 have K2:=Lib.hid k2
 clear hf hw hs k2 k3
 go_enter Tryz.func37,Tryz.ntmps37
 go_wp2_with (first|(go_at_call 35;go_must (refine (HF.out _ ((by repeat (first|(with_reducible refine Below.alloc' ?_ _)|(with_reducible refine Below.drew ?_)|(with_reducible refine below_drewN ?_ _)|((with_reducible refine Below.setCell ?_ ?_ _);rotate_left;(focus (first|exact Nat.le_refl _|(simp;done)|(simp;omega))))|(with_reducible assumption)|(with_reducible exact Below.refl _ _))))).mono ?_;rintro e w1 ⟨rfl,rfl⟩))|(go_at_call 27;go_must (refine (own_call K2.out HS.out).mono ?_;rintro e w1 ⟨z,rfl,hb,hz⟩;obtain ⟨y0,y1,y2,y3,y5,y7,y8,rfl,_⟩:=bn_cells hz;have H1:=bn_one hz;have HB0:w1.heap[w.heap.size]?=some (.cells bn0 32 (0,0)):=(hb.block _ (by show w.heap.size<(w.heap.push _).size;simp)).trans (Blk.new w _ _);have HZ:=Lib.hid hz;have HBW:=Lib.hid hb;clear hz hb))|(refine wpList_store_row rfl 32 _ _ rfl w.heap.size _ rfl rfl 32 bn0 HB0 info32 rfl H1 ?_))
 have hB:Blk (w1.setRow w.heap.size #[y0,y1,y2,y3,.int .i64 B.onceId,y5,.int .i64 B.kemId,y7,y8,.bool B.last,.int .i64 B.version]) w.heap.size [y0,y1,y2,y3,.int .i64 B.onceId,y5,.int .i64 B.kemId,y7,y8,.bool B.last,.int .i64 B.version] 32:=setRow_heap w1 w.heap.size _ _ 32 _ HB0
 refine bodyPost_ret (results_bn (g:=w.heap.size) Tryz.results37 _ _ rfl hB rfl) ?_ ?_
 ·rfl
 ·have hb1:Below w.heap.size w w1:=Below.trans ((by repeat (first|(with_reducible refine Below.alloc' ?_ _)|(with_reducible refine Below.drew ?_)|(with_reducible refine below_drewN ?_ _)|((with_reducible refine Below.setCell ?_ ?_ _);rotate_left;(focus (first|exact Nat.le_refl _|(simp;done)|(simp;omega))))|(with_reducible assumption)|(with_reducible exact Below.refl _ _)))) (HBW.out.mono (by show w.heap.size≤(w.heap.push _).size;simp))
  refine ⟨_,rfl,below_setRow hb1 (Nat.le_refl _) _,?_⟩
  have hz:(B.av).H E0 (fun g=>(w.heap.push (.cells bn0 32)).size≤g) w1 _:=HZ.out
  refine AV.H.later (η:=E0) (η':=E0) ⟨fun _ _ h=>h,fun g hg ha=>⟨setRow_other _ _ _ _ ?_,?_⟩⟩ hz
  ·have ha:(w.heap.push (.cells bn0 32)).size≤g:=ha
   simp at ha
   omega
  ·have ha:(w.heap.push (.cells bn0 32)).size≤g:=ha
   simp at ha
   show w.heap.size≤g
   omega
set_option maxHeartbeats 4000000 in
theorem look_first (p:Option Addr) (s:ByteArray) {w:World} {A:Nat→Prop} {b c q k:Nat} {B:Bn} {cs:List Value} (hs:B.small)
  (hw:∀w1,Below w.heap.size w w1→w1.cell? ⟨b,11,none⟩=some (.slice (some ⟨q,0,none⟩) (k+1) c)∧BnV A w1 B (.agg cs.toArray)∧w1.rangeAt q 0 cs)
  (hf:∀w1,Below w.heap.size w w1→Calls Tryz.prog 35 #[.pointer p,.string s] w1 fun e w'=>e= .returned (.tuple #[.pointer (some ⟨b,0,none⟩),.int .i64 0])∧w1=w'):
  Calls Tryz.prog 37 #[.pointer p,.string s] w fun e w'=>∃z,e= .returned (.tuple #[z,.int .i64 0])∧Below w.heap.size w w'∧BnV (fun g=>w.heap.size≤g) w' B z:=by
 have HF:=Lib.hid hf
 have hk1:0<k+1:=by omega
 have hk2:(0:Int)<((k+1:Nat):Int):=by omega
 obtain ⟨k1,k2,k3⟩:=hw (w.alloc (.cells #[.slice none 0 0,.slice none 0 0,.slice none 0 0,.slice none 0 0,.int .i64 0,.slice none 0 0,.int .i64 0,.slice none 0 0,.slice none 0 0,.bool false,.int .i64 0] 32)) ((by repeat (first|(with_reducible refine Below.alloc' ?_ _)|(with_reducible refine Below.drew ?_)|(with_reducible refine below_drewN ?_ _)|((with_reducible refine Below.setCell ?_ ?_ _);rotate_left;(focus (first|exact Nat.le_refl _|(simp;done)|(simp;omega))))|(with_reducible assumption)|(with_reducible exact Below.refl _ _))))
 have HS:=Lib.hid hs
 obtain ⟨v0,v1,v2,v3,v5,v7,v8,rfl,c0,c1,c2,c3,c4,c5,c6,c7,c8,c9,ca⟩:=bn_range k2 k3
 simp only [Nat.zero_add] at c0 c1 c2 c3 c4 c5 c6 c7 c8 c9 ca
 have K2:=Lib.hid k2
 clear hf hw hs k2 k3
 go_enter Tryz.func37,Tryz.ntmps37
 go_wp2_with (first|(go_at_call 35;go_must (refine (HF.out _ ((by repeat (first|(with_reducible refine Below.alloc' ?_ _)|(with_reducible refine Below.drew ?_)|(with_reducible refine below_drewN ?_ _)|((with_reducible refine Below.setCell ?_ ?_ _);rotate_left;(focus (first|exact Nat.le_refl _|(simp;done)|(simp;omega))))|(with_reducible assumption)|(with_reducible exact Below.refl _ _))))).mono ?_;rintro e w1 ⟨rfl,rfl⟩))|(go_at_call 27;go_must (refine (own_call K2.out HS.out).mono ?_;rintro e w1 ⟨z,rfl,hb,hz⟩;obtain ⟨y0,y1,y2,y3,y5,y7,y8,rfl,_⟩:=bn_cells hz;have H1:=bn_one hz;have HB0:w1.heap[w.heap.size]?=some (.cells bn0 32 (0,0)):=(hb.block _ (by show w.heap.size<(w.heap.push _).size;simp)).trans (Blk.new w _ _);have HZ:=Lib.hid hz;have HBW:=Lib.hid hb;clear hz hb))|(refine wpList_store_row rfl 32 _ _ rfl w.heap.size _ rfl rfl 32 bn0 HB0 info32 rfl H1 ?_))
 have hB:Blk (w1.setRow w.heap.size #[y0,y1,y2,y3,.int .i64 B.onceId,y5,.int .i64 B.kemId,y7,y8,.bool B.last,.int .i64 B.version]) w.heap.size [y0,y1,y2,y3,.int .i64 B.onceId,y5,.int .i64 B.kemId,y7,y8,.bool B.last,.int .i64 B.version] 32:=setRow_heap w1 w.heap.size _ _ 32 _ HB0
 refine bodyPost_ret (results_bn (g:=w.heap.size) Tryz.results37 _ _ rfl hB rfl) ?_ ?_
 ·rfl
 ·have hb1:Below w.heap.size w w1:=Below.trans ((by repeat (first|(with_reducible refine Below.alloc' ?_ _)|(with_reducible refine Below.drew ?_)|(with_reducible refine below_drewN ?_ _)|((with_reducible refine Below.setCell ?_ ?_ _);rotate_left;(focus (first|exact Nat.le_refl _|(simp;done)|(simp;omega))))|(with_reducible assumption)|(with_reducible exact Below.refl _ _)))) (HBW.out.mono (by show w.heap.size≤(w.heap.push _).size;simp))
  refine ⟨_,rfl,below_setRow hb1 (Nat.le_refl _) _,?_⟩
  have hz:(B.av).H E0 (fun g=>(w.heap.push (.cells bn0 32)).size≤g) w1 _:=HZ.out
  refine AV.H.later (η:=E0) (η':=E0) ⟨fun _ _ h=>h,fun g hg ha=>⟨setRow_other _ _ _ _ ?_,?_⟩⟩ hz
  ·have ha:(w.heap.push (.cells bn0 32)).size≤g:=ha
   simp at ha
   omega
  ·have ha:(w.heap.push (.cells bn0 32)).size≤g:=ha
   simp at ha
   show w.heap.size≤g
   omega
set_option linter.unusedVariables false
set_option maxHeartbeats 4000000 in
theorem fetch_base (p:Option Addr) (s:ByteArray) {w:World} {B:Bn}
  (hl:∀w1,Below w.heap.size w w1→Calls Tryz.prog 37 #[.pointer p,.string s] w1 fun e w'=>∃z,e= .returned (.tuple #[z,.int .i64 0])∧Below w1.heap.size w1 w'∧BnV (fun g=>w1.heap.size≤g) w' B z)
  (hc:∀w1,Below w.heap.size w w1→Calls Tryz.prog 13 #[.pointer p,.string s] w1 fun e w'=>e= .returned (.int .i64 0)∧w1=w'):
  Calls Tryz.prog 14 #[.pointer p,.string s] w fun e w'=>∃z,e= .returned (.tuple #[z,.int .i64 0])∧Below w.heap.size w w'∧BnV (fun g=>w.heap.size≤g) w' B z:=by
 have HL:=Lib.hid hl
 have HCn:=Lib.hid hc
 clear hl hc
 go_enter Tryz.func14,Tryz.ntmps14
 go_upto_region 2 with (first|(go_at_call 37;go_must (refine (HL.out _ ((by repeat (first|(with_reducible refine Below.alloc' ?_ _)|(with_reducible refine Below.drew ?_)|(with_reducible refine below_drewN ?_ _)|((with_reducible refine Below.setCell ?_ ?_ _);rotate_left;(focus (first|exact Nat.le_refl _|(simp;done)|(simp;omega))))|(with_reducible assumption)|(with_reducible exact Below.refl _ _))))).mono ?_;rintro e w1 ⟨z,rfl,hb,hz⟩;obtain ⟨y0,y1,y2,y3,y5,y7,y8,rfl,_⟩:=bn_cells hz;have H1:=bn_one hz;have HB0:w1.heap[w.heap.size]?=some (.cells bn0 32 (0,0)):=(hb.block _ (by show w.heap.size<(w.heap.push _).size;simp)).trans (Blk.new w _ _);have HZ:=Lib.hid hz;have HBW:=Lib.hid hb;clear hz hb))|(refine wpList_store_row rfl 32 _ _ rfl w1.heap.size _ rfl rfl 32 bn0 (Blk.new w1 _ _) info32 rfl H1 ?_))
 have hs1:w.heap.size<w1.heap.size:=by
  have:=HBW.out.size
  have h2:(w.heap.push (.cells bn0 32)).size≤w1.heap.size:=this
  simp at h2
  omega
 have hb1:Below w.heap.size w w1:=Below.trans ((by repeat (first|(with_reducible refine Below.alloc' ?_ _)|(with_reducible refine Below.drew ?_)|(with_reducible refine below_drewN ?_ _)|((with_reducible refine Below.setCell ?_ ?_ _);rotate_left;(focus (first|exact Nat.le_refl _|(simp;done)|(simp;omega))))|(with_reducible assumption)|(with_reducible exact Below.refl _ _)))) (HBW.out.mono (by show w.heap.size≤(w.heap.push _).size;simp))
 obtain ⟨W,hW⟩:∃W,W=(w1.alloc (.cells bn0 32)).setRow w1.heap.size #[y0,y1,y2,y3,.int .i64 B.onceId,y5,.int .i64 B.kemId,y7,y8,.bool B.last,.int .i64 B.version]:=⟨_,rfl⟩
 have hB2:Blk W w1.heap.size [y0,y1,y2,y3,.int .i64 B.onceId,y5,.int .i64 B.kemId,y7,y8,.bool B.last,.int .i64 B.version] 32:=by rw [hW];exact setRow_heap _ _ _ _ 32 _ (Blk.new w1 _ _)
 have hB3:W.heap[w.heap.size]?=some (.cells bn0 32 (0,0)):=by
  rw [hW,setRow_other _ _ _ _ (by omega)]
  exact (heap_alloc_old w1 (.cells bn0 32) hs1).trans HB0
 have hbW:Below w.heap.size w W:=by rw [hW];exact below_setRow (Below.alloc' hb1 _) (by omega) _
 have hzW:BnV (fun g=>w.heap.size<g) W B (.agg #[y0,y1,y2,y3,.int .i64 B.onceId,y5,.int .i64 B.kemId,y7,y8,.bool B.last,.int .i64 B.version]):=by
  have hz:(B.av).H E0 (fun g=>(w.heap.push (.cells bn0 32)).size≤g) w1 _:=HZ.out
  refine AV.H.later (η:=E0) (η':=E0) ⟨fun _ _ h=>h,fun g hg ha=>⟨?_,?_⟩⟩ hz
  ·rw [hW,setRow_other _ _ _ _ (by omega)]
   exact heap_alloc_old w1 (.cells bn0 32) hg
  ·have ha:(w.heap.push (.cells bn0 32)).size≤g:=ha
   simp at ha
   show w.heap.size<g
   omega
 have hc0:=hB2.cell 0;have hc1:=hB2.cell 1;have hc2:=hB2.cell 2;have hc3:=hB2.cell 3;have hc4:=hB2.cell 4;have hc5:=hB2.cell 5;have hc6:=hB2.cell 6;have hc7:=hB2.cell 7;have hc8:=hB2.cell 8;have hc9:=hB2.cell 9;have hca:=hB2.cell 10
 rw [←hW]
 have HBW2:=Lib.hid hbW
 have HZW:=Lib.hid hzW
 clear hW hbW hzW hB2 HBW HZ HB0 hb1
 go_wp2_with (first|(go_at_call 13;go_must (refine (HCn.out _ HBW2.out).mono ?_;rintro e w2 ⟨rfl,rfl⟩))|(refine wpList_store_row rfl 32 _ _ rfl w.heap.size _ rfl rfl 32 bn0 hB3 info32 rfl H1 ?_))
 have hB:Blk (W.setRow w.heap.size #[y0,y1,y2,y3,.int .i64 B.onceId,y5,.int .i64 B.kemId,y7,y8,.bool B.last,.int .i64 B.version]) w.heap.size [y0,y1,y2,y3,.int .i64 B.onceId,y5,.int .i64 B.kemId,y7,y8,.bool B.last,.int .i64 B.version] 32:=setRow_heap W w.heap.size _ _ 32 _ hB3
 refine bodyPost_ret (results_bn (g:=w.heap.size) Tryz.results14 _ _ rfl hB rfl) ?_ ?_
 ·rfl
 ·refine ⟨_,rfl,below_setRow HBW2.out (Nat.le_refl _) _,?_⟩
  have hz:(B.av).H E0 (fun g=>w.heap.size<g) W _:=HZW.out
  exact AV.H.later (η:=E0) (η':=E0) ⟨fun _ _ h=>h,fun g hg ha=>⟨setRow_other _ _ _ _ (Nat.ne_of_gt ha),Nat.le_of_lt ha⟩⟩ hz
set_option linter.unusedVariables false
set_option linter.unusedVariables false
theorem BnV.later {A A':Nat→Prop} {w w':World} (hl:∀g,g<w.heap.size→A g→w'.heap[g]?=w.heap[g]?∧A' g) {B:Bn} {v:Value} (h:BnV A w B v):BnV A' w' B v:=AV.H.later (η:=E0) (η':=E0) ⟨fun _ _ h=>h,hl⟩ h
theorem bn_len {A:Nat→Prop} {w:World} {B:Bn} {cs:List Value} (h:BnV A w B (.agg cs.toArray)):cs.length=11:=by
 obtain ⟨a,b,c,d,e,f,g,e1,_⟩:=bn_cells h
 injection e1 with e1
 have:=congrArg Array.size e1
 simpa using this
def RowsB (A:Nat→Prop) (w:World):List Value→List Bn→Prop
 |xs,[]=>xs= []
 |xs,B::l=>∃cs r,xs=cs++r∧BnV A w B (.agg cs.toArray)∧RowsB A w r l
theorem RowsB.later {A A':Nat→Prop} {w w':World} (hl:∀g,g<w.heap.size→A g→w'.heap[g]?=w.heap[g]?∧A' g):∀ {l:List Bn} {xs:List Value},RowsB A w xs l→RowsB A' w' xs l
 | [],_,h=>h
 |_::_,_,⟨cs,r,e,hB,hr⟩=>⟨cs,r,e,hB.later hl,hr.later hl⟩
theorem RowsB.append {A:Nat→Prop} {w:World} {B:Bn} {cs:List Value} (hB:BnV A w B (.agg cs.toArray)):∀ {l:List Bn} {xs:List Value},RowsB A w xs l→RowsB A w (xs++cs) (l++ [B])
 | [],_,h=>by cases h;exact ⟨cs,[],by simp,hB,rfl⟩
 |_::_,_,⟨ds,r,e,hD,hr⟩=>⟨ds,r++cs,by rw [e,List.append_assoc],hD,hr.append hB⟩
theorem RowsB.len {A:Nat→Prop} {w:World}:∀ {l:List Bn} {xs:List Value},RowsB A w xs l→xs.length=l.length*11
 | [],_,h=>by cases h;rfl
 |B::l,_,⟨cs,r,e,hB,hr⟩=>by
  rw [e,List.length_append,hr.len,bn_len hB,List.length_cons];omega
theorem RowsB.one {A:Nat→Prop} {w:World}:∀ {l:List Bn} {xs:List Value},RowsB A w xs l→∀u∈xs,u.oneCell'=true
 | [],_,h=>by cases h;simp
 |B::l,_,⟨cs,r,e,hB,hr⟩=>by
  intro u hu
  rw [e] at hu
  rcases List.mem_append.1 hu with h|h
  ·have:=bn_one hB
   simp only [List.all_toArray,List.all_eq_true] at this
   exact this u h
  ·exact hr.one u h
theorem RowsB.at {A:Nat→Prop} {w:World}:∀ {l:List Bn} {xs:List Value} {k:Nat} (hk:k<l.length),RowsB A w xs l→∃cs,cs=(xs.drop (k*11)).take 11∧BnV A w l[k] (.agg cs.toArray)
 |B::l,xs,0,hk,⟨cs,r,e,hB,hr⟩=>⟨cs,by
   have:=bn_len hB
   rw [e,Nat.zero_mul,List.drop_zero,List.take_append_of_le_length (by omega),List.take_of_length_le (by omega)],hB⟩
 |B::l,xs,k+1,hk,⟨cs,r,e,hB,hr⟩=>by
  obtain ⟨ds,e2,h2⟩:=hr.at (k:=k) (by simpa using hk)
  refine ⟨ds,?_,h2⟩
  have:=bn_len hB
  rw [e2,e,show (k+1)*11=cs.length+k*11 by omega,List.drop_append,show cs.drop (cs.length+k*11)= [] from List.drop_eq_nil_of_le (by omega),List.nil_append]
  simp
theorem range_sub {w:World} {b o k n:Nat} {xs:List Value} (h:w.rangeAt b o xs):w.rangeAt b (o+k) ((xs.drop k).take n):=fun j v hv=>by
 rw [List.getElem?_take] at hv
 split at hv
 ·rw [List.getElem?_drop] at hv
  rw [Nat.add_assoc]
  exact h _ v hv
 ·cases hv
structure En where
 base:Bn
 once:List Bn
 onces:Int→Int
 kems:Int→Int
def onI (f:Int→Int) (k:Int):Int→Int:=fun j=>if j=k then IntKind.i64.wrap (f k+1) else f j
def En.add (e:En) (B:Bn):En:=⟨e.base,e.once++ [B],onI e.onces B.onceId,onI e.kems B.kemId⟩
def MapI (D:DataW Value) (f:Int→Int):Prop:=∀k,InI k→D.atKey (.int .i64 k) (.lit (.int .i64 0))= .lit (.int .i64 (f k))
abbrev MI (w:World) (g m:Nat) (D:DataW Value):Prop:=w.ownsMap (H:=Value) Tryz.prog 3 (plainElem Tryz.prog 3) g m D
theorem ownsMap_to {k:TypeId} {R:Value→Option (DataW Value×List MemPlace)} {w w':World} {b n m:Nat} {D:DataW Value} (h:w.ownsMap Tryz.prog k R b n D) (e:w'.heap[b]?=w.heap[b]?) (hm:n≤m):w'.ownsMap Tryz.prog k R b m D:=by
 obtain ⟨es,clock,hb,F,hs,hD⟩:=h
 exact ⟨es,clock,e.trans hb,F,Nat.le_trans hs hm,hD⟩
def Bn.fine (B:Bn):Prop:=B.small∧InI B.onceId∧InI B.kemId
structure EnX (w:World) (T:Nat→Nat) (t N b:Nat) (e:En) (cs:List Value) (so:Value) (xs:List Value) (mo mk:Nat) (Do Dk:DataW Value):Prop where
 blk:Blk w b (cs++ [so,.map (some mo),.map (some mk)]) 68
 base:BnV (fun g=>T g=0) w e.base (.agg cs.toArray)
 row:w.ownsRow 0 32 11 so e.once.length xs
 rows:RowsB (fun g=>T g=0) w xs e.once
 om:MI w mo N Do
 km:MI w mk N Dk
 fo:MapI Do e.onces
 fk:MapI Dk e.kems
 tb:T b=t
 tq:∀q,so.ownBlock=some q→T q=t+1
 tmo:T mo=t+2
 tmk:T mk=t+3
 sb:e.base.fine
 sl:∀B∈e.once,B.fine
def EnH (w:World) (T:Nat→Nat) (t N b:Nat) (e:En):Prop:=∃cs so xs mo mk Do Dk,EnX w T t N b e cs so xs mo mk Do Dk
def mine (T:Nat→Nat) (t x:Nat):Prop:=t≤T x∧T x≤t+3
theorem ownsRow_to {w w':World} {base e size n:Nat} {v:Value} {xs:List Value} (h:w.ownsRow base e size v n xs) (hb:∀q,v.ownBlock=some q→w'.heap[q]?=w.heap[q]?):w'.ownsRow base e size v n xs:=by
 refine ⟨h.1,?_⟩
 rcases h.2 with hn|⟨g,cap,cur,rfl,h1,hg,rest⟩
 ·exact .inl hn
 ·exact .inr ⟨g,cap,cur,rfl,h1,(hb g rfl).trans hg,rest⟩
theorem EnX.later {w w':World} {T T':Nat→Nat} {t N N' b mo mk:Nat} {e:En} {cs xs:List Value} {so:Value} {Do Dk:DataW Value} (h:EnX w T t N b e cs so xs mo mk Do Dk) {F:Nat→Prop} (hf:Fr F w w') (hT:∀x,x<w.heap.size→T' x=T x) (hF:∀x,F x→x<w.heap.size→T x≠0∧¬mine T t x) (hN:N≤N') (ht:0<t):EnX w' T' t N' b e cs so xs mo mk Do Dk:=by
 have k1:∀x,x<w.heap.size→mine T t x→w'.heap[x]?=w.heap[x]?:=fun x hx hm=>hf.block x hx fun hFx=>(hF x hFx hx).2 hm
 have k0:∀x,x<w.heap.size→T x=0→w'.heap[x]?=w.heap[x]?∧T' x=0:=fun x hx h0=>⟨hf.block x hx fun hFx=>(hF x hFx hx).1 h0,by rw [hT x hx];exact h0⟩
 have lb:=h.blk.lt
 have lmo:=h.om.lt
 have lmk:=h.km.lt
 have mb:mine T t b:=⟨by rw [h.tb];exact Nat.le_refl _,by rw [h.tb];omega⟩
 have mmo:mine T t mo:=⟨by rw [h.tmo];omega,by rw [h.tmo];omega⟩
 have mmk:mine T t mk:=⟨by rw [h.tmk];omega,by rw [h.tmk];omega⟩
 have mq:∀q,so.ownBlock=some q→mine T t q:=fun q hq=>⟨by rw [h.tq q hq];omega,by rw [h.tq q hq];omega⟩
 exact ⟨(k1 b lb mb).trans h.blk,h.base.later k0,ownsRow_to h.row fun q hq=>k1 q (h.row.lt q hq).2 (mq q hq),h.rows.later k0,ownsMap_to h.om (k1 mo lmo mmo) hN,ownsMap_to h.km (k1 mk lmk mmk) hN,h.fo,h.fk,by rw [hT b lb,h.tb],fun q hq=>by rw [hT q (h.row.lt q hq).2,h.tq q hq],by rw [hT mo lmo,h.tmo],by rw [hT mk lmk,h.tmk],h.sb,h.sl⟩
theorem EnH.later {w w':World} {T T':Nat→Nat} {t N N' b:Nat} {e:En} (h:EnH w T t N b e) {F:Nat→Prop} (hf:Fr F w w') (hT:∀x,x<w.heap.size→T' x=T x) (hF:∀x,F x→x<w.heap.size→T x≠0∧¬mine T t x) (hN:N≤N') (ht:0<t):EnH w' T' t N' b e:=by
 obtain ⟨cs,so,xs,mo,mk,Do,Dk,hX⟩:=h
 exact ⟨cs,so,xs,mo,mk,Do,Dk,hX.later hf hT hF hN ht⟩
theorem EnX.lt {w:World} {T:Nat→Nat} {t N b mo mk:Nat} {e:En} {cs xs:List Value} {so:Value} {Do Dk:DataW Value} (h:EnX w T t N b e cs so xs mo mk Do Dk):b<w.heap.size:=h.blk.lt
theorem onI_map {D:DataW Value} {f:Int→Int} {k:Int} (h:MapI D f) (hD:IsMap D) (hk:InI k):MapI (D.put (.int .i64 k) (.lit (.int .i64 (IntKind.i64.wrap (f k+1))))) (onI f k):=fun j hj=>by
 unfold onI
 by_cases e:j=k
 ·subst e
  rw [if_pos rfl,Maps.atKey_put_same hD (by trivial)]
 ·rw [if_neg e,Maps.atKey_put_other (fun h=>e (by injection h))]
  exact h j hj
end Go.Proofs.YtknlbpjcjdenbaaGreat
namespace Go.Proofs.YtknlbpjcjdenbaaGreat
open Go Go.RowKit
structure FP (Z:Nat→Prop) where
 tell:Option Value
 P:(Nat→Prop)→Value→World→Prop
 st:∀S v w w',P S v w→Fr (fun x=>Z x∧¬S x) w w'→P S v w'
def kv {Z:Nat→Prop} (x:Value):FP Z:=⟨some x,fun _ v _=>v=x,fun _ _ _ _ h _=>h⟩
def kz {Z:Nat→Prop}:FP Z:=⟨none,fun _ _ _=>True,fun _ _ _ _ _ _=>trivial⟩
def zone (Fw:Nat→Prop) (B:Nat) (x:Nat):Prop:=Fw x∨B≤x
def liveT (tl:List (Option Nat)) (L:Nat→Bool) (i:Nat):Prop:=∀t,tl.getD i none=some t→L t=false
theorem liveT.mono {tl:List (Option Nat)} {L:Nat→Bool} {i k:Nat} (h:liveT tl (putL L i) k):liveT tl L k:=fun t ht=>putL_false (h t ht)
theorem liveT.ne {tl:List (Option Nat)} {L:Nat→Bool} {i k:Nat} (h:liveT tl (putL L i) k):tl.getD k none≠some i:=fun ht=>putL_false' (h i ht) rfl
structure JR (n m:Nat) (Fw:Nat→Prop) (w1:World) (T:List (FP (zone Fw w1.heap.size))) (tl:List (Option Nat)) (gh:Nat→Nat→Prop) (L:Nat→Bool) (u:Nat→Value) (W:World):Prop where
 old:L m=false→Below w1.heap.size w1 W
 fr:Fr Fw w1 W
 fact:∀i,i<n→L i=true→liveT tl L i→(T.getD i kz).P (gh i) (u i) W
 foot:∀i,i<n→L i=true→liveT tl L i→∀x,gh i x→(w1.heap.size≤x∨(Fw x∧L m=true))∧x<W.heap.size
 apart:∀i j x,i<n→j<n→i≠j→L i=true→L j=true→liveT tl L i→liveT tl L j→gh i x→gh j x→False
structure JS (n m:Nat) (Fw:Nat→Prop) (w1:World) (T:List (FP (zone Fw w1.heap.size))) (tl:List (Option Nat)) (Pd:Value→World→Prop) (L:Nat→Bool) (u:Nat→Value) (W:World):Prop where
 val:∀k,k<n→L k=true→∀x,(T.getD k kz).tell=some x→u k=x
 done:L n=true→Pd (u n) W
 run:L n=false→∃gh,JR n m Fw w1 T tl gh L u W
def G0 (_i:Nat) (_L:Nat→Bool) (_u:Nat→Value) (_W:World):Prop:=True
structure CS (n m i:Nat) (Fw:Nat→Prop) (w1:World) (T:List (FP (zone Fw w1.heap.size))) (tl:List (Option Nat)) (wt:Nat→Nat→Bool) (gh:Nat→Nat→Prop) (L:Nat→Bool) (u:Nat→Value) (W:World):Prop where
 old:L m=false→Below w1.heap.size w1 W
 fr:Fr Fw w1 W
 free:∀t,t=i∨Path wt t i→L t=false
 val:∀j,wt i j=true→j<n→∀x,(T.getD j kz).tell=some x→u j=x
 fact:∀j,wt i j=true→j<n→liveT tl L j→(T.getD j kz).P (gh j) (u j) W
 foot:∀j,wt i j=true→j<n→liveT tl L j→∀x,gh j x→(w1.heap.size≤x∨(Fw x∧L m=true))∧x<W.heap.size
 apart:∀j k x,wt i j=true→wt i k=true→j<n→k<n→j≠k→liveT tl L j→liveT tl L k→gh j x→gh k x→False
def eats (n i:Nat) (tl:List (Option Nat)) (wt:Nat→Nat→Bool) (gh:Nat→Nat→Prop) (x:Nat):Prop:=∃j,wt i j=true∧j<n∧tl.getD j none=some i∧gh j x
section
variable {n m:Nat} {Fw:Nat→Prop} {w1:World} {T:List (FP (zone Fw w1.heap.size))} {tl:List (Option Nat)} {Pd:Value→World→Prop} {ops:Array Oper} {wt:Nat→Nat→Bool} {Q:Exit→Act→World→Prop} {fr:(Nat→Value)→Array Value} {df:List Deferred} {i:Nat} {o:Oper}
theorem soft_G0:Soft wt G0:=⟨fun _ _ _ _ _ _ _ _ h=>h,fun _ _ _ _ _ _ h=>h⟩
theorem CS.before {gh:Nat→Nat→Prop} {L:Nat→Bool} {u:Nat→Value} {W:World} (h:CS n m i Fw w1 T tl wt gh L u W) (hp:m=i∨Path wt m i):Below w1.heap.size w1 W:=h.old (h.free m hp)
theorem CS.mk' {gh:Nat→Nat→Prop} {L:Nat→Bool} {u:Nat→Value} {W:World} (hcl:∀k d,L k=true→wt k d=true→L d=true) (hv:∀k,k<n→L k=true→∀x,(T.getD k kz).tell=some x→u k=x) (hJ:JR n m Fw w1 T tl gh L u W) (hL:L i=false) (hdep:∀d,wt i d=true→L d=true):CS n m i Fw w1 T tl wt gh L u W:=
 ⟨hJ.old,hJ.fr,fun t ht=>by rcases ht with rfl|ht;exact hL;exact notL hcl ht hL,fun j hw hj x e=>hv j hj (hdep j hw) x e,fun j hw hj ha=>hJ.fact j hj (hdep j hw) ha,fun j hw hj ha=>hJ.foot j hj (hdep j hw) ha,fun j k x hj hk h1 h2 hne a1 a2=>hJ.apart j k x h1 h2 hne (hdep j hj) (hdep k hk) a1 a2⟩
theorem JS.step {Fx:Nat→Prop} {L:Nat→Bool} {u:Nat→Value} {W w':World} {gh:Nat→Nat→Prop} {v:Value} {S:Nat→Prop} (hi:i<n) (hn:L n=false) (hL:L i=false) (hdep:∀d,wt i d=true→L d=true)
  (hv:∀k,k<n→L k=true→∀x,(T.getD k kz).tell=some x→u k=x) (hJ:JR n m Fw w1 T tl gh L u W)
  (hFw:∀x,Fw x→x<w1.heap.size) (hFx:∀x,Fx x→(i=m∧Fw x)) (hf:Fr (fun x=>Fx x∨eats n i tl wt gh x) W w') (hP:(T.getD i kz).P S v w') (hvi:∀x,(T.getD i kz).tell=some x→v=x)
  (hS:∀x,S x→Fx x∨eats n i tl wt gh x∨W.heap.size≤x) (hlt:∀x,S x→x<w'.heap.size):JS n m Fw w1 T tl Pd (putL L i) (putV u i v) w':=by
 have hz:w1.heap.size≤W.heap.size:=hJ.fr.size
 have hlive:∀j,tl.getD j none=some i→liveT tl L j:=fun j e t ht=>by rw [e] at ht;cases ht;exact hL
 have heat:∀x,eats n i tl wt gh x→(w1.heap.size≤x∨(Fw x∧L m=true))∧x<W.heap.size:=fun x ⟨j,hw,hj,ht,hg⟩=>hJ.foot j hj (hdep j hw) (hlive j ht) x hg
 -- what another live value has is not touched
 have hsep:∀k,k<n→k≠i→L k=true→liveT tl (putL L i) k→∀x,(Fx x∨eats n i tl wt gh x)→zone Fw w1.heap.size x∧¬gh k x:=fun k hk hki hLk ha x hx=>by
  have ha0:=ha.mono
  have hf:=hJ.foot k hk hLk ha0 x
  rcases hx with hx|⟨j,hw,hj,ht,hg⟩
  ·obtain ⟨rfl,hx2⟩:=hFx x hx
   refine ⟨.inl hx2,fun hgk=> ?_⟩
   rcases (hf hgk).1 with h|⟨_,h⟩
   ·have:=hFw x hx2;omega
   ·rw [hL] at h;cases h
  ·refine ⟨?_,fun hgk=>hJ.apart j k x hj hk (fun e=> ?_) (hdep j hw) hLk (hlive j ht) ha0 hg hgk⟩
   ·rcases (heat x ⟨j,hw,hj,ht,hg⟩).1 with h|⟨h,_⟩
    ·exact .inr h
    ·exact .inl h
   ·subst e;exact ha.ne ht
 have hgk:∀k,k≠i→(if k=i then S else gh k)=gh k:=fun k h=>if_neg h
 have hgi:(if i=i then S else gh i)=S:=if_pos rfl
 have hlm:∀x,Fw x→L m=true→putL L i m=true:=fun _ _ h=>putL_old h
 refine ⟨fun k hk hLk x e=> ?_,fun h=> ?_,fun _=>⟨fun k=>if k=i then S else gh k,fun h=> ?_,?_,fun k hk hLk ha=> ?_,fun k hk hLk ha x hx=> ?_,fun j k x hj hk hne hLj hLk haj hak hgj hgk2=> ?_⟩⟩
 ·by_cases hki:k=i
  ·subst hki;rw [putV_same];exact hvi x e
  ·rw [putV_ne hki];rw [putL_ne hki] at hLk;exact hv k hk hLk x e
 ·rw [putL_ne (by omega)] at h;rw [hn] at h;cases h
 ·have hm:=putL_false h
  refine Below.trans (hJ.old hm) (hf.below hz (fun x hx=> ?_))
  rcases hx with hx|hx
  ·obtain ⟨rfl,_⟩:=hFx x hx
   rw [putL_same] at h;cases h
  ·rcases (heat x hx).1 with h|⟨_,h⟩
   ·exact h
   ·rw [hm] at h;cases h
 ·refine hJ.fr.trans hf (fun x hx=> ?_)
  rcases hx with hx|hx
  ·exact .inl (hFx x hx).2
  ·rcases (heat x hx).1 with h|⟨h,_⟩
   ·exact .inr h
   ·exact .inl h
 ·by_cases hki:k=i
  ·subst hki;simp only [hgi,putV_same];exact hP
  ·rw [putL_ne hki] at hLk
   simp only [hgk k hki,putV_ne hki]
   exact (T.getD k kz).st _ _ _ _ (hJ.fact k hk hLk ha.mono) (hf.mono (fun x hx=> .inl (hsep k hk hki hLk ha x hx)))
 ·by_cases hki:k=i
  ·subst hki
   simp only [hgi] at hx
   refine ⟨?_,hlt x hx⟩
   rcases hS x hx with h|h|h
   ·obtain ⟨rfl,h2⟩:=hFx x h
    exact .inr ⟨h2,putL_same _ _⟩
   ·rcases (heat x h).1 with h|⟨h1,h2⟩
    ·exact .inl h
    ·exact .inr ⟨h1,putL_old h2⟩
   ·exact .inl (by omega)
  ·rw [putL_ne hki] at hLk
   simp only [hgk k hki] at hx
   have h:=hJ.foot k hk hLk ha.mono x hx
   refine ⟨?_,Nat.lt_of_lt_of_le h.2 hf.size⟩
   rcases h.1 with h|⟨h1,h2⟩
   ·exact .inl h
   ·exact .inr ⟨h1,putL_old h2⟩
 ·have key:∀k,k<n→k≠i→putL L i k=true→liveT tl (putL L i) k→S x→gh k x→False:=fun k hk hki hLk ha hSx hg=>by
   rw [putL_ne hki] at hLk
   rcases hS x hSx with h|h|h
   ·exact (hsep k hk hki hLk ha x (.inl h)).2 hg
   ·exact (hsep k hk hki hLk ha x (.inr h)).2 hg
   ·have:=(hJ.foot k hk hLk ha.mono x hg).2;omega
  by_cases hji:j=i
  ·subst hji
   simp only [hgi] at hgj
   rw [hgk k (fun e=>hne e.symm)] at hgk2
   exact key k hk (fun e=>hne e.symm) hLk hak hgj hgk2
  ·rw [hgk j hji] at hgj
   by_cases hki:k=i
   ·subst hki
    simp only [hgi] at hgk2
    exact key j hj hji hLj haj hgk2 hgj
   ·rw [hgk k hki] at hgk2
    rw [putL_ne hji] at hLj;rw [putL_ne hki] at hLk
    exact hJ.apart j k x hj hk hne hLj hLk haj.mono hak.mono hgj hgk2
def Gd (n:Nat) (T:List (FP (zone Fw w1.heap.size))) (ops:Array Oper) (wt:Nat→Nat→Bool) (fr:(Nat→Value)→Array Value) (i:Nat) (o:Oper):Prop:=
 o.guard=none∨∃j b,o.guard=some (j,b)∧wt i j=true∧j<n∧(T.getD j kz).tell=some (.bool b)∧∀u,((ops[j]?).bind (·.dst)).bind ((fr u)[·]?)=some (u j)
theorem Gd.wanted {L:Nat→Bool} {u:Nat→Value} (h:Gd n T ops wt fr i o) (hv:∀k,k<n→L k=true→∀x,(T.getD k kz).tell=some x→u k=x) (hdep:∀d,wt i d=true→L d=true):Region.wanted o (yielded ops (fr u))=true:=by
 rcases h with h|⟨j,b,h1,h2,h3,h4,h5⟩
 ·simp [Region.wanted,h]
 ·have e:=hv j h3 (hdep j h2) _ h4
  simp [Region.wanted,h1,yielded,h5,e]
theorem ksC (hFw:∀x,Fw x→x<w1.heap.size) (hi:i<n) (hp:Path wt n i)
  (hr:∀L u W gh,CS n m i Fw w1 T tl wt gh L u W→∀K:Act→World→Prop,Shut (∀v w' S,Fr (eats n i tl wt gh) W w'→(T.getD i kz).P S v w'→(∀x,(T.getD i kz).tell=some x→v=x)→(∀x,S x→eats n i tl wt gh x∨W.heap.size≤x)→(∀x,S x→x<w'.heap.size)→K ((⟨fr u,df⟩:Act).put o.dst v) w')→Oper.wp Tryz.prog o ⟨fr u,df⟩ W K Q) (hg:Gd n T ops wt fr i o:=by exact Or.inl rfl):
  StepAt Tryz.prog ops wt Q fr df G0 (JS n m Fw w1 T tl Pd) i o:=by
 intro L u W hcl hJ _ hL hdep K hK
 rw [if_pos (hg.wanted hJ.val hdep)]
 have hn:=notL hcl hp hL
 obtain ⟨gh,hR⟩:=hJ.run hn
 refine hr L u W gh (CS.mk' hcl hJ.val hR hL hdep) K (fun v w' S hf hP hv hS hlt=> ?_)
 exact hK.out v w' (JS.step (Fx:=fun _=>False) hi hn hL hdep hJ.val hR hFw (fun _ h=>h.elim) (hf.mono (fun x h=> .inl (.inr h))) hP hv (fun x h=> .inr (hS x h)) hlt) (fun _ _ _ _ h=>h) trivial
theorem ksM (hFw:∀x,Fw x→x<w1.heap.size) (hi:i<n) (hp:Path wt n i)
  (hr:∀L u W gh,CS n m i Fw w1 T tl wt gh L u W→∃v w' S,(execOp (⟨fr u,df⟩:Act).eval o).run Tryz.prog W= .ok (.value v) w'∧Fr (eats n i tl wt gh) W w'∧(T.getD i kz).P S v w'∧(∀x,(T.getD i kz).tell=some x→v=x)∧(∀x,S x→eats n i tl wt gh x∨W.heap.size≤x)∧(∀x,S x→x<w'.heap.size)) (hg:Gd n T ops wt fr i o:=by exact Or.inl rfl):
  StepAt Tryz.prog ops wt Q fr df G0 (JS n m Fw w1 T tl Pd) i o:=
 ksC hFw hi hp (fun L u W gh hc K hK=>by
  obtain ⟨v,w',S,hrun,h1,h2,h3,h4,h5⟩:=hr L u W gh hc
  unfold Oper.wp
  rw [hrun]
  exact hK.out v w' S h1 h2 h3 h4 h5) hg
theorem ksP {x:Value} (hFw:∀x,Fw x→x<w1.heap.size) (hi:i<n) (hp:Path wt n i) (hT:T.getD i kz=kv x)
  (hr:∀L u W gh,CS n m i Fw w1 T tl wt gh L u W→(execOp (⟨fr u,df⟩:Act).eval o).run Tryz.prog W= .ok (.value x) W) (hg:Gd n T ops wt fr i o:=by exact Or.inl rfl):
  StepAt Tryz.prog ops wt Q fr df G0 (JS n m Fw w1 T tl Pd) i o:=
 ksM hFw hi hp (fun L u W gh hc=>⟨x,W,fun _=>False,hr L u W gh hc,Fr.refl _ _,by rw [hT];rfl,fun y e=>by
  rw [hT] at e
  cases e;rfl,fun _ h=>h.elim,fun _ h=>h.elim⟩) hg
theorem ksW (hFw:∀x,Fw x→x<w1.heap.size) (hi:i<n) (hp:Path wt n i) (him:i=m)
  (hr:∀L u W gh,CS n m i Fw w1 T tl wt gh L u W→Below w1.heap.size w1 W→∃v w' S,(execOp (⟨fr u,df⟩:Act).eval o).run Tryz.prog W= .ok (.value v) w'∧Fr (fun x=>Fw x∨eats n i tl wt gh x) W w'∧(T.getD i kz).P S v w'∧(∀x,(T.getD i kz).tell=some x→v=x)∧(∀x,S x→Fw x∨eats n i tl wt gh x∨W.heap.size≤x)∧(∀x,S x→x<w'.heap.size)) (hg:Gd n T ops wt fr i o:=by exact Or.inl rfl):
  StepAt Tryz.prog ops wt Q fr df G0 (JS n m Fw w1 T tl Pd) i o:=by
 intro L u W hcl hJ _ hL hdep K hK
 rw [if_pos (hg.wanted hJ.val hdep)]
 have hn:=notL hcl hp hL
 obtain ⟨gh,hR⟩:=hJ.run hn
 obtain ⟨v,w',S,hrun,h1,h2,h3,h4,h5⟩:=hr L u W gh (CS.mk' hcl hJ.val hR hL hdep) (hR.old (him▸hL))
 unfold Oper.wp
 rw [hrun]
 exact hK.out v w' (JS.step (Fx:=Fw) hi hn hL hdep hJ.val hR hFw (fun _ h=>⟨him,h⟩) h1 h2 h3 h4 h5) (fun _ _ _ _ h=>h) trivial
theorem ksZ (hr:∀L u W gh,CS n m n Fw w1 T tl wt gh L u W→∃r v w',(execOp (⟨fr u,df⟩:Act).eval o).run Tryz.prog W= .ok r w'∧(r= .skip∧v=undef∨r= .value v)∧Pd v w') (hg:Gd n T ops wt fr n o:=by exact Or.inl rfl):
  StepAt Tryz.prog ops wt Q fr df G0 (JS n m Fw w1 T tl Pd) n o:=by
 intro L u W hcl hJ _ hL hdep K hK
 rw [if_pos (hg.wanted hJ.val hdep)]
 obtain ⟨gh,hR⟩:=hJ.run hL
 obtain ⟨r,v,w',hrun,hr2,hP⟩:=hr L u W gh (CS.mk' hcl hJ.val hR hL hdep)
 have hJ':JS n m Fw w1 T tl Pd (putL L n) (putV u n v) w':=⟨fun k hk hLk x e=>by rw [putL_ne (by omega)] at hLk;rw [putV_ne (by omega)];exact hJ.val k hk hLk x e,fun _=>by rw [putV_same];exact hP,fun h=>by rw [putL_same] at h;cases h⟩
 unfold Oper.wp
 rw [hrun]
 rcases hr2 with ⟨rfl,rfl⟩|rfl
 ·exact hK.out undef w' hJ' (fun _ _ _ _ h=>h) trivial
 ·exact hK.out v w' hJ' (fun _ _ _ _ h=>h) trivial
end
section
variable {F:List Value} {fr:(Nat→Value)→Array Value} {df:List Deferred} {ops:Array Oper} {id:Nat} {Q:Exit→Act→World→Prop} {w:World}
theorem rgS (n m:Nat) (Fw:Nat→Prop) (p:List (Nat×Nat)) (T:List (FP (zone Fw w.heap.size))) (tl:List (Option Nat)) (Pd:Value→World→Prop)
  (hsteps:AllSteps Tryz.prog ops (waitsOn .any ops) Q fr df G0 (JS n m Fw w T tl Pd) 0 ops.toList)
  (hdone:∀u W,Pd (u n) W→(∀k,k<n→∀x,(T.getD k kz).tell=some x→u k=x)→Q .normal ⟨fr u,df⟩ W)
  (hF:∀u,(mrg F p u).toArray=fr u:=by intro u;dsimp only [mrg];try exact rfl)
  (hc:okP p ops=true:=by kernel_rfl) (hn:ops.size=n+1:=by kernel_rfl) (hm:Tryz.prog.follows .mixedOrders=true:=by kernel_rfl) (he:earlier .any ops=true:=by kernel_rfl):(Code.region id ops true).wp Tryz.prog Q ⟨F.toArray,df⟩ w:=by
 obtain ⟨u0,hu⟩:=mrg_self p F (by simp only [okP,Bool.and_eq_true] at hc;exact hc.1)
 have h0:JS n m Fw w T tl Pd (fun _=>false) u0 w.drew:=⟨fun _ _ h=>(by cases h),fun h=>(by cases h),fun _=>⟨fun _ _=>False,fun _=>(Below.refl _ _).drew,(Fr.refl _ _).drew,fun _ _ h=>(by cases h),fun _ _ h=>(by cases h),fun _ _ _ _ _ _ h=>(by cases h)⟩⟩
 exact wp_region_mid (a:=⟨F.toArray,df⟩) fr G0 (JS n m Fw w T tl Pd) u0 hm he (okP_put hc hF) (by rw [←hF,hu]) h0 soft_G0 (fun _=>hsteps)
  (fun L u W hall hJ _=>hdone u W (hJ.done (hall n (by omega))) (fun k hk x e=>hJ.val k hk (hall k (by omega)) x e))
end
end Go.Proofs.YtknlbpjcjdenbaaGreat
namespace Go.Proofs.YtknlbpjcjdenbaaGreat
open Go Go.RowKit Go.Maps
set_option linter.unusedVariables false
theorem ex_load32 {o:Oper} {a:Act} {w:World} {b q:Nat} {x:Operand} {cs:List Value} (ho:o.op= .load 32 x) (ha:a.eval x= .pointer (some ⟨b,q,none⟩)) (hr:w.rangeAt b q cs) (hl:cs.length=11):(execOp a.eval o).run Tryz.prog w= .ok (.value (.agg cs.toArray)) w:=by
 unfold execOp
 simp only [ho,ha,Sem.run_bind,run_loadAt_mid w b q 32 cs _ hr Tryz.underlying32 rfl (by rw [info32,hl]),Result.andThen_ok,Sem.run_pure]
theorem Blk.rng {w:World} {g E:Nat} {cs:List Value} (h:Blk w g cs E):w.rangeAt g 0 cs:=fun j v hv=>by rw [Nat.zero_add,h.cell];exact hv
theorem BnV.below {A:Nat→Prop} {w w':World} {B:Bn} {v:Value} (h:BnV A w B v) (hb:Below w.heap.size w w'):BnV A w' B v:=h.later fun g hg ha=>⟨hb.block g hg,ha⟩
theorem ex_build68 {o:Oper} {a:Act} {w:World} {x y z:Operand} {ds:List Value} {mo mk:Nat} (ho:o.op= .build 68 #[(0,x),(1,.const (.slice none 0 0)),(2,y),(3,z)]) (hx:a.eval x= .agg ds.toArray) (hl:ds.length=11) (hy:a.eval y= .map (some mo)) (hz:a.eval z= .map (some mk)):(execOp a.eval o).run Tryz.prog w= .ok (.value (.agg (ds++ [Value.slice none 0 0,.map (some mo),.map (some mk)]).toArray)) w:=by
 obtain ⟨d0,d1,d2,d3,d4,d5,d6,d7,d8,d9,da,rfl⟩:∃d0 d1 d2 d3 d4 d5 d6 d7 d8 d9 da,ds= [d0,d1,d2,d3,d4,d5,d6,d7,d8,d9,da]:=by
  rcases ds with _|⟨d0,_|⟨d1,_|⟨d2,_|⟨d3,_|⟨d4,_|⟨d5,_|⟨d6,_|⟨d7,_|⟨d8,_|⟨d9,_|⟨da,_|⟨db,r⟩⟩⟩⟩⟩⟩⟩⟩⟩⟩⟩⟩<;>first |exact ⟨_,_,_,_,_,_,_,_,_,_,_,rfl⟩|(simp at hl;done)|(simp at hl;omega)
 have h:(Instr.build 68 #[(0,Value.agg #[d0,d1,d2,d3,d4,d5,d6,d7,d8,d9,da]),(1,.slice none 0 0),(2,.map (some mo)),(3,.map (some mk))]).run Tryz.prog w= .ok (.agg #[d0,d1,d2,d3,d4,d5,d6,d7,d8,d9,da,.slice none 0 0,.map (some mo),.map (some mk)]) w:=run_build w 68 _ _ (by kernel_rfl)
 unfold execOp
 simp only [ho,List.map_toArray,List.map_cons,List.map_nil,hx,hy,hz,show a.eval (.const (.slice none 0 0))= .slice none 0 0 from rfl]
 rw [Sem.run_bind,h]
 rfl
theorem ex_box68 {o:Oper} {a:Act} {w:World} {x:Operand} {cs:List Value} (ho:o.op= .box 68 x) (hx:a.eval x= .agg cs.toArray):(execOp a.eval o).run Tryz.prog w= .ok (.value (.pointer (some ⟨w.heap.size,0,none⟩))) (w.alloc (.cells cs.toArray 68)):=by
 unfold execOp
 simp only [ho,hx,Instr.box,newVar,newRow,newObj]
 rfl
theorem bn_ids {A:Nat→Prop} {w w':World} {B:Bn} {cs:List Value} {b:Nat} (h:BnV A w B (.agg cs.toArray)) (hb:Blk w' b cs 32):w'.cell? ⟨b,4,none⟩=some (.int .i64 B.onceId)∧w'.cell? ⟨b,6,none⟩=some (.int .i64 B.kemId):=by
 obtain ⟨v0,v1,v2,v3,v5,v7,v8,e,_⟩:=bn_cells h
 obtain rfl:cs= [v0,v1,v2,v3,.int .i64 B.onceId,v5,.int .i64 B.kemId,v7,v8,.bool B.last,.int .i64 B.version]:=congrArg Array.toList (by injection e)
 exact ⟨by rw [hb.cell];rfl,by rw [hb.cell];rfl⟩
theorem ex_mapupd {o:Oper} {a:Act} {w w':World} {t:Nat} {x y z:Operand} {m k v:Value} (ho:o.op= .mapUpdate t x y z) (hx:a.eval x=m) (hy:a.eval y=k) (hz:a.eval z=v) (h:(Instr.mapUpdate t m k v).run Tryz.prog w= .ok () w'):(execOp a.eval o).run Tryz.prog w= .ok .skip w':=by
 unfold execOp
 simp only [ho,hx,hy,hz,Sem.run_bind,h,Result.andThen_ok,Sem.run_pure]
section
variable {Z:Nat→Prop}
def fpB (B:Bn):FP Z:=⟨none,fun S v w=>BnV S w B v,fun S v w w' h hf=>h.later fun g hg ha=>⟨hf.block g hg (fun h=>h.2 ha),ha⟩⟩
def fpM:FP Z:=⟨none,fun S v w=>∃x,v= .map (some x)∧S x∧MI w x 0 (.map []),fun S v w w' ⟨x,h1,h2,h3⟩ hf=>⟨x,h1,h2,ownsMap_to h3 (hf.block x h3.lt (fun h=>h.2 h2)) (Nat.le_refl _)⟩⟩
def fpEn (B:Bn):FP Z:=⟨none,fun S v w=>∃ds mo mk,v= .agg (ds++ [Value.slice none 0 0,.map (some mo),.map (some mk)]).toArray∧BnV (fun x=>S x∧x≠mo∧x≠mk) w B (.agg ds.toArray)∧S mo∧S mk∧mo≠mk∧MI w mo 0 (.map [])∧MI w mk 0 (.map []),fun S v w w' ⟨ds,mo,mk,h1,h2,h3,h4,h5,h6,h7⟩ hf=>⟨ds,mo,mk,h1,h2.later fun g hg ha=>⟨hf.block g hg (fun h=>h.2 ha.1),ha⟩,h3,h4,h5,ownsMap_to h6 (hf.block mo h6.lt (fun h=>h.2 h3)) (Nat.le_refl _),ownsMap_to h7 (hf.block mk h7.lt (fun h=>h.2 h4)) (Nat.le_refl _)⟩⟩
def fpX (B:Bn):FP Z:=⟨none,fun S v w=>∃b ds mo mk,v= .pointer (some ⟨b,0,none⟩)∧S b∧Blk w b (ds++ [Value.slice none 0 0,.map (some mo),.map (some mk)]) 68∧BnV (fun x=>S x∧x≠mo∧x≠mk∧x≠b) w B (.agg ds.toArray)∧S mo∧S mk∧mo≠mk∧b≠mo∧b≠mk∧MI w mo 0 (.map [])∧MI w mk 0 (.map []),fun S v w w' ⟨b,ds,mo,mk,h0,hb,hB,h2,h3,h4,h5,n1,n2,h6,h7⟩ hf=>⟨b,ds,mo,mk,h0,hb,(hf.block b hB.lt (fun h=>h.2 hb)).trans hB,h2.later fun g hg ha=>⟨hf.block g hg (fun h=>h.2 ha.1),ha⟩,h3,h4,h5,n1,n2,ownsMap_to h6 (hf.block mo h6.lt (fun h=>h.2 h3)) (Nat.le_refl _),ownsMap_to h7 (hf.block mk h7.lt (fun h=>h.2 h4)) (Nat.le_refl _)⟩⟩
end
set_option maxHeartbeats 4000000 in
theorem reg_zero (s:ByteArray) (hm:s.size≤1000) (hb:nameB s=true) {w:World} {A:Nat→Prop} {g:Nat} {B:Bn} {cs:List Value} (hg:Blk w g [.map none] 60) (hB:BnV A w B (.agg cs.toArray)) (h1:B.onceId=0) (h2:B.kemId=0) (h3:verB B 1=0) (hs:B.small) (hAg:¬A g):
  Calls Tryz.prog 10 #[.pointer (some ⟨g,0,none⟩),.string s,.agg cs.toArray] w fun r w'=>r= .returned (.int .i64 0)∧∃b ds mo mk mb,∃S:Nat→Prop,Blk w' g [.map (some mb)] 60∧w'.ownsMap Tryz.prog 9 hP mb 1 (DataW.put (.map []) (.string s.data.toList) (.held (.pointer (some ⟨b,0,none⟩))))∧Blk w' b (ds++ [.slice none 0 0,.map (some mo),.map (some mk)]) 68∧BnV (fun x=>S x∧x≠mo∧x≠mk∧x≠b) w' B (.agg ds.toArray)∧S b∧S mo∧S mk∧mo≠mk∧b≠mo∧b≠mk∧MI w' mo 0 (.map [])∧MI w' mk 0 (.map [])∧(∀x,S x→w.heap.size≤x∧x≠mb)∧w.heap.size≤mb∧Fr (fun x=>x=g) w w':=by
 have hlen:=bn_len hB
 have HBV:=Lib.hid hB
 have HM:=Lib.hid hm
 have HNB:=Lib.hid hb
 have HG:=Lib.hid hg
 have HV:=Lib.hid h3
 have HS:=Lib.hid hs
 have HLEN:=Lib.hid hlen
 have hgl:=hg.lt
 have HAG:=Lib.hid hAg
 clear hAg
 obtain ⟨wa,hwa⟩:∃wa,wa=w.alloc (.cells cs.toArray 32):=⟨_,rfl⟩
 have hba:Below w.heap.size w wa:=by rw [hwa];exact Below.alloc' (Below.refl _ _) _
 have hPB:Blk wa w.heap.size cs 32:=by rw [hwa];exact Blk.new w _ _
 obtain ⟨hc4,hc6⟩:=bn_ids hB hPB
 rw [h1] at hc4
 rw [h2] at hc6
 have HPB:=Lib.hid hPB
 have HBA:=Lib.hid hba
 have HWA:=Lib.hid hwa
 have hrg:=hPB.rng
 clear hm hb hg hB hs hlen h1 h2 h3 hba hPB
 go_enter Tryz.func10,Tryz.ntmps10
 go_upto_region 1 with fail
 rw [←hwa]
 clear hwa
 go_upto_region 4 with (first|(go_at_call 20;go_must (refine (sname_any s HM.out _).mono ?_;rintro r w1 ⟨rfl,rfl⟩;rw [HNB.out]))|(refine wpList_load_mid rfl 32 (.tmp 5) rfl w.heap.size 0 rfl cs _ hrg Tryz.underlying32 rfl (by rw [info32,HLEN.out]) ?_)|(go_at_call 25;go_must (refine (ver_call (HBV.out.below HBA.out) 1).mono ?_;rintro r w1 ⟨rfl,hb1⟩;rw [HV.out];have HB1:=Lib.hid hb1;clear hb1)))
 have hG1:Blk w1 g [.map none] 60:=(HG.out.below' HBA.out).below' HB1.out
 have hcg:=hG1.cell 0
 have hfg:=hG1.frozen 0
 have hlk:(Instr.lookup 58 (.map none) (.string s) false).run Tryz.prog w1= .ok (.pointer none) w1:=by
  simpa using Maps.look_nil (w:=w1) false strK Tryz.underlying58 (zeroP w1) (keyS s HM.out)
 have hln:=fun ty=>Maps.len_nil (w:=w1) Tryz.underlying58 ty
 have hmm:= @run_makeMap Tryz.prog
 have heq:∀w,(binOp .eql 58 (.map none) (.map none)).run Tryz.prog w= .ok (.bool true) w:=fun w=>run_eql_map_nil w 58 9 64 none Tryz.underlying58
 have hcg2:=(hG1.alloc (.map #[] 0)).cell 0
 have hfg2:=(hG1.alloc (.map #[] 0)).frozen 0
 have HG1:=Lib.hid hG1
 clear hG1
 go_upto_region 21 with fail
 refine wp_gen (fun W=>Blk W g [.map (some w1.heap.size)] 60∧W.ownsMap Tryz.prog 9 hP w1.heap.size 0 (.map [])∧Blk W w.heap.size cs 32∧BnV A W B (.agg cs.toArray)∧Fr (fun x=>x=g) w W) ⟨?_,?_,?_,?_,?_⟩ (fun w0 ⟨hT,hMp,hP0,hV0,hF0⟩=> ?_)
 ·have:=(HG1.out.alloc (.map #[] 0)).set 0 (.map (some w1.heap.size))
  exact this
 ·exact (World.ownsMap_made w1 Tryz.prog 9 hP).setCell (by show w1.heap.size≠g;have:=HG1.out.lt;omega) _
 ·exact ((HPB.out.below' HB1.out).alloc _).other _ (by show g≠w.heap.size;omega) _
 ·refine (HBV.out.below HBA.out).later fun x hx ha=>⟨?_,ha⟩
  have hn:x≠g:=fun e=>HAG.out (e▸ha)
  exact ((Below.heap_setCell _ ⟨g,0,none⟩ _ x hn).trans (heap_alloc_old w1 _ (Nat.lt_of_lt_of_le hx HB1.out.size))).trans (HB1.out.block x hx)
 ·exact (((Fr.of_below (F:=fun x=>x=g) HBA.out).call HB1.out).alloc _).setCell (.inl rfl) _
 obtain ⟨mb,hmb⟩:∃mb,mb=w1.heap.size:=⟨_,rfl⟩
 obtain ⟨m,hm0⟩:∃m:Nat,m=0:=⟨_,rfl⟩
 obtain ⟨D,hD⟩:∃D:DataW Value,D= .map []:=⟨_,rfl⟩
 rw [←hmb] at hT hMp
 rw [←hD,←hm0] at hMp
 have HTOP:=Lib.hid hT
 have HMAP:=Lib.hid hMp
 have HPB2:=Lib.hid hP0
 have HBV2:=Lib.hid hV0
 have HF0:=Lib.hid hF0
 have HN:=Lib.hid (show m<maxLen by subst hm0;unfold maxLen;omega)
 have HSM:=Lib.hid HM.out
 have HMB:=Lib.hid hmb
 have HM0:=Lib.hid hm0
 have HD:=Lib.hid hD
 rw [←hmb]
 clear hT hMp hP0 hV0 hF0 hmb hm0 hD hcg hfg hcg2 hfg2 hlk hln hmm heq hc4 hc6 hrg HPB HBV
 obtain ⟨pb,hpb⟩:∃pb,pb=w.heap.size:=⟨_,rfl⟩
 have HPB:Hid (Blk w0 pb cs 32):=Lib.hid (by rw [hpb];exact HPB2.out)
 rw [←hpb]
 have HPBE:=Lib.hid hpb
 have HBV:=HBV2
 clear hpb HPB2 HBV2
 refine rgS 11 11 (fun _=>False) [(85,0),(0,1),(0,2),(0,3),(0,4),(0,5),(0,6),(0,7),(0,8),(0,9),(0,10)] [kv (.pointer (some ⟨g,0,none⟩)),kv (.pointer (some ⟨g,0,none⟩)),kv (.pointer (some ⟨g,0,none⟩)),kv (.map (some mb)),kv (.string s),kv (.agg cs.toArray),(fpB B),(fpM),(fpM),(fpEn B),(fpX B)] [none,none,none,none,none,none,some 9,some 9,some 9,some 10,none] (fun _ W=>∃b ds mo mk,∃S:Nat→Prop,W.ownsMap Tryz.prog 9 hP mb (m+1) (D.put (.string s.data.toList) (.held (.pointer (some ⟨b,0,none⟩))))∧Blk W b (ds++ [Value.slice none 0 0,.map (some mo),.map (some mk)]) 68∧BnV (fun x=>S x∧x≠mo∧x≠mk∧x≠b) W B (.agg ds.toArray)∧S b∧S mo∧S mk∧mo≠mk∧b≠mo∧b≠mk∧MI W mo 0 (.map [])∧MI W mk 0 (.map [])∧(∀x,S x→w0.heap.size≤x)∧Fr (fun x=>x=mb) w0 W) ?_ (fun u6 W6 hPd hv=> ?_)
 ·refine ⟨?_,?_,?_,?_,?_,?_,?_,?_,?_,?_,?_,?_,trivial⟩
  ·refine ksP (fun _ h=>h.elim) (by omega) (.one (by kernel_rfl)) (by rfl) (fun L u W gh hc=> ?_)
   have hb:=hc.before (.inr (.one (by kernel_rfl)))
   go_simp
  ·refine ksP (fun _ h=>h.elim) (by omega) (.one (by kernel_rfl)) (by rfl) (fun L u W gh hc=> ?_)
   have e0:u 0= .pointer (some ⟨g,0,none⟩):=hc.val 0 (by kernel_rfl) (by omega) _ rfl
   have hb:=hc.before (.inr (.one (by kernel_rfl)))
   go_simp
  ·refine ksP (fun _ h=>h.elim) (by omega) (.one (by kernel_rfl)) (by rfl) (fun L u W gh hc=> ?_)
   have e1:u 1= .pointer (some ⟨g,0,none⟩):=hc.val 1 (by kernel_rfl) (by omega) _ rfl
   have hb:=hc.before (.inr (.one (by kernel_rfl)))
   go_simp
  ·refine ksP (fun _ h=>h.elim) (by omega) (.one (by kernel_rfl)) (by rfl) (fun L u W gh hc=> ?_)
   have e2:u 2= .pointer (some ⟨g,0,none⟩):=hc.val 2 (by kernel_rfl) (by omega) _ rfl
   have hb:=hc.before (.inr (.one (by kernel_rfl)))
   have hcx:W.cell? ⟨g,0,none⟩=some (.map (some mb)):=(HTOP.out.below' hb).cell 0
   go_simp
  ·refine ksP (fun _ h=>h.elim) (by omega) (.one (by kernel_rfl)) (by rfl) (fun L u W gh hc=> ?_)
   have hb:=hc.before (.inr (.one (by kernel_rfl)))
   go_simp
  ·refine ksP (fun _ h=>h.elim) (by omega) (.one (by kernel_rfl)) (by rfl) (fun L u W gh hc=> ?_)
   have hb:=hc.before (.inr (.one (by kernel_rfl)))
   exact ex_load32 rfl rfl ((HPB.out.below' hb).rng) HLEN.out
  ·refine ksC (fun _ h=>h.elim) (by omega) (.one (by kernel_rfl)) (fun L u W gh hc K hK=> ?_)
   have e5:u 5= .agg cs.toArray:=hc.val 5 (by kernel_rfl) (by omega) _ rfl
   have hb:=hc.before (.inr (.one (by kernel_rfl)))
   have hb:=hc.before (.inr (.one (by kernel_rfl)))
   go_simp
   go_at_call 27
   refine (own_call (HBV.out.below hb) HS.out).mono ?_
   rintro r w6 ⟨v6,rfl,hb6,hv6⟩
   have hk9:=hK.out v6 w6 (fun x=>W.heap.size≤x∧x<w6.heap.size) (Fr.of_below hb6) (hv6.later fun x hx ha=>⟨rfl,ha,hx⟩) (fun x e=>(by cases e)) (fun x hx=> .inr hx.1) (fun x hx=>hx.2)
   first |exact hk9|(simp only [e5] at hk9;exact hk9)
  ·refine ksM (fun _ h=>h.elim) (by omega) (.one (by kernel_rfl)) (fun L u W gh hc=> ?_)
   have hb:=hc.before (.inr (.one (by kernel_rfl)))
   exact ⟨_,_,fun x=>x=W.heap.size,by rfl,(Fr.refl _ _).alloc _,⟨W.heap.size,rfl,rfl,World.ownsMap_made W Tryz.prog 3 _⟩,fun x e=>(by cases e),fun x hx=> .inr (Nat.le_of_eq hx.symm),fun x hx=>by have hx:x=W.heap.size:=hx;subst hx;simp⟩
  ·refine ksM (fun _ h=>h.elim) (by omega) (.one (by kernel_rfl)) (fun L u W gh hc=> ?_)
   have hb:=hc.before (.inr (.one (by kernel_rfl)))
   exact ⟨_,_,fun x=>x=W.heap.size,by rfl,(Fr.refl _ _).alloc _,⟨W.heap.size,rfl,rfl,World.ownsMap_made W Tryz.prog 3 _⟩,fun x e=>(by cases e),fun x hx=> .inr (Nat.le_of_eq hx.symm),fun x hx=>by have hx:x=W.heap.size:=hx;subst hx;simp⟩
  ·refine ksM (fun _ h=>h.elim) (by omega) (.one (by kernel_rfl)) (fun L u W gh hc=> ?_)
   have t6:=hc.fact 6 (by kernel_rfl) (by omega) (fun t ht=>by cases ht;exact hc.free _ (.inl rfl))
   have f6:=hc.foot 6 (by kernel_rfl) (by omega) (fun t ht=>by cases ht;exact hc.free _ (.inl rfl))
   have t7:=hc.fact 7 (by kernel_rfl) (by omega) (fun t ht=>by cases ht;exact hc.free _ (.inl rfl))
   have f7:=hc.foot 7 (by kernel_rfl) (by omega) (fun t ht=>by cases ht;exact hc.free _ (.inl rfl))
   have t8:=hc.fact 8 (by kernel_rfl) (by omega) (fun t ht=>by cases ht;exact hc.free _ (.inl rfl))
   have f8:=hc.foot 8 (by kernel_rfl) (by omega) (fun t ht=>by cases ht;exact hc.free _ (.inl rfl))
   have hb:=hc.before (.inr (.one (by kernel_rfl)))
   obtain ⟨mo,e7,s7,o7⟩:=t7
   obtain ⟨mk,e8,s8,o8⟩:=t8
   obtain ⟨ds,e6⟩:∃ds:List Value,u 6= .agg ds.toArray:=by obtain ⟨ds,e6,_⟩:=t6;exact ⟨ds,e6⟩
   rw [e6] at t6
   have lv:∀j,j=6∨j=7∨j=8→liveT [none,none,none,none,none,none,some 9,some 9,some 9,some 10,none] L j:=fun j hj t ht=>by rcases hj with rfl|rfl|rfl<;>(cases ht;exact hc.free _ (.inl rfl))
   have h67:∀x,gh 6 x→x≠mo:=fun x ha e=>hc.apart 6 7 x (by kernel_rfl) (by kernel_rfl) (by omega) (by omega) (by decide) (lv 6 (.inl rfl)) (lv 7 (.inr (.inl rfl))) ha (e▸s7)
   have h68:∀x,gh 6 x→x≠mk:=fun x ha e=>hc.apart 6 8 x (by kernel_rfl) (by kernel_rfl) (by omega) (by omega) (by decide) (lv 6 (.inl rfl)) (lv 8 (.inr (.inr rfl))) ha (e▸s8)
   have h78:mo≠mk:=fun e=>hc.apart 7 8 mo (by kernel_rfl) (by kernel_rfl) (by omega) (by omega) (by decide) (lv 7 (.inr (.inl rfl))) (lv 8 (.inr (.inr rfl))) s7 (e▸s8)
   refine ⟨_,W,fun x=>gh 6 x∨gh 7 x∨gh 8 x,ex_build68 rfl e6 (bn_len t6) e7 e8,Fr.refl _ _,⟨ds,mo,mk,rfl,t6.later fun x hx ha=>⟨rfl,.inl ha,h67 x ha,h68 x ha⟩,.inr (.inl s7),.inr (.inr s8),h78,o7,o8⟩,fun x e=>(by cases e),fun x hx=> .inl ?_,fun x hx=> ?_⟩
   ·rcases hx with h|h|h
    ·exact ⟨6,by kernel_rfl,by omega,rfl,h⟩
    ·exact ⟨7,by kernel_rfl,by omega,rfl,h⟩
    ·exact ⟨8,by kernel_rfl,by omega,rfl,h⟩
   ·rcases hx with h|h|h
    ·exact (f6 x h).2
    ·exact (f7 x h).2
    ·exact (f8 x h).2
  ·refine ksM (fun _ h=>h.elim) (by omega) (.one (by kernel_rfl)) (fun L u W gh hc=> ?_)
   have t9:=hc.fact 9 (by kernel_rfl) (by omega) (fun t ht=>by cases ht;exact hc.free _ (.inl rfl))
   have f9:=hc.foot 9 (by kernel_rfl) (by omega) (fun t ht=>by cases ht;exact hc.free _ (.inl rfl))
   have hb:=hc.before (.inr (.one (by kernel_rfl)))
   obtain ⟨ds,mo,mk,e9,hb9,s1,s2,hne,o1,o2⟩:=t9
   have fm:=fun x h=>(f9 x h).2
   have al:=(Fr.refl (fun _=>False) W).alloc (.cells (ds++ [Value.slice none 0 0,.map (some mo),.map (some mk)]).toArray 68)
   refine ⟨_,_,fun x=>gh 9 x∨x=W.heap.size,ex_box68 rfl e9,(Fr.refl _ _).alloc _,⟨W.heap.size,ds,mo,mk,rfl,.inr rfl,Blk.new W _ _,hb9.later fun x hx ha=>⟨al.block x hx (fun h=>h),.inl ha.1,ha.2.1,ha.2.2,by omega⟩,.inl s1,.inl s2,hne,by have:=fm mo s1;omega,by have:=fm mk s2;omega,o1.alloc _,o2.alloc _⟩,fun x e=>(by cases e),fun x hx=> ?_,fun x hx=> ?_⟩
   ·rcases hx with h|h
    ·exact .inl ⟨9,by kernel_rfl,by omega,rfl,h⟩
    ·exact .inr (Nat.le_of_eq h.symm)
   ·rcases hx with h|rfl
    ·have:=fm x h;simp;omega
    ·simp
  ·refine ksZ fun L u W gh hc=> ?_
   have e0:u 0= .pointer (some ⟨g,0,none⟩):=hc.val 0 (by kernel_rfl) (by omega) _ rfl
   have e1:u 1= .pointer (some ⟨g,0,none⟩):=hc.val 1 (by kernel_rfl) (by omega) _ rfl
   have e2:u 2= .pointer (some ⟨g,0,none⟩):=hc.val 2 (by kernel_rfl) (by omega) _ rfl
   have e3:u 3= .map (some mb):=hc.val 3 (by kernel_rfl) (by omega) _ rfl
   have e4:u 4= .string s:=hc.val 4 (by kernel_rfl) (by omega) _ rfl
   have e5:u 5= .agg cs.toArray:=hc.val 5 (by kernel_rfl) (by omega) _ rfl
   have t10:=hc.fact 10 (by kernel_rfl) (by omega) (fun t ht=>by cases ht)
   have f10:=hc.foot 10 (by kernel_rfl) (by omega) (fun t ht=>by cases ht)
   have hb:=hc.before (.inl rfl)
   obtain ⟨b,ds,mo,mk,e10,sb,hb10,hv10,s1,s2,hne,n1,n2,o1,o2⟩:=t10
   have hbw:=hc.old (hc.free 11 (.inl rfl))
   have hfoot:=fun x h=>(f10 x h)
   obtain ⟨w9,hr9,ho9,hg9⟩:=(ownsMap_to HMAP.out (hbw.block mb HMAP.out.lt) (Nat.le_refl _)).update strK Tryz.underlying58 HN.out (keyS s HSM.out) (val:= .pointer (some ⟨b,0,none⟩)) (d:= .held (.pointer (some ⟨b,0,none⟩))) (ps:= []) rfl
   have h9:∀x,x<W.heap.size→x≠mb→w9.heap[x]?=W.heap[x]?:=fun x hx hn=>hg9.block x hx (fun e=>hn (by injection e))
   have hge:∀x,gh 10 x→w0.heap.size≤x∧x<W.heap.size:=fun x h=>⟨by rcases (f10 x h).1 with h1|⟨h1,_⟩;exact h1;exact h1.elim,(f10 x h).2⟩
   have hmb:∀x,gh 10 x→x≠mb:=fun x h e=>by have:=(hge x h).1;have:=HMAP.out.lt;omega
   refine ⟨_,_,w9,ex_mapupd rfl e3 e4 e10 hr9,.inl ⟨rfl,rfl⟩,b,ds,mo,mk,gh 10,ho9,(h9 b (hge b sb).2 (hmb b sb)).trans hb10,hv10.later fun x hx ha=>⟨h9 x hx (hmb x ha.1),ha⟩,sb,s1,s2,hne,n1,n2,ownsMap_to o1 (h9 mo (hge mo s1).2 (hmb mo s1)) (Nat.le_refl _),ownsMap_to o2 (h9 mk (hge mk s2).2 (hmb mk s2)) (Nat.le_refl _),fun x hx=>(hge x hx).1,?_⟩
   exact (Fr.of_below hbw).trans (F':=fun x=>x=mb) ⟨hg9.os,hg9.tape,hg9.output,hg9.size,fun x hx hn=>h9 x hx hn⟩ (fun x hx=> .inl hx)
 obtain ⟨b,ds,mo,mk,S,k1,k2,k3,sb,s1,s2,hne,n1,n2,o1,o2,hS,hf6⟩:=hPd
 have hmbw:mb<w0.heap.size:=HMAP.out.lt
 have hsz:w.heap.size≤w0.heap.size:=HF0.out.size
 have hgm:g≠mb:=fun e=>by have h1:=HMB.out;have h2:=HBA.out.size;have h3:=HB1.out.size;omega
 have HG6:Hid (Blk W6 g [.map (some mb)] 60):=Lib.hid ((hf6.block g HTOP.out.lt hgm).trans HTOP.out)
 have HF6:Hid (Fr (fun x=>x=g) w W6):=Lib.hid (HF0.out.trans hf6 fun x hx=> .inr (by have hx:x=mb:=hx;have h1:=HMB.out;have h2:=HBA.out.size;have h3:=HB1.out.size;omega))
 have K1:=Lib.hid k1
 have K2:=Lib.hid k2
 have K3:=Lib.hid k3
 have HSS:Hid (∀x,S x→w.heap.size≤x∧x≠mb):=Lib.hid fun x hx=>⟨Nat.le_trans hsz (hS x hx),fun e=>by have:=hS x hx;omega⟩
 have HWB:Hid (w.heap.size≤mb):=Lib.hid (by have h1:=HMB.out;have h2:=HBA.out.size;have h3:=HB1.out.size;omega)
 clear k1 k2 k3 hf6 hS hv
 go_wp2
 go_ret
 have k1:=K1.out
 have h0:=HM0.out
 have h1:=HD.out
 subst h0 h1
 exact ⟨rfl,b,ds,mo,mk,mb,S,HG6.out,k1,K2.out,K3.out,sb,s1,s2,hne,n1,n2,o1,o2,HSS.out,HWB.out,HF6.out⟩
end Go.Proofs.YtknlbpjcjdenbaaGreat
namespace Go.Proofs.YtknlbpjcjdenbaaGreat
open Go Go.RowKit
def TYS:Nat→TE:=tyOf [(68,⟨.st [(0,32),(11,49),(12,66),(13,66)],14,[.cv (.slice none 0 0),.cv (.slice none 0 0),.cv (.slice none 0 0),.cv (.slice none 0 0),.ob .int (Kd.df .int),.cv (.slice none 0 0),.ob .int (Kd.df .int),.cv (.slice none 0 0),.cv (.slice none 0 0),.ob .bool (Kd.df .bool),.ob .int (Kd.df .int),.cv (.slice none 0 0),.cv (.map none),.cv (.map none)]⟩),(64,⟨.ptr,1,[.cv (.pointer none)]⟩),(28,⟨.k .int,1,[.ob .int (Kd.df .int)]⟩),(32,⟨.st [(0,30),(1,30),(2,30),(3,30),(4,3),(5,30),(6,3),(7,30),(8,30),(9,4),(10,3)],11,[.cv (.slice none 0 0),.cv (.slice none 0 0),.cv (.slice none 0 0),.cv (.slice none 0 0),.ob .int (Kd.df .int),.cv (.slice none 0 0),.ob .int (Kd.df .int),.cv (.slice none 0 0),.cv (.slice none 0 0),.ob .bool (Kd.df .bool),.ob .int (Kd.df .int)]⟩),(49,⟨.sl 32,1,[.cv (.slice none 0 0)]⟩),(66,⟨.fn,1,[.cv (.map none)]⟩),(30,⟨.sl 5,1,[.cv (.slice none 0 0)]⟩),(3,⟨.k .int,1,[.ob .int (Kd.df .int)]⟩),(4,⟨.k .bool,1,[.ob .bool (Kd.df .bool)]⟩),(5,⟨.k .u8,1,[.ob .u8 (Kd.df .u8)]⟩)]
theorem TYSok:TysOk TYS:=tysOk fun p hp=>by
 rcases List.mem_cons.1 hp with rfl|hp
 ·exact tyZ (cells:= [.slice none 0 0]++([.slice none 0 0]++([.slice none 0 0]++([.slice none 0 0]++([.int .i64 0]++([.slice none 0 0]++([.int .i64 0]++([.slice none 0 0]++([.slice none 0 0]++([.bool false]++([.int .i64 0]++([.slice none 0 0]++([.map none]++([.map none]++([]:List Value))))))))))))))) (bytes:=240) (by kernel_rfl) Tryz.underlying68 ⟨_,rfl,rfl⟩ (fun η A w=>⟨[.slice none 0 0],_,rfl,⟨rfl,rfl⟩,⟨[.slice none 0 0],_,rfl,⟨rfl,rfl⟩,⟨[.slice none 0 0],_,rfl,⟨rfl,rfl⟩,⟨[.slice none 0 0],_,rfl,⟨rfl,rfl⟩,⟨[.int .i64 0],_,rfl,rfl,⟨[.slice none 0 0],_,rfl,⟨rfl,rfl⟩,⟨[.int .i64 0],_,rfl,rfl,⟨[.slice none 0 0],_,rfl,⟨rfl,rfl⟩,⟨[.slice none 0 0],_,rfl,⟨rfl,rfl⟩,⟨[.bool false],_,rfl,rfl,⟨[.int .i64 0],_,rfl,rfl,⟨[.slice none 0 0],_,rfl,⟨rfl,rfl⟩,⟨[.map none],_,rfl,⟨rfl,rfl⟩,⟨[.map none],_,rfl,⟨rfl,rfl⟩,rfl⟩⟩⟩⟩⟩⟩⟩⟩⟩⟩⟩⟩⟩⟩) rfl (fun k h=>by cases h) rfl (by decide)
 rcases List.mem_cons.1 hp with rfl|hp
 ·exact ty_ptr (by kernel_rfl) Tryz.underlying64 (bytes:=8) (by decide)
 rcases List.mem_cons.1 hp with rfl|hp
 ·exact ty_k (k:= .int) rfl rfl rfl (by kernel_rfl) Tryz.underlying28 (bytes:=8) (by decide)
 rcases List.mem_cons.1 hp with rfl|hp
 ·exact tyZ (cells:= [.slice none 0 0]++([.slice none 0 0]++([.slice none 0 0]++([.slice none 0 0]++([.int .i64 0]++([.slice none 0 0]++([.int .i64 0]++([.slice none 0 0]++([.slice none 0 0]++([.bool false]++([.int .i64 0]++([]:List Value)))))))))))) (bytes:=200) (by kernel_rfl) Tryz.underlying32 ⟨_,rfl,rfl⟩ (fun η A w=>⟨[.slice none 0 0],_,rfl,⟨rfl,rfl⟩,⟨[.slice none 0 0],_,rfl,⟨rfl,rfl⟩,⟨[.slice none 0 0],_,rfl,⟨rfl,rfl⟩,⟨[.slice none 0 0],_,rfl,⟨rfl,rfl⟩,⟨[.int .i64 0],_,rfl,rfl,⟨[.slice none 0 0],_,rfl,⟨rfl,rfl⟩,⟨[.int .i64 0],_,rfl,rfl,⟨[.slice none 0 0],_,rfl,⟨rfl,rfl⟩,⟨[.slice none 0 0],_,rfl,⟨rfl,rfl⟩,⟨[.bool false],_,rfl,rfl,⟨[.int .i64 0],_,rfl,rfl,rfl⟩⟩⟩⟩⟩⟩⟩⟩⟩⟩⟩) rfl (fun k h=>by cases h) rfl (by decide)
 rcases List.mem_cons.1 hp with rfl|hp
 ·exact ty_sl (by kernel_rfl) Tryz.underlying49 (bytes:=24) (by decide)
 rcases List.mem_cons.1 hp with rfl|hp
 ·exact tyZ (cells:= [.map none]++([]:List Value)) (bytes:=8) (by kernel_rfl) Tryz.underlying66 rfl (fun η A w=>⟨[.map none],_,rfl,⟨rfl,rfl⟩,rfl⟩) rfl (fun k h=>by cases h) rfl (by decide)
 rcases List.mem_cons.1 hp with rfl|hp
 ·exact ty_sl (by kernel_rfl) Tryz.underlying30 (bytes:=24) (by decide)
 rcases List.mem_cons.1 hp with rfl|hp
 ·exact ty_k (k:= .int) rfl rfl rfl (by kernel_rfl) Tryz.underlying3 (bytes:=8) (by decide)
 rcases List.mem_cons.1 hp with rfl|hp
 ·exact ty_k (k:= .bool) rfl rfl rfl (by kernel_rfl) Tryz.underlying4 (bytes:=1) (by decide)
 rcases List.mem_cons.1 hp with rfl|hp
 ·exact ty_k (k:= .u8) rfl rfl rfl (by kernel_rfl) Tryz.underlying5 (bytes:=1) (by decide)
 cases hp
set_option maxRecDepth 10000
set_option linter.unusedVariables false
def takesB (E:Bn) (n:Nat) (f g:Int→Int) (B:Bn):Bool:=match decide (verB B 1≠0) with
 |true=>false
 |false=>match decide (B.onceId=0) with
  |true=>false
  |false=>match decide ((10:Int)≤(n:Int)) with
   |true=>false
   |false=>match decide (B.sign=E.sign) with
    |false=>false
    |true=>match decide (B.ident=E.ident) with
     |false=>false
     |true=>match decide (B.medium=E.medium) with
      |false=>false
      |true=>match decide (B.medsig=E.medsig) with
       |false=>false
       |true=>match decide (B.version=E.version) with
        |false=>false
        |true=>match decide (f B.onceId=0) with
         |false=>false
         |true=>match decide (B.kemId=0) with
          |true=>true
          |false=>decide (g B.kemId=0)
def entC (u0 u1 u2 u3 u5 u7 u8 so mo mk:Value) (E:Bn) (n:Nat) (f g:Int→Int):Ch:= .blk 68 [.rv u0 E.sign,.rv u1 E.ident,.rv u2 E.medium,.rv u3 E.medsig,.ob .int E.onceId,.rv u5 E.once,.ob .int E.kemId,.rv u7 E.kem,.rv u8 E.kemsig,.ob .bool E.last,.ob .int E.version,.ln so n,.mp mo f,.mp mk g]
def LTk:List (Nat×CF):= [(25,cfA gVerB),(26,cfA gPEq)]
theorem LTkok:∀p∈LTk,CSound p.1 p.2:=ctCons verB_sound<|ctCons peq_sound fun p hp=>by cases hp
theorem OPTk:OpsOk TYS (ctOf LTk):=opsOk TYSok (ctOk LTkok)
def retRO (t:Nat) (x:Bool) (ch:Ch):KK:=fun e S'=>match e with
 | .exit _=>False
 |_=>(match lkS S'.sl t with
  | [.one (.cv (.bool y))]=>x=y
  | [.one (.ob .bool y)]=>x=y
  |_=>False)∧lkH S'.hp 1000=some ch
section
variable {ty:Nat→TE} {ct:Nat→Option CF}
theorem calls_RO (hm:Tryz.prog.follows .mixedOrders=true) (hO:OpsOk ty ct) {f:Nat} {fn:Func} {c:Code} (hf:Tryz.prog.funcs[f]?=some fn) (hb:fn.body=some c) {t:Nat} (hr:resTmps fn [t]) {l:List AV} {ch:Ch} {x:Bool} (hlen:l.length≤fn.ntmps)
  (hvc:vc ty ct fn.ntmps c ⟨mkSl 0 l,hpOf 1000 [ch],2000⟩ (retRO t x ch)) {w:World} {η:Env} (h0:∀b,2000≤b→η b=none) (hch:ch.H η (Anon (lkH (hpOf 1000 [ch])) η) w 1000) {vs:List Value} (hv:AvsH η (Anon (lkH (hpOf 1000 [ch])) η) w l vs):
  Calls Tryz.prog f vs.toArray w fun e w'=>e= .returned (.bool x)∧∃H' η',Fw (lkH (hpOf 1000 [ch])) η w H' η' w'∧η' 1000=η 1000∧ch.H η' (Anon H' η') w' 1000:=by
 refine calls_of_wp hf hb ?_
 obtain ⟨hvl,hsl⟩:=mkSl_ok (i:=0) hv
 have hlk:∀b c,lkH (hpOf 1000 [ch]) b=some c→b=1000∧c=ch:=fun b c h=>by
  rw [hpOf_lk.1] at h
  by_cases k:1000≤b
  ·rw [if_pos k] at h
   have k2:=(List.getElem?_eq_some_iff.1 h).1
   have k2:b-1000<1:=k2
   obtain rfl:b=1000:=by omega
   exact ⟨rfl,(Option.some.inj h).symm⟩
  ·rw [if_neg k] at h;cases h
 have hS:SatS fn.ntmps ⟨mkSl 0 l,hpOf 1000 [ch],2000⟩ η {tmps:=vs.toArray++Array.replicate (fn.ntmps-vs.toArray.size) undef,defers:= []} w:=by
  refine ⟨⟨rfl,?_,fun t=> ?_,fun b c h=> ?_,fun b b' g hbb h1 h2 hg=> ?_⟩,h0⟩
  ·simp;omega
  ·rcases hsl t with h|⟨x,v,h1,h2,h3,h4⟩
   ·show OutH _ _ _ (lkS (mkSl 0 l) t) _
    rw [h];trivial
   ·show OutH _ _ _ (lkS (mkSl 0 l) t) _
    rw [h1]
    have e:(vs.toArray++Array.replicate (fn.ntmps-vs.toArray.size) undef).getD t undef=v:=by
     rw [Array.getD_eq_getD_getElem?,Array.getElem?_append_left (by simp;exact (List.getElem?_eq_some_iff.1 h3).1)]
     simp only [Nat.sub_zero] at h3
     rw [List.getElem?_toArray,h3];rfl
    show OutH _ _ _ [x] (Array.getD _ t undef)
    rw [e]
    exact h4
  ·obtain ⟨rfl,rfl⟩:=hlk b c h
   exact hch
  ·cases e1:lkH (hpOf 1000 [ch]) b with
   |none=>exact absurd e1 h1
   |some c1=>
    cases e2:lkH (hpOf 1000 [ch]) b' with
    |none=>exact absurd e2 h2
    |some c2=>exact absurd ((hlk b c1 e1).1.trans (hlk b' c2 e2).1.symm) hbb
 refine wp_mono (vc_sound hm hO c _ _ hvc _ _ _ hS) fun e a' w' hP=> ?_
 obtain ⟨e',S',η',h1,h2,⟨hS',_⟩,hF,hHp,hE,_⟩:=hP
 have key:((match lkS S'.sl t with | [.one (.cv (.bool y))]=>x=y| [.one (.ob .bool y)]=>x=y|_=>False)∧lkH S'.hp 1000=some ch)→a'.defers= []∧∃v,(results fn a'.tmps).run Tryz.prog w'= .ok v w'∧(Ending.returned v= .returned (.bool x)∧∃H' η',Fw (lkH (hpOf 1000 [ch])) η w H' η' w'∧η' 1000=η 1000∧ch.H η' (Anon H' η') w' 1000):=fun ⟨k1,k2⟩=>by
  refine ⟨hS'.df,_,run_results hr a'.tmps w',?_,_,_,hF,hE 1000 (by show 1000<2000;decide),hS'.chunk 1000 ch k2⟩
  have hs:=hS'.slot t
  show Ending.returned (a'.tmps.getD t undef)=_
  split at k1
  ·rename_i y e1
   rw [e1] at hs
   subst k1
   exact congrArg _ (one_inj hs.1)
  ·rename_i y e1
   rw [e1] at hs
   subst k1
   have: [a'.tmps.getD t undef]= [Value.bool x]:=hs
   exact congrArg _ (List.singleton_inj.1 this)
  ·exact k1.elim
 cases e with
 |normal=>cases h1;exact key h2
 |ret=>cases h1;exact key h2
 |exit id=>cases h1;exact h2.elim
 |panic c=>cases h1
 |outgrown=>cases h1
 |goto l=>cases h1
end
theorem nt {p:Prop} [Decidable p] (h:(!decide p)=true):decide p=false:=by simpa using h
theorem nf {p:Prop} [Decidable p] (h:(!decide p)=false):decide p=true:=by simpa using h
theorem ne_t {a b:Int} (h:decide (a≠b)=true):decide (a=b)=false:=by simpa using h
theorem ne_f {a b:Int} (h:decide (a≠b)=false):decide (a=b)=true:=by simpa using h
set_option maxHeartbeats 4000000 in
theorem vcTakes (u0 u1 u2 u3 u5 u7 u8 so mo mk:Value) (E:Bn) (n:Nat) (f g:Int→Int) (B:Bn) (hp:InI B.onceId∧InI B.kemId):vc TYS (ctOf LTk) Tryz.f36.ntmps (bodyOf Tryz.f36) ⟨mkSl 0 [.one (.ptr 1000 0),B.av],hpOf 1000 [entC u0 u1 u2 u3 u5 u7 u8 so mo mk E n f g],2000⟩ (retRO 4 (takesB E n f g B) (entC u0 u1 u2 u3 u5 u7 u8 so mo mk E n f g)):=by
 have nn:∀ {p:Prop} [Decidable p],(!decide p)=true→decide p=false:=fun h=>by simpa using h
 refine ⟨fun h0=> ?_,fun h0=> ?_⟩
 ·refine ⟨h0,?_,rfl⟩
  show takesB E n f g B=_
  rw [takesB];erw [h0]
 ·refine ⟨fun h1=>⟨h0,h1,?_,rfl⟩,fun h1=> ?_⟩
  ·show takesB E n f g B=_
   rw [takesB];erw [h0];rw [h1]
  ·refine ⟨h0,h1,fun hn=>⟨fun h2=>⟨?_,rfl⟩,fun h2=> ?_⟩⟩
   ·show takesB E n f g B=_
    rw [takesB];erw [h0];rw [h1,h2]
   ·refine ⟨fun h3=>⟨fun h4=> ?_,fun h4=>⟨h3,h4,?_⟩⟩,fun h3=>⟨h3,?_⟩⟩
    ·refine ⟨h3,h4,fun h5=>⟨h5,?_,rfl⟩,fun h5=>⟨fun h6=>⟨h5,h6,?_,rfl⟩,fun h6=>⟨h5,h6,fun h7=>⟨?_,rfl⟩,fun h7=> ?_⟩⟩⟩
     ·show takesB E n f g B=_
      rw [takesB];erw [h0];rw [h1,h2,h3,h4,nt h5]
     ·show takesB E n f g B=_
      rw [takesB];erw [h0];rw [h1,h2,h3,h4,nf h5,nt h6]
     ·show takesB E n f g B=_
      rw [takesB];erw [h0];rw [h1,h2,h3,h4,nf h5,nf h6,ne_t h7]
     ·refine ⟨fun h8=>⟨fun h9=> ?_,fun h9=> ?_⟩,fun h8=> ?_⟩
      ·refine ⟨h8,h9,hp.1,?_,rfl⟩
       show takesB E n f g B=_
       rw [takesB];erw [h0];rw [h1,h2,h3,h4,nf h5,nf h6,ne_f h7,h8,h9]
      ·refine ⟨h8,h9,hp.1,hp.2,?_,rfl⟩
       show takesB E n f g B=_
       rw [takesB];erw [h0];rw [h1,h2,h3,h4,nf h5,nf h6,ne_f h7,h8,h9]
      ·refine ⟨h8,hp.1,?_,rfl⟩
       show takesB E n f g B=_
       rw [takesB];erw [h0];rw [h1,h2,h3,h4,nf h5,nf h6,ne_f h7,h8]
    ·refine ⟨?_,rfl⟩
     show takesB E n f g B=_
     rw [takesB];erw [h0];rw [h1,h2,h3,h4]
    ·refine ⟨?_,rfl⟩
     show takesB E n f g B=_
     rw [takesB];erw [h0];rw [h1,h2,h3]
end Go.Proofs.YtknlbpjcjdenbaaGreat
namespace Go.Proofs.YtknlbpjcjdenbaaGreat
open Go Go.RowKit Go.Maps
set_option linter.unusedVariables false
abbrev ent3 (cs:List Value) (so:Value) (mo mk:Nat):List Value:=cs++ [so,.map (some mo),.map (some mk)]
theorem Blk.cell11 {w:World} {b mo mk:Nat} {cs:List Value} {so:Value} (h:Blk w b (ent3 cs so mo mk) 68) (hl:cs.length=11):w.cell? ⟨b,11,none⟩=some so:=by
 rw [h.cell,List.getElem?_append_right (by omega),hl];rfl
theorem Blk.cell12 {w:World} {b mo mk:Nat} {cs:List Value} {so:Value} (h:Blk w b (ent3 cs so mo mk) 68) (hl:cs.length=11):w.cell? ⟨b,12,none⟩=some (.map (some mo)):=by
 rw [h.cell,List.getElem?_append_right (by omega),hl];rfl
theorem Blk.cell13 {w:World} {b mo mk:Nat} {cs:List Value} {so:Value} (h:Blk w b (ent3 cs so mo mk) 68) (hl:cs.length=11):w.cell? ⟨b,13,none⟩=some (.map (some mk)):=by
 rw [h.cell,List.getElem?_append_right (by omega),hl];rfl
theorem Blk.set11 {w:World} {b mo mk:Nat} {cs:List Value} {so v:Value} (h:Blk w b (ent3 cs so mo mk) 68) (hl:cs.length=11):Blk (w.setCell ⟨b,11,none⟩ v) b (ent3 cs v mo mk) 68:=by
 have h1:=h.set 11 v
 rw [List.set_append_right _ _ (by omega),hl] at h1
 exact h1
theorem BnV.ones {A:Nat→Prop} {w:World} {B:Bn} {cs:List Value} (h:BnV A w B (.agg cs.toArray)):∀u∈cs,u.oneCell'=true:=by
 have:=bn_one h
 simp only [List.all_toArray,List.all_eq_true] at this
 exact this
theorem own_one8 {w:World} {v:Value} {n:Nat} {xs:List Value} (h:w.ownsRow 0 32 11 v n xs):∃a n c,v= .slice a n c:=by
 rcases h.2 with ⟨rfl,_⟩|⟨g,c,cur,rfl,_⟩<;>exact ⟨_,_,_,rfl⟩
section
variable {Z:Nat→Prop}
def fpO (B:Bn):FP Z:=⟨none,fun S v w=>∃q cs,v= .slice (some ⟨q,0,none⟩) 1 1∧S q∧Blk w q cs 32∧BnV (fun x=>S x∧x≠q) w B (.agg cs.toArray),fun S v w w' ⟨q,cs,h1,h2,h3,h4⟩ hf=>⟨q,cs,h1,h2,(hf.block q h3.lt (fun h=>h.2 h2)).trans h3,h4.later fun g hg ha=>⟨hf.block g hg (fun h=>h.2 ha.1),ha⟩⟩⟩
def fpA (lo:Nat) (B:Bn) (n:Nat) (xs:List Value):FP Z:=⟨none,fun S v w=>∃cs,w.ownsRow 0 32 11 v (n+1) (xs++cs)∧(∀x,v.ownBlock=some x→S x)∧BnV (fun x=>S x∧v.ownBlock≠some x∧lo≤x) w B (.agg cs.toArray),fun S v w w' ⟨cs,h1,h2,h3⟩ hf=>⟨cs,ownsRow_to h1 fun x hx=>hf.block x (h1.lt x hx).2 (fun h=>h.2 (h2 x hx)),h2,h3.later fun g hg ha=>⟨hf.block g hg (fun h=>h.2 ha.1),ha⟩⟩⟩
end
theorem info32z:∃i z,Tryz.prog.info? 32=some i∧i.zero=some z∧i.size=11∧z.cells.size=11∧i.bytes=200∧z= .agg bn0:=by
 have h:(Tryz.prog.info? 32).map (fun i=>(i.size,i.bytes,i.zero))=some (11,200,some (.agg bn0)):=by kernel_rfl
 obtain ⟨i,hi,h⟩:=Option.map_eq_some_iff.1 h
 simp only [Prod.mk.injEq] at h
 exact ⟨i,_,hi,h.2.2,h.1,rfl,h.2.1,rfl⟩
theorem len11 {ds:List Value} (hl:ds.length=11):∃d0 d1 d2 d3 d4 d5 d6 d7 d8 d9 da,ds= [d0,d1,d2,d3,d4,d5,d6,d7,d8,d9,da]:=by
 rcases ds with _|⟨d0,_|⟨d1,_|⟨d2,_|⟨d3,_|⟨d4,_|⟨d5,_|⟨d6,_|⟨d7,_|⟨d8,_|⟨d9,_|⟨da,_|⟨db,r⟩⟩⟩⟩⟩⟩⟩⟩⟩⟩⟩⟩<;>first |exact ⟨_,_,_,_,_,_,_,_,_,_,_,rfl⟩|(simp at hl;done)|(simp at hl;omega)
theorem ex_bslice {o:Oper} {a:Act} {w:World} {x:Operand} {cs:List Value} (ho:o.op= .buildSlice 49 1 #[(0,x)]) (hx:a.eval x= .agg cs.toArray) (hl:cs.length=11):(execOp a.eval o).run Tryz.prog w= .ok (.value (.slice (some ⟨w.heap.size,0,none⟩) 1 1)) (w.alloc (.cells cs.toArray 32)):=by
 obtain ⟨i,z,hi,hz,hs,hzs,hby,hze⟩:=info32z
 obtain ⟨d0,d1,d2,d3,d4,d5,d6,d7,d8,d9,da,rfl⟩:=len11 hl
 have h:(Instr.buildSlice 49 1 #[(0,Value.agg #[d0,d1,d2,d3,d4,d5,d6,d7,d8,d9,da])]).run Tryz.prog w= .ok (.slice (some ⟨w.heap.size,0,none⟩) 1 1) (w.alloc (.cells #[d0,d1,d2,d3,d4,d5,d6,d7,d8,d9,da] 32)):=
  run_buildSlice (P:=Tryz.prog) w 49 32 1 _ _ i z Tryz.underlying49 hi hz (by rw [hs];decide) (by rw [hs];decide) (by rw [hs,hze];kernel_rfl)
 unfold execOp
 simp only [ho,List.map_toArray,List.map_cons,List.map_nil,hx]
 rw [Sem.run_bind,h]
 rfl
theorem ex_app8 {o:Oper} {a:Act} {w w':World} {s x:Operand} {u v r:Value} {t:Nat} (ho:o.op= .call {callee:= .builtin .append,args:= #[s,x],argTypes:= #[t,t]}) (hs:a.eval s=v) (hx:a.eval x=u) (hr:(Builtin.append_ #[t,t] o.type #[v,u]).run Tryz.prog w= .ok r w'):(execOp a.eval o).run Tryz.prog w= .ok (.value r) w':=by
 unfold execOp
 simp only [ho,resolve,invoke,builtin,Sem.run_bind,Sem.run_pure,Result.andThen_ok,List.map_toArray,List.map_cons,List.map_nil,hs,hx,hr]
theorem ex_store49 {o:Oper} {a:Act} {w:World} {x y:Operand} {v old:Value} {p:Addr} (ho:o.op= .store 49 x y) (hx:a.eval x= .pointer (some p)) (hy:a.eval y=v) (h1:∃a n c,v= .slice a n c) (hc:w.cell? p=some old) (hf:w.frozen? p=false):(execOp a.eval o).run Tryz.prog w= .ok .skip (w.setCell p v):=by
 obtain ⟨ad,n,c,rfl⟩:=h1
 have hs:(Instr.storeAt 49 (.pointer (some p)) (.slice ad n c)).run Tryz.prog w= .ok () (w.setCell p (.slice ad n c)):=by
  unfold Instr.storeAt
  go_simp
 unfold execOp
 simp only [ho,hx,hy]
 rw [Sem.run_bind,hs]
 rfl
theorem app11 {w:World} {so:Value} {n q ty:Nat} {xs cs:List Value} (hown:w.ownsRow 0 32 11 so n xs) (hq:Blk w q cs 32) (hl:cs.length=11) (h1:∀u∈cs,u.oneCell'=true) (hn:n≤1000000):∃v' w',(Builtin.append_ #[49,49] ty #[so,.slice (some ⟨q,0,none⟩) 1 1]).run Tryz.prog w= .ok v' w'∧w'.ownsRow 0 32 11 v' (n+1) (xs++cs)∧w.grownBy w' so.ownBlock∧∀g,v'.ownBlock=some g→so.ownBlock=some g∨w.heap.size≤g:=by
 obtain ⟨i,z,hi,hz,hs,hzs,hby, -⟩:=info32z
 have hnews:∀j u,cs[j]?=some u→w.cell? ((⟨q,0,none⟩:Addr).add j)=some u:=fun j u hu=>by
  rw [show (⟨q,0,none⟩:Addr).add j=⟨q,j,none⟩ by unfold Addr.add;split<;>simp_all,hq.cell,hu]
 have hl1:cs.length=1*11:=by omega
 have hmx:n+1≤maxLen:=by unfold maxLen;omega
 rcases hown.2 with ⟨rfl,rfl⟩|⟨g,cap,cur,rfl,hbg,hg,hnc,hcm,hcs,htake⟩
 ·have hx:xs= []:=List.eq_nil_of_length_eq_zero (by simpa using hown.1)
  subst hx
  obtain ⟨v',w',r1,r2,r3,r4⟩:=run_append_own (P:=Tryz.prog) w w.heap.size 49 ty 32 i z 11 i.bytes Tryz.underlying49 hi hz hs rfl hzs (by omega) (.slice none 0 0) 0 [] (World.ownsRow_nil w _ 32 11) ⟨q,0,none⟩ 1 1 cs hl1 hnews h1 hmx (by rw [hby];omega) (Nat.le_refl _)
  refine ⟨v',w',r1,⟨r2.1,?_⟩,r3,fun g hg=> .inr (r2.lt g hg).1⟩
  rcases r2.2 with h|⟨g,cap,cur,e1,e2,e3⟩
  ·exact .inl h
  ·exact .inr ⟨g,cap,cur,e1,Nat.zero_le _,e3⟩
 ·obtain ⟨v',w',r1,r2,r3,r4⟩:=run_append_own (P:=Tryz.prog) w 0 49 ty 32 i z 11 i.bytes Tryz.underlying49 hi hz hs rfl hzs (by omega) _ n xs hown ⟨q,0,none⟩ 1 1 cs hl1 hnews h1 hmx (by rw [hby];omega) (Nat.zero_le _)
  refine ⟨v',w',r1,r2,r3,fun x hx=> ?_⟩
  by_cases hroom:n+1≤cap
  ·have hr:=run_append_room (P:=Tryz.prog) w 49 ty 32 i Tryz.underlying49 hi g n cap cur hg ⟨q,0,none⟩ 1 1 cs (by rw [hs];exact hl1) hnews h1 hroom (by rw [hs,hl,hcs];omega)
   rw [r1] at hr
   injection hr with hr
   subst hr
   exact .inl hx
  ·have holds:∀j u,xs[j]?=some u→w.cell? ((⟨g,0,none⟩:Addr).add j)=some u:=hown.cells (g:=g) rfl
   have hr:=run_append_grow (P:=Tryz.prog) w 49 ty 32 i z Tryz.underlying49 hi hz ⟨g,0,none⟩ n cap xs (by rw [hs];exact hown.1) holds ⟨q,0,none⟩ 1 1 cs (by rw [hs];exact hl1) hnews (by omega) (by simp only [maxLen] at hmx;omega) (growslice_fits (by omega) (by rw [hby];omega))
   rw [r1] at hr
   injection hr with hr
   subst hr
   cases hx
   exact .inr (Nat.le_refl _)
def En.takes (e:En) (B:Bn):Bool:=takesB e.base e.once.length e.onces e.kems B
def stp (p:En×Nat) (B:Bn):En×Nat:=if p.1.takes B then (p.1.add B,p.2+1) else p
def En.adds (e:En) (l:List Bn):En×Nat:=l.foldl stp (e,0)
theorem adds_succ {e:En} {l:List Bn} {k:Nat} (hk:k<l.length):e.adds (l.take (k+1))=stp (e.adds (l.take k)) l[k]:=by
 rw [En.adds,List.take_succ_eq_append_getElem hk,List.foldl_append];rfl
theorem takes_len {e:En} {B:Bn} (h:e.takes B=true):e.once.length<10:=by
 unfold En.takes takesB at h
 split at h
 ·cases h
 ·split at h
  ·cases h
  ·split at h
   ·cases h
   ·rename_i h3
    have:=of_decide_eq_false h3
    omega
theorem adds_cnt {e:En}:∀ {l:List Bn},(e.adds l).2≤l.length:=by
 intro l
 have:∀(l:List Bn) (p:En×Nat),(l.foldl stp p).2≤p.2+l.length:=by
  intro l
  induction l with
  |nil=>intro p;exact Nat.le_refl _
  |cons B l ih=>
   intro p
   have:=ih (stp p B)
   rw [List.foldl_cons,List.length_cons]
   refine Nat.le_trans this ?_
   unfold stp
   split
   ·simp;omega
   ·omega
 have h:=this l (e,0)
 unfold En.adds
 omega
theorem ro_mono {A A':Nat→Prop} {w:World} {k:Kd} {l:List k.T} {v:Value} (hA:∀g,A g→A' g):RoH A w k l v→RoH A' w k l v:=fun ⟨a,c,q1,q2,q3,q4,q5⟩=>⟨a,c,q1,q2,q3,q4,fun z=>by obtain ⟨g,o,cs,z1,z3,z2⟩:=q5 z;exact ⟨g,o,cs,z1,hA g z3,z2⟩⟩
theorem own_slice {w:World} {v:Value} {n:Nat} {xs:List Value} (h:w.ownsRow 0 32 11 v n xs):∃a c,v= .slice a n c:=by
 rcases h.2 with ⟨rfl,rfl⟩|⟨g,c,cur,rfl,_⟩<;>exact ⟨_,_,rfl⟩
theorem own_max {w:World} {v:Value} {n:Nat} {xs:List Value} (h:w.ownsRow 0 32 11 v n xs):n≤maxLen:=by
 rcases h.2 with ⟨_,rfl⟩|⟨g,c,cur,_,_,_,h1,h2,_⟩
 ·exact Nat.zero_le _
 ·exact Nat.le_trans h1 h2
theorem takes_call {w:World} {T:Nat→Nat} {t N b mo mk:Nat} {e:En} {cs xs:List Value} {so v:Value} {Do Dk:DataW Value} {A:Nat→Prop} {B:Bn} (hX:EnX w T t N b e cs so xs mo mk Do Dk) (hB:BnV A w B v) (hA:¬A b) (hf:B.fine) (ht:0<t):Calls Tryz.prog 36 #[.pointer (some ⟨b,0,none⟩),v] w fun r w'=>r= .returned (.bool (e.takes B))∧Below w.heap.size w w':=by
 obtain ⟨u0,u1,u2,u3,u5,u7,u8,ec,r0,r1,r2,r3,r5,r7,r8⟩:=bn_cells hX.base
 obtain rfl:cs= [u0,u1,u2,u3,.int .i64 e.base.onceId,u5,.int .i64 e.base.kemId,u7,u8,.bool e.base.last,.int .i64 e.base.version]:=congrArg Array.toList (by injection ec)
 obtain ⟨ch,hch⟩:∃ch,ch=entC u0 u1 u2 u3 u5 u7 u8 so (.map (some mo)) (.map (some mk)) e.base e.once.length e.onces e.kems:=⟨_,rfl⟩
 obtain ⟨H1,hH1⟩:∃H1:Nat→Option Ch,H1=lkH (hpOf 1000 [ch]):=⟨_,rfl⟩
 obtain ⟨η1,hη1⟩:∃η1:Env,η1=fun x=>if x=1000 then some (.pointer (some ⟨b,0,none⟩)) else none:=⟨_,rfl⟩
 have e7:η1 1000=some (.pointer (some ⟨b,0,none⟩)):=by rw [hη1];rfl
 have hn7:∀x,H1 x≠none→x=1000:=fun x hx=>by
  rw [hH1,hpOf_lk.1] at hx
  by_cases k:1000≤x
  ·rw [if_pos k] at hx
   by_cases k2:x-1000<1
   ·omega
   ·rw [List.getElem?_eq_none (by show 1≤x-1000;omega)] at hx;exact absurd rfl hx
  ·rw [if_neg k] at hx;exact absurd rfl hx
 have an:∀g,g≠b→Anon H1 η1 g:=fun g hg x hx=>by
  rw [hn7 x hx,fpE,e7]
  intro h
  exact hg (Option.some.inj h).symm
 have a0:∀g,T g=0→Anon H1 η1 g:=fun g hg=>an g fun h=>by have:=hX.tb;rw [←h,hg] at this;omega
 have hmo:mo≠b:=fun h=>by have h1:=hX.tb;have h2:=hX.tmo;rw [h] at h2;omega
 have hmk:mk≠b:=fun h=>by have h1:=hX.tb;have h2:=hX.tmk;rw [h] at h2;omega
 have hone:∀u∈ [u0,u1,u2,u3,.int .i64 e.base.onceId,u5,.int .i64 e.base.kemId,u7,u8,.bool e.base.last,.int .i64 e.base.version]++ [so,.map (some mo),.map (some mk)],u.oneCell'=true:=fun u hu=>by
  rcases List.mem_append.1 hu with h|h
  ·exact hX.base.ones u h
  ·simp only [List.mem_cons,List.not_mem_nil,or_false] at h
   rcases h with rfl|rfl|rfl
   ·obtain ⟨a,n,c,e⟩:=own_one8 hX.row;rw [e];rfl
   ·rfl
   ·rfl
 have hp:ch.H η1 (Anon H1 η1) w 1000:=by
  rw [hch]
  exact ⟨b,_,e7,hX.blk,⟨[u0],_,rfl,⟨rfl,ro_mono a0 r0⟩,[u1],_,rfl,⟨rfl,ro_mono a0 r1⟩,[u2],_,rfl,⟨rfl,ro_mono a0 r2⟩,[u3],_,rfl,⟨rfl,ro_mono a0 r3⟩,[_],_,rfl,rfl,[u5],_,rfl,⟨rfl,ro_mono a0 r5⟩,[_],_,rfl,rfl,[u7],_,rfl,⟨rfl,ro_mono a0 r7⟩,[u8],_,rfl,⟨rfl,ro_mono a0 r8⟩,[_],_,rfl,rfl,[_],_,rfl,rfl,[so],_,rfl,⟨rfl,own_slice hX.row,own_max hX.row⟩,[_],_,rfl,⟨rfl,mo,N,Do,rfl,an mo hmo,hX.om,hX.fo⟩,[_],_,rfl,⟨rfl,mk,N,Dk,rfl,an mk hmk,hX.km,hX.fk⟩,rfl⟩,hone⟩
 have hav:AV.H η1 (Anon H1 η1) w B.av v:=AV.H.later (η:=E0) (η':=η1) ⟨fun _ _ h=>(by cases h),fun g hg ha=>⟨rfl,an g fun h=>hA (h▸ha)⟩⟩ hB
 have hvc:=vcTakes u0 u1 u2 u3 u5 u7 u8 so (.map (some mo)) (.map (some mk)) e.base e.once.length e.onces e.kems B ⟨hf.2.1,hf.2.2⟩
 rw [←hch] at hvc
 refine (calls_RO followsMixed OPTk Tryz.func36 (by rfl) (t:=4) Tryz.results36 (by show 2≤96;decide) hvc (η:=η1) (fun x hx=>by rw [hη1];exact if_neg (by omega)) (by rw [←hH1];exact hp) (vs:= [.pointer (some ⟨b,0,none⟩),v]) (by rw [←hH1];exact ⟨_,_,rfl,⟨b,e7,rfl⟩,v,_,rfl,hav,rfl⟩)).mono fun r w' ⟨he,H',η',hF,h1,h2⟩=> ?_
 rw [←hH1] at hF
 refine ⟨he,hF.os,hF.tape,hF.output,hF.size,fun x hx=> ?_⟩
 by_cases hxb:x=b
 ·rw [hch] at h2
  obtain ⟨g',cs',q1,q2,q3,_⟩:=h2
  rw [h1,e7] at q1
  cases q1
  obtain ⟨_,_,a0,⟨b0,_⟩,_,_,a1,⟨b1,_⟩,_,_,a2,⟨b2,_⟩,_,_,a3,⟨b3,_⟩,_,_,a4,b4,_,_,a5,⟨b5,_⟩,_,_,a6,b6,_,_,a7,⟨b7,_⟩,_,_,a8,⟨b8,_⟩,_,_,a9,b9,_,_,aa,ba,_,_,ab,⟨bb,_⟩,_,_,ac,⟨bc,_⟩,_,_,ad,⟨bd,_⟩,ae⟩:=q3
  cases (show _= [Value.int .i64 e.base.onceId] from b4)
  cases (show _= [Value.int .i64 e.base.kemId] from b6)
  cases (show _= [Value.bool e.base.last] from b9)
  cases (show _= [Value.int .i64 e.base.version] from ba)
  subst ae ad ac ab aa a9 a8 a7 a6 a5 a4 a3 a2 a1 a0 b0 b1 b2 b3 b5 b7 b8 bb bc bd
  rw [hxb]
  exact q2.trans hX.blk.symm
 ·exact (hF.anon x hx (an x hxb)).1
set_option maxHeartbeats 8000000 in
theorem sonce_any (s:ByteArray) (hm:s.size≤1000) (hb:nameB s=true) {w:World} {T:Nat→Nat} {t N g mb m b q c:Nat} {D:DataW Value} {e:En} {l:List Bn} {zs:List Value} (hE:Ent w g mb m D) (hp:entP D s (some ⟨b,0,none⟩)) (hX:EnH w T t N b e) (ht:0<t) (hTg:¬mine T t g) (hTm:¬mine T t mb) (hTx:∀x,w.heap.size≤x→¬mine T t x)
  {A:Nat→Prop} (hAm:∀x,A x→¬mine T t x) (hq:w.rangeAt q 0 zs) (hz:RowsB A w zs l) (hTq:A q) (hl:∀B∈l,B.fine) (hN:N+l.length≤1000000):
  Calls Tryz.prog 12 #[.pointer (some ⟨g,0,none⟩),.string s,.slice (some ⟨q,0,none⟩) l.length c] w fun r w'=>r= .returned (.tuple #[.int .i64 ((e.adds l).2:Int),.int .i64 0])∧∃T',(∀x,x<w.heap.size→T' x=T x)∧EnH w' T' t (N+l.length) b (e.adds l).1∧Fr (mine T t) w w'∧∀x,w'.heap.size≤x→¬mine T' t x:=by
 have hfind:=find_ent s hm hb hE hp
 have HQ:=Lib.hid hq
 have HZ:=Lib.hid hz
 have HX:=Lib.hid hX
 have HT:=Lib.hid ht
 have HTX:=Lib.hid hTx
 have HTQ:=Lib.hid hTq
 have HAM:=Lib.hid hAm
 have HFI:=Lib.hid hl
 have HNN:=Lib.hid hN
 have hlen:(l.length:Int)≤1000000:=by omega
 have HF:=Lib.hid hfind
 clear hAm hfind hq hz hX ht hTg hTm hTx hTq hl hN hE hp hm hb
 go_enter Tryz.func12,Tryz.ntmps12
 go_wp2_with (go_at_call 35;go_must (refine HF.out.mono ?_;rintro r w1 ⟨rfl,rfl⟩))
 go_loopw [6,22] (fun n6 i wr=>∃(k:Nat) (T1:Nat→Nat),k≤l.length∧n6= .int .i64 ((e.adds (l.take k)).2:Int)∧i= .int .i64 k∧(∀x,x<w.heap.size→T1 x=T x)∧EnH wr T1 t (N+k) b (e.adds (l.take k)).1∧Fr (mine T t) w wr∧∀x,wr.heap.size≤x→¬mine T1 t x) (fun _ i _=>l.length-(intOf i).toNat)
 case atStart=>exact ⟨0,T,Nat.zero_le _,rfl,rfl,fun _ _=>rfl,HX.out,Fr.refl _ _,HTX.out⟩
 case round=>
  obtain ⟨k,T1,hk,rfl,rfl,hT1,hX1,hF1,hTx1⟩:=hrel
  by_cases hlt:k<l.length
  ·have hltz:(k:Int)<(l.length:Int):=by omega
   obtain ⟨B,hBe⟩:∃B,B=l[k]:=⟨_,rfl⟩
   obtain ⟨zi,hzi,hB⟩:=HZ.out.at hlt
   rw [←hBe] at hB
   have hfin:=HFI.out B (hBe▸List.getElem_mem hlt)
   have hzl:=bn_len hB
   have hzo:=bn_one hB
   have hql:q<w.heap.size:=range_lt HQ.out (by rw [HZ.out.len];omega)
   have hnq:¬mine T t q:=HAM.out q HTQ.out
   have hrg:wr.rangeAt q (k*11) zi:=by
    have h1:=range_eq HQ.out (hF1.block q hql hnq)
    have h2:=range_sub (k:=k*11) (n:=11) h1
    rw [Nat.zero_add,←hzi] at h2
    exact h2
   have hB1:BnV (fun x=>A x∧x<w.heap.size) wr B (.agg zi.toArray):=hB.later fun x hx ha=>⟨hF1.block x hx (HAM.out x ha),ha,hx⟩
   have hadd:=adds_succ (e:=e) hlt
   rw [←hBe] at hadd
   have hcnt:(e.adds (l.take k)).2≤l.length:=Nat.le_trans adds_cnt (by rw [List.length_take];omega)
   obtain ⟨e1,he1⟩:∃e1,e1=(e.adds (l.take k)).1:=⟨_,rfl⟩
   obtain ⟨c1,hc1⟩:∃c1,c1=(e.adds (l.take k)).2:=⟨_,rfl⟩
   have hstp:e.adds (l.take (k+1))=if e1.takes B then (e1.add B,c1+1) else (e1,c1):=by
    rw [hadd,stp,←he1,←hc1]
    split
    ·rfl
    ·exact Prod.ext he1.symm hc1.symm
   rw [←he1] at hX1
   rw [←hc1] at hcnt ⊢
   obtain ⟨cs0,so,xs,mo,mk,Do,Dk,hX2⟩:=hX1
   obtain ⟨W1,hW1⟩:∃W1,W1=(wr.alloc (.cells bn0 32)).setRow wr.heap.size zi.toArray:=⟨_,rfl⟩
   have hP1:Blk W1 wr.heap.size zi 32:=by rw [hW1];exact setRow_blk (Blk.new wr _ _)
   have hb1:Below wr.heap.size wr W1:=by rw [hW1];exact below_setRow (Below.alloc' (Below.refl _ _) _) (Nat.le_refl _) _
   have hrp:=hP1.rng
   have hX3:EnX W1 T1 t (N+k) b e1 cs0 so xs mo mk Do Dk:=hX2.later (F:=fun _=>False) (Fr.of_below hb1) (fun _ _=>rfl) (fun _ h=>h.elim) (Nat.le_refl _) HT.out
   have hnb:¬(A b∧b<w.heap.size):=fun h=>HAM.out b h.1 (by unfold mine;rw [←hT1 b h.2,hX2.tb];omega)
   have hi32:(Tryz.prog.info? 32).map (·.size)=some zi.toArray.size:=by rw [info32];simp [hzl]
   have ho32:bn0.size=zi.toArray.size:=by simp [hzl]
   have HX2:=Lib.hid hX2
   have HX3:=Lib.hid hX3
   have HB3:=Lib.hid (hB1.below hb1)
   have HAB:=Lib.hid hnb
   have HFN:=Lib.hid hfin
   have HP1:=Lib.hid hP1
   have HW1:=Lib.hid hb1
   have HST:=Lib.hid hstp
   have HFR:=Lib.hid hF1
   have HTX1:=Lib.hid hTx1
   have HTT:=Lib.hid hT1
   have HK:=Lib.hid hlt
   have HZL:=Lib.hid hzl
   have hcz:(c1:Int)≤1000000:=by omega
   clear hX2 hX3 hB1 hB hnb hfin hP1 hb1 hstp hF1 hT1 hTx1 hadd he1 hc1 hBe hzi hql hnq hcnt
   by_cases htk:e1.takes B=true
   ·have HTK:=Lib.hid htk
    go_upto_region 7 with (first|(refine wpList_load_mid rfl 32 (.tmp 24) rfl q (k*11) rfl zi _ hrg Tryz.underlying32 rfl (by rw [info32,hzl]) ?_)|(refine wpList_store_row rfl 32 _ _ rfl wr.heap.size _ rfl rfl 32 bn0 (Blk.new wr _ _) hi32 ho32 hzo ?_))
    rw [←hW1]
    clear hW1
    go_upto_region 8 with (first|(refine wpList_load_mid rfl 32 (.tmp 10) rfl wr.heap.size 0 rfl zi _ hrp Tryz.underlying32 rfl (by rw [info32,hzl]) ?_)|(go_at_call 36;go_must (refine (takes_call HX3.out HB3.out HAB.out HFN.out HT.out).mono ?_;rintro r w2 ⟨rfl,hb2⟩;rw [HTK.out];have HB2:=Lib.hid hb2;clear hb2)))
    have hf2:Fr (fun _=>False) wr w2:=(Fr.of_below HW1.out).call HB2.out
    have hX4:EnX w2 T1 t (N+k) b e1 cs0 so xs mo mk Do Dk:=HX2.out.later (F:=fun _=>False) hf2 (fun _ _=>rfl) (fun _ h=>h.elim) (Nat.le_refl _) HT.out
    have hl0:=bn_len hX4.base
    have hsb:¬so.ownBlock=some b:=fun e=>by have h1:=hX4.tq b e;rw [hX4.tb] at h1;omega
    obtain ⟨pb,hpb⟩:∃pb,pb=wr.heap.size:=⟨_,rfl⟩
    have HPB:Hid (Blk w2 pb zi 32):=Lib.hid (by rw [hpb];exact HP1.out.below' HB2.out)
    have HBV:=Lib.hid (HB3.out.below HB2.out)
    have HBLK:=Lib.hid (show Blk w2 b (ent3 cs0 so mo mk) 68 from hX4.blk)
    have HROW:=Lib.hid hX4.row
    have HFW:=Lib.hid (show ∀x,so.ownBlock=some x→x<w2.heap.size from fun x hx=>(hX4.row.lt x hx).2)
    have HBN:=Lib.hid hsb
    have HCL:=Lib.hid hl0
    have HLEN:=HZL
    have HS:=Lib.hid HFN.out.1
    have HN:=Lib.hid (show e1.once.length≤1000000 by have:=takes_len HTK.out;omega)
    have HF2:=Lib.hid hf2
    have HX4:=Lib.hid hX4
    have HPE:=Lib.hid hpb
    rw [←hpb]
    clear hf2 hX4 hl0 hsb hpb hrg hrp hi32 ho32 hzo HX3
    refine rgS 11 8 (fun x => so.ownBlock = some x) [(29, 0), (0, 1), (0, 2), (0, 3), (0, 4), (0, 5), (0, 6), (0, 7), (0, 8), (0, 9), (0, 10)] [kv (.pointer (some ⟨b, 0, none⟩)), kv (.pointer (some ⟨b, 0, none⟩)), kv (.pointer (some ⟨b, 0, none⟩)), kv (.pointer (some ⟨b, 11, none⟩)), kv (so), kv (.agg zi.toArray), (fpB B), (fpO B), (fpA w2.heap.size B e1.once.length xs), kv (.pointer (some ⟨b, 0, none⟩)), kv (.pointer (some ⟨b, 11, none⟩))] [none, none, none, none, none, none, some 7, some 8, none, none, none] (fun _ W => ∃ v cs, ∃ S : Nat → Prop, Blk W b (ent3 cs0 v mo mk) 68 ∧ W.ownsRow 0 32 11 v (e1.once.length + 1) (xs ++ cs) ∧ BnV (fun x => S x ∧ v.ownBlock ≠ some x ∧ w2.heap.size ≤ x) W B (.agg cs.toArray) ∧ (∀ x, v.ownBlock = some x → S x) ∧ (∀ x, S x → w2.heap.size ≤ x ∨ so.ownBlock = some x) ∧ Fr (fun x => so.ownBlock = some x ∨ x = b  ) w2 W) ?_ (fun u6 W6 hPd hv => ?_)
    ·refine ⟨?_,?_,?_,?_,?_,?_,?_,?_,?_,?_,?_,?_,trivial⟩
     ·refine ksP HFW.out (by omega) (.one (by kernel_rfl)) (by rfl) (fun L u W gh hc=> ?_)
      go_simp
     ·refine ksP HFW.out (by omega) (.one (by kernel_rfl)) (by rfl) (fun L u W gh hc=> ?_)
      have hb:=hc.before (.inr (.cons (c:=4) (by kernel_rfl) (.cons (c:=3) (by kernel_rfl) (.cons (c:=2) (by kernel_rfl) (.one (by kernel_rfl))))))
      go_simp
     ·refine ksP HFW.out (by omega) (.one (by kernel_rfl)) (by rfl) (fun L u W gh hc=> ?_)
      have e1:u 1= .pointer (some ⟨b,0,none⟩):=hc.val 1 (by kernel_rfl) (by omega) _ rfl
      have hb:=hc.before (.inr (.cons (c:=4) (by kernel_rfl) (.cons (c:=3) (by kernel_rfl) (.one (by kernel_rfl)))))
      go_simp
     ·refine ksP HFW.out (by omega) (.one (by kernel_rfl)) (by rfl) (fun L u W gh hc=> ?_)
      have e2:u 2= .pointer (some ⟨b,0,none⟩):=hc.val 2 (by kernel_rfl) (by omega) _ rfl
      have hb:=hc.before (.inr (.cons (c:=4) (by kernel_rfl) (.one (by kernel_rfl))))
      go_simp
     ·refine ksP HFW.out (by omega) (.one (by kernel_rfl)) (by rfl) (fun L u W gh hc=> ?_)
      have e3:u 3= .pointer (some ⟨b,11,none⟩):=hc.val 3 (by kernel_rfl) (by omega) _ rfl
      have hb:=hc.before (.inr (.one (by kernel_rfl)))
      have hcx:W.cell? ⟨b,11,none⟩=some so:=(HBLK.out.below' hb).cell11 HCL.out
      go_simp
     ·refine ksP HFW.out (by omega) (.one (by kernel_rfl)) (by rfl) (fun L u W gh hc=> ?_)
      have hb:=hc.before (.inr (.cons (c:=6) (by kernel_rfl) (.one (by kernel_rfl))))
      exact ex_load32 rfl rfl ((HPB.out.below' hb).rng) HLEN.out
     ·refine ksC HFW.out (by omega) (.one (by kernel_rfl)) (fun L u W gh hc K hK=> ?_)
      have e5:u 5= .agg zi.toArray:=hc.val 5 (by kernel_rfl) (by omega) _ rfl
      have hb:=hc.before (.inr (.one (by kernel_rfl)))
      go_simp
      go_at_call 27
      refine (own_call (HBV.out.below hb) HS.out).mono ?_
      rintro r w6 ⟨v6,rfl,hb6,hv6⟩
      have hk9:=hK.out v6 w6 (fun x=>W.heap.size≤x∧x<w6.heap.size) (Fr.of_below hb6) (hv6.later fun x hx ha=>⟨rfl,ha,hx⟩) (fun x e=>(by cases e)) (fun x hx=> .inr hx.1) (fun x hx=>hx.2)
      first |exact hk9|(simp only [e5] at hk9;exact hk9)
     ·refine ksM HFW.out (by omega) (.one (by kernel_rfl)) (fun L u W gh hc=> ?_)
      have t6:=hc.fact 6 (by kernel_rfl) (by omega) (fun t ht=>by cases ht;exact hc.free _ (.inl rfl))
      have f6:=hc.foot 6 (by kernel_rfl) (by omega) (fun t ht=>by cases ht;exact hc.free _ (.inl rfl))
      have hb:=hc.before (.inr (.one (by kernel_rfl)))
      obtain ⟨cs,e6⟩:∃cs:List Value,u 6= .agg cs.toArray:=by obtain ⟨cs,e6,_⟩:=t6;exact ⟨cs,e6⟩
      rw [e6] at t6
      have al:=(Fr.refl (fun _=>False) W).alloc (.cells cs.toArray 32)
      refine ⟨_,_,fun x=>gh 6 x∨x=W.heap.size,ex_bslice rfl e6 (bn_len t6),(Fr.refl _ _).alloc _,⟨W.heap.size,cs,rfl,.inr rfl,Blk.new W _ _,t6.later fun x hx ha=>⟨al.block x hx (fun h=>h),.inl ha,by omega⟩⟩,fun x e=>(by cases e),fun x hx=> ?_,fun x hx=> ?_⟩
      ·rcases hx with h|h
       ·exact .inl ⟨6,by kernel_rfl,by omega,rfl,h⟩
       ·exact .inr (Nat.le_of_eq h.symm)
      ·rcases hx with h|rfl
       ·have:=(f6 x h).2;simp;omega
       ·simp
     ·refine ksW HFW.out (by omega) (.one (by kernel_rfl)) rfl fun L u W gh hc hb=> ?_
      have e4:u 4=so:=hc.val 4 (by kernel_rfl) (by omega) _ rfl
      have t7:=hc.fact 7 (by kernel_rfl) (by omega) (fun t ht=>by cases ht;exact hc.free _ (.inl rfl))
      have f7:=hc.foot 7 (by kernel_rfl) (by omega) (fun t ht=>by cases ht;exact hc.free _ (.inl rfl))
      obtain ⟨q,cs,e7,s7,b7,v7⟩:=t7
      have hso:W.ownsRow 0 32 11 so e1.once.length xs:=ownsRow_to HROW.out fun x hx=>hb.block x (HROW.out.lt x hx).2
      obtain ⟨v8,w8,hr8,ho8,hg8,hn8⟩:=app11 (ty:=49) hso b7 (bn_len v7) v7.ones HN.out
      have hq:∀x,gh 7 x→so.ownBlock≠some x:=fun x hx e=>by have h1:=(f7 x hx).1;have:=HFW.out x e;rcases h1 with h1|⟨_,h1⟩;omega;rw [hc.free 8 (.inl rfl)] at h1;cases h1
      have h9:∀x,x<W.heap.size→so.ownBlock≠some x→w8.heap[x]?=W.heap[x]?:=fun x hx hn=>hg8.block x hx (fun e=>hn e.symm)
      have h10:∀x,x<W.heap.size→gh 7 x→v8.ownBlock≠some x:=fun x hx h e=>by rcases hn8 x e with h1|h1;exact hq x h h1;omega
      have h11:∀x,gh 7 x→w2.heap.size≤x:=fun x h=>by rcases (f7 x h).1 with h1|⟨_,h1⟩;exact h1;rw [hc.free 8 (.inl rfl)] at h1;cases h1
      refine ⟨v8,w8,fun x=>v8.ownBlock=some x∨gh 7 x,ex_app8 rfl e4 e7 hr8,⟨hg8.os,hg8.tape,hg8.output,hg8.size,fun x hx hn=>h9 x hx (fun e=>hn (.inl e))⟩,⟨cs,ho8,fun x hx=> .inl hx,v7.later fun x hx ha=>⟨h9 x hx (hq x ha.1),.inr ha.1,h10 x hx ha.1,h11 x ha.1⟩⟩,fun x e=>(by cases e),fun x hx=> ?_,fun x hx=> ?_⟩
      ·rcases hx with h|h
       ·rcases hn8 x h with h|h
        ·exact .inl h
        ·exact .inr (.inr h)
       ·exact .inr (.inl ⟨7,by kernel_rfl,by omega,rfl,h⟩)
      ·rcases hx with h|h
       ·exact (ho8.lt x h).2
       ·exact Nat.lt_of_lt_of_le (f7 x h).2 hg8.size
     ·refine ksP HFW.out (by omega) (.cons (c:=10) (by kernel_rfl) (.one (by kernel_rfl))) (by rfl) (fun L u W gh hc=> ?_)
      have e0:u 0= .pointer (some ⟨b,0,none⟩):=hc.val 0 (by kernel_rfl) (by omega) _ rfl
      have e1:u 1= .pointer (some ⟨b,0,none⟩):=hc.val 1 (by kernel_rfl) (by omega) _ rfl
      have e2:u 2= .pointer (some ⟨b,0,none⟩):=hc.val 2 (by kernel_rfl) (by omega) _ rfl
      have e3:u 3= .pointer (some ⟨b,11,none⟩):=hc.val 3 (by kernel_rfl) (by omega) _ rfl
      have e4:u 4=so:=hc.val 4 (by kernel_rfl) (by omega) _ rfl
      have e5:u 5= .agg zi.toArray:=hc.val 5 (by kernel_rfl) (by omega) _ rfl
      have t8:=hc.fact 8 (by kernel_rfl) (by omega) (fun t ht=>by cases ht)
      have f8:=hc.foot 8 (by kernel_rfl) (by omega) (fun t ht=>by cases ht)
      go_simp
     ·refine ksP HFW.out (by omega) (.one (by kernel_rfl)) (by rfl) (fun L u W gh hc=> ?_)
      have e0:u 0= .pointer (some ⟨b,0,none⟩):=hc.val 0 (by kernel_rfl) (by omega) _ rfl
      have e1:u 1= .pointer (some ⟨b,0,none⟩):=hc.val 1 (by kernel_rfl) (by omega) _ rfl
      have e2:u 2= .pointer (some ⟨b,0,none⟩):=hc.val 2 (by kernel_rfl) (by omega) _ rfl
      have e3:u 3= .pointer (some ⟨b,11,none⟩):=hc.val 3 (by kernel_rfl) (by omega) _ rfl
      have e4:u 4=so:=hc.val 4 (by kernel_rfl) (by omega) _ rfl
      have e5:u 5= .agg zi.toArray:=hc.val 5 (by kernel_rfl) (by omega) _ rfl
      have t8:=hc.fact 8 (by kernel_rfl) (by omega) (fun t ht=>by cases ht)
      have f8:=hc.foot 8 (by kernel_rfl) (by omega) (fun t ht=>by cases ht)
      have e9:u 9= .pointer (some ⟨b,0,none⟩):=hc.val 9 (by kernel_rfl) (by omega) _ rfl
      go_simp
     ·refine ksZ fun L u W gh hc=> ?_
      have e0:u 0= .pointer (some ⟨b,0,none⟩):=hc.val 0 (by kernel_rfl) (by omega) _ rfl
      have e1:u 1= .pointer (some ⟨b,0,none⟩):=hc.val 1 (by kernel_rfl) (by omega) _ rfl
      have e2:u 2= .pointer (some ⟨b,0,none⟩):=hc.val 2 (by kernel_rfl) (by omega) _ rfl
      have e3:u 3= .pointer (some ⟨b,11,none⟩):=hc.val 3 (by kernel_rfl) (by omega) _ rfl
      have e4:u 4=so:=hc.val 4 (by kernel_rfl) (by omega) _ rfl
      have e5:u 5= .agg zi.toArray:=hc.val 5 (by kernel_rfl) (by omega) _ rfl
      have t8:=hc.fact 8 (by kernel_rfl) (by omega) (fun t ht=>by cases ht)
      have f8:=hc.foot 8 (by kernel_rfl) (by omega) (fun t ht=>by cases ht)
      have e10:u 10= .pointer (some ⟨b,11,none⟩):=hc.val 10 (by kernel_rfl) (by omega) _ rfl
      obtain ⟨cs,ho8,hs8,hv8⟩:=t8
      have hfr:=hc.fr
      have hbn:¬so.ownBlock=some b:=HBN.out
      have hBW:Blk W b (ent3 cs0 so mo mk) 68:=(hfr.block b HBLK.out.lt hbn).trans HBLK.out
      have hw:∀x,x≠b→(W.setCell ⟨b,11,none⟩ (u 8)).heap[x]?=W.heap[x]?:=fun x hn=>Below.heap_setCell W ⟨b,11,none⟩ (u 8) x hn
      have hsb:∀x,gh 8 x→x≠b:=fun x hx e=>by subst e;rcases (f8 x hx).1 with h|⟨h,_⟩;exact absurd HBLK.out.lt (Nat.not_lt.2 h);exact hbn h
      have hone:=own_one8 ho8
      refine ⟨_,_,W.setCell ⟨b,11,none⟩ (u 8),ex_store49 rfl e10 rfl hone (hBW.cell11 HCL.out) (hBW.frozen _),.inl ⟨rfl,rfl⟩,u 8,cs,gh 8,hBW.set11 HCL.out,ownsRow_to ho8 fun x hx=>hw x (hsb x (hs8 x hx)),hv8.later fun x hx ha=>⟨hw x (hsb x ha.1),ha⟩,hs8,fun x hx=> ?_,(hfr.mono (fun x hx=> .inl (.inl hx))).trans (F':=fun x=>x=b) (Fr.setCell (F:=fun x=>x=b) (Fr.refl _ W) (.inl rfl) _) (fun x hx=> .inl (.inr hx))⟩
      exact (f8 x hx).1.imp id (fun h=>h.1)
    obtain ⟨v,cs,S,hb6,ho6,hv6,hs6,hS6,hf6⟩:=hPd
    have hX4:=HX4.out
    have hmolt:=hX4.om.lt
    have hmklt:=hX4.km.lt
    have htag:so.ownBlock≠some mo∧so.ownBlock≠some mk∧b≠mo∧b≠mk∧mo≠mk:=⟨fun h=>by have h1:=hX4.tq _ h;rw [hX4.tmo] at h1;omega,fun h=>by have h1:=hX4.tq _ h;rw [hX4.tmk] at h1;omega,fun h=>by have h1:=hX4.tb;rw [h,hX4.tmo] at h1;omega,fun h=>by have h1:=hX4.tb;rw [h,hX4.tmk] at h1;omega,fun h=>by have h1:=hX4.tmo;rw [h,hX4.tmk] at h1;omega⟩
    have hvlt:∀x,v.ownBlock=some x→w2.heap.size≤x∨so.ownBlock=some x:=fun x hx=>hS6 x (hs6 x hx)
    have hvmo:∀x,v.ownBlock=some x→x≠mo∧x≠mk∧x≠b:=fun x hx=>by
     rcases hvlt x hx with h1|h1
     ·exact ⟨by omega,by omega,fun h=>by have:=hX4.lt;omega⟩
     ·exact ⟨fun h=>htag.1 (h▸h1),fun h=>htag.2.1 (h▸h1),fun h=>HBN.out (h▸h1)⟩
    have hmo6:MI W6 mo (N+k) Do:=ownsMap_to hX4.om (hf6.block mo hmolt fun h=>h.elim htag.1 (fun e=>htag.2.2.1 e.symm)) (Nat.le_refl _)
    have hmk6:MI W6 mk (N+k) Dk:=ownsMap_to hX4.km (hf6.block mk hmklt fun h=>h.elim htag.2.1 (fun e=>htag.2.2.2.1 e.symm)) (Nat.le_refl _)
    have hpn:pb≠b∧so.ownBlock≠some pb:=by
     have h1:=HPE.out
     exact ⟨fun h=>by have:=HX2.out.lt;omega,fun h=>by have:=(HX2.out.row.lt pb h).2;omega⟩
    have hp6:Blk W6 pb zi 32:=(hf6.block pb HPB.out.lt fun h=>h.elim hpn.2 hpn.1).trans HPB.out
    obtain ⟨hc4,hc6⟩:=bn_ids HBV.out hp6
    have hc12:=hb6.cell12 HCL.out
    have hlk9:=map_look (A:=fun _=>True) ⟨mo,_,Do,rfl,trivial,hmo6,hX4.fo⟩ HFN.out.2.1
    have hlk9d:=map_look (A:=fun _=>True) (w:=W6.drew) ⟨mo,_,Do,rfl,trivial,hmo6.drew,hX4.fo⟩ HFN.out.2.1
    have hNk:N+k<maxLen:=by have:=HNN.out;have:=HK.out;unfold maxLen;omega
    have HB6:=Lib.hid hb6
    have HO6:=Lib.hid ho6
    have HV6:=Lib.hid hv6
    have HS6:=Lib.hid hS6
    have HSS:=Lib.hid hs6
    have HF6:=Lib.hid hf6
    have HVL:=Lib.hid hvlt
    have HVM:=Lib.hid hvmo
    have HTG:=Lib.hid htag
    have HMO6:=Lib.hid hmo6
    have HMK6:=Lib.hid hmk6
    have HP6:=Lib.hid hp6
    have HPN:=Lib.hid hpn
    clear hb6 ho6 hv6 hs6 hS6 hf6 hvlt hvmo htag hmo6 hmk6 hp6 hpn hX4 hv
    go_upto_region 9 with fail
    go_still_tail 8,(by kernel_rfl)
    refine wpList_mapUpdate_own _ rfl _ _ _ 66 rfl 3 3 (Maps.int_keyed Tryz.underlying3) Tryz.underlying66 (plainElem Tryz.prog 3) mo (N+k) Do rfl HMO6.out hNk (.int .i64 B.onceId) _ (.int .i64 B.onceId) rfl rfl (keyOfI HFN.out.2.1) (.lit (.int .i64 (IntKind.i64.wrap (e1.onces B.onceId+1)))) [] (plainElem_int Tryz.underlying3 (wf_wrap _ _)) (fun w7 ho7 hg7=> ?_)
    have h67:Fr (fun x=>x=mo) W6 w7:=⟨hg7.os,hg7.tape,hg7.output,hg7.size,fun x hx hn=>hg7.block x hx (fun e=>hn (by injection e))⟩
    have hb7:=h67.blk HB6.out HTG.out.2.2.1
    have hp7:Blk w7 pb zi 32:=h67.blk HP6.out (fun h=>by have:=HX2.out.om.lt;have:=HPE.out;omega)
    have hmk7:MI w7 mk (N+k) Dk:=ownsMap_to HMK6.out (h67.block mk HMK6.out.lt (fun h=>HTG.out.2.2.2.2 h.symm)) (Nat.le_refl _)
    obtain ⟨hc4',hc6'⟩:=bn_ids HBV.out hp7
    have hc13:=hb7.cell13 HCL.out
    have hlk10:=map_look (A:=fun _=>True) ⟨mk,_,Dk,rfl,trivial,hmk7,HX4.out.fk⟩ HFN.out.2.2
    have hlk10d:=map_look (A:=fun _=>True) (w:=w7.drew) ⟨mk,_,Dk,rfl,trivial,hmk7.drew,HX4.out.fk⟩ HFN.out.2.2
    have HO7:=Lib.hid ho7
    have H67:=Lib.hid h67
    have HMK7:=Lib.hid hmk7
    clear ho7 hg7 h67 hb7 hp7 hmk7 hc4 hc6 hc12 hlk9 hlk9d
    go_upto_region 10 with fail
    go_still_tail 8,(by kernel_rfl)
    refine wpList_mapUpdate_own _ rfl _ _ _ 66 rfl 3 3 (Maps.int_keyed Tryz.underlying3) Tryz.underlying66 (plainElem Tryz.prog 3) mk (N+k) Dk rfl HMK7.out hNk (.int .i64 B.kemId) _ (.int .i64 B.kemId) rfl rfl (keyOfI HFN.out.2.2) (.lit (.int .i64 (IntKind.i64.wrap (e1.kems B.kemId+1)))) [] (plainElem_int Tryz.underlying3 (wf_wrap _ _)) (fun w8 ho8 hg8=> ?_)
    have h78:Fr (fun x=>x=mk) w7 w8:=⟨hg8.os,hg8.tape,hg8.output,hg8.size,fun x hx hn=>hg8.block x hx (fun e=>hn (by injection e))⟩
    have HO8:=Lib.hid ho8
    have H78:=Lib.hid h78
    clear ho8 hg8 h78 hc4' hc6' hc13 hlk10 hlk10d
    go_wp2
    have hX2:=HX2.out
    have hk1:=HK.out
    have ep:=HPE.out
    have h28:Fr (fun x=>so.ownBlock=some x∨x=b∨x=mo∨x=mk) wr w8:=
     ((((HF2.out.mono fun _ h=>h.elim).trans HF6.out fun x hx=> .inl (by rcases hx with h|h;exact .inl h;exact .inr (.inl h))).trans H67.out fun x hx=> .inl (.inr (.inr (.inl hx)))).trans H78.out fun x hx=> .inl (.inr (.inr (.inr hx))))
    have h68:∀x,x<W6.heap.size→x≠mo→x≠mk→w8.heap[x]?=W6.heap[x]?:=fun x hx h1 h2=>(H78.out.block x (Nat.lt_of_lt_of_le hx H67.out.size) h2).trans (H67.out.block x hx h1)
    have hwr2:wr.heap.size≤w2.heap.size:=HF2.out.size
    have hsolt:∀x,so.ownBlock=some x→x<wr.heap.size:=fun x hx=>(hX2.row.lt x hx).2
    obtain ⟨T2,hT2⟩:∃T2:Nat→Nat,T2=fun x=>if x<wr.heap.size then T1 x else if v.ownBlock=some x then t+1 else 0:=⟨_,rfl⟩
    have t2o:∀x,x<wr.heap.size→T2 x=T1 x:=fun x hx=>by rw [hT2];exact if_pos hx
    have t2n:∀x,wr.heap.size≤x→v.ownBlock≠some x→T2 x=0:=fun x hx hv=>by rw [hT2];show (if x<wr.heap.size then T1 x else if v.ownBlock=some x then t+1 else 0)=0;rw [if_neg (by omega),if_neg hv]
    have t2v:∀x,v.ownBlock=some x→T2 x=t+1:=fun x hv=>by
     rcases HVL.out x hv with h|h
     ·rw [hT2];show (if x<wr.heap.size then T1 x else if v.ownBlock=some x then t+1 else 0)=t+1;rw [if_neg (by omega),if_pos hv]
     ·rw [t2o x (hsolt x h)];exact hX2.tq x h
    have ht:=HT.out
    have hm1:∀x,(so.ownBlock=some x∨x=b∨x=mo∨x=mk)→mine T1 t x:=fun x hx=>by
     unfold mine
     rcases hx with h|rfl|rfl|rfl
     ·rw [hX2.tq x h];omega
     ·rw [hX2.tb];omega
     ·rw [hX2.tmo];omega
     ·rw [hX2.tmk];omega
    have k0:∀x,x<wr.heap.size→T1 x=0→w8.heap[x]?=wr.heap[x]?∧T2 x=0:=fun x hx h0=>⟨h28.block x hx fun h=>by have:=(hm1 x h).1;omega,(t2o x hx).trans h0⟩
    have hrow:w8.ownsRow 0 32 11 v (e1.once.length+1) (xs++cs):=ownsRow_to HO6.out fun x hx=>h68 x (HO6.out.lt x hx).2 (HVM.out x hx).1 (HVM.out x hx).2.1
    have hnew:BnV (fun x=>T2 x=0) w8 B (.agg cs.toArray):=HV6.out.later fun x hx ha=>⟨h68 x hx (fun h=>by have:=hX2.om.lt;have:=ha.2.2;omega) (fun h=>by have:=hX2.km.lt;have:=ha.2.2;omega),t2n x (Nat.le_trans hwr2 ha.2.2) ha.2.1⟩
    have hbl:b<wr.heap.size:=hX2.lt
    have hX9:EnX w8 T2 t (N+(k+1)) b (e1.add B) cs0 v (xs++cs) mo mk (Do.put (.int .i64 B.onceId) (.lit (.int .i64 (IntKind.i64.wrap (e1.onces B.onceId+1))))) (Dk.put (.int .i64 B.kemId) (.lit (.int .i64 (IntKind.i64.wrap (e1.kems B.kemId+1))))):=
     ⟨(h68 b HB6.out.lt HTG.out.2.2.1 HTG.out.2.2.2.1).trans HB6.out,hX2.base.later k0,(by rw [show (e1.add B).once.length=e1.once.length+1 from List.length_append];exact hrow),(hX2.rows.later k0).append hnew,ownsMap_to HO7.out (H78.out.block mo HO7.out.lt HTG.out.2.2.2.2) (by omega),ownsMap_to HO8.out rfl (by omega),onI_map hX2.fo hX2.om.isMap HFN.out.2.1,onI_map hX2.fk hX2.km.isMap HFN.out.2.2,(t2o b hbl).trans hX2.tb,t2v,(t2o mo hX2.om.lt).trans hX2.tmo,(t2o mk hX2.km.lt).trans hX2.tmk,hX2.sb,fun B' hB'=>by
      rcases List.mem_append.1 hB' with h|h
      ·exact hX2.sl B' h
      ·rw [List.mem_singleton.1 h];exact HFN.out⟩
    have hst:=HST.out
    rw [if_pos HTK.out] at hst
    refine ⟨⟨k+1,T2,hk1,?_,?_,fun x hx=>(t2o x (Nat.lt_of_lt_of_le hx HFR.out.size)).trans (HTT.out x hx),?_,?_,fun x hx h=> ?_⟩,?_⟩
    ·rw [hst];simp
    ·simp
    ·rw [hst];exact ⟨cs0,v,xs++cs,mo,mk,_,_,hX9⟩
    ·refine HFR.out.trans h28 fun x hx=> ?_
     rcases Nat.lt_or_ge x w.heap.size with h|h
     ·have h1:=hm1 x hx
      unfold mine at h1 ⊢
      rw [HTT.out x h] at h1
      exact .inl h1
     ·exact .inr h
    ·have h1:=h.1
     rw [t2n x (Nat.le_trans h28.size hx) (fun hv=>by have:=(hrow.lt x hv).2;omega)] at h1
     omega
    ·simp only [intOf];omega
   ·have HTK:Hid (e1.takes B=false):=Lib.hid (by simpa using htk)
    go_upto_region 7 with (first|(refine wpList_load_mid rfl 32 (.tmp 24) rfl q (k*11) rfl zi _ hrg Tryz.underlying32 rfl (by rw [info32,hzl]) ?_)|(refine wpList_store_row rfl 32 _ _ rfl wr.heap.size _ rfl rfl 32 bn0 (Blk.new wr _ _) hi32 ho32 hzo ?_))
    rw [←hW1]
    clear hW1
    go_wp2_with (first|(refine wpList_load_mid rfl 32 (.tmp 10) rfl wr.heap.size 0 rfl zi _ hrp Tryz.underlying32 rfl (by rw [info32,hzl]) ?_)|(go_at_call 36;go_must (refine (takes_call HX3.out HB3.out HAB.out HFN.out HT.out).mono ?_;rintro r w2 ⟨rfl,hb2⟩;rw [HTK.out];have HB2:=Lib.hid hb2;clear hb2)))
    have hf2:Fr (fun _=>False) wr w2:=(Fr.of_below HW1.out).call HB2.out
    have hst:=HST.out
    rw [if_neg (by rw [HTK.out];simp)] at hst
    have hk1:=HK.out
    refine ⟨⟨k+1,T1,hk1,?_,?_,HTT.out,?_,HFR.out.trans hf2 (fun _ h=>h.elim),fun x hx=>HTX1.out x (Nat.le_trans hf2.size hx)⟩,?_⟩
    ·rw [hst]
    ·simp
    ·rw [hst];exact ⟨cs0,so,xs,mo,mk,Do,Dk,HX2.out.later (F:=fun _=>False) hf2 (fun _ _=>rfl) (fun _ h=>h.elim) (by omega) HT.out⟩
    ·simp only [intOf];omega
  ·have hkl:k=l.length:=by omega
   subst hkl
   go_wp2
   go_ret2
   rw [List.take_length] at hX1 ⊢
   exact ⟨rfl,T1,hT1,hX1,hF1,hTx1⟩
set_option linter.unusedVariables false
theorem own_cells {w:World} {so:Value} {n:Nat} {xs:List Value} (h:w.ownsRow 0 32 11 so (n+1) xs):∃q c cur,so= .slice (some ⟨q,0,none⟩) (n+1) c∧Blk w q cur 32∧cur.length=c*11∧cur.take ((n+1)*11)=xs∧n+1≤c∧c≤maxLen:=by
 rcases h.2 with ⟨_,h0⟩|⟨q,c,cur,rfl,_,hg,h1,h2,h3,h4⟩
 ·cases h0
 ·exact ⟨q,c,cur.toList,rfl,hg,by simpa using h3,h4,h1,h2⟩
theorem own_of {w:World} {q n c:Nat} {cur xs:List Value} (hB:Blk w q cur 32) (h1:cur.length=c*11) (h2:cur.take (n*11)=xs) (h3:n≤c) (h4:c≤maxLen):w.ownsRow 0 32 11 (.slice (some ⟨q,0,none⟩) n c) n xs:=by
 refine ⟨by rw [←h2,List.length_take,h1];exact Nat.min_eq_left (Nat.mul_le_mul_right _ h3),.inr ⟨q,c,cur.toArray,rfl,Nat.zero_le _,hB,h3,h4,by simpa using h1,by simpa using h2⟩⟩
def fresh0 (w:World) (T:Nat→Nat) (x:Nat):Nat:=if x<w.heap.size then T x else 0
theorem ent_look {w:World} {mb m b:Nat} {D:DataW Value} {s:ByteArray} (ho:w.ownsMap Tryz.prog 9 hP mb m D) (hm:s.size≤1000) (hp:entP D s (some ⟨b,0,none⟩)):(Instr.lookup 58 (.map (some mb)) (.string s) false).run Tryz.prog w= .ok (.pointer (some ⟨b,0,none⟩)) w:=by
 obtain ⟨v,k1,k2⟩:=name_look ho hm
 rw [show D.atKey (.string s.data.toList) (.held (.pointer none))= .held (.pointer (some ⟨b,0,none⟩)) from hp] at k2
 rw [←hP_held k2]
 exact k1
set_option maxHeartbeats 4000000 in
theorem fetch_once (s:ByteArray) (hm:s.size≤1000) (hb:nameB s=true) {w:World} {T:Nat→Nat} {t N g mb m b mo mk:Nat} {D Do Dk:DataW Value} {e:En} {B:Bn} {l:List Bn} {cs xs:List Value} {so:Value} (hE:Ent w g mb m D) (hp:entP D s (some ⟨b,0,none⟩)) (hX:EnX w T t N b e cs so xs mo mk Do Dk) (ho:e.once=B::l) (ht:0<t) (hTg:¬mine T t g) (hTm:¬mine T t mb):
  Calls Tryz.prog 14 #[.pointer (some ⟨g,0,none⟩),.string s] w fun r w'=>∃z,r= .returned (.tuple #[z,.int .i64 0])∧BnV (fun x=>fresh0 w T x=0) w' B z∧EnH w' (fresh0 w T) t N b ⟨e.base,l,e.onces,e.kems⟩∧Fr (fun x=>T x=t+1∨x=b) w w':=by
 obtain ⟨q,c,cur,rfl,hq,hcl,hcx,hc1,hc2⟩:=own_cells (n:=l.length) (by have:=hX.row;rw [ho] at this;exact this)
 have hrows:=hX.rows
 rw [ho] at hrows
 obtain ⟨ds,e0,hB⟩:=hrows.at (k:=0) (by simp)
 have hds:ds=cur.take 11:=by
  rw [e0,←hcx,Nat.zero_mul,List.drop_zero,List.take_take,Nat.min_eq_left (by omega)]
 have hd11:ds.length=11:=bn_len hB
 have hE1:∀w1,Below w.heap.size w w1→Ent w1 g mb m D:=fun w1 hb1=>⟨hE.top.below' hb1,ownsMap_to hE.map (hb1.block mb hE.map.lt) (Nat.le_refl _)⟩
 have hXb:∀w1,Below w.heap.size w w1→Blk w1 b (cs++ [.slice (some ⟨q,0,none⟩) (l.length+1) c,.map (some mo),.map (some mk)]) 68:=fun w1 hb1=>hX.blk.below' hb1
 have hl0:cs.length=11:=bn_len hX.base
 have h11:∀w1,Below w.heap.size w w1→w1.cell? ⟨b,11,none⟩=some (.slice (some ⟨q,0,none⟩) (l.length+1) c):=fun w1 hb1=>by
  rw [(hXb w1 hb1).cell,List.getElem?_append_right (by omega),hl0];rfl
 have hfin:B.fine:=hX.sl B (by rw [ho];simp)
 have hlook:∀w1,Below w.heap.size w w1→Calls Tryz.prog 37 #[.pointer (some ⟨g,0,none⟩),.string s] w1 fun e w'=>∃z,e= .returned (.tuple #[z,.int .i64 0])∧Below w1.heap.size w1 w'∧BnV (fun g=>w1.heap.size≤g) w' B z:=fun w1 hb1=>
  look_first (A:=fun x=>T x=0) _ s hfin.1 (fun w2 hb2=>⟨h11 w2 (Below.call hb1 hb2),hB.below (Below.call hb1 hb2),by
   have h1:=(hq.below' (Below.call hb1 hb2)).rng
   have h2:=range_sub (k:=0) (n:=11) h1
   rw [List.drop_zero,←hds] at h2
   exact h2⟩) fun w2 hb2=>(find_ent s hm hb (hE1 w2 (Below.call hb1 hb2)) hp).mono fun e w' h=>h
 have hcount:∀w1,Below w.heap.size w w1→Calls Tryz.prog 13 #[.pointer (some ⟨g,0,none⟩),.string s] w1 fun e w'=>e= .returned (.int .i64 ((l.length+1:Nat):Int))∧w1=w':=fun w1 hb1=>
  count_ent _ s (h11 w1 hb1) (find_ent s hm hb (hE1 w1 hb1) hp)
 have hTq:T q=t+1:=hX.tq q rfl
 have HGQ:=Lib.hid (show g≠q from fun e=>hTg (e▸⟨by omega,by omega⟩))
 have HMQ:=Lib.hid (show mb≠q from fun e=>hTm (e▸⟨by omega,by omega⟩))
 have HBQ:=Lib.hid (show b≠q from fun e=>by have:=hX.tb;rw [e] at this;omega)
 clear hTg hTm hTq
 have HCS:=Lib.hid hl0
 have HONE:Hid (∀u∈cur.take ((l.length+1)*11),u.oneCell'=true):=Lib.hid (by rw [hcx];exact hX.rows.one)
 have HL:=Lib.hid hlook
 have HCn:=Lib.hid hcount
 have HE:=Lib.hid hE1
 have HXB:=Lib.hid hXb
 have H11:=Lib.hid h11
 have HX:=Lib.hid hX
 have HSM:=Lib.hid hm
 have HP:=Lib.hid hp
 have HQ:=Lib.hid hq
 have HCL:=Lib.hid hcl
 have HCX:=Lib.hid hcx
 have hc1':=hc1
 have HC1:=Lib.hid hc1'
 have HC2:=Lib.hid hc2
 have HO:=Lib.hid ho
 have HT:=Lib.hid ht
 have HRW:=Lib.hid hrows
 have hk2:(0:Int)<((l.length+1:Nat):Int):=by omega
 clear hlook hcount hE hE1 hXb h11 hX hm hb hp hq hcl hcx hc1 hc1' hc2 ho ht hB hrows e0 hds hd11 hl0 hfin
 go_enter Tryz.func14,Tryz.ntmps14
 go_upto_region 2 with (first|(go_at_call 37;go_must (refine (HL.out _ ((by repeat (first|(with_reducible refine Below.alloc' ?_ _)|(with_reducible refine Below.drew ?_)|(with_reducible refine below_drewN ?_ _)|((with_reducible refine Below.setCell ?_ ?_ _);rotate_left;(focus (first|exact Nat.le_refl _|(simp;done)|(simp;omega))))|(with_reducible assumption)|(with_reducible exact Below.refl _ _))))).mono ?_;rintro e w1 ⟨z,rfl,hb,hz⟩;obtain ⟨ys,rfl⟩:∃ys:List Value,z= .agg ys.toArray:=(by obtain ⟨ys,e,_⟩:=hz;exact ⟨ys,e⟩);have hl1:=bn_len hz;have hi32:(Tryz.prog.info? 32).map (·.size)=some ys.toArray.size:=(by rw [info32];simp [hl1]);have ho32:bn0.size=ys.toArray.size:=(by simp [hl1]);have H1:=bn_one hz;have HZ:=Lib.hid hz;have HBW:=Lib.hid hb;clear hz hb))|(refine wpList_store_row rfl 32 _ _ rfl w1.heap.size _ rfl rfl 32 bn0 (Blk.new w1 _ _) hi32 ho32 H1 ?_))
 have hs1:w.heap.size<w1.heap.size:=by
  have h2:(w.heap.push (.cells bn0 32)).size≤w1.heap.size:=HBW.out.size
  simp at h2
  omega
 have hb1:Below w.heap.size w w1:=Below.trans ((by repeat (first|(with_reducible refine Below.alloc' ?_ _)|(with_reducible refine Below.drew ?_)|(with_reducible refine below_drewN ?_ _)|((with_reducible refine Below.setCell ?_ ?_ _);rotate_left;(focus (first|exact Nat.le_refl _|(simp;done)|(simp;omega))))|(with_reducible assumption)|(with_reducible exact Below.refl _ _)))) (HBW.out.mono (by show w.heap.size≤(w.heap.push _).size;simp))
 obtain ⟨W,hW⟩:∃W,W=(w1.alloc (.cells bn0 32)).setRow w1.heap.size ys.toArray:=⟨_,rfl⟩
 have hB2:Blk W w1.heap.size ys 32:=by rw [hW];exact setRow_blk (Blk.new w1 _ _)
 have hB3:W.heap[w.heap.size]?=some (.cells bn0 32 (0,0)):=by
  rw [hW,setRow_other _ _ _ _ (by omega)]
  exact (heap_alloc_old w1 (.cells bn0 32) hs1).trans ((HBW.out.block _ (by show w.heap.size<(w.heap.push _).size;simp)).trans (Blk.new w _ _))
 have hbW:Below w.heap.size w W:=by rw [hW];exact below_setRow (Below.alloc' hb1 _) (by omega) _
 have hzW:BnV (fun g=>w.heap.size<g) W B (.agg ys.toArray):=by
  refine HZ.out.later fun x hx ha=>⟨?_,?_⟩
  ·rw [hW,setRow_other _ _ _ _ (by omega)]
   exact heap_alloc_old w1 (.cells bn0 32) hx
  ·have ha:(w.heap.push (.cells bn0 32)).size≤x:=ha
   simp at ha
   show w.heap.size<x
   omega
 have hEW:=HE.out W hbW
 have hrY:=hB2.rng
 rw [←hW]
 have HBW2:=Lib.hid hbW
 have HZW:=Lib.hid hzW
 have HEW:=Lib.hid hEW
 have HB2:=Lib.hid hB2
 clear hW hbW hzW hB2 HBW HZ hb1 hEW
 go_upto_region 3 with (go_at_call 13;go_must (refine (HCn.out _ HBW2.out).mono ?_;rintro e w2 ⟨rfl,rfl⟩))
 obtain ⟨W0,hW0⟩:∃W0,W0=W:=⟨_,rfl⟩
 rw [←hW0]
 have HXW:Hid (Blk W0 b (ent3 cs (.slice (some ⟨q,0,none⟩) (l.length+1) c) mo mk) 68):=Lib.hid (by rw [hW0];exact HXB.out W HBW2.out)
 have HQ0:Hid (Blk W0 q cur 32):=Lib.hid (by rw [hW0];exact HQ.out.below' HBW2.out)
 have HW0:=Lib.hid hW0
 have HEW:Hid (Ent W0 g mb m D):=Lib.hid (by rw [hW0];exact HEW.out)
 clear hW0
 refine rgQ 19 [(22,0),(0,1),(0,2),(0,3),(0,4),(0,5),(0,6),(0,7),(0,8),(0,9),(0,10),(0,11),(0,12),(0,13),(0,14),(0,15),(0,16),(0,17)] [.pointer (some ⟨g,0,none⟩),.pointer (some ⟨g,0,none⟩),.pointer (some ⟨g,0,none⟩),.map (some mb),.string s,.pointer (some ⟨b,0,none⟩),.pointer (some ⟨g,0,none⟩),.pointer (some ⟨g,0,none⟩),.pointer (some ⟨g,0,none⟩),.map (some mb),.string s,.pointer (some ⟨b,0,none⟩),.pointer (some ⟨b,0,none⟩),.pointer (some ⟨b,11,none⟩),.slice (some ⟨q,0,none⟩) (l.length+1) c,.slice (some ⟨q,0,none⟩) l.length c,.pointer (some ⟨b,0,none⟩),.pointer (some ⟨b,11,none⟩),undef] [15,18] (fun j W=>match j with |0=>Below W0.heap.size W0 W|1=>Fr (fun x=>x=q) W0 W∧∃xs',Blk W q xs' 32∧xs'.length=c*11∧xs'.take (l.length*11)=(cur.drop 11).take (l.length*11)|_=>∃W1,(Fr (fun x=>x=q) W0 W1∧∃xs',Blk W1 q xs' 32∧xs'.length=c*11∧xs'.take (l.length*11)=(cur.drop 11).take (l.length*11))∧W=W1.setCell ⟨b,11,none⟩ (.slice (some ⟨q,0,none⟩) l.length c)) ?_ (by intro k hk;simp at hk;omega) ?_ (fun u6 W6 hPd hv=> ?_)
 ·exact (Below.refl _ _).drew
 ·refine ⟨?_,?_,?_,?_,?_,?_,?_,?_,?_,?_,?_,?_,?_,?_,?_,?_,?_,?_,?_,trivial⟩
  ·refine kkP (by decide) fun u W j hP h1 h2 hu=> ?_
   clear hP h1 h2
   go_simp
  ·refine kkP (by decide) fun u W j hP h1 h2 hu=> ?_
   have e0:u 0= .pointer (some ⟨g,0,none⟩):=hu 0 (by kernel_rfl)
   clear hP h1 h2
   go_simp
  ·refine kkP (by decide) fun u W j hP h1 h2 hu=> ?_
   have e1:u 1= .pointer (some ⟨g,0,none⟩):=hu 1 (by kernel_rfl)
   clear hP h1 h2
   go_simp
  ·refine kkP (by decide) fun u W j hP h1 h2 hu=> ?_
   have e2:u 2= .pointer (some ⟨g,0,none⟩):=hu 2 (by kernel_rfl)
   have hf:Fr (fun x=>x=q) W0 W:=by
    have hj:j≤1:=h2 1 18 rfl (.one (by kernel_rfl))
    rcases j with _|_|j
    ·exact Fr.of_below hP
    ·exact hP.1
    ·omega
   clear hP h1 h2
   have hcx:W.cell? ⟨g,0,none⟩=some (.map (some mb)):=(hf.blk HEW.out.top HGQ.out).cell 0
   go_simp
  ·refine kkP (by decide) fun u W j hP h1 h2 hu=> ?_
   clear hP h1 h2
   go_simp
  ·refine kkP (by decide) fun u W j hP h1 h2 hu=> ?_
   have e3:u 3= .map (some mb):=hu 3 (by kernel_rfl)
   have e4:u 4= .string s:=hu 4 (by kernel_rfl)
   have hf:Fr (fun x=>x=q) W0 W:=by
    have hj:j≤1:=h2 1 18 rfl (.one (by kernel_rfl))
    rcases j with _|_|j
    ·exact Fr.of_below hP
    ·exact hP.1
    ·omega
   clear hP h1 h2
   have hcx:(Instr.lookup 58 (.map (some mb)) (.string s) false).run Tryz.prog W= .ok (.pointer (some ⟨b,0,none⟩)) W:=ent_look (ownsMap_to HEW.out.map (hf.block mb HEW.out.map.lt HMQ.out) (Nat.le_refl _)) HSM.out HP.out
   go_simp
  ·refine kkP (by decide) fun u W j hP h1 h2 hu=> ?_
   clear hP h1 h2
   go_simp
  ·refine kkP (by decide) fun u W j hP h1 h2 hu=> ?_
   have e6:u 6= .pointer (some ⟨g,0,none⟩):=hu 6 (by kernel_rfl)
   clear hP h1 h2
   go_simp
  ·refine kkP (by decide) fun u W j hP h1 h2 hu=> ?_
   have e7:u 7= .pointer (some ⟨g,0,none⟩):=hu 7 (by kernel_rfl)
   clear hP h1 h2
   go_simp
  ·refine kkP (by decide) fun u W j hP h1 h2 hu=> ?_
   have e8:u 8= .pointer (some ⟨g,0,none⟩):=hu 8 (by kernel_rfl)
   have hj:j=0:=by have:=h2 0 15 rfl (.cons (c:=14) (by kernel_rfl) (.cons (c:=13) (by kernel_rfl) (.cons (c:=12) (by kernel_rfl) (.cons (c:=11) (by kernel_rfl) (.one (by kernel_rfl))))));omega
   subst hj
   have hP:Below W0.heap.size W0 W:=hP
   have hf:Fr (fun x=>x=q) W0 W:=Fr.of_below hP
   clear hP h1 h2
   have hcx:W.cell? ⟨g,0,none⟩=some (.map (some mb)):=(hf.blk HEW.out.top HGQ.out).cell 0
   go_simp
  ·refine kkP (by decide) fun u W j hP h1 h2 hu=> ?_
   clear hP h1 h2
   go_simp
  ·refine kkP (by decide) fun u W j hP h1 h2 hu=> ?_
   have e9:u 9= .map (some mb):=hu 9 (by kernel_rfl)
   have e10:u 10= .string s:=hu 10 (by kernel_rfl)
   have hj:j=0:=by have:=h2 0 15 rfl (.cons (c:=14) (by kernel_rfl) (.cons (c:=13) (by kernel_rfl) (.cons (c:=12) (by kernel_rfl) (.one (by kernel_rfl)))));omega
   subst hj
   have hP:Below W0.heap.size W0 W:=hP
   have hf:Fr (fun x=>x=q) W0 W:=Fr.of_below hP
   clear hP h1 h2
   have hcx:(Instr.lookup 58 (.map (some mb)) (.string s) false).run Tryz.prog W= .ok (.pointer (some ⟨b,0,none⟩)) W:=ent_look (ownsMap_to HEW.out.map (hf.block mb HEW.out.map.lt HMQ.out) (Nat.le_refl _)) HSM.out HP.out
   go_simp
  ·refine kkP (by decide) fun u W j hP h1 h2 hu=> ?_
   have e11:u 11= .pointer (some ⟨b,0,none⟩):=hu 11 (by kernel_rfl)
   clear hP h1 h2
   go_simp
  ·refine kkP (by decide) fun u W j hP h1 h2 hu=> ?_
   have e12:u 12= .pointer (some ⟨b,0,none⟩):=hu 12 (by kernel_rfl)
   clear hP h1 h2
   go_simp
  ·refine kkP (by decide) fun u W j hP h1 h2 hu=> ?_
   have e13:u 13= .pointer (some ⟨b,11,none⟩):=hu 13 (by kernel_rfl)
   have hj:j=0:=by have:=h2 0 15 rfl (.one (by kernel_rfl));omega
   subst hj
   have hP:Below W0.heap.size W0 W:=hP
   have hf:Fr (fun x=>x=q) W0 W:=Fr.of_below hP
   clear hP h1 h2
   have hcx:W.cell? ⟨b,11,none⟩=some (.slice (some ⟨q,0,none⟩) (l.length+1) c):=(hf.blk HXW.out HBQ.out).cell11 HCS.out
   go_simp
  ·refine kkC (t:=0) rfl (by decide) (fun s k hs=>absurd hs (Nat.not_lt_zero s)) fun u W hP hu K hK=> ?_
   have e14:u 14= .slice (some ⟨q,0,none⟩) (l.length+1) c:=hu 14 (by kernel_rfl)
   have hP:Below W0.heap.size W0 W:=hP
   go_simp
   go_at_call 38
   refine (sdel_any (n:=l.length) (c:=c) (HQ0.out.below' hP) HCL.out HONE.out HC1.out HC2.out).mono ?_
   rintro e9 w9 ⟨rfl,xs',hq9,hl9,ht9,hf9⟩
   have hk9:=hK.out w9 ⟨(Fr.of_below hP).trans hf9 (fun x hx=> .inl hx),xs',hq9,hl9,ht9⟩
   first |exact hk9|(simp only [List.getD_cons_zero,List.getD_cons_succ,e14] at hk9;exact hk9)
  ·refine kkP (by decide) fun u W j hP h1 h2 hu=> ?_
   have e0:u 0= .pointer (some ⟨g,0,none⟩):=hu 0 (by kernel_rfl)
   have e1:u 1= .pointer (some ⟨g,0,none⟩):=hu 1 (by kernel_rfl)
   have e2:u 2= .pointer (some ⟨g,0,none⟩):=hu 2 (by kernel_rfl)
   have e3:u 3= .map (some mb):=hu 3 (by kernel_rfl)
   have e4:u 4= .string s:=hu 4 (by kernel_rfl)
   have e5:u 5= .pointer (some ⟨b,0,none⟩):=hu 5 (by kernel_rfl)
   have e6:u 6= .pointer (some ⟨g,0,none⟩):=hu 6 (by kernel_rfl)
   have e7:u 7= .pointer (some ⟨g,0,none⟩):=hu 7 (by kernel_rfl)
   have e8:u 8= .pointer (some ⟨g,0,none⟩):=hu 8 (by kernel_rfl)
   have e9:u 9= .map (some mb):=hu 9 (by kernel_rfl)
   have e10:u 10= .string s:=hu 10 (by kernel_rfl)
   have e11:u 11= .pointer (some ⟨b,0,none⟩):=hu 11 (by kernel_rfl)
   have e12:u 12= .pointer (some ⟨b,0,none⟩):=hu 12 (by kernel_rfl)
   have e13:u 13= .pointer (some ⟨b,11,none⟩):=hu 13 (by kernel_rfl)
   have e14:u 14= .slice (some ⟨q,0,none⟩) (l.length+1) c:=hu 14 (by kernel_rfl)
   have e15:u 15= .slice (some ⟨q,0,none⟩) l.length c:=hu 15 (by kernel_rfl)
   clear hP h1 h2
   go_simp
  ·refine kkP (by decide) fun u W j hP h1 h2 hu=> ?_
   have e0:u 0= .pointer (some ⟨g,0,none⟩):=hu 0 (by kernel_rfl)
   have e1:u 1= .pointer (some ⟨g,0,none⟩):=hu 1 (by kernel_rfl)
   have e2:u 2= .pointer (some ⟨g,0,none⟩):=hu 2 (by kernel_rfl)
   have e3:u 3= .map (some mb):=hu 3 (by kernel_rfl)
   have e4:u 4= .string s:=hu 4 (by kernel_rfl)
   have e5:u 5= .pointer (some ⟨b,0,none⟩):=hu 5 (by kernel_rfl)
   have e6:u 6= .pointer (some ⟨g,0,none⟩):=hu 6 (by kernel_rfl)
   have e7:u 7= .pointer (some ⟨g,0,none⟩):=hu 7 (by kernel_rfl)
   have e8:u 8= .pointer (some ⟨g,0,none⟩):=hu 8 (by kernel_rfl)
   have e9:u 9= .map (some mb):=hu 9 (by kernel_rfl)
   have e10:u 10= .string s:=hu 10 (by kernel_rfl)
   have e11:u 11= .pointer (some ⟨b,0,none⟩):=hu 11 (by kernel_rfl)
   have e12:u 12= .pointer (some ⟨b,0,none⟩):=hu 12 (by kernel_rfl)
   have e13:u 13= .pointer (some ⟨b,11,none⟩):=hu 13 (by kernel_rfl)
   have e14:u 14= .slice (some ⟨q,0,none⟩) (l.length+1) c:=hu 14 (by kernel_rfl)
   have e15:u 15= .slice (some ⟨q,0,none⟩) l.length c:=hu 15 (by kernel_rfl)
   have e16:u 16= .pointer (some ⟨b,0,none⟩):=hu 16 (by kernel_rfl)
   clear hP h1 h2
   go_simp
  ·refine kkC (t:=1) rfl (by decide) (fun s9 k9 hs9 hk9=> ?_) (fun u W hP hu K hK=> ?_)
   ·have h9:s9=0:=by omega
    subst h9;cases hk9;exact (.one (by kernel_rfl))
   have e0:u 0= .pointer (some ⟨g,0,none⟩):=hu 0 (by kernel_rfl)
   have e1:u 1= .pointer (some ⟨g,0,none⟩):=hu 1 (by kernel_rfl)
   have e2:u 2= .pointer (some ⟨g,0,none⟩):=hu 2 (by kernel_rfl)
   have e3:u 3= .map (some mb):=hu 3 (by kernel_rfl)
   have e4:u 4= .string s:=hu 4 (by kernel_rfl)
   have e5:u 5= .pointer (some ⟨b,0,none⟩):=hu 5 (by kernel_rfl)
   have e6:u 6= .pointer (some ⟨g,0,none⟩):=hu 6 (by kernel_rfl)
   have e7:u 7= .pointer (some ⟨g,0,none⟩):=hu 7 (by kernel_rfl)
   have e8:u 8= .pointer (some ⟨g,0,none⟩):=hu 8 (by kernel_rfl)
   have e9:u 9= .map (some mb):=hu 9 (by kernel_rfl)
   have e10:u 10= .string s:=hu 10 (by kernel_rfl)
   have e11:u 11= .pointer (some ⟨b,0,none⟩):=hu 11 (by kernel_rfl)
   have e12:u 12= .pointer (some ⟨b,0,none⟩):=hu 12 (by kernel_rfl)
   have e13:u 13= .pointer (some ⟨b,11,none⟩):=hu 13 (by kernel_rfl)
   have e14:u 14= .slice (some ⟨q,0,none⟩) (l.length+1) c:=hu 14 (by kernel_rfl)
   have e15:u 15= .slice (some ⟨q,0,none⟩) l.length c:=hu 15 (by kernel_rfl)
   have e17:u 17= .pointer (some ⟨b,11,none⟩):=hu 17 (by kernel_rfl)
   have hP:Fr (fun x=>x=q) W0 W∧∃xs',Blk W q xs' 32∧xs'.length=c*11∧xs'.take (l.length*11)=(cur.drop 11).take (l.length*11):=hP
   obtain ⟨hf8,xs',hq8,hl8,ht8⟩:=hP
   have hB8:=hf8.blk HXW.out HBQ.out
   have hc8:=hB8.cell11 HCS.out
   have hz8:=hB8.frozen 11
   go_simp
   have hk9:=hK.out _ ⟨W,⟨hf8,xs',hq8,hl8,ht8⟩,rfl⟩
   first |exact hk9|(simp only [List.getD_cons_zero,List.getD_cons_succ,e0,e1,e2,e3,e4,e5,e6,e7,e8,e9,e10,e11,e12,e13,e14,e15,e17] at hk9;exact hk9)
 obtain ⟨W1,⟨hf1,xs',hq1,hlx,htx⟩,rfl⟩:=hPd
 have hbl:b<w.heap.size:=HX.out.blk.lt
 have hql:q<w.heap.size:=HQ.out.lt
 obtain ⟨V,hV⟩:∃V,V=W1.setCell ⟨b,11,none⟩ (.slice (some ⟨q,0,none⟩) l.length c):=⟨_,rfl⟩
 have hB1:Blk W1 b (ent3 cs (.slice (some ⟨q,0,none⟩) (l.length+1) c) mo mk) 68:=hf1.blk HXW.out HBQ.out
 have hVb:Blk V b (ent3 cs (.slice (some ⟨q,0,none⟩) l.length c) mo mk) 68:=by rw [hV];exact hB1.set11 HCS.out
 have hVq:Blk V q xs' 32:=by rw [hV];exact hq1.other _ (by show b≠q;exact HBQ.out) _
 have hVf:Fr (fun x=>x=q∨x=b) W0 V:=by rw [hV];exact (hf1.mono (fun x hx=> .inl (.inl hx))).setCell (.inl (.inr rfl)) _
 have hy:Blk V w1.heap.size ys 32:=(hVf.block _ (by rw [HW0.out];exact HB2.out.lt) (by omega)).trans (by rw [HW0.out];exact HB2.out)
 have hB4:V.heap[w.heap.size]?=some (.cells bn0 32 (0,0)):=(hVf.block _ (by rw [HW0.out];exact (Array.getElem?_eq_some_iff.1 hB3).1) (by omega)).trans (by rw [HW0.out];exact hB3)
 have hry:=hy.rng
 rw [←hV]
 have HVB:=Lib.hid hVb
 have HVQ:=Lib.hid hVq
 have HVF:=Lib.hid hVf
 have HLX:=Lib.hid hlx
 have HTX:=Lib.hid htx
 clear hV hVb hVq hVf hlx htx hf1 hq1 hB1 hy hv hrY
 go_wp2_with (first|(refine wpList_load_mid rfl 32 (.tmp 6) rfl w1.heap.size 0 rfl ys _ hry Tryz.underlying32 rfl (by rw [info32,hl1]) ?_)|(refine wpList_store_row rfl 32 _ _ rfl w.heap.size _ rfl rfl 32 bn0 hB4 hi32 ho32 H1 ?_))
 refine bodyPost_ret (results_bn (g:=w.heap.size) Tryz.results14 _ _ rfl (setRow_blk (cs:=bn0.toList) hB4) hl1) ?_ ?_
 ·rfl
 ·have hWf:Fr (fun x=>T x=t+1∨x=b) w V:=(Fr.of_below (by rw [HW0.out];exact HBW2.out:Below w.heap.size w W0)).trans HVF.out (fun x hx=> .inl (by rcases hx with rfl|rfl;exact .inl (HX.out.tq _ rfl);exact .inr rfl))
  have hWf2:=hWf.setRow (g:=w.heap.size) (.inr (Nat.le_refl _)) ys.toArray
  have k0:∀x,x<w.heap.size→T x=0→(V.setRow w.heap.size ys.toArray).heap[x]?=w.heap[x]?∧fresh0 w T x=0:=fun x hx h0=>⟨hWf2.block x hx (fun h=>by rcases h with h|h;omega;have:=HX.out.tb;rw [←h,h0] at this;have:=HT.out;omega),by rw [fresh0,if_pos hx,h0]⟩
  have k1:∀x,x<w.heap.size→x≠q→x≠b→T x≠t+1→(V.setRow w.heap.size ys.toArray).heap[x]?=w.heap[x]?:=fun x hx h1 h2 h3=>hWf2.block x hx (fun h=>by rcases h with h|h;exact h3 h;exact h2 h)
  have hlo:=HX.out.om.lt
  have hlk:=HX.out.km.lt
  have tb:=HX.out.tb
  have tmo:=HX.out.tmo
  have tmk:=HX.out.tmk
  obtain ⟨cs0,r,ex,hB0,hr⟩:=HRW.out
  have h0l:=bn_len hB0
  have er:xs'.take (l.length*11)=r:=by
   rw [HTX.out,show l.length*11=(l.length+1)*11-11 by omega,←List.drop_take,HCX.out,ex,←h0l,List.drop_left]
  refine ⟨_,rfl,HZW.out.later fun x hx ha=>⟨?_,?_⟩,⟨cs,.slice (some ⟨q,0,none⟩) l.length c,r,mo,mk,Do,Dk,?_⟩,hWf2⟩
  ·have ha:w.heap.size<x:=ha
   rw [setRow_other _ _ _ _ (by omega)]
   refine (HVF.out.block x (by rw [HW0.out];exact hx) (by omega)).trans (by rw [HW0.out])
  ·have ha:w.heap.size<x:=ha
   rw [fresh0,if_neg (by omega)]
  ·exact ⟨(setRow_other _ _ _ _ (by omega)).trans HVB.out,HX.out.base.later k0,own_of ((setRow_other _ _ _ _ (by omega)).trans HVQ.out) HLX.out er (by have:=HC1.out;omega) HC2.out,hr.later k0,ownsMap_to HX.out.om (k1 mo hlo (fun e=>by have:=HX.out.tq q rfl;rw [←e] at this;omega) (fun e=>by rw [e] at tmo;omega) (by omega)) (Nat.le_refl _),ownsMap_to HX.out.km (k1 mk hlk (fun e=>by have:=HX.out.tq q rfl;rw [←e] at this;omega) (fun e=>by rw [e] at tmk;omega) (by omega)) (Nat.le_refl _),HX.out.fo,HX.out.fk,by rw [fresh0,if_pos hbl,tb],fun q' hq'=>by cases hq';rw [fresh0,if_pos hql];exact HX.out.tq q rfl,by rw [fresh0,if_pos hlo,tmo],by rw [fresh0,if_pos hlk,tmk],HX.out.sb,fun B' hB'=>HX.out.sl B' (by rw [HO.out];exact List.mem_cons_of_mem _ hB')⟩
set_option linter.unusedVariables false
def Srv (w:World) (g:Nat) (s:ByteArray) (T:Nat→Nat) (N:Nat) (e:En):Prop:=∃mb m D b,Ent w g mb m D∧entP D s (some ⟨b,0,none⟩)∧EnH w T 4 N b e∧¬mine T 4 g∧¬mine T 4 mb∧∀x,w.heap.size≤x→¬mine T 4 x
theorem Srv.below {w w':World} {g N:Nat} {s:ByteArray} {T:Nat→Nat} {e:En} (h:Srv w g s T N e) (hb:Below w.heap.size w w'):Srv w' g s T N e:=by
 obtain ⟨mb,m,D,b,h1,h2,h3,h4,h5,h6⟩:=h
 exact ⟨mb,m,D,b,⟨h1.top.below' hb,ownsMap_to h1.map (hb.block mb h1.map.lt) (Nat.le_refl _)⟩,h2,h3.later (F:=fun _=>False) (Fr.of_below hb) (fun _ _=>rfl) (fun _ h=>h.elim) (Nat.le_refl _) (by decide),h4,h5,fun x hx=>h6 x (Nat.le_trans hb.size hx)⟩
theorem Srv.new {w:World} {g N:Nat} {s:ByteArray} {T:Nat→Nat} {e:En} (h:Srv w g s T N e):∀x,w.heap.size≤x→¬mine T 4 x:=by
 obtain ⟨mb,m,D,b,h1,h2,h3,h4,h5,h6⟩:=h
 exact h6
open Classical in
theorem srv_reg (s:ByteArray) (hm:s.size≤1000) (hb:nameB s=true) {w:World} {A:Nat→Prop} {g:Nat} {B:Bn} {cs:List Value} (hg:Blk w g [.map none] 60) (hB:BnV A w B (.agg cs.toArray)) (h1:B.onceId=0) (h2:B.kemId=0) (h3:verB B 1=0) (hs:B.fine) (hAg:¬A g):
  Calls Tryz.prog 10 #[.pointer (some ⟨g,0,none⟩),.string s,.agg cs.toArray] w fun r w'=>r= .returned (.int .i64 0)∧∃T,Srv w' g s T 1 ⟨B,[],fun _=>0,fun _=>0⟩∧(∀x,x<w.heap.size→¬mine T 4 x)∧Fr (fun x=>x=g) w w':=by
 refine (reg_zero s hm hb hg hB h1 h2 h3 hs.1 hAg).mono fun r w' ⟨hr,b,ds,mo,mk,mb,S,k1,k2,k3,k4,sb,s1,s2,hne,n1,n2,o1,o2,hS,hmb,hf⟩=>⟨hr,?_⟩
 obtain ⟨T,hT⟩:∃T:Nat→Nat,T=fun x=>if x=b then 4 else if x=mo then 6 else if x=mk then 7 else if S x then 0 else 3:=⟨_,rfl⟩
 have tb:T b=4:=by rw [hT];exact if_pos rfl
 have tmo:T mo=6:=by rw [hT];show (if mo=b then 4 else if mo=mo then 6 else _)=6;rw [if_neg (Ne.symm n1),if_pos rfl]
 have tmk:T mk=7:=by rw [hT];show (if mk=b then 4 else if mk=mo then 6 else if mk=mk then 7 else _)=7;rw [if_neg (Ne.symm n2),if_neg (Ne.symm hne),if_pos rfl]
 have t0:∀x,S x∧x≠mo∧x≠mk∧x≠b→T x=0:=fun x ⟨a1,a2,a3,a4⟩=>by rw [hT];show (if x=b then 4 else if x=mo then 6 else if x=mk then 7 else if S x then 0 else 3)=0;rw [if_neg a4,if_neg a2,if_neg a3,if_pos a1]
 have tn:∀x,x≠b→x≠mo→x≠mk→¬mine T 4 x:=fun x a1 a2 a3 h=>by
  have h4:=h.1
  rw [hT] at h4
  have h4:4≤(if x=b then 4 else if x=mo then 6 else if x=mk then 7 else if S x then 0 else 3):=h4
  rw [if_neg a1,if_neg a2,if_neg a3] at h4
  split at h4<;>omega
 have hlt:∀x,x<w.heap.size→¬mine T 4 x:=fun x hx=>tn x (fun e=>by have:=(hS b sb).1;omega) (fun e=>by have:=(hS mo s1).1;omega) (fun e=>by have:=(hS mk s2).1;omega)
 refine ⟨T,⟨mb,1,_,b,⟨k1,k2⟩,?_,⟨ds,.slice none 0 0,[],mo,mk,.map [],.map [],?_⟩,hlt g hg.lt,tn mb (fun e=>(hS b sb).2 e.symm) (fun e=>(hS mo s1).2 e.symm) (fun e=>(hS mk s2).2 e.symm),fun x hx=>tn x (fun e=>by have:=k3.lt;omega) (fun e=>by have:=o1.lt;omega) (fun e=>by have:=o2.lt;omega)⟩,hlt,hf⟩
 ·exact Maps.atKey_put_same ⟨[],rfl⟩ (by trivial) _ _
 ·exact ⟨k3,k4.later fun x _ ha=>⟨rfl,t0 x ha⟩,World.ownsRow_nil w' 0 32 11,rfl,ownsMap_to o1 rfl (by decide),ownsMap_to o2 rfl (by decide),fun _ _=>rfl,fun _ _=>rfl,tb,fun q hq=>(by cases hq),tmo,tmk,hs,fun B' h=>(by cases h)⟩
theorem srv_once (s:ByteArray) (hm:s.size≤1000) (hb:nameB s=true) {w:World} {g N q c:Nat} {T:Nat→Nat} {e:En} {l:List Bn} {zs:List Value} {A:Nat→Prop} (h:Srv w g s T N e) (hAm:∀x,A x→¬mine T 4 x) (hq:w.rangeAt q 0 zs) (hz:RowsB A w zs l) (hTq:A q) (hl:∀B∈l,B.fine) (hN:N+l.length≤1000000):
  Calls Tryz.prog 12 #[.pointer (some ⟨g,0,none⟩),.string s,.slice (some ⟨q,0,none⟩) l.length c] w fun r w'=>r= .returned (.tuple #[.int .i64 ((e.adds l).2:Int),.int .i64 0])∧∃T',(∀x,x<w.heap.size→T' x=T x)∧Srv w' g s T' (N+l.length) (e.adds l).1∧Fr (mine T 4) w w':=by
 obtain ⟨mb,m,D,b,h1,h2,h3,h4,h5,h6⟩:=h
 refine (sonce_any s hm hb h1 h2 h3 (by decide) h4 h5 h6 hAm hq hz hTq hl hN).mono fun r w' ⟨hr,T',hT,hX,hf,hx⟩=>⟨hr,T',hT,⟨mb,m,D,b,⟨hf.blk h1.top h4,ownsMap_to h1.map (hf.block mb h1.map.lt h5) (Nat.le_refl _)⟩,h2,hX,fun k=>h4 ?_,fun k=>h5 ?_,hx⟩,hf⟩
 ·unfold mine at *;rw [hT g h1.top.lt] at k;exact k
 ·unfold mine at *;rw [hT mb h1.map.lt] at k;exact k
theorem srv_count (s:ByteArray) (hm:s.size≤1000) (hb:nameB s=true) {w:World} {g N:Nat} {T:Nat→Nat} {e:En} (h:Srv w g s T N e):Calls Tryz.prog 13 #[.pointer (some ⟨g,0,none⟩),.string s] w fun r w'=>r= .returned (.int .i64 (e.once.length:Int))∧w=w':=by
 obtain ⟨mb,m,D,b,h1,h2,⟨cs,so,xs,mo,mk,Do,Dk,hX⟩,h4,h5,h6⟩:=h
 obtain ⟨a,n,c,e1⟩:=own_one8 hX.row
 subst e1
 have hn:n=e.once.length:=by
  rcases hX.row.2 with ⟨e1,e2⟩|⟨g,c,cur,e1,_⟩
  ·cases e1;exact e2.symm
  ·cases e1;rfl
 subst hn
 exact count_ent _ s (hX.blk.cell11 (bn_len hX.base)) (find_ent s hm hb h1 h2)
theorem srv_fetch (s:ByteArray) (hm:s.size≤1000) (hb:nameB s=true) {w:World} {g N:Nat} {T:Nat→Nat} {e:En} {B:Bn} {l:List Bn} (h:Srv w g s T N e) (ho:e.once=B::l):Calls Tryz.prog 14 #[.pointer (some ⟨g,0,none⟩),.string s] w fun r w'=>∃z T' A,r= .returned (.tuple #[z,.int .i64 0])∧BnV A w' B z∧(∀x,x<w.heap.size→T' x=T x)∧Srv w' g s T' N ⟨e.base,l,e.onces,e.kems⟩∧Fr (mine T 4) w w':=by
 obtain ⟨mb,m,D,b,h1,h2,⟨cs,so,xs,mo,mk,Do,Dk,hX⟩,h4,h5,h6⟩:=h
 refine (fetch_once s hm hb h1 h2 hX ho (by decide) h4 h5).mono fun r w' ⟨z,hr,hz,hE,hf⟩=> ?_
 have hT:∀x,x<w.heap.size→fresh0 w T x=T x:=fun x hx=>if_pos hx
 have hf2:Fr (mine T 4) w w':=hf.mono fun x hx=> .inl (by rcases hx with h|rfl;exact ⟨by omega,by omega⟩;exact ⟨by rw [hX.tb];exact Nat.le_refl _,by rw [hX.tb];omega⟩)
 refine ⟨z,_,_,hr,hz,hT,⟨mb,m,D,b,⟨hf2.blk h1.top h4,ownsMap_to h1.map (hf2.block mb h1.map.lt h5) (Nat.le_refl _)⟩,h2,hE,fun k=>h4 ?_,fun k=>h5 ?_,fun x hx k=> ?_⟩,hf2⟩
 ·unfold mine at *;rw [hT g h1.top.lt] at k;exact k
 ·unfold mine at *;rw [hT mb h1.map.lt] at k;exact k
 ·have h0:=k.1
  rw [fresh0,if_neg (by have:=hf.size;omega)] at h0
  omega
theorem srv_base (s:ByteArray) (hm:s.size≤1000) (hb:nameB s=true) {w:World} {g N:Nat} {T:Nat→Nat} {e:En} (h:Srv w g s T N e) (ho:e.once= []):Calls Tryz.prog 14 #[.pointer (some ⟨g,0,none⟩),.string s] w fun r w'=>∃z A,r= .returned (.tuple #[z,.int .i64 0])∧BnV A w' e.base z∧Below w.heap.size w w':=by
 obtain ⟨mb,m,D,b,h1,h2,⟨cs,so,xs,mo,mk,Do,Dk,hX⟩,h4,h5,h6⟩:=h
 have hS:Srv w g s T N e:=⟨mb,m,D,b,h1,h2,⟨cs,so,xs,mo,mk,Do,Dk,hX⟩,h4,h5,h6⟩
 obtain ⟨a,c,e1⟩:∃a c,so= .slice a 0 c:=by
  rcases hX.row.2 with ⟨e1,e2⟩|⟨g,c,cur,e1,_⟩
  ·exact ⟨none,0,e1⟩
  ·rw [ho] at e1;exact ⟨_,_,e1⟩
 subst e1
 have hE:∀w1,Below w.heap.size w w1→Ent w1 g mb m D:=fun w1 hb1=>⟨h1.top.below' hb1,ownsMap_to h1.map (hb1.block mb h1.map.lt) (Nat.le_refl _)⟩
 refine (fetch_base (B:=e.base) _ s (fun w1 hb1=>look_base (A:=fun x=>T x=0) (b:=b) (a:=a) (c:=c) (cs:=cs) _ s hX.sb.1 (fun w2 hb2=> ?_) fun w2 hb2=>(find_ent s hm hb (hE w2 (Below.call hb1 hb2)) h2)) fun w1 hb1=> ?_).mono fun r w' ⟨z,hr,hbl,hz⟩=>⟨z,_,hr,hz,hbl⟩
 ·have hb3:=Below.call hb1 hb2
  have hB:=hX.blk.below' hb3
  refine ⟨hB.cell11 (bn_len hX.base),hX.base.below hb3,fun j v hv=> ?_⟩
  rw [Nat.zero_add,hB.cell,List.getElem?_append_left (List.getElem?_eq_some_iff.1 hv).1,hv]
 ·have:=srv_count s hm hb (hS.below hb1)
  rw [ho] at this
  exact this
end Go.Proofs.YtknlbpjcjdenbaaGreat
namespace Go.Proofs.YtknlbpjcjdenbaaGreat
open Go Go.RowKit
set_option linter.unusedVariables false
theorem law_id (n v i:Int):(lawB n v i).onceId=i%4:=rfl
theorem law_kem (n v i:Int):(lawB n v i).kemId=kiL (1+v%2) (i%4):=rfl
theorem law_kem0 (n v:Int):(lawB n v 0).kemId=0:=by
 show kiL _ _=0
 unfold kiL
 split<;>rfl
theorem kiL_or (v i:Int):kiL v i=i∨kiL v i=0:=by
 unfold kiL
 split
 ·exact .inl rfl
 ·exact .inr rfl
theorem law_fine (n v i:Int):(lawB n v i).fine:=by
 have h1:(lawB n v i).sign.length=32:=qPub_len _
 have h2:(lawB n v i).ident.length=32:=xPub_len _
 have h3:(lawB n v i).medium.length=32:=xPub_len _
 have h4:(lawB n v i).medsig.length=64:=qSign_len _ _
 have h5:(lawB n v i).once.length≤32:=by
  show (onL _ _).length≤32
  unfold onL
  split
  ·rw [xPub_len];exact Nat.le_refl _
  ·exact Nat.zero_le _
 have h6:(lawB n v i).kem.length≤1184:=by
  show (keL _ _ _).length≤1184
  unfold keL
  split
  ·rw [kEk_len];exact Nat.le_refl _
  ·exact Nat.zero_le _
 have h7:(lawB n v i).kemsig.length≤64:=by
  show (ksL _ _ _).length≤64
  unfold ksL
  split
  ·rw [qSign_len];exact Nat.le_refl _
  ·exact Nat.zero_le _
 refine ⟨⟨by omega,by omega,by omega,by omega,by omega,by omega,by omega⟩,?_,?_⟩
 ·rw [law_id];exact ⟨by omega,by omega⟩
 ·rw [law_kem]
  rcases kiL_or (1+v%2) (i%4) with h|h<;>rw [h]<;>exact ⟨by omega,by omega⟩
theorem takes_law {e:En} {n v i:Int} (hb:e.base=lawB n v 0) (h0:i%4≠0) (hl:e.once.length<10):e.takes (lawB n v i)=decide (e.onces (i%4)=0∧(kiL (1+v%2) (i%4)=0∨e.kems (kiL (1+v%2) (i%4))=0)):=by
 have d0:decide (verB (lawB n v i) 1≠0)=false:=by rw [verB_law];rfl
 have d1:decide ((lawB n v i).onceId=0)=false:=decide_eq_false (by rw [law_id];exact h0)
 have d2:decide ((10:Int)≤(e.once.length:Int))=false:=decide_eq_false (by omega)
 have d3:decide ((lawB n v i).sign=e.base.sign)=true:=decide_eq_true (by rw [hb];rfl)
 have d4:decide ((lawB n v i).ident=e.base.ident)=true:=decide_eq_true (by rw [hb];rfl)
 have d5:decide ((lawB n v i).medium=e.base.medium)=true:=decide_eq_true (by rw [hb];rfl)
 have d6:decide ((lawB n v i).medsig=e.base.medsig)=true:=decide_eq_true (by rw [hb];rfl)
 have d7:decide ((lawB n v i).version=e.base.version)=true:=decide_eq_true (by rw [hb];rfl)
 rw [En.takes,takesB,d0,d1,d2,d3,d4,d5,d6,d7,law_id,law_kem]
 by_cases h8:e.onces (i%4)=0
 ·rw [decide_eq_true h8]
  by_cases h9:kiL (1+v%2) (i%4)=0
  ·rw [decide_eq_true h9];simp [h8,h9]
  ·rw [decide_eq_false h9];simp [h8,h9]
 ·rw [decide_eq_false h8];simp [h8]
def e0 (n v:Int):En:=⟨lawB n v 0,[],fun _=>0,fun _=>0⟩
theorem tk_yes {e:En} {n v i:Int} (hb:e.base=lawB n v 0) (h0:i%4≠0) (hl:e.once.length<10) (h1:e.onces (i%4)=0) (h2:e.kems (i%4)=0):e.takes (lawB n v i)=true:=by
 rw [takes_law hb h0 hl]
 refine decide_eq_true ⟨h1,?_⟩
 rcases kiL_or (1+v%2) (i%4) with h|h
 ·rw [h];exact .inr h2
 ·exact .inl h
theorem stp_yes {e:En} {c:Nat} {B:Bn} (h:e.takes B=true):stp (e,c) B=(e.add B,c+1):=if_pos h
end Go.Proofs.YtknlbpjcjdenbaaGreat
namespace Go.Proofs.YtknlbpjcjdenbaaGreat
open Go Go.RowKit Go.Maps
set_option linter.unusedVariables false
theorem wpList_of_ex {ops:Array Oper} {rest:List Oper} {o:Oper} {a:Act} {w w':World} {v:Value} {Q:Exit→Act→World→Prop} (hg:o.guard=none) (hex:(execOp a.eval o).run Tryz.prog w= .ok (.value v) w') (h:wpList Tryz.prog ops Q rest (a.put o.dst v) w'):wpList Tryz.prog ops Q (o::rest) a w:=
 wpList_plain hg fun K hK=>by
  unfold Oper.wp
  rw [hex]
  exact hK _ _ h
theorem info27:(Tryz.prog.info? 27).map (·.size)=some 6:=by kernel_rfl
abbrev stepC (nm:ByteArray) (n v:Int):List Value:= [.int .i64 0,.string nm,.int .i64 n,.int .i64 v,.slice none 0 0,.int .i64 0]
theorem law_step {w:World} (nm:ByteArray) (n v i:Int):Calls Tryz.prog 11 #[.agg (stepC nm n v).toArray,.int .i64 i] w fun e w'=>∃cs:List Value,e= .returned (.agg cs.toArray)∧Below w.heap.size w w'∧BnV (fun g=>w.heap.size≤g) w' (lawB n v i) (.agg cs.toArray):=
 (law_call (A:=fun _=>True) 0 n v 0 i nm (nil_ro .int) rfl (Int.le_refl _)).mono fun e w' ⟨v',he,hb,hv⟩=>by
  obtain ⟨cs,rfl,_⟩:=hv
  exact ⟨cs,he,hb,⟨cs,rfl,by assumption⟩⟩
abbrev nmA:ByteArray:=⟨#[97]⟩
abbrev nmA1:ByteArray:=⟨#[97,49]⟩
abbrev nmUp:ByteArray:=⟨#[65]⟩
abbrev nmBob:ByteArray:=⟨#[98,111,98]⟩
theorem awake_adds (n v:Int):(En.mk (lawB n v 0) [] (fun _=>0) fun _=>0).adds [lawB n v 1]=((e0 n v).add (lawB n v 1),1):=by
 have h:(e0 n v).takes (lawB n v 1)=true:=tk_yes rfl (by decide) (by simp [e0]) rfl rfl
 exact stp_yes h
set_option maxHeartbeats 4000000 in
theorem awake_any (w:World):Calls Tryz.prog 8 #[] w fun e w'=>e= .returned (.bool true)∧Below w.heap.size w w':=by
 go_enter Tryz.func8,Tryz.ntmps8
 go_upto_region 5 with (go_at_call 9;go_must (refine (snew_any _).mono ?_;rintro r w1 ⟨rfl,hg1,hb1⟩;have HG1:=Lib.hid hg1;have HB1:=Lib.hid hb1;clear hg1 hb1))
 obtain ⟨g,hg⟩:∃g,g=w.heap.size:=⟨_,rfl⟩
 obtain ⟨p,hp⟩:∃p,p=w1.heap.size:=⟨_,rfl⟩
 have hgp:g<p:=by have:=HG1.out.lt;omega
 refine wp_gen (fun W=>Blk W g [.map none] 60∧Blk W p (stepC nmA 1 0) 27∧Below w.heap.size w W) ⟨?_,?_,?_⟩ (fun W0 ⟨hG,hP,hB⟩=> ?_)
 ·rw [hg];exact HG1.out.alloc _
 ·rw [hp];exact Blk.new w1 _ _
 ·exact Below.alloc' HB1.out _
 rw [←hg,←hp]
 have hrp:=hP.rng
 have HG:=Lib.hid hG
 have HP:=Lib.hid hP
 have HB:=Lib.hid hB
 have HGP:=Lib.hid hgp
 have HGE:=Lib.hid hg
 have HNA:Hid (nameB nmA=true):=Lib.hid (by decide)
 have HSZ:Hid (nmA.size≤1000):=Lib.hid (by decide)
 clear hG hP hB hgp hg hp HG1 HB1
 go_upto_region 6 with (first|(refine wpList_load_mid rfl 27 (.tmp 2) rfl p 0 rfl (stepC nmA 1 0) _ hrp Tryz.underlying27 rfl info27 ?_)|(go_at_call 11;go_must (refine (law_step nmA 1 0 0).mono ?_;rintro r w2 ⟨cs,rfl,hb2,hv2⟩;have HB2:=Lib.hid hb2;have HV2:=Lib.hid hv2;clear hb2 hv2))|(go_at_call 10;go_must (refine (srv_reg nmA HSZ.out HNA.out (HG.out.below' HB2.out) HV2.out rfl rfl (verB_law _ _ _) (law_fine _ _ _) (Nat.not_le.2 HG.out.lt)).mono ?_;rintro r w3 ⟨rfl,T,hS3,hT3,hf3⟩;have HS3:=Lib.hid hS3;have HT3:=Lib.hid hT3;have HF3:=Lib.hid hf3;clear hS3 hT3 hf3)))
 have hP3:Blk w3 p (stepC nmA 1 0) 27:=HF3.out.blk (HP.out.below' HB2.out) (fun h=>by have:=HGP.out;omega)
 have hb3:Below w.heap.size w w3:=(Below.call HB.out HB2.out).trans (HF3.out.below (Nat.le_trans HB.out.size HB2.out.size) (fun x hx=>by have h1:x=g:=hx;have:=HGE.out;omega))
 have hnp3:¬mine T 4 p:=HT3.out p (Nat.lt_of_lt_of_le HP.out.lt HB2.out.size)
 have hrp3:=hP3.rng
 have HP3:=Lib.hid hP3
 have HB3:=Lib.hid hb3
 have HNP3:=Lib.hid hnp3
 clear hP3 hb3 hnp3 hrp
 go_upto_region 7 with (first|(refine wpList_load_mid rfl 27 (.tmp 2) rfl p 0 rfl (stepC nmA 1 0) _ hrp3 Tryz.underlying27 rfl info27 ?_)|(go_at_call 11;go_must (refine (law_step nmA 1 0 1).mono ?_;rintro r w4 ⟨cs4,rfl,hb4,hv4⟩;have hl4:=bn_len hv4;have HB4:=Lib.hid hb4;have HV4:=Lib.hid hv4;clear hb4 hv4))|(refine wpList_of_ex rfl (ex_bslice rfl rfl hl4) ?_)|(go_at_call 12;go_must (refine (srv_once nmA HSZ.out HNA.out (A:=fun x=>w3.heap.size≤x) (l:= [lawB 1 0 1]) (zs:=cs4) ((HS3.out.below HB4.out).below ((Below.refl _ _).alloc (Nat.le_refl _) _)) HS3.out.new ((Blk.new w4 _ _).rng) ⟨cs4,[],by simp,HV4.out.below ((Below.refl _ _).alloc (Nat.le_refl _) _),rfl⟩ HB4.out.size (fun B hB=>by rw [List.mem_singleton.1 hB];exact law_fine _ _ _) (by decide)).mono ?_;rintro r w5 ⟨rfl,T5,hT5,hS5,hf5⟩;rw [awake_adds] at hS5 ⊢;have HS5:=Lib.hid hS5;have HT5:=Lib.hid hT5;have HF5:=Lib.hid hf5;clear hS5 hT5 hf5)))
 have hP5:Blk w5 p (stepC nmA 1 0) 27:=HF5.out.blk ((HP3.out.below' HB4.out).alloc _) HNP3.out
 have hb5:Below w.heap.size w w5:=((Below.call HB3.out HB4.out).alloc (Nat.le_trans HB3.out.size HB4.out.size) _).trans (HF5.out.below (B:=w.heap.size) (Nat.le_trans (Nat.le_trans HB3.out.size HB4.out.size) (by simp)) (fun x hx=>by
  rcases Nat.lt_or_ge x w.heap.size with h|h
  ·exact absurd hx (HT3.out x (by have:=HB2.out.size;have:=HB.out.size;omega))
  ·exact h))
 have HB5:=Lib.hid hb5
 clear hP5 hb5 hrp3
 go_upto_region 8 with (first|(go_at_call 14;go_must (refine (srv_fetch nmA HSZ.out HNA.out HS5.out rfl).mono ?_;rintro r w6 ⟨z6,T6,A6,rfl,hz6,hT6,hS6,hf6⟩;obtain ⟨y6,rfl⟩:∃y6:List Value,z6= .agg y6.toArray:=(by obtain ⟨y,e,_⟩:=hz6;exact ⟨y,e⟩);have hl6:=bn_len hz6;have hi6:(Tryz.prog.info? 32).map (·.size)=some y6.toArray.size:=(by rw [info32];simp [hl6]);have ho6:bn0.size=y6.toArray.size:=(by simp [hl6]);have h61:=bn_one hz6;have HZ6:=Lib.hid hz6;have HT6:=Lib.hid hT6;have HS6:=Lib.hid hS6;have HF6:=Lib.hid hf6;clear hz6 hT6 hS6 hf6))|(refine wpList_store_row rfl 32 _ _ rfl w6.heap.size _ rfl rfl 32 bn0 (Blk.new w6 _ _) hi6 ho6 h61 ?_))
 have hb6:Below w.heap.size w w6:=HB5.out.trans (HF6.out.below (B:=w.heap.size) HB5.out.size (fun x hx=>by
  rcases Nat.lt_or_ge x w.heap.size with h|h
  ·have h1:=HT3.out x (by have:=HB2.out.size;have:=HB.out.size;omega)
   unfold mine at hx h1
   rw [HT5.out x (by have:=HB3.out.size;have:=HB4.out.size;simp;omega)] at hx
   exact absurd hx h1
  ·exact h))
 obtain ⟨U6,hU6⟩:∃U6,U6=(w6.alloc (.cells bn0 32)).setRow w6.heap.size y6.toArray:=⟨_,rfl⟩
 have hu6:Below w6.heap.size w6 U6:=by rw [hU6];exact below_setRow (Below.alloc' (Below.refl _ _) _) (Nat.le_refl _) _
 have hP6:Blk U6 w6.heap.size y6 32:=by rw [hU6];exact setRow_blk (Blk.new w6 _ _)
 have HU6:=Lib.hid hu6
 have HP6:=Lib.hid hP6
 have HB6:=Lib.hid hb6
 have HSU:=Lib.hid (HS6.out.below hu6)
 rw [←hU6]
 obtain ⟨p6,hp6⟩:∃p6,p6=w6.heap.size:=⟨_,rfl⟩
 rw [←hp6]
 have HPE:=Lib.hid hp6
 clear hU6 hu6 hP6 hb6 hp6
 go_upto_region 9 with (first|(go_at_call 14;go_must (refine (srv_base nmA HSZ.out HNA.out HSU.out rfl).mono ?_;rintro r w8 ⟨z8,A8,rfl,hz8,hb8⟩;obtain ⟨y8,rfl⟩:∃y8:List Value,z8= .agg y8.toArray:=(by obtain ⟨y,e,_⟩:=hz8;exact ⟨y,e⟩);have hl8:=bn_len hz8;have hi8:(Tryz.prog.info? 32).map (·.size)=some y8.toArray.size:=(by rw [info32];simp [hl8]);have ho8:bn0.size=y8.toArray.size:=(by simp [hl8]);have h81:=bn_one hz8;have HZ8:=Lib.hid hz8;have HB8:=Lib.hid hb8;clear hz8 hb8))|(refine wpList_store_row rfl 32 _ _ rfl w8.heap.size _ rfl rfl 32 bn0 (Blk.new w8 _ _) hi8 ho8 h81 ?_))
 obtain ⟨U8,hU8⟩:∃U8,U8=(w8.alloc (.cells bn0 32)).setRow w8.heap.size y8.toArray:=⟨_,rfl⟩
 have hu8:Below w8.heap.size w8 U8:=by rw [hU8];exact below_setRow (Below.alloc' (Below.refl _ _) _) (Nat.le_refl _) _
 have hP8:Blk U8 w8.heap.size y8 32:=by rw [hU8];exact setRow_blk (Blk.new w8 _ _)
 have hP68:Blk U8 p6 y6 32:=by rw [HPE.out];exact (HP6.out.below' HB8.out).below' hu8
 have hc8:=(bn_ids HZ8.out hP8).1
 have hc6:=(bn_ids HZ6.out hP68).1
 rw [show (lawB 1 0 1).onceId=1 from rfl] at hc6
 rw [show (En.mk ((e0 1 0).add (lawB 1 0 1)).base [] ((e0 1 0).add (lawB 1 0 1)).onces ((e0 1 0).add (lawB 1 0 1)).kems).base.onceId=0 from rfl] at hc8
 have HW8:Hid (Below w.heap.size w U8):=Lib.hid (Below.call (Below.call (Below.call HB6.out HU6.out) HB8.out) hu8)
 rw [←hU8]
 clear hU8 hu8 hP8 hP68 hi8 ho8 h81 hi6 ho6 h61
 have hn1:nameB nmA1=true:=by decide
 have hn2:nameB nmUp=false:=by decide
 have HN1:=Lib.hid hn1
 have HN2:=Lib.hid hn2
 clear hn1 hn2
 go_wp2_with (go_at_call 20;go_must (first|(with_reducible refine (sname_any nmA1 (by decide) _).mono ?_;rintro r w9 ⟨rfl,rfl⟩;rw [HN1.out])|(with_reducible refine (sname_any nmUp (by decide) _).mono ?_;rintro r w9 ⟨rfl,rfl⟩;rw [HN2.out])))
 go_ret
 exact ⟨rfl,HW8.out⟩
end Go.Proofs.YtknlbpjcjdenbaaGreat
