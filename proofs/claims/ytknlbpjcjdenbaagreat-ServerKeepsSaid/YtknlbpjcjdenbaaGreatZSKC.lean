/- What SK rests on, part 3 of 6: my own texts, put together (merge.py). -/
import Derived.Test.YtknlbpjcjdenbaaGreatRows
import Derived.WalkKit
import Derived.ProofKit
import Derived.Lib.Hide
import Derived.OpenShut
import Derived.WalkSpells
import Derived.StillTactics
import Derived.Laws.Pointers
import Derived.Laws.CopyOwn
import Derived.Laws.AppendOwnNone
import Derived.Deep.RegionHeld3
import Derived.RowKit3
import Derived.BigQuiet
import Derived.Deep.QuietTactic
import Derived.Deep.LoopGhost
import Derived.Deep.DeepFit
import Derived.WalkLawsBesides
import Derived.Shelf.Spec.BitsCarry
import Derived.Maps.RangeWalk
import Derived.Deep.MidRow
import Derived.Laws.IdiomStrings
import Derived.Great.BuildSlice
import Derived.Lib.AppendZerosOnto
import Derived.Deep.DeepCutAuto
import Derived.Lib.SliceRun
import Derived.Laws.ResultCell
import Derived.Laws.CopyRow
import Derived.Deep.Cut
import Derived.Deep.RegionLaw
import Derived.Laws.Tables
import Derived.StillTailTactics
import Derived.ShutString
import Derived.ChangeOld
import Derived.Test.YtknlbpjcjdenbaaGreatZSKB
set_option maxRecDepth 100000
namespace Go.Proofs.YtknlbpjcjdenbaaGreat
open Go Go.RowKit
def CT0:Nat→Option CF:=fun _=>none
theorem OPS3:OpsOk TY3 CT0:=opsOk TY3ok fun f C h=>by cases h
theorem vcFill (k:List UInt8) (n:Int) (hn:0≤n∧n≤16777216):vc TY3 CT0 Tryz.f143.ntmps (bodyOf Tryz.f143) ⟨mkSl 0 [.one (.ro .u8 k),.one (.ob .int n)],[],2000⟩ (retK [4] [.one (.rw 0)] [(0,.row 5 .u8 (k.take n.toNat++List.replicate (n.toNat-k.length) 0))]):=by
 refine ⟨⟨hn.1,rfl,hn.2⟩,?_,trivial⟩
 show _=k.take (List.replicate n.toNat (0:UInt8)).length++(List.replicate n.toNat (0:UInt8)).drop k.length
 simp
theorem vcRot (x:UInt32) (n:Int) (hn:0≤n∧n≤32):vc TY3 CT0 Tryz.f219.ntmps (bodyOf Tryz.f219) ⟨mkSl 0 [.one (.ob .u32 x),.one (.ob .int n)],[],2000⟩ (retK [4] [.one (.ob .u32 (rotv x n.toNat))] []):=by
 refine ⟨hn.1,⟨by omega,by omega⟩,by omega,?_,trivial⟩
 show [rotv x n.toNat]= [vsh x n.toNat|||vsl x (32-n).toNat]
 rw [show (32-n).toNat=32-n.toNat by omega];rfl
theorem vcRot64 (x:UInt64) (n:Int) (hn:0≤n∧n≤64):vc TY3 CT0 Tryz.f140.ntmps (bodyOf Tryz.f140) ⟨mkSl 0 [.one (.ob .u64 x),.one (.ob .int n)],[],2000⟩ (retK [4] [.one (.ob .u64 (rotr x n.toNat))] []):=by
 refine ⟨hn.1,⟨by omega,by omega⟩,by omega,?_,trivial⟩
 show [rotr x n.toNat]= [ush x n.toNat|||usl x (64-n).toNat]
 rw [show (64-n).toNat=64-n.toNat by omega];rfl
def gb (b:List UInt8):Nat→UInt64
 |0=>0
 |i+1=>if i<b.length then usl (gb b i) 8|||(b.getD i 0).toUInt64 else usl (gb b i) 8
theorem vcGetBig (b:List UInt8) (n:Int) (hn:0≤n∧n≤65536):vc TY3 CT0 Tryz.f139.ntmps (bodyOf Tryz.f139) ⟨mkSl 0 [.one (.ro .u8 b),.one (.ob .int n)],[],2000⟩ (retK [4] [.one (.ob .u64 (gb b n.toNat))] []):=by
 refine Or.inr ⟨{i:Nat // i≤n.toNat},fun i=>⟨[(6,.one (.ob .int (i.val:Int))),(5,.one (.ob .u64 (gb b i.val)))],[]⟩,fun i=>65537-i.val,⟨0,Nat.zero_le _⟩,?_⟩
 refine ⟨rfl,rfl,fun i=>⟨fun h1=> ?_,fun h1=> ?_⟩⟩
 ·have h1:=of_decide_eq_true h1
  have hi:=i.2
  refine fun _=>⟨fun h2=> ?_,fun h2=> ?_⟩
  ·have h2:=of_decide_eq_true h2
   refine ⟨⟨by omega,h2⟩,⟨by omega,by omega⟩,⟨i.val+1,by omega⟩,?_,?_,?_,trivial⟩
   ·show 65537-(i.val+1)<65537-i.val;omega
   ·show [((i.val+1:Nat):Int)]= [(i.val:Int)+1];simp
   ·show [gb b (i.val+1)]= [usl (gb b i.val) 8|||(b.getD i.val 0).toUInt64]
    rw [gb,if_pos (by omega)]
  ·have h2:=of_decide_eq_false h2
   refine ⟨⟨by omega,by omega⟩,⟨i.val+1,by omega⟩,?_,?_,?_,trivial⟩
   ·show 65537-(i.val+1)<65537-i.val;omega
   ·show [((i.val+1:Nat):Int)]= [(i.val:Int)+1];simp
   ·show [gb b (i.val+1)]= [usl (gb b i.val) 8]
    rw [gb,if_neg (by omega)]
 ·have h1:=of_decide_eq_false h1
  have hi:=i.2
  refine ⟨?_,trivial⟩
  show [gb b n.toNat]= [gb b i.val]
  exact congrArg (fun z=> [gb b z]) (show n.toNat=i.val by omega)
def bigI (x:UInt64) (n i:Nat):List UInt8:=(List.range n).map fun j=>if n-1-j<i then (ush x (8*(n-1-j))).toUInt8 else 0
theorem bigI_len (x:UInt64) (n i:Nat):(bigI x n i).length=n:=by simp [bigI]
theorem bigI_0 (x:UInt64) (n:Nat):bigI x n 0=List.replicate n 0:=by
 apply List.ext_getElem (by simp [bigI])
 intro j h1 h2
 simp [bigI]
theorem bigI_set (x:UInt64) {n i:Nat} (h:i<n):bigI x n (i+1)=(bigI x n i).set (n-1-i) (ush x (8*i)).toUInt8:=by
 apply List.ext_getElem (by simp [bigI])
 intro j h1 h2
 simp only [bigI_len] at h1
 rw [List.getElem_set]
 simp only [bigI,List.getElem_map,List.getElem_range]
 by_cases e:n-1-i=j
 ·rw [if_pos e,if_pos (by omega),show n-1-j=i by omega]
 ·rw [if_neg e]
  by_cases e2:n-1-j<i
  ·rw [if_pos e2,if_pos (by omega)]
  ·rw [if_neg e2,if_neg (by omega)]
theorem bigI_end (x:UInt64) {n i:Nat} (h:n≤i):bigI x n n=bigI x n i:=by
 apply List.map_congr_left
 intro j hj
 rw [List.mem_range] at hj
 rw [if_pos (by omega),if_pos (by omega)]
theorem vcBig (x:UInt64) (n:Int) (hn:0≤n∧n≤8):vc TY3 CT0 Tryz.f95.ntmps (bodyOf Tryz.f95) ⟨mkSl 0 [.one (.ob .u64 x),.one (.ob .int n)],[],2000⟩ (retK [4] [.one (.rw 0)] [(0,.row 5 .u8 (bigI x n.toNat n.toNat))]):=by
 refine ⟨⟨hn.1,rfl,by show n≤_;omega⟩,?_⟩
 refine Or.inr ⟨Nat,fun i=>⟨[(6,.one (.ob .int (i:Int)))],[(2032,.row 5 .u8 (bigI x n.toNat i))]⟩,fun i=>16-i,0,?_⟩
 refine ⟨rfl,bigI_0 x n.toNat,fun i=>⟨fun h1=> ?_,fun h1=> ?_⟩⟩
 ·have h1:=of_decide_eq_true h1
  have e:(n-1-(i:Int)).toNat=n.toNat-1-i:=by omega
  have e2:(8*(i:Int)).toNat=8*i:=by omega
  have hl:=bigI_len x n.toNat i
  refine ⟨⟨by omega,by omega⟩,⟨by omega,by omega⟩,⟨by omega,by omega⟩,by omega,⟨by omega,by rw [hl];omega⟩,by rw [hl];omega,⟨by omega,by omega⟩,i+1,?_,?_,?_,trivial⟩
  ·show 16-(i+1)<16-i;omega
  ·show [((i+1:Nat):Int)]= [(i:Int)+1];simp
  ·show bigI x n.toNat (i+1)=(bigI x n.toNat i).set (n-1-(i:Int)).toNat (ush x (8*(i:Int)).toNat).toUInt8
   rw [e,e2]
   exact bigI_set x (by omega)
 ·have h1:=of_decide_eq_false h1
  refine ⟨?_,trivial⟩
  show bigI x n.toNat n.toNat=bigI x n.toNat i
  exact bigI_end x (by omega)
theorem take_flat {l:List (List UInt8)} {i:Nat} (h:i<l.length):(l.take (i+1)).flatten=(l.take i).flatten++l.getD i []:=by
 rw [List.take_add_one,List.flatten_append,List.getD_eq_getElem?_getD,List.getElem?_eq_getElem h];simp
theorem take_flat_le (l:List (List UInt8)) (i:Nat):(l.take i).flatten.length≤l.flatten.length:=by
 have:=congrArg (fun q=>q.flatten.length) (List.take_append_drop i l)
 simp only [List.flatten_append,List.length_append] at this
 omega
theorem vcCat (l:List (List UInt8)) (hl:l.length≤1000∧l.flatten.length≤16777216):vc TY3 CT0 Tryz.f90.ntmps (bodyOf Tryz.f90) ⟨mkSl 0 [.one (.bb l)],[],2000⟩ (retK [2] [.one (.rw 0)] [(0,.row 5 .u8 l.flatten)]):=by
 refine Or.inr ⟨Nat,fun i=>⟨[(4,.one (.ob .int (i:Int))),(3,.one (.rw 0))],[(0,.row 5 .u8 (l.take i).flatten)]⟩,fun i=>2000-i,0,?_⟩
 refine ⟨rfl,rfl,fun i _=>⟨fun h1=> ?_,fun h1=> ?_⟩⟩
 ·have h1:=of_decide_eq_true h1
  have h2:i<l.length:=by omega
  have e:=take_flat h2
  refine ⟨⟨by omega,h1⟩,?_,⟨by omega,by omega⟩,i+1,?_,?_,?_,trivial⟩
  ·show ((l.take i).flatten++l.getD i []).length≤_
   rw [←e]
   exact Nat.le_trans (take_flat_le l _) hl.2
  ·show 2000-(i+1)<2000-i;omega
  ·show [((i+1:Nat):Int)]= [(i:Int)+1];simp
  ·exact e
 ·have h1:=of_decide_eq_false h1
  refine ⟨?_,trivial⟩
  show l.flatten=(l.take i).flatten
  rw [List.take_of_length_le (by omega)]
abbrev InR (lo n hi:Int):Prop:=lo≤n∧n≤hi
def gBig:GF:=fun l=>match l with
 | [.one (.ob .u64 x),.one (.ob .int n)]=>some ⟨[.one (.rw 0)],[(0,.row 5 .u8 (bigI x n.toNat n.toNat))],some (InR 0 n 8)⟩
 |_=>none
theorem big_sound:CSound 95 (cfA gBig):=cfA_sound OPS3 Tryz.func95 (by kernel_rfl) rfl (rs:= [4]) Tryz.results95 fun l g h hp=>by
 unfold gBig at h
 split at h
 ·cases h;exact ⟨Nat.le_of_ble_eq_true rfl,rfl,rfl,rfl,vcBig _ _ hp⟩
 ·cases h
def gCat:GF:=fun l=>match l with
 | [.one (.bb l)]=>some ⟨[.one (.rw 0)],[(0,.row 5 .u8 l.flatten)],some (l.length≤1000∧l.flatten.length≤16777216)⟩
 |_=>none
theorem cat_sound:CSound 90 (cfA gCat):=cfA_sound OPS3 Tryz.func90 (by kernel_rfl) rfl (rs:= [2]) Tryz.results90 fun l g h hp=>by
 unfold gCat at h
 split at h
 ·cases h;exact ⟨Nat.le_of_ble_eq_true rfl,rfl,rfl,rfl,vcCat _ hp⟩
 ·cases h
def gFill:GF:=fun l=>match l with
 | [.one (.ro .u8 k),.one (.ob .int n)]=>some ⟨[.one (.rw 0)],[(0,.row 5 .u8 (k.take n.toNat++List.replicate (n.toNat-k.length) 0))],some (InR 0 n 16777216)⟩
 |_=>none
theorem fill_sound:CSound 143 (cfA gFill):=cfA_sound OPS3 Tryz.func143 (by kernel_rfl) rfl (rs:= [4]) Tryz.results143 fun l g h hp=>by
 unfold gFill at h
 split at h
 ·cases h;exact ⟨Nat.le_of_ble_eq_true rfl,rfl,rfl,rfl,vcFill _ _ hp⟩
 ·cases h
def gRot:GF:=fun l=>match l with
 | [.one (.ob .u32 x),.one (.ob .int n)]=>some ⟨[.one (.ob .u32 (rotv x n.toNat))],[],some (InR 0 n 32)⟩
 |_=>none
theorem rot_sound:CSound 219 (cfA gRot):=cfA_sound OPS3 Tryz.func219 (by kernel_rfl) rfl (rs:= [4]) Tryz.results219 fun l g h hp=>by
 unfold gRot at h
 split at h
 ·cases h;exact ⟨Nat.le_of_ble_eq_true rfl,rfl,rfl,rfl,vcRot _ _ hp⟩
 ·cases h
def gRot64:GF:=fun l=>match l with
 | [.one (.ob .u64 x),.one (.ob .int n)]=>some ⟨[.one (.ob .u64 (rotr x n.toNat))],[],some (InR 0 n 64)⟩
 |_=>none
theorem rot64_sound:CSound 140 (cfA gRot64):=cfA_sound OPS3 Tryz.func140 (by kernel_rfl) rfl (rs:= [4]) Tryz.results140 fun l g h hp=>by
 unfold gRot64 at h
 split at h
 ·cases h;exact ⟨Nat.le_of_ble_eq_true rfl,rfl,rfl,rfl,vcRot64 _ _ hp⟩
 ·cases h
def gGetBig:GF:=fun l=>match l with
 | [.one (.ro .u8 b),.one (.ob .int n)]=>some ⟨[.one (.ob .u64 (gb b n.toNat))],[],some (InR 0 n 65536)⟩
 |_=>none
theorem getBig_sound:CSound 139 (cfA gGetBig):=cfA_sound OPS3 Tryz.func139 (by kernel_rfl) rfl (rs:= [4]) Tryz.results139 fun l g h hp=>by
 unfold gGetBig at h
 split at h
 ·cases h;exact ⟨Nat.le_of_ble_eq_true rfl,rfl,rfl,rfl,vcGetBig _ _ hp⟩
 ·cases h
end Go.Proofs.YtknlbpjcjdenbaaGreat
namespace Go.Proofs.YtknlbpjcjdenbaaGreat
def kTab:List UInt64:= [4794697086780616226,8158064640168781261,13096744586834688815,16840607885511220156,4131703408338449720,6480981068601479193,10538285296894168987,12329834152419229976,15566598209576043074,1334009975649890238,2608012711638119052,6128411473006802146,8268148722764581231,9286055187155687089,11230858885718282805,13951009754708518548,16472876342353939154,17275323862435702243,1135362057144423861,2597628984639134821,3308224258029322869,5365058923640841347,6679025012923562964,8573033837759648693,10970295158949994411,12119686244451234320,12683024718118986047,13788192230050041572,14330467153632333762,15395433587784984357,489312712824947311,1452737877330783856,2861767655752347644,3322285676063803686,5560940570517711597,5996557281743188959,7280758554555802590,8532644243296465576,9350256976987008742,10552545826968843579,11727347734174303076,12113106623233404929,14000437183269869457,14369950271660146224,15101387698204529176,15463397548674623760,17586052441742319658,1182934255886127544,1847814050463011016,2177327727835720531,2830643537854262169,3796741975233480872,4115178125766777443,5681478168544905931,6601373596472566643,7507060721942968483,8399075790359081724,8693463985226723168,9568029438360202098,10144078919501101548,10430055236837252648,11840083180663258601,13761210420658862357,14299343276471374635,14566680578165727644,15097957966210449927,16922976911328602910,17689382322260857208,500013540394364858,748580250866718886,1242879168328830382,1977374033974150939,2944078676154940804,3659926193048069267,4368137639120453308,4836135668995329356,5532061633213252278,6448918945643986474,6902733635092675308,7801388544844847127]
def hTab:List UInt64:= [7640891576956012808,13503953896175478587,4354685564936845355,11912009170470909681,5840696475078001361,11170449401992604703,2270897969802886507,6620516959819538809]
theorem kTab_len:kTab.length=80:=by decide +kernel
def at0 (l:List UInt64) (i:Nat):UInt64:=l.getD i 0
def sg0 (x:UInt64):UInt64:=ux (ux (rotr x 1) (rotr x 8)) (ush x 7)
def sg1 (x:UInt64):UInt64:=ux (ux (rotr x 19) (rotr x 61)) (ush x 6)
def bs0 (x:UInt64):UInt64:=ux (ux (rotr x 28) (rotr x 34)) (rotr x 39)
def bs1 (x:UInt64):UInt64:=ux (ux (rotr x 14) (rotr x 18)) (rotr x 41)
def cho (e f g:UInt64):UInt64:=ux (ua e f) (ua (un e) g)
def maj (a b c:UInt64):UInt64:=ux (ux (ua a b) (ua a c)) (ua b c)
def wNext (l:List UInt64) (t:Nat):UInt64:=up (up (up (at0 l (t-16)) (sg0 (at0 l (t-15)))) (at0 l (t-7))) (sg1 (at0 l (t-2)))
def wL (b:List UInt64):Nat→List UInt64
 |0=> []
 |t+1=>wL b t++ [if t<16 then at0 b t else wNext (wL b t) t]
theorem wL_len (b:List UInt64):∀t,(wL b t).length=t
 |0=>rfl
 |t+1=>by rw [wL,List.length_append,wL_len b t];rfl
def rnd (v:List UInt64) (k w:UInt64):List UInt64:=
 [up (up (up (up (up (at0 v 7) (bs1 (at0 v 4))) (cho (at0 v 4) (at0 v 5) (at0 v 6))) k) w) (up (bs0 (at0 v 0)) (maj (at0 v 0) (at0 v 1) (at0 v 2))),at0 v 0,at0 v 1,at0 v 2,up (at0 v 3) (up (up (up (up (at0 v 7) (bs1 (at0 v 4))) (cho (at0 v 4) (at0 v 5) (at0 v 6))) k) w),at0 v 4,at0 v 5,at0 v 6]
def rL (h w:List UInt64):Nat→List UInt64
 |0=>h
 |t+1=>rnd (rL h w t) (at0 kTab t) (at0 w t)
def turn (h b:List UInt64):List UInt64:=(List.range 8).map fun i=>up (at0 h i) (at0 (rL h (wL b 80) 80) i)
theorem turn_len (h b:List UInt64):(turn h b).length=8:=by simp [turn]
def be8 (x:UInt64):List UInt8:=(leB 8 x.toNat).reverse
def beW (l:List UInt8):UInt64:=UInt64.ofNat (leN l.reverse)
def words (l:List UInt8):List UInt64:=(List.range 16).map fun i=>beW ((l.drop (8*i)).take 8)
def padB (l:List UInt8):List UInt8:=l++(128::List.replicate ((240-(l.length+1)%128)%128) 0)++List.replicate 8 0++be8 (UInt64.ofNat (8*l.length))
def hSt (m:List UInt8):Nat→List UInt64
 |0=>hTab
 |i+1=>turn (hSt m i) (words (m.drop (128*i)))
theorem hSt_len (m:List UInt8):∀i,(hSt m i).length=8
 |0=>rfl
 |_+1=>turn_len _ _
def sha512 (l:List UInt8):List UInt8:=((List.range 8).map fun i=>be8 (at0 (hSt (padB l) ((padB l).length/128)) i)).flatten
def at2 (l:List UInt32) (i:Nat):UInt32:=l.getD i 0
def kTv:List UInt32:=(kTab.take 64).map hi32
def hTv:List UInt32:=hTab.map hi32
def sgv0 (x:UInt32):UInt32:=vx (vx (rotv x 7) (rotv x 18)) (vsh x 3)
def sgv1 (x:UInt32):UInt32:=vx (vx (rotv x 17) (rotv x 19)) (vsh x 10)
def bsv0 (x:UInt32):UInt32:=vx (vx (rotv x 2) (rotv x 13)) (rotv x 22)
def bsv1 (x:UInt32):UInt32:=vx (vx (rotv x 6) (rotv x 11)) (rotv x 25)
def chv (e f g:UInt32):UInt32:=vx (va e f) (va (vn e) g)
def mjv (a b c:UInt32):UInt32:=vx (vx (va a b) (va a c)) (va b c)
def wNv (l:List UInt32) (t:Nat):UInt32:=vp (vp (vp (at2 l (t-16)) (sgv0 (at2 l (t-15)))) (at2 l (t-7))) (sgv1 (at2 l (t-2)))
def wLv (b:List UInt32):Nat→List UInt32
 |0=> []
 |t+1=>wLv b t++ [if t<16 then at2 b t else wNv (wLv b t) t]
theorem wLv_len (b:List UInt32):∀t,(wLv b t).length=t
 |0=>rfl
 |t+1=>by rw [wLv,List.length_append,wLv_len b t];rfl
theorem at2_app {l r:List UInt32} {j:Nat} (h:j<l.length):at2 (l++r) j=at2 l j:=by
 unfold at2
 rw [List.getD_eq_getElem?_getD,List.getD_eq_getElem?_getD,List.getElem?_append_left h]
theorem wLv_pre (b:List UInt32) {j:Nat}:∀ {t:Nat},j<t→at2 (wLv b t) j=if j<16 then at2 b j else wNv (wLv b j) j
 |0,h=>by omega
 |t+1,h=>by
  rw [wLv]
  by_cases hj:j<t
  ·rw [at2_app (by rw [wLv_len];exact hj),wLv_pre b hj]
  ·obtain rfl:j=t:=by omega
   unfold at2
   rw [List.getD_eq_getElem?_getD,List.getElem?_append_right (by rw [wLv_len];omega),wLv_len,Nat.sub_self]
   rfl
theorem wLv_lo (b:List UInt32) {j:Nat} (h:j<16):at2 (wLv b 64) j=at2 b j:=by rw [wLv_pre b (by omega),if_pos h]
theorem wLv_at (b:List UInt32) {j t:Nat} (h:j<t) (ht:t≤64):at2 (wLv b t) j=at2 (wLv b 64) j:=by rw [wLv_pre b h,wLv_pre b (Nat.lt_of_lt_of_le h ht)]
theorem wLv_hi (b:List UInt32) {j:Nat} (h:16≤j) (h2:j<64):at2 (wLv b 64) j=vp (vp (vp (at2 (wLv b 64) (j-16)) (sgv0 (at2 (wLv b 64) (j-15)))) (at2 (wLv b 64) (j-7))) (sgv1 (at2 (wLv b 64) (j-2))):=by
 rw [wLv_pre b h2,if_neg (by omega)]
 unfold wNv
 have k:=fun m (h1:0<m)=>wLv_at b (j:=j-m) (t:=j) (by omega) (by omega)
 rw [k 16 (by omega),k 15 (by omega),k 7 (by omega),k 2 (by omega)]
def t1v (v:List UInt32) (k w:UInt32):UInt32:=vp (vp (vp (vp (at2 v 7) (bsv1 (at2 v 4))) (chv (at2 v 4) (at2 v 5) (at2 v 6))) k) w
def t2v (v:List UInt32):UInt32:=vp (bsv0 (at2 v 0)) (mjv (at2 v 0) (at2 v 1) (at2 v 2))
def rndv (v:List UInt32) (k w:UInt32):List UInt32:= [vp (t1v v k w) (t2v v),at2 v 0,at2 v 1,at2 v 2,vp (at2 v 3) (t1v v k w),at2 v 4,at2 v 5,at2 v 6]
def rLv (h w:List UInt32):Nat→List UInt32
 |0=>h
 |t+1=>rndv (rLv h w t) (at2 kTv t) (at2 w t)
def turnv (h b:List UInt32):List UInt32:=(List.range 8).map fun i=>vp (at2 h i) (at2 (rLv h (wLv b 64) 64) i)
theorem turnv_len (h b:List UInt32):(turnv h b).length=8:=by simp [turnv]
def be4 (x:UInt32):List UInt8:=(leB 4 x.toNat).reverse
def beV (l:List UInt8):UInt32:=UInt32.ofNat (leN l.reverse)
def wordsv (l:List UInt8):List UInt32:=(List.range 16).map fun i=>beV ((l.drop (4*i)).take 4)
def padV (l:List UInt8):List UInt8:=l++(128::List.replicate ((119-l.length%64)%64) 0)++be8 (UInt64.ofNat (8*l.length))
def hSv (m:List UInt8):Nat→List UInt32
 |0=>hTv
 |i+1=>turnv (hSv m i) (wordsv (m.drop (64*i)))
theorem hSv_len (m:List UInt8):∀i,(hSv m i).length=8
 |0=>rfl
 |_+1=>turnv_len _ _
def sha256 (l:List UInt8):List UInt8:=((List.range 8).map fun i=>be4 (at2 (hSv (padV l) ((padV l).length/64)) i)).flatten
theorem be8_ln (x:UInt64):(be8 x).length=8:=by unfold be8;rw [List.length_reverse,leB_len]
theorem be4_len (x:UInt32):(be4 x).length=4:=by unfold be4;rw [List.length_reverse,leB_len]
theorem padV_len (l:List UInt8):(padV l).length=l.length+1+(119-l.length%64)%64+8:=by
 unfold padV
 rw [List.length_append,List.length_append,be8_ln,List.length_cons,List.length_replicate];omega
def hmKey (k:List UInt8):List UInt8:=(if 64<k.length then sha256 k else k)
def pad0 (n:Nat) (l:List UInt8):List UInt8:=l++List.replicate (n-l.length) 0
def hmac (k m:List UInt8):List UInt8:=sha256 ((pad0 64 (hmKey k)).map (· ^^^0x5c)++sha256 ((pad0 64 (hmKey k)).map (· ^^^0x36)++m))
def hkT (prk info:List UInt8):Nat→List UInt8
 |0=> []
 |i+1=>hmac prk (hkT prk info i++info++ [UInt8.ofNat (i+1)])
def hkO (prk info:List UInt8):Nat→List UInt8
 |0=> []
 |i+1=>hkO prk info i++hkT prk info (i+1)
end Go.Proofs.YtknlbpjcjdenbaaGreat
namespace Go.Proofs.YtknlbpjcjdenbaaGreat
open Go Go.RowKit
def TYD:Nat→TE:=tyOf [(3,⟨.k .int,1,[.ob .int (Kd.df .int)]⟩),(4,⟨.k .bool,1,[.ob .bool (Kd.df .bool)]⟩),(5,⟨.k .u8,1,[.ob .u8 (Kd.df .u8)]⟩),(9,⟨.k .str,1,[.ob .str (Kd.df .str)]⟩),(25,⟨.sl 3,1,[.cv (.slice none 0 0)]⟩),(27,⟨.st [(0,3),(1,9),(2,3),(3,3),(4,25),(5,3)],6,[.ob .int (Kd.df .int),.ob .str (Kd.df .str),.ob .int (Kd.df .int),.ob .int (Kd.df .int),.cv (.slice none 0 0),.ob .int (Kd.df .int)]⟩),(28,⟨.k .int,1,[.ob .int (Kd.df .int)]⟩),(30,⟨.sl 5,1,[.cv (.slice none 0 0)]⟩),(32,⟨.st [(0,30),(1,30),(2,30),(3,30),(4,3),(5,30),(6,3),(7,30),(8,30),(9,4),(10,3)],11,[.cv (.slice none 0 0),.cv (.slice none 0 0),.cv (.slice none 0 0),.cv (.slice none 0 0),.ob .int (Kd.df .int),.cv (.slice none 0 0),.ob .int (Kd.df .int),.cv (.slice none 0 0),.cv (.slice none 0 0),.ob .bool (Kd.df .bool),.ob .int (Kd.df .int)]⟩),(91,⟨.sl 30,1,[.cv (.slice none 0 0)]⟩),(99,⟨.st [(0,30),(1,3),(2,25),(3,25)],4,[.cv (.slice none 0 0),.ob .int (Kd.df .int),.cv (.slice none 0 0),.cv (.slice none 0 0)]⟩),(111,⟨.k .u64,1,[.ob .u64 (Kd.df .u64)]⟩),(112,⟨.arr 5 111,5,[.vec .u64 5 (List.replicate 5 (Kd.df .u64))]⟩),(114,⟨.st [(0,112)],5,[.vec .u64 5 (List.replicate 5 (Kd.df .u64))]⟩),(116,⟨.st [(0,114),(5,114),(10,114),(15,114)],20,[.vec .u64 5 (List.replicate 5 (Kd.df .u64)),.vec .u64 5 (List.replicate 5 (Kd.df .u64)),.vec .u64 5 (List.replicate 5 (Kd.df .u64)),.vec .u64 5 (List.replicate 5 (Kd.df .u64))]⟩),(119,⟨.arr 4 111,4,[.vec .u64 4 (List.replicate 4 (Kd.df .u64))]⟩),(121,⟨.st [(0,119)],4,[.vec .u64 4 (List.replicate 4 (Kd.df .u64))]⟩),(131,⟨.k .u32,1,[.ob .u32 (Kd.df .u32)]⟩),(133,⟨.k .u16,1,[.ob .u16 (Kd.df .u16)]⟩),(134,⟨.arr 256 133,256,[.vec .u16 256 (List.replicate 256 (Kd.df .u16))]⟩),(135,⟨.arr 256 133,256,[.vec .u16 256 (List.replicate 256 (Kd.df .u16))]⟩),(136,⟨.arr 3 135,768,[.vec .u16 768 (List.replicate 768 (Kd.df .u16))]⟩),(137,⟨.arr 3 135,768,[.vec .u16 768 (List.replicate 768 (Kd.df .u16))]⟩),(139,⟨.arr 32 5,32,[.vec .u8 32 (List.replicate 32 (Kd.df .u8))]⟩),(140,⟨.arr 32 5,32,[.vec .u8 32 (List.replicate 32 (Kd.df .u8))]⟩),(142,⟨.arr 16 111,16,[.vec .u64 16 (List.replicate 16 (Kd.df .u64))]⟩),(143,⟨.arr 16 111,16,[.vec .u64 16 (List.replicate 16 (Kd.df .u64))]⟩),(145,⟨.st [(0,143),(16,143),(32,143)],48,[.vec .u64 16 (List.replicate 16 (Kd.df .u64)),.vec .u64 16 (List.replicate 16 (Kd.df .u64)),.vec .u64 16 (List.replicate 16 (Kd.df .u64))]⟩),(158,⟨.arr 256 133,256,[.vec .u16 256 (List.replicate 256 (Kd.df .u16))]⟩),(159,⟨.arr 3 158,768,[.vec .u16 768 (List.replicate 768 (Kd.df .u16))]⟩),(165,⟨.k .u64,1,[.ob .u64 (Kd.df .u64)]⟩),(186,⟨.arr 80 111,80,[.vec .u64 80 (List.replicate 80 (Kd.df .u64))]⟩),(188,⟨.arr 8 111,8,[.vec .u64 8 (List.replicate 8 (Kd.df .u64))]⟩),(229,⟨.arr 32 111,32,[.vec .u64 32 (List.replicate 32 (Kd.df .u64))]⟩),(232,⟨.arr 33 5,33,[.vec .u8 33 (List.replicate 33 (Kd.df .u8))]⟩),(252,⟨.arr 25 111,25,[.vec .u64 25 (List.replicate 25 (Kd.df .u64))]⟩),(258,⟨.arr 8 131,8,[.vec .u32 8 (List.replicate 8 (Kd.df .u32))]⟩),(259,⟨.arr 64 131,64,[.vec .u32 64 (List.replicate 64 (Kd.df .u32))]⟩)]
theorem TYDok:TysOk TYD:=tysOk fun p hp=>by
 rcases List.mem_cons.1 hp with rfl|hp
 ·exact ty_k (k:= .int) rfl rfl rfl (by kernel_rfl) Tryz.underlying3 (bytes:=8) (by decide)
 rcases List.mem_cons.1 hp with rfl|hp
 ·exact ty_k (k:= .bool) rfl rfl rfl (by kernel_rfl) Tryz.underlying4 (bytes:=1) (by decide)
 rcases List.mem_cons.1 hp with rfl|hp
 ·exact ty_k (k:= .u8) rfl rfl rfl (by kernel_rfl) Tryz.underlying5 (bytes:=1) (by decide)
 rcases List.mem_cons.1 hp with rfl|hp
 ·exact ty_k (k:= .str) rfl rfl rfl (by kernel_rfl) Tryz.underlying9 (bytes:=16) (by decide)
 rcases List.mem_cons.1 hp with rfl|hp
 ·exact ty_sl (by kernel_rfl) Tryz.underlying25 (bytes:=24) (by decide)
 rcases List.mem_cons.1 hp with rfl|hp
 ·exact tyZ (cells:= [.int .i64 0]++([.string ByteArray.empty]++([.int .i64 0]++([.int .i64 0]++([.slice none 0 0]++([.int .i64 0]++([]:List Value))))))) (bytes:=72) (by kernel_rfl) Tryz.underlying27 ⟨_,rfl,rfl⟩ (fun η A w=>⟨[.int .i64 0],_,rfl,rfl,⟨[.string ByteArray.empty],_,rfl,rfl,⟨[.int .i64 0],_,rfl,rfl,⟨[.int .i64 0],_,rfl,rfl,⟨[.slice none 0 0],_,rfl,⟨rfl,rfl⟩,⟨[.int .i64 0],_,rfl,rfl,rfl⟩⟩⟩⟩⟩⟩) rfl (fun k h=>by cases h) rfl (by decide)
 rcases List.mem_cons.1 hp with rfl|hp
 ·exact ty_k (k:= .int) rfl rfl rfl (by kernel_rfl) Tryz.underlying28 (bytes:=8) (by decide)
 rcases List.mem_cons.1 hp with rfl|hp
 ·exact ty_sl (by kernel_rfl) Tryz.underlying30 (bytes:=24) (by decide)
 rcases List.mem_cons.1 hp with rfl|hp
 ·exact tyZ (cells:= [.slice none 0 0]++([.slice none 0 0]++([.slice none 0 0]++([.slice none 0 0]++([.int .i64 0]++([.slice none 0 0]++([.int .i64 0]++([.slice none 0 0]++([.slice none 0 0]++([.bool false]++([.int .i64 0]++([]:List Value)))))))))))) (bytes:=200) (by kernel_rfl) Tryz.underlying32 ⟨_,rfl,rfl⟩ (fun η A w=>⟨[.slice none 0 0],_,rfl,⟨rfl,rfl⟩,⟨[.slice none 0 0],_,rfl,⟨rfl,rfl⟩,⟨[.slice none 0 0],_,rfl,⟨rfl,rfl⟩,⟨[.slice none 0 0],_,rfl,⟨rfl,rfl⟩,⟨[.int .i64 0],_,rfl,rfl,⟨[.slice none 0 0],_,rfl,⟨rfl,rfl⟩,⟨[.int .i64 0],_,rfl,rfl,⟨[.slice none 0 0],_,rfl,⟨rfl,rfl⟩,⟨[.slice none 0 0],_,rfl,⟨rfl,rfl⟩,⟨[.bool false],_,rfl,rfl,⟨[.int .i64 0],_,rfl,rfl,rfl⟩⟩⟩⟩⟩⟩⟩⟩⟩⟩⟩) rfl (fun k h=>by cases h) rfl (by decide)
 rcases List.mem_cons.1 hp with rfl|hp
 ·exact ty_sl (by kernel_rfl) Tryz.underlying91 (bytes:=24) (by decide)
 rcases List.mem_cons.1 hp with rfl|hp
 ·exact tyZ (cells:= [.slice none 0 0]++([.int .i64 0]++([.slice none 0 0]++([.slice none 0 0]++([]:List Value))))) (bytes:=80) (by kernel_rfl) Tryz.underlying99 ⟨_,rfl,rfl⟩ (fun η A w=>⟨[.slice none 0 0],_,rfl,⟨rfl,rfl⟩,⟨[.int .i64 0],_,rfl,rfl,⟨[.slice none 0 0],_,rfl,⟨rfl,rfl⟩,⟨[.slice none 0 0],_,rfl,⟨rfl,rfl⟩,rfl⟩⟩⟩⟩) rfl (fun k h=>by cases h) rfl (by decide)
 rcases List.mem_cons.1 hp with rfl|hp
 ·exact ty_k (k:= .u64) rfl rfl rfl (by kernel_rfl) Tryz.underlying111 (bytes:=8) (by decide)
 rcases List.mem_cons.1 hp with rfl|hp
 ·exact tyZ (cells:=List.replicate 5 (.int .u64 0)++([]:List Value)) (bytes:=40) (by kernel_rfl) Tryz.underlying112 rfl (fun η A w=>⟨List.replicate 5 (.int .u64 0),_,rfl,⟨List.length_replicate,lims_repl (k:= .u64) rfl 5⟩,rfl⟩) rfl (fun k h=>by cases h) rfl (by decide)
 rcases List.mem_cons.1 hp with rfl|hp
 ·exact tyZ (cells:=List.replicate 5 (.int .u64 0)++([]:List Value)) (bytes:=40) (by kernel_rfl) Tryz.underlying114 ⟨_,rfl,rfl⟩ (fun η A w=>⟨List.replicate 5 (.int .u64 0),_,rfl,⟨List.length_replicate,lims_repl (k:= .u64) rfl 5⟩,rfl⟩) rfl (fun k h=>by cases h) rfl (by decide)
 rcases List.mem_cons.1 hp with rfl|hp
 ·exact tyZ (cells:=List.replicate 5 (.int .u64 0)++(List.replicate 5 (.int .u64 0)++(List.replicate 5 (.int .u64 0)++(List.replicate 5 (.int .u64 0)++([]:List Value))))) (bytes:=160) (by kernel_rfl) Tryz.underlying116 ⟨_,rfl,rfl⟩ (fun η A w=>⟨List.replicate 5 (.int .u64 0),_,rfl,⟨List.length_replicate,lims_repl (k:= .u64) rfl 5⟩,⟨List.replicate 5 (.int .u64 0),_,rfl,⟨List.length_replicate,lims_repl (k:= .u64) rfl 5⟩,⟨List.replicate 5 (.int .u64 0),_,rfl,⟨List.length_replicate,lims_repl (k:= .u64) rfl 5⟩,⟨List.replicate 5 (.int .u64 0),_,rfl,⟨List.length_replicate,lims_repl (k:= .u64) rfl 5⟩,rfl⟩⟩⟩⟩) rfl (fun k h=>by cases h) rfl (by decide)
 rcases List.mem_cons.1 hp with rfl|hp
 ·exact tyZ (cells:=List.replicate 4 (.int .u64 0)++([]:List Value)) (bytes:=32) (by kernel_rfl) Tryz.underlying119 rfl (fun η A w=>⟨List.replicate 4 (.int .u64 0),_,rfl,⟨List.length_replicate,lims_repl (k:= .u64) rfl 4⟩,rfl⟩) rfl (fun k h=>by cases h) rfl (by decide)
 rcases List.mem_cons.1 hp with rfl|hp
 ·exact tyZ (cells:=List.replicate 4 (.int .u64 0)++([]:List Value)) (bytes:=32) (by kernel_rfl) Tryz.underlying121 ⟨_,rfl,rfl⟩ (fun η A w=>⟨List.replicate 4 (.int .u64 0),_,rfl,⟨List.length_replicate,lims_repl (k:= .u64) rfl 4⟩,rfl⟩) rfl (fun k h=>by cases h) rfl (by decide)
 rcases List.mem_cons.1 hp with rfl|hp
 ·exact ty_k (k:= .u32) rfl rfl rfl (by kernel_rfl) Tryz.underlying131 (bytes:=4) (by decide)
 rcases List.mem_cons.1 hp with rfl|hp
 ·exact ty_k (k:= .u16) rfl rfl rfl (by kernel_rfl) Tryz.underlying133 (bytes:=2) (by decide)
 rcases List.mem_cons.1 hp with rfl|hp
 ·exact tyZ (cells:=List.replicate 256 (.int .u16 0)++([]:List Value)) (bytes:=512) (by kernel_rfl) Tryz.underlying134 rfl (fun η A w=>⟨List.replicate 256 (.int .u16 0),_,rfl,⟨List.length_replicate,lims_repl (k:= .u16) rfl 256⟩,rfl⟩) rfl (fun k h=>by cases h) rfl (by decide)
 rcases List.mem_cons.1 hp with rfl|hp
 ·exact tyZ (cells:=List.replicate 256 (.int .u16 0)++([]:List Value)) (bytes:=512) (by kernel_rfl) Tryz.underlying135 rfl (fun η A w=>⟨List.replicate 256 (.int .u16 0),_,rfl,⟨List.length_replicate,lims_repl (k:= .u16) rfl 256⟩,rfl⟩) rfl (fun k h=>by cases h) rfl (by decide)
 rcases List.mem_cons.1 hp with rfl|hp
 ·exact tyZ (cells:=List.replicate 768 (.int .u16 0)++([]:List Value)) (bytes:=1536) (by kernel_rfl) Tryz.underlying136 rfl (fun η A w=>⟨List.replicate 768 (.int .u16 0),_,rfl,⟨List.length_replicate,lims_repl (k:= .u16) rfl 768⟩,rfl⟩) rfl (fun k h=>by cases h) rfl (by decide)
 rcases List.mem_cons.1 hp with rfl|hp
 ·exact tyZ (cells:=List.replicate 768 (.int .u16 0)++([]:List Value)) (bytes:=1536) (by kernel_rfl) Tryz.underlying137 rfl (fun η A w=>⟨List.replicate 768 (.int .u16 0),_,rfl,⟨List.length_replicate,lims_repl (k:= .u16) rfl 768⟩,rfl⟩) rfl (fun k h=>by cases h) rfl (by decide)
 rcases List.mem_cons.1 hp with rfl|hp
 ·exact tyZ (cells:=List.replicate 32 (.int .u8 0)++([]:List Value)) (bytes:=32) (by kernel_rfl) Tryz.underlying139 rfl (fun η A w=>⟨List.replicate 32 (.int .u8 0),_,rfl,⟨List.length_replicate,lims_repl (k:= .u8) rfl 32⟩,rfl⟩) rfl (fun k h=>by cases h) rfl (by decide)
 rcases List.mem_cons.1 hp with rfl|hp
 ·exact tyZ (cells:=List.replicate 32 (.int .u8 0)++([]:List Value)) (bytes:=32) (by kernel_rfl) Tryz.underlying140 rfl (fun η A w=>⟨List.replicate 32 (.int .u8 0),_,rfl,⟨List.length_replicate,lims_repl (k:= .u8) rfl 32⟩,rfl⟩) rfl (fun k h=>by cases h) rfl (by decide)
 rcases List.mem_cons.1 hp with rfl|hp
 ·exact tyZ (cells:=List.replicate 16 (.int .u64 0)++([]:List Value)) (bytes:=128) (by kernel_rfl) Tryz.underlying142 rfl (fun η A w=>⟨List.replicate 16 (.int .u64 0),_,rfl,⟨List.length_replicate,lims_repl (k:= .u64) rfl 16⟩,rfl⟩) rfl (fun k h=>by cases h) rfl (by decide)
 rcases List.mem_cons.1 hp with rfl|hp
 ·exact tyZ (cells:=List.replicate 16 (.int .u64 0)++([]:List Value)) (bytes:=128) (by kernel_rfl) Tryz.underlying143 rfl (fun η A w=>⟨List.replicate 16 (.int .u64 0),_,rfl,⟨List.length_replicate,lims_repl (k:= .u64) rfl 16⟩,rfl⟩) rfl (fun k h=>by cases h) rfl (by decide)
 rcases List.mem_cons.1 hp with rfl|hp
 ·exact tyZ (cells:=List.replicate 16 (.int .u64 0)++(List.replicate 16 (.int .u64 0)++(List.replicate 16 (.int .u64 0)++([]:List Value)))) (bytes:=384) (by kernel_rfl) Tryz.underlying145 ⟨_,rfl,rfl⟩ (fun η A w=>⟨List.replicate 16 (.int .u64 0),_,rfl,⟨List.length_replicate,lims_repl (k:= .u64) rfl 16⟩,⟨List.replicate 16 (.int .u64 0),_,rfl,⟨List.length_replicate,lims_repl (k:= .u64) rfl 16⟩,⟨List.replicate 16 (.int .u64 0),_,rfl,⟨List.length_replicate,lims_repl (k:= .u64) rfl 16⟩,rfl⟩⟩⟩) rfl (fun k h=>by cases h) rfl (by decide)
 rcases List.mem_cons.1 hp with rfl|hp
 ·exact tyZ (cells:=List.replicate 256 (.int .u16 0)++([]:List Value)) (bytes:=512) (by kernel_rfl) Tryz.underlying158 rfl (fun η A w=>⟨List.replicate 256 (.int .u16 0),_,rfl,⟨List.length_replicate,lims_repl (k:= .u16) rfl 256⟩,rfl⟩) rfl (fun k h=>by cases h) rfl (by decide)
 rcases List.mem_cons.1 hp with rfl|hp
 ·exact tyZ (cells:=List.replicate 768 (.int .u16 0)++([]:List Value)) (bytes:=1536) (by kernel_rfl) Tryz.underlying159 rfl (fun η A w=>⟨List.replicate 768 (.int .u16 0),_,rfl,⟨List.length_replicate,lims_repl (k:= .u16) rfl 768⟩,rfl⟩) rfl (fun k h=>by cases h) rfl (by decide)
 rcases List.mem_cons.1 hp with rfl|hp
 ·exact ty_k (k:= .u64) rfl rfl rfl (by kernel_rfl) Tryz.underlying165 (bytes:=8) (by decide)
 rcases List.mem_cons.1 hp with rfl|hp
 ·exact tyZ (cells:=List.replicate 80 (.int .u64 0)++([]:List Value)) (bytes:=640) (by kernel_rfl) Tryz.underlying186 rfl (fun η A w=>⟨List.replicate 80 (.int .u64 0),_,rfl,⟨List.length_replicate,lims_repl (k:= .u64) rfl 80⟩,rfl⟩) rfl (fun k h=>by cases h) rfl (by decide)
 rcases List.mem_cons.1 hp with rfl|hp
 ·exact tyZ (cells:=List.replicate 8 (.int .u64 0)++([]:List Value)) (bytes:=64) (by kernel_rfl) Tryz.underlying188 rfl (fun η A w=>⟨List.replicate 8 (.int .u64 0),_,rfl,⟨List.length_replicate,lims_repl (k:= .u64) rfl 8⟩,rfl⟩) rfl (fun k h=>by cases h) rfl (by decide)
 rcases List.mem_cons.1 hp with rfl|hp
 ·exact tyZ (cells:=List.replicate 32 (.int .u64 0)++([]:List Value)) (bytes:=256) (by kernel_rfl) Tryz.underlying229 rfl (fun η A w=>⟨List.replicate 32 (.int .u64 0),_,rfl,⟨List.length_replicate,lims_repl (k:= .u64) rfl 32⟩,rfl⟩) rfl (fun k h=>by cases h) rfl (by decide)
 rcases List.mem_cons.1 hp with rfl|hp
 ·exact tyZ (cells:=List.replicate 33 (.int .u8 0)++([]:List Value)) (bytes:=33) (by kernel_rfl) Tryz.underlying232 rfl (fun η A w=>⟨List.replicate 33 (.int .u8 0),_,rfl,⟨List.length_replicate,lims_repl (k:= .u8) rfl 33⟩,rfl⟩) rfl (fun k h=>by cases h) rfl (by decide)
 rcases List.mem_cons.1 hp with rfl|hp
 ·exact tyZ (cells:=List.replicate 25 (.int .u64 0)++([]:List Value)) (bytes:=200) (by kernel_rfl) Tryz.underlying252 rfl (fun η A w=>⟨List.replicate 25 (.int .u64 0),_,rfl,⟨List.length_replicate,lims_repl (k:= .u64) rfl 25⟩,rfl⟩) rfl (fun k h=>by cases h) rfl (by decide)
 rcases List.mem_cons.1 hp with rfl|hp
 ·exact tyZ (cells:=List.replicate 8 (.int .u32 0)++([]:List Value)) (bytes:=32) (by kernel_rfl) Tryz.underlying258 rfl (fun η A w=>⟨List.replicate 8 (.int .u32 0),_,rfl,⟨List.length_replicate,lims_repl (k:= .u32) rfl 8⟩,rfl⟩) rfl (fun k h=>by cases h) rfl (by decide)
 rcases List.mem_cons.1 hp with rfl|hp
 ·exact tyZ (cells:=List.replicate 64 (.int .u32 0)++([]:List Value)) (bytes:=256) (by kernel_rfl) Tryz.underlying259 rfl (fun η A w=>⟨List.replicate 64 (.int .u32 0),_,rfl,⟨List.length_replicate,lims_repl (k:= .u32) rfl 64⟩,rfl⟩) rfl (fun k h=>by cases h) rfl (by decide)
 cases hp
theorem vcStart:vc TY3 CT0 Tryz.f138.ntmps (bodyOf Tryz.f138) ⟨mkSl 0 [],[],2000⟩ (retR TY3 Tryz.f138.ntmps [.cell 0 188] [.agg [.vec .u64 8 hTab]] []):=
 ⟨rfl,rfl,trivial⟩
set_option maxRecDepth 4000 in
theorem vcRounds:vc TY3 CT0 Tryz.f137.ntmps (bodyOf Tryz.f137) ⟨mkSl 0 [],[],2000⟩ (retR TY3 Tryz.f137.ntmps [.cell 0 186] [.agg [.vec .u64 80 kTab]] []):=
 ⟨rfl,rfl,trivial⟩
def gStart:GF:=fun l=>match l with
 | []=>some ⟨[.agg [.vec .u64 8 hTab]],[],none⟩
 |_=>none
theorem start_sound:CSound 138 (cfA gStart):=cfR_sound TY3ok OPS3 Tryz.func138 (by kernel_rfl) rfl (rs:= [.cell 0 188]) Tryz.results138 fun l g h hp=>by
 unfold gStart at h
 split at h
 ·cases h;exact ⟨Nat.le_of_ble_eq_true rfl,rfl,rfl,rfl,vcStart⟩
 ·cases h
def gRounds:GF:=fun l=>match l with
 | []=>some ⟨[.agg [.vec .u64 80 kTab]],[],none⟩
 |_=>none
set_option maxRecDepth 4000 in
theorem rounds_sound:CSound 137 (cfA gRounds):=cfR_sound TY3ok OPS3 Tryz.func137 (by kernel_rfl) rfl (rs:= [.cell 0 186]) Tryz.results137 fun l g h hp=>by
 unfold gRounds at h
 split at h
 ·cases h;exact ⟨Nat.le_of_ble_eq_true rfl,rfl,rfl,rfl,vcRounds⟩
 ·cases h
def CT1:Nat→Option CF:=ctOf [(90,cfA gCat),(95,cfA gBig),(137,cfA gRounds),(138,cfA gStart),(139,cfA gGetBig),(140,cfA gRot64),(143,cfA gFill),(219,cfA gRot)]
def mapI {α:Type} (d:α) (n:Nat) (f:Nat→α) (old:List α) (i:Nat):List α:=(List.range n).map fun j=>if j<i then f j else old.getD j d
section
variable {α:Type} {d:α} {n:Nat} {f:Nat→α} {old:List α}
theorem mapI_len (i:Nat):(mapI d n f old i).length=n:=by simp [mapI]
theorem mapI_get {i j:Nat} (h:j<n):(mapI d n f old i).getD j d=if j<i then f j else old.getD j d:=by
 simp [mapI,List.getD_eq_getElem?_getD,h]
theorem mapI_0 (h:old.length=n):mapI d n f old 0=old:=by
 apply List.ext_getElem (by simp [mapI,h])
 intro j h1 h2
 simp [mapI,List.getD_eq_getElem?_getD,h2]
theorem mapI_set {i:Nat}:(mapI d n f old i).set i (f i)=mapI d n f old (i+1):=by
 apply List.ext_getElem (by simp [mapI])
 intro j h1 h2
 rw [List.getElem_set]
 by_cases e:i=j
 ·subst e;simp [mapI]
 ·rw [if_neg e]
  simp only [mapI,List.getElem_map,List.getElem_range]
  by_cases e2:j<i
  ·rw [if_pos e2,if_pos (by omega)]
  ·rw [if_neg e2,if_neg (by omega)]
theorem mapI_end {i:Nat} (h:n≤i):mapI d n f old i=(List.range n).map f:=by
 apply List.map_congr_left
 intro j hj
 rw [List.mem_range] at hj
 rw [if_pos (by omega)]
end
theorem beI_eq (x:UInt64) (n:Nat):bigI x n n=(leB n x.toNat).reverse:=by
 apply List.ext_getElem (by simp [bigI,leB_len])
 intro j h1 h2
 simp only [bigI_len] at h1
 rw [List.getElem_reverse,leB_get]
 simp only [bigI,List.getElem_map,List.getElem_range,leB_len]
 rw [if_pos (by omega),ush,UInt64.toUInt8_ofNat']
theorem gb_eq (l:List UInt8):∀n,n≤8→n≤l.length→(gb l n).toNat=leN (l.take n).reverse∧leN (l.take n).reverse<256^n
 |0,_,_=>⟨rfl,by simp [leN]⟩
 |n+1,h8,h=>by
  obtain ⟨h1,h2⟩:=gb_eq l n (by omega) (by omega)
  have e:leN (l.take (n+1)).reverse=(l.getD n 0).toNat+256*leN (l.take n).reverse:=by
   rw [List.take_add_one,List.getElem?_eq_getElem (by omega),List.getD_eq_getElem?_getD,List.getElem?_eq_getElem (by omega),List.reverse_append]
   rfl
  have hb:=(l.getD n 0).toNat_lt
  have hp:256^(n+1)≤256^8:=Nat.pow_le_pow_right (by omega) h8
  have hl:leN (l.take (n+1)).reverse<256^(n+1):=by
   rw [e,Nat.pow_succ];omega
  refine ⟨?_,hl⟩
  rw [gb,if_pos (by omega),UInt64.toNat_or,usl,h1,UInt64.toNat_ofNat',UInt8.toNat_toUInt64]
  have e2:leN (l.take n).reverse*2^8%2^64=leN (l.take n).reverse*2^8:=Nat.mod_eq_of_lt (by rw [Nat.pow_succ] at hp hl;omega)
  rw [e2,e,←Nat.shiftLeft_eq,←Nat.shiftLeft_add_eq_or_of_lt (by simpa using hb),Nat.shiftLeft_eq]
  omega
theorem gb8 {l:List UInt8} (h:l.length=8):gb l 8=beW l:=by
 have:=gb_eq l 8 (by omega) (by omega)
 rw [List.take_of_length_le (by omega)] at this
 exact UInt64.toNat_inj.1 (by rw [this.1,beW,UInt64.toNat_ofNat',Nat.mod_eq_of_lt this.2])
theorem gb4 {l:List UInt8} (h:l.length=4):(gb l 4).toUInt32=beV l:=by
 have:=gb_eq l 4 (by omega) (by omega)
 rw [List.take_of_length_le (by omega)] at this
 refine UInt32.toNat_inj.1 ?_
 rw [UInt64.toNat_toUInt32,this.1,beV,UInt32.toNat_ofNat']
theorem hi_eq (x:UInt64):(ush x 32).toUInt32=hi32 x:=by
 refine UInt32.toNat_inj.1 ?_
 rw [UInt64.toNat_toUInt32,ush,UInt64.toNat_ofNat',hi32,UInt32.toNat_ofNat']
 have:=x.toNat_lt
 omega
theorem range_getD {α:Type} {d:α} {l:List α} {n:Nat} (h:l.length=n):((List.range n).map fun i=>l.getD i d)=l:=by
 apply List.ext_getElem (by simp [h])
 intro j h1 h2
 simp [List.getD_eq_getElem?_getD,h2]
theorem map_getD {α β:Type} {d:α} {e:β} {l:List α} {f:α→β} {i:Nat} (h:i<l.length):(l.map f).getD i e=f (l.getD i d):=by
 simp [List.getD_eq_getElem?_getD,h]
theorem rangeMap_getD {α:Type} {d:α} {f:Nat→α} {n i:Nat} (h:i<n):((List.range n).map f).getD i d=f i:=by
 simp [List.getD_eq_getElem?_getD,h]
theorem range_flat {α:Type} (f:Nat→List α) (n:Nat):((List.range (n+1)).map f).flatten=((List.range n).map f).flatten++f n:=by
 rw [List.range_succ];simp
theorem sd {p q:Prop} (hq:q) (hp:p:=by first |omega|exact And.intro (by omega) (by omega)|exact And.intro (by omega) (And.intro (by omega) (by omega))|exact And.intro (And.intro (by omega) (by omega)) (And.intro (by omega) (by omega))|exact And.intro (by decide) (by decide)|(dsimp only [loP,Nm.toInt];omega)|exact And.intro (And.intro (by decide) (by dsimp only [Nm.toInt];omega)) trivial|exact And.intro (by decide) (by dsimp only [Nm.toInt];omega)|(refine And.intro ?_ (And.intro ?_ (And.intro ?_ ?_))<;>omega)|(simp only [List.length_append,List.length_cons,List.length_nil,List.length_replicate,List.length_take,List.length_drop];omega)|exact Int.natCast_nonneg _):p∧q:=⟨hp,hq⟩
theorem sr {p q:Prop} (hq:q) (hp:p:=by rfl):p∧q:=⟨hp,hq⟩
theorem sj {ι:Type} {μ:ι→Nat} {i:ι} {P:ι→Prop} (j:ι) (h:P j) (hm:μ j<μ i:=by first |omega|(dsimp only;omega)):∃j,μ j<μ i∧P j:=⟨j,hm,h⟩
theorem OPD1:OpsOk TYD CT1:=opsOk TYDok (ctOk fun p hp=>by
 simp only [List.mem_cons,List.not_mem_nil,or_false] at hp
 rcases hp with rfl|rfl|rfl|rfl|rfl|rfl|rfl|rfl
 ·exact cat_sound
 ·exact big_sound
 ·exact rounds_sound
 ·exact start_sound
 ·exact getBig_sound
 ·exact rot64_sound
 ·exact fill_sound
 ·exact rot_sound)
def pad1 (b:List UInt8) (i:Nat):List UInt8:=b++128::List.replicate i 0
theorem pad1_len (b:List UInt8) (i:Nat):(pad1 b i).length=b.length+1+i:=by simp [pad1];omega
theorem pad1_succ (b:List UInt8) (i:Nat):pad1 b (i+1)=pad1 b i++ [0]:=by simp [pad1,List.replicate_succ']
theorem padV_eq (b:List UInt8):pad1 b ((119-b.length%64)%64)++bigI (UInt64.ofNat (b.length:Int).toNat*UInt64.ofNat 8) 8 8=padV b:=by
 unfold padV pad1
 rw [beI_eq,be8]
 refine congrArg (fun z=>_++(leB 8 z).reverse) ?_
 rw [UInt64.toNat_mul,UInt64.toNat_ofNat',UInt64.toNat_ofNat',UInt64.toNat_ofNat',Int.toNat_natCast]
 omega
theorem be4_eq (x:UInt32):bigI x.toUInt64 4 4=be4 x:=by rw [beI_eq,be4,UInt32.toNat_toUInt64]
def hTw:List UInt32:=mapI 0 8 (fun j=>(ush (hTab.getD j 0) 32).toUInt32) (List.replicate 8 0) 8
theorem hTw_eq:hTw=hTv:=by decide +kernel
abbrev ws256 (b:List UInt8) (i:Nat):List UInt32:=wLv (wordsv ((padV b).drop (64*i))) 64
abbrev mw256 (b:List UInt8) (i j:Nat):List UInt32:=mapI 0 64 (at2 (ws256 b i)) (List.replicate 64 0) j
abbrev out256 (b:List UInt8) (k:Nat):List UInt8:=((List.range k).map fun i=>be4 (at2 (hSv (padV b) ((padV b).length/64)) i)).flatten
theorem out256_len (b:List UInt8) (k:Nat):(out256 b k).length=4*k:=by
 induction k with
 |zero=>rfl
 |succ k ih=>rw [out256,range_flat,List.length_append,ih,be4_len];omega
set_option maxRecDepth 4000 in
set_option maxHeartbeats 4000000 in
theorem vcSum256 (b:List UInt8) (hb:b.length≤8388608):vc TYD CT1 Tryz.f215.ntmps (bodyOf Tryz.f215) ⟨mkSl 0 [.one (.ro .u8 b)],[],2000⟩ (retK [2] [.one (.rw 0)] [(0,.row 5 .u8 (sha256 b))]):=by
 refine Or.inr ⟨Nat,fun i=>⟨[(6,.one (.ob .int (i:Int)))],[(2112,.blk 258 [.vec .u32 8 (mapI 0 8 (fun j=>(ush (hTab.getD j 0) 32).toUInt32) (List.replicate 8 0) i)])]⟩,fun i=>8-i,0,?_⟩
 refine ⟨rfl,rfl,mapI_0 (by simp),fun i=>⟨fun h1=> ?_,fun h1=> ?_⟩⟩
 ·have h1:=of_decide_eq_true h1
  exact sd<|sd<|sd<|sd<|sd<|sj (i+1)<|sr<|sr ⟨mapI_set.symm,trivial⟩
 have h1:=of_decide_eq_false h1
 rw [mapI_end (show 8≤i by omega),←mapI_end (old:=List.replicate 8 0) (d:=0) (i:=8) (by omega)]
 refine sd<|sd<|Or.inr ⟨{i:Nat // i≤(119-b.length%64)%64},fun i=>⟨[(7,.one (.rw 0))],[(0,.row 5 .u8 (pad1 b i.val))]⟩,fun i=>64-i.val,⟨0,by omega⟩,?_⟩
 refine ⟨rfl,fun i=>sd fun hl=>⟨fun h1=> ?_,fun h1=> ?_⟩⟩
 ·have h1:=of_decide_eq_true h1
  have hi:=i.2
  have hn:=pad1_len b i.val
  rw [hn] at h1
  have h2:i.val+1≤(119-b.length%64)%64:=by omega
  exact ⟨by simp [hn];omega,sj ⟨i.val+1,h2⟩ ⟨pad1_succ _ _,trivial⟩⟩
 have h1:=of_decide_eq_false h1
 have hi:=i.2
 have hn:=pad1_len b i.val
 have hp:=padV_len b
 have hi2:i.val=(119-b.length%64)%64:=by rw [hn] at h1;omega
 rw [hi2] at hn ⊢
 have e:=padV_eq b
 refine sd<|sd ⟨?_,fun hl=> ?_⟩
 ·show (pad1 b ((119-b.length%64)%64)++bigI (UInt64.ofNat (b.length:Int).toNat*UInt64.ofNat 8) 8 8).length≤_
  rw [e];omega
 refine Or.inr ⟨{i:Nat // 64*i≤(padV b).length},fun i=>⟨[(8,.one (.ob .int ((64*i.val:Nat):Int)))],[(2112,.blk 258 [.vec .u32 8 (hSv (padV b) i.val)]),(4432,.row 5 .u8 (padV b))]⟩,fun i=>8388800-i.val,⟨0,by omega⟩,?_⟩
 refine ⟨rfl,rfl,hTw_eq.symm,e.symm,fun i hl2=>⟨fun h1=> ?_,fun h1=> ?_⟩⟩
 ·have h1:=of_decide_eq_true h1
  have hi:=i.2
  obtain ⟨i,hi0⟩:=i
  dsimp only at hi h1 ⊢
  have hl64:64*i+64≤(padV b).length:=by rw [hp] at h1 ⊢;omega
  refine Or.inr ⟨{j:Nat // j≤16},fun j=>⟨[(10,.one (.ob .int (j.val:Int)))],[(5544,.blk 259 [.vec .u32 64 (mw256 b i j.val)])]⟩,fun j=>16-j.val,⟨0,by omega⟩,?_⟩
  refine ⟨rfl,rfl,mapI_0 (by simp),fun j=>⟨fun h1=> ?_,fun h1=> ?_⟩⟩
  ·have h1:=of_decide_eq_true h1
   have hj:=j.2
   repeat refine sd ?_
   refine sj ⟨j.val+1,by omega⟩<|sr<|sr ⟨?_,trivial⟩
   refine (congrArg (fun z=>(mw256 b i j.val).set j.val z) ?_).trans mapI_set |>.symm
   have e1:((64*i:Nat):Int)+4*(j.val:Int)+4=((64*i+4*j.val+4:Nat):Int):=by omega
   have e2:((64*i:Nat):Int)+4*(j.val:Int)=((64*i+4*j.val:Nat):Int):=by omega
   show (gb (List.take (Int.toNat (((64*i:Nat):Int)+4*(j.val:Int)+4)-Int.toNat (((64*i:Nat):Int)+4*(j.val:Int))) (List.drop (Int.toNat (((64*i:Nat):Int)+4*(j.val:Int))) (padV b))) 4).toUInt32=_
   rw [e1,e2,Int.toNat_natCast,Int.toNat_natCast,show 64*i+4*j.val+4-(64*i+4*j.val)=4 by omega,gb4 (by rw [List.length_take,List.length_drop];omega),wLv_lo _ (by omega)]
   unfold at2 wordsv
   rw [rangeMap_getD (by omega),List.drop_drop]
  have h1:=of_decide_eq_false h1
  have hj:=j.2
  rw [show j.val=16 by omega]
  refine Or.inr ⟨{j:Nat // 16≤j∧j≤64},fun j=>⟨[(11,.one (.ob .int (j.val:Int)))],[(5544,.blk 259 [.vec .u32 64 (mw256 b i j.val)])]⟩,fun j=>64-j.val,⟨16,by omega,by omega⟩,?_⟩
  refine ⟨rfl,rfl,rfl,fun j=>⟨fun h1=> ?_,fun h1=> ?_⟩⟩
  ·have h1:=of_decide_eq_true h1
   have hj:=j.2
   have k:=fun m (h0:0<m) (hm:m≤16)=>show (mw256 b i j.val).getD (Int.toNat ((j.val:Int)-(m:Nat))) 0=at2 (ws256 b i) (j.val-m) by rw [show Int.toNat ((j.val:Int)-(m:Nat))=j.val-m by omega,mapI_get (by omega),if_pos (by omega)]
   repeat refine sd ?_
   refine sj ⟨j.val+1,by omega⟩<|sr<|sr ⟨?_,trivial⟩
   refine (congrArg (fun z=>(mw256 b i j.val).set j.val z) ?_).trans mapI_set |>.symm
   rw [wLv_hi _ hj.1 (by omega),←k 16 (by omega) (by omega),←k 15 (by omega) (by omega),←k 7 (by omega) (by omega),←k 2 (by omega) (by omega)]
   rfl
  have h1:=of_decide_eq_false h1
  have hj:=j.2
  rw [show j.val=64 by omega,show mw256 b i 64=ws256 b i from (mapI_end (by omega)).trans (range_getD (wLv_len _ _))]
  refine Or.inr ⟨{t:Nat // t≤64},fun t=>⟨[(15,.one (.ob .int (t.val:Int)))],[(7672,.blk 258 [.vec .u32 8 (rLv (hSv (padV b) i) (ws256 b i) t.val)])]⟩,fun t=>64-t.val,⟨0,by omega⟩,?_⟩
  refine ⟨rfl,rfl,rfl,fun t=>⟨fun h1=> ?_,fun h1=> ?_⟩⟩
  ·have h1:=of_decide_eq_true h1
   have ht:=t.2
   repeat refine sd ?_
   refine sj ⟨t.val+1,by omega⟩<|sr<|sr ⟨?_,trivial⟩
   have e3:at2 kTv t.val=(ush (kTab.getD t.val 0) 32).toUInt32:=by
    unfold at2 kTv
    rw [map_getD (d:=0) (by rw [List.length_take,kTab_len];omega),hi_eq]
    simp [List.getD_eq_getElem?_getD,show t.val<64 by omega]
   show rndv _ (at2 kTv t.val) _=_
   rw [e3]
   rfl
  have h1:=of_decide_eq_false h1
  have ht:=t.2
  rw [show t.val=64 by omega]
  refine Or.inr ⟨{t:Nat // t≤8},fun t=>⟨[(20,.one (.ob .int (t.val:Int)))],[(2112,.blk 258 [.vec .u32 8 (mapI 0 8 (fun j=>vp (at2 (hSv (padV b) i) j) (at2 (rLv (hSv (padV b) i) (ws256 b i) 64) j)) (hSv (padV b) i) t.val)])]⟩,fun t=>8-t.val,⟨0,by omega⟩,?_⟩
  refine ⟨rfl,rfl,mapI_0 (hSv_len _ _),fun t=>⟨fun h1=> ?_,fun h1=> ?_⟩⟩
  ·have h1:=of_decide_eq_true h1
   have ht:=t.2
   repeat refine sd ?_
   refine sj ⟨t.val+1,by omega⟩<|sr<|sr ⟨?_,trivial⟩
   refine (congrArg (fun z=>(mapI 0 8 (fun j=>vp (at2 (hSv (padV b) i) j) (at2 (rLv (hSv (padV b) i) (ws256 b i) 64) j)) (hSv (padV b) i) t.val).set t.val z) ?_).trans mapI_set |>.symm
   show vp ((mapI 0 8 _ (hSv (padV b) i) t.val).getD t.val 0) _=_
   rw [mapI_get (by omega),if_neg (by omega)]
   rfl
  have h1:=of_decide_eq_false h1
  have ht:=t.2
  rw [show t.val=8 by omega,mapI_end (by omega)]
  repeat refine sd ?_
  refine ⟨⟨i+1,by omega⟩,(by show 8388800-(i+1)<8388800-i;omega),?_,rfl,rfl,rfl,trivial⟩
  show [((64*(i+1):Nat):Int)]= [((64*i:Nat):Int)+64]
  exact congrArg (fun z=> [z]) (by omega)
 have h1:=of_decide_eq_false h1
 have hi:=i.2
 rw [show i.val=(padV b).length/64 by omega]
 refine Or.inr ⟨{t:Nat // t≤8},fun t=>⟨[(22,.one (.ob .int (t.val:Int))),(21,.one (.rw 0))],[(0,.row 5 .u8 (out256 b t.val))]⟩,fun t=>8-t.val,⟨0,by omega⟩,?_⟩
 refine ⟨rfl,rfl,fun t=>⟨fun h1=> ?_,fun h1=> ?_⟩⟩
 ·have h1:=of_decide_eq_true h1
  have ht:=t.2
  repeat refine sd ?_
  have e4:out256 b (t.val+1)=out256 b t.val++bigI (UInt32.toUInt64 ((hSv (padV b) ((padV b).length/64)).getD t.val 0)) 4 4:=by
   rw [be4_eq];exact range_flat _ _
  refine ⟨?_,sd<|sj ⟨t.val+1,by omega⟩<|sr ⟨e4,trivial⟩⟩
  have:=out256_len b (t.val+1)
  show (out256 b t.val++bigI (UInt32.toUInt64 ((hSv (padV b) ((padV b).length/64)).getD t.val 0)) 4 4).length≤_
  rw [←e4];omega
 have h1:=of_decide_eq_false h1
 have ht:=t.2
 refine ⟨?_,trivial⟩
 show sha256 b=out256 b t.val
 rw [show t.val=8 by omega]
 rfl
theorem ctCons {f:Nat} {C:CF} {l:List (Nat×CF)} (h:CSound f C) (hl:∀p∈l,CSound p.1 p.2):∀p∈(f,C)::l,CSound p.1 p.2:=fun p hp=>by
 rcases List.mem_cons.1 hp with rfl|hp
 ·exact h
 ·exact hl p hp
theorem sha256_len (l:List UInt8):(sha256 l).length=32:=out256_len l 8
def gSum256:GF:=fun l=>match l with
 | [.one (.ro .u8 b)]=>some ⟨[.one (.rw 0)],[(0,.row 5 .u8 (sha256 b))],some (b.length≤8388608)⟩
 |_=>none
theorem sum256_sound:CSound 215 (cfA gSum256):=cfA_sound OPD1 Tryz.func215 (by kernel_rfl) rfl (rs:= [2]) Tryz.results215 fun l g h hp=>by
 unfold gSum256 at h
 split at h
 ·cases h;exact ⟨Nat.le_of_ble_eq_true rfl,rfl,rfl,rfl,vcSum256 _ hp⟩
 ·cases h
def L1:List (Nat×CF):= [(90,cfA gCat),(95,cfA gBig),(137,cfA gRounds),(138,cfA gStart),(139,cfA gGetBig),(140,cfA gRot64),(143,cfA gFill),(219,cfA gRot)]
theorem L1ok:∀p∈L1,CSound p.1 p.2:=ctCons cat_sound<|ctCons big_sound<|ctCons rounds_sound<|ctCons start_sound<|ctCons getBig_sound<|ctCons rot64_sound<|ctCons fill_sound<|ctCons rot_sound fun p hp=>by cases hp
def L2:List (Nat×CF):=(215,cfA gSum256)::L1
theorem L2ok:∀p∈L2,CSound p.1 p.2:=ctCons sum256_sound L1ok
theorem OPD2:OpsOk TYD (ctOf L2):=opsOk TYDok (ctOk L2ok)
theorem map_range {α:Type} {d:α} {f:α→α} {l:List α} {n:Nat} (h:l.length=n):((List.range n).map fun j=>f (l.getD j d))=l.map f:=by
 apply List.ext_getElem (by simp [h])
 intro j h1 h2
 simp only [List.length_map] at h2
 simp [List.getD_eq_getElem?_getD,h2]
abbrev xorI (c:UInt8) (l:List UInt8) (i:Nat):List UInt8:=mapI 0 64 (fun j=>l.getD j 0^^^c) (List.replicate 64 0) i
theorem pad0_len {l:List UInt8} {n:Nat} (h:l.length≤n):(pad0 n l).length=n:=by simp [pad0];omega
set_option maxHeartbeats 1000000 in
theorem vcMac (k b:List UInt8) (h:k.length≤64∧b.length≤8388000):vc TYD (ctOf L2) Tryz.f192.ntmps (bodyOf Tryz.f192) ⟨mkSl 0 [.one (.ro .u8 k),.one (.ro .u8 b)],[],2000⟩ (retK [4] [.one (.rw 0)] [(0,.row 5 .u8 (hmac k b))]):=by
 refine fun hl=>⟨fun h1=> ?_,fun h1=> ?_⟩
 ·have h1:=of_decide_eq_true h1
  omega
 have hP:(pad0 64 k).length=64:=pad0_len h.1
 repeat refine sd ?_
 refine Or.inr ⟨{i:Nat // i≤64},fun i=>⟨[(8,.one (.ob .int (i.val:Int)))],[(2080,.row 5 .u8 (pad0 64 k)),(2112,.row 5 .u8 (xorI 0x36 (pad0 64 k) i.val)),(2144,.row 5 .u8 (xorI 0x5c (pad0 64 k) i.val))]⟩,fun i=>64-i.val,⟨0,by omega⟩,?_⟩
 refine ⟨rfl,?_,mapI_0 (by simp),mapI_0 (by simp),fun i=>⟨fun h1=> ?_,fun h1=> ?_⟩⟩
 ·show _=k.take 64++List.replicate (64-k.length) 0
  rw [List.take_of_length_le h.1];rfl
 ·have h1:=of_decide_eq_true h1
  have hi:=i.2
  have h2:(xorI 0x36 (pad0 64 k) i.val).length=64:=mapI_len _
  have h3:(xorI 0x5c (pad0 64 k) i.val).length=64:=mapI_len _
  repeat refine sd ?_
  exact sj ⟨i.val+1,by omega⟩<|sr<|sr<|⟨mapI_set.symm,mapI_set.symm,trivial⟩
 have h1:=of_decide_eq_false h1
 have hi:=i.2
 rw [show i.val=64 by omega,show xorI 0x36 (pad0 64 k) 64=(pad0 64 k).map (· ^^^0x36) from (mapI_end (by omega)).trans (map_range (d:=0) (f:=fun x=>x^^^0x36) hP),show xorI 0x5c (pad0 64 k) 64=(pad0 64 k).map (· ^^^0x5c) from (mapI_end (by omega)).trans (map_range (d:=0) (f:=fun x=>x^^^0x5c) hP)]
 have e1: [(pad0 64 k).map (· ^^^0x36),b].flatten=(pad0 64 k).map (· ^^^0x36)++b:=by simp
 have e2: [(pad0 64 k).map (· ^^^0x5c),sha256 [(pad0 64 k).map (· ^^^0x36),b].flatten].flatten=(pad0 64 k).map (· ^^^0x5c)++sha256 ((pad0 64 k).map (· ^^^0x36)++b):=by simp
 have g1:=congrArg List.length e1
 have g2:=congrArg List.length e2
 rw [List.length_append,List.length_map,hP] at g1
 rw [List.length_append,List.length_map,hP,sha256_len] at g2
 refine ⟨⟨Nat.le_of_ble_eq_true rfl,by rw [g1];omega⟩,by rw [g1];omega,⟨Nat.le_of_ble_eq_true rfl,by rw [g2];omega⟩,by rw [g2];omega,?_,trivial⟩
 show _=sha256 [(pad0 64 k).map (· ^^^0x5c),sha256 [(pad0 64 k).map (· ^^^0x36),b].flatten].flatten
 rw [e2]
 unfold hmac hmKey
 rw [if_neg (by omega)]
def gMac:GF:=fun l=>match l with
 | [.one (.ro .u8 k),.one (.ro .u8 b)]=>some ⟨[.one (.rw 0)],[(0,.row 5 .u8 (hmac k b))],some (k.length≤64∧b.length≤8388000)⟩
 |_=>none
theorem mac_sound:CSound 192 (cfA gMac):=cfA_sound OPD2 Tryz.func192 (by kernel_rfl) rfl (rs:= [4]) Tryz.results192 fun l g h hp=>by
 unfold gMac at h
 split at h
 ·cases h;exact ⟨Nat.le_of_ble_eq_true rfl,rfl,rfl,rfl,vcMac _ _ hp⟩
 ·cases h
def L3:List (Nat×CF):=(192,cfA gMac)::L2
theorem L3ok:∀p∈L3,CSound p.1 p.2:=ctCons mac_sound L2ok
theorem OPD3:OpsOk TYD (ctOf L3):=opsOk TYDok (ctOk L3ok)
theorem hmac_len (k m:List UInt8):(hmac k m).length=32:=sha256_len _
theorem hkT_len (k m:List UInt8) (i:Nat):(hkT k m i).length≤32:=by
 cases i with
 |zero=>exact Nat.zero_le _
 |succ i=>exact Nat.le_of_eq (hmac_len _ _)
theorem hkO_len (k m:List UInt8):∀i,(hkO k m i).length=32*i
 |0=>rfl
 |i+1=>by
  rw [hkO,List.length_append,hkO_len k m i,hkT,hmac_len];omega
theorem vcExpand (k b:List UInt8) (n:Int) (h:k.length≤64∧b.length≤65536∧1≤n∧n≤8160):vc TYD (ctOf L3) Tryz.f191.ntmps (bodyOf Tryz.f191) ⟨mkSl 0 [.one (.ro .u8 k),.one (.ro .u8 b),.one (.ob .int n)],[],2000⟩ (retK [6] [.one (.sub 0 0 n.toNat)] [(0,.row 5 .u8 (hkO k b ((n.toNat+31)/32)))]):=by
 refine ⟨fun h1=> ?_,fun h1=>⟨h1,fun h2=> ?_,fun h2=> ?_⟩⟩
 ·have h1:=of_decide_eq_true h1;omega
 ·have h2:=of_decide_eq_true h2;omega
 refine Or.inr ⟨{i:Nat // i≤(n.toNat+31)/32},fun i=>⟨[(7,.one (.rw 0)),(8,.one (.rw 1)),(9,.one (.ob .int ((i.val:Int)+1)))],[(0,.row 5 .u8 (hkO k b i.val)),(1,.row 5 .u8 (hkT k b i.val))]⟩,fun i=>300-i.val,⟨0,by omega⟩,?_⟩
 refine ⟨rfl,rfl,rfl,fun i hl=>⟨fun h3=> ?_,fun h3=> ?_⟩⟩
 ·have h3:=of_decide_eq_true h3
  have hi:=i.2
  have e1:=hkO_len k b i.val
  have e2:=hkT_len k b i.val
  have e3: [hkT k b i.val,b,[UInt8.ofNat ((i.val:Int)+1).toNat]].flatten=hkT k b i.val++b++ [UInt8.ofNat (i.val+1)]:=by
   rw [show ((i.val:Int)+1).toNat=i.val+1 by omega];simp
  have e4:=congrArg List.length e3
  rw [List.length_append,List.length_append] at e4
  simp only [List.length_cons,List.length_nil] at e4
  have e5:hmac k [hkT k b i.val,b,[UInt8.ofNat ((i.val:Int)+1).toNat]].flatten=hkT k b (i.val+1):=by rw [e3];rfl
  refine ⟨by omega,⟨Nat.le_of_ble_eq_true rfl,by rw [e4];omega⟩,⟨h.1,by rw [e4];omega⟩,?_,sd<|sj ⟨i.val+1,by omega⟩ ⟨?_,?_,e5.symm,trivial⟩⟩
  ·show (hkO k b i.val++hmac k [hkT k b i.val,b,[UInt8.ofNat ((i.val:Int)+1).toNat]].flatten).length≤_
   rw [List.length_append,hmac_len];omega
  ·show [((i.val+1:Nat):Int)+1]= [(i.val:Int)+1+1]
   simp
  ·show hkO k b (i.val+1)=hkO k b i.val++hmac k [hkT k b i.val,b,[UInt8.ofNat ((i.val:Int)+1).toNat]].flatten
   rw [e5];rfl
 have h3:=of_decide_eq_false h3
 have hi:=i.2
 have e1:=hkO_len k b i.val
 have e2:(n.toNat+31)/32=i.val:=by omega
 refine ⟨⟨⟨by show 0≤n;omega,by show n≤_;omega⟩,trivial⟩,rfl,rfl,?_,trivial⟩
 exact congrArg (hkO k b) e2
def gExpand:GF:=fun l=>match l with
 | [.one (.ro .u8 k),.one (.ro .u8 b),.one (.ob .int n)]=>some ⟨[.one (.sub 0 0 n.toNat)],[(0,.row 5 .u8 (hkO k b ((n.toNat+31)/32)))],some (k.length≤64∧b.length≤65536∧InR 1 n 8160)⟩
 |_=>none
theorem expand_sound:CSound 191 (cfA gExpand):=cfA_sound OPD3 Tryz.func191 (by kernel_rfl) rfl (rs:= [6]) Tryz.results191 fun l g h hp=>by
 unfold gExpand at h
 split at h
 ·cases h;exact ⟨Nat.le_of_ble_eq_true rfl,rfl,rfl,rfl,vcExpand _ _ _ hp⟩
 ·cases h
def L4:List (Nat×CF):=(191,cfA gExpand)::L3
theorem L4ok:∀p∈L4,CSound p.1 p.2:=ctCons expand_sound L3ok
theorem OPD4:OpsOk TYD (ctOf L4):=opsOk TYDok (ctOk L4ok)
theorem vcDerive (s k b:List UInt8) (n:Int) (h:s.length≤64∧k.length≤65536∧b.length≤65536∧1≤n∧n≤8160):vc TYD (ctOf L4) Tryz.f136.ntmps (bodyOf Tryz.f136) ⟨mkSl 0 [.one (.ro .u8 s),.one (.ro .u8 k),.one (.ro .u8 b),.one (.ob .int n)],[],2000⟩ (retK [8] [.one (.sub 0 0 n.toNat)] [(0,.row 5 .u8 (hkO (hmac s k) b ((n.toNat+31)/32)))]):=by
 have:=hmac_len s k
 exact sd<|sd ⟨rfl,rfl,rfl,trivial⟩
def gDerive:GF:=fun l=>match l with
 | [.one (.ro .u8 s),.one (.ro .u8 k),.one (.ro .u8 b),.one (.ob .int n)]=>some ⟨[.one (.sub 0 0 n.toNat)],[(0,.row 5 .u8 (hkO (hmac s k) b ((n.toNat+31)/32)))],some (s.length≤64∧k.length≤65536∧b.length≤65536∧InR 1 n 8160)⟩
 |_=>none
theorem derive_sound:CSound 136 (cfA gDerive):=cfA_sound OPD4 Tryz.func136 (by kernel_rfl) rfl (rs:= [8]) Tryz.results136 fun l g h hp=>by
 unfold gDerive at h
 split at h
 ·cases h;exact ⟨Nat.le_of_ble_eq_true rfl,rfl,rfl,rfl,vcDerive _ _ _ _ hp⟩
 ·cases h
def mapP {α:Type} (d:α) (n:Nat) (f:Nat→α) (old:List α) (P:Nat→Bool):List α:=(List.range n).map fun j=>if P j then f j else old.getD j d
section
variable {α:Type} {d:α} {n:Nat} {f:Nat→α} {old:List α} {P Q:Nat→Bool}
theorem mapP_get {j:Nat} (h:j<n):(mapP d n f old P).getD j d=if P j then f j else old.getD j d:=by
 simp [mapP,List.getD_eq_getElem?_getD,h]
theorem mapP_none (h:old.length=n) (hP:∀j,j<n→P j=false):mapP d n f old P=old:=by
 apply List.ext_getElem (by simp [mapP,h])
 intro j h1 h2
 simp [mapP,List.getD_eq_getElem?_getD,h2,hP j (by omega)]
theorem mapP_all (hP:∀j,j<n→P j=true):mapP d n f old P=(List.range n).map f:=by
 apply List.map_congr_left
 intro j hj
 rw [List.mem_range] at hj
 rw [if_pos (hP j hj)]
theorem mapP_set {i:Nat} (hQ:∀j,j<n→Q j=(decide (j=i)||P j)) {x:α} (hx:x=f i):(mapP d n f old P).set i x=mapP d n f old Q:=by
 subst hx
 apply List.ext_getElem (by simp [mapP])
 intro j h1 h2
 have hj:j<n:=by simpa [mapP] using h2
 rw [List.getElem_set]
 simp only [mapP,List.getElem_map,List.getElem_range,hQ j hj]
 by_cases e:i=j
 ·subst e;simp
 ·rw [if_neg e];simp [show j≠i from fun h=>e h.symm]
theorem mapP_congr (hQ:∀j,j<n→Q j=P j):mapP d n f old P=mapP d n f old Q:=by
 apply List.map_congr_left
 intro j hj
 rw [List.mem_range] at hj
 rw [hQ j hj]
end
def kC (A:List UInt64) (x:Nat):UInt64:=at0 A x^^^at0 A (x+5)^^^at0 A (x+10)^^^at0 A (x+15)^^^at0 A (x+20)
def kD (A:List UInt64) (x:Nat):UInt64:=kC A ((x+4)%5)^^^(usl (kC A ((x+1)%5)) 1|||ush (kC A ((x+1)%5)) 63)
def thetaL (A:List UInt64):List UInt64:=(List.range 25).map fun k=>at0 A k^^^kD A (k%5)
def rT (t:Nat):Nat:=(t+1)*(t+2)/2%64
def rpS (A:List UInt64):Nat→(Nat×Nat)×List UInt64
 |0=>((1,0),(List.replicate 25 0).set 0 (at0 A 0))
 |t+1=>(((rpS A t).1.2,(2*(rpS A t).1.1+3*(rpS A t).1.2)%5),(rpS A t).2.set ((rpS A t).1.2+5*((2*(rpS A t).1.1+3*(rpS A t).1.2)%5)) (usl (at0 A ((rpS A t).1.1+5*(rpS A t).1.2)) (rT t)|||ush (at0 A ((rpS A t).1.1+5*(rpS A t).1.2)) (64-rT t)))
theorem rpS_lt (A:List UInt64):∀t,(rpS A t).1.1<5∧(rpS A t).1.2<5
 |0=>⟨by simp [rpS],by simp [rpS]⟩
 |t+1=>⟨(rpS_lt A t).2,Nat.mod_lt _ (by omega)⟩
theorem rT_pos:∀t,t<24→0<rT t∧(t+1)*(t+2)≤1000:=by decide
theorem rp_nat (x y:Nat):((y:Int)+5*((2*(x:Int)+3*(y:Int))%5)).toNat=y+5*((2*x+3*y)%5):=by
 rw [show 2*(x:Int)+3*(y:Int)=((2*x+3*y:Nat):Int) by omega]
 generalize 2*x+3*y=m
 omega
def rhoPi (A:List UInt64):List UInt64:=(rpS A 24).2
def chiL (B:List UInt64):List UInt64:=(List.range 25).map fun k=>at0 B k^^^(~~~at0 B ((k%5+1)%5+5*(k/5))&&&at0 B ((k%5+2)%5+5*(k/5)))
def lfS (l:UInt8):UInt8:=if r8 l 7=1 then s8 l 1^^^113 else s8 l 1
def iotaS (A:List UInt64) (l:UInt8):Nat→List UInt64×UInt8
 |0=>(A,l)
 |j+1=>(if (iotaS A l j).2&&&1=1 then (iotaS A l j).1.set 0 (at0 (iotaS A l j).1 0^^^usl 1 (usl 1 j-1).toNat) else (iotaS A l j).1,lfS (iotaS A l j).2)
def kRound (s:List UInt64×UInt8):List UInt64×UInt8:=iotaS (chiL (rhoPi (thetaL s.1))) s.2 7
def kSt (A:List UInt64):Nat→List UInt64×UInt8
 |0=>(A,1)
 |i+1=>kRound (kSt A i)
def permuteL (A:List UInt64):List UInt64:=(kSt A 24).1
theorem iotaS_len {A:List UInt64} {l:UInt8} (h:A.length=25):∀j,(iotaS A l j).1.length=25
 |0=>h
 |j+1=>by
  simp only [iotaS]
  split
  ·rw [List.length_set];exact iotaS_len h j
  ·exact iotaS_len h j
theorem kSt_len {A:List UInt64} (h:A.length=25):∀i,(kSt A i).1.length=25
 |0=>h
 |i+1=>iotaS_len (by simp [chiL]) 7
theorem permuteL_len {A:List UInt64} (h:A.length=25):(permuteL A).length=25:=kSt_len h 24
abbrev thP (A:List UInt64) (x y:Nat):List UInt64:=mapP 0 25 (fun k=>at0 A k^^^kD A (k%5)) A fun k=>decide (k%5<x)||(decide (k%5=x)&&decide (k/5<y))
abbrev chP (A B:List UInt64) (y x:Nat):List UInt64:=mapP 0 25 (fun k=>at0 B k^^^(~~~at0 B ((k%5+1)%5+5*(k/5))&&&at0 B ((k%5+2)%5+5*(k/5)))) A fun k=>decide (k/5<y)||(decide (k/5=y)&&decide (k%5<x))
set_option maxRecDepth 10000 in
set_option maxHeartbeats 10000000 in
theorem vcPermute (A:List UInt64) (hA:A.length=25):vc TYD (ctOf L3) Tryz.f216.ntmps (bodyOf Tryz.f216) ⟨mkSl 0 [.agg [.vec .u64 25 A]],[],2000⟩ (retR TYD Tryz.f216.ntmps [.cell 2 252] [.agg [.vec .u64 25 (permuteL A)]] []):=by
 refine Or.inr ⟨{i:Nat // i≤24},fun i=>⟨[(4,.one (.ob .int (i.val:Int))),(3,.one (.ob .u8 (kSt A i.val).2))],[(2000,.blk 252 [.vec .u64 25 (kSt A i.val).1])]⟩,fun i=>24-i.val,⟨0,by omega⟩,?_⟩
 refine ⟨rfl,rfl,rfl,rfl,fun i=>⟨fun h1=> ?_,fun h1=> ?_⟩⟩
 ·have h1:=of_decide_eq_true h1
  have hi:=i.2
  have hS:=kSt_len hA i.val
  have hR:kSt A (i.val+1)=kRound (kSt A i.val):=rfl
  revert hS hR
  generalize kSt A i.val=S
  intro hS hR
  refine Or.inr ⟨{x:Nat // x≤5},fun x=>⟨[(6,.one (.ob .int (x.val:Int)))],[(3096,.blk 112 [.vec .u64 5 (mapI 0 5 (kC S.1) (List.replicate 5 0) x.val)])]⟩,fun x=>5-x.val,⟨0,by omega⟩,?_⟩
  refine ⟨rfl,rfl,mapI_0 (by simp),fun x=>⟨fun h1=> ?_,fun h1=> ?_⟩⟩
  ·have h1:=of_decide_eq_true h1
   have hx:=x.2
   repeat refine sd ?_
   exact sj ⟨x.val+1,by omega⟩<|sr<|sr ⟨mapI_set.symm,trivial⟩
  have h1:=of_decide_eq_false h1
  have hx:=x.2
  rw [show x.val=5 by omega,mapI_end (by omega)]
  refine Or.inr ⟨{x:Nat // x≤5},fun x=>⟨[(7,.one (.ob .int (x.val:Int)))],[(2000,.blk 252 [.vec .u64 25 (thP S.1 x.val 0)])]⟩,fun x=>5-x.val,⟨0,by omega⟩,?_⟩
  refine ⟨rfl,rfl,mapP_none hS (fun j _=>by simp),fun x=>⟨fun h1=> ?_,fun h1=> ?_⟩⟩
  ·have h1:=of_decide_eq_true h1
   have hx:=x.2
   repeat refine sd ?_
   refine Or.inr ⟨{y:Nat // y≤5},fun y=>⟨[(9,.one (.ob .int (y.val:Int)))],[(2000,.blk 252 [.vec .u64 25 (thP S.1 x.val y.val)])]⟩,fun y=>5-y.val,⟨0,by omega⟩,?_⟩
   refine ⟨rfl,rfl,rfl,fun y=>⟨fun h2=> ?_,fun h2=> ?_⟩⟩
   ·have h2:=of_decide_eq_true h2
    have hy:=y.2
    have e1:((x.val:Int)+5*(y.val:Int)).toNat=x.val+5*y.val:=by omega
    repeat refine sd ?_
    refine sj ⟨y.val+1,by omega⟩<|sr<|sr ⟨?_,trivial⟩
    show thP S.1 x.val (y.val+1)=(thP S.1 x.val y.val).set ((x.val:Int)+5*(y.val:Int)).toNat ((thP S.1 x.val y.val).getD ((x.val:Int)+5*(y.val:Int)).toNat 0^^^_)
    rw [e1]
    refine (mapP_set (fun j hj=> ?_) ?_).symm
    ·rw [Bool.eq_iff_iff]
     simp only [Bool.or_eq_true,Bool.and_eq_true,decide_eq_true_eq]
     omega
    ·rw [mapP_get (by omega),if_neg (by simp;omega)]
     show at0 S.1 _^^^(((List.range 5).map (kC S.1)).getD (((x.val:Int)+4)%5).toNat 0^^^(usl (((List.range 5).map (kC S.1)).getD (((x.val:Int)+1)%5).toNat 0) 1|||ush (((List.range 5).map (kC S.1)).getD (((x.val:Int)+1)%5).toNat 0) 63))=_
     rw [show (((x.val:Int)+4)%5).toNat=(x.val+4)%5 by omega,show (((x.val:Int)+1)%5).toNat=(x.val+1)%5 by omega,rangeMap_getD (by omega),rangeMap_getD (by omega),show (x.val+5*y.val)%5=x.val by omega]
     rfl
   have h2:=of_decide_eq_false h2
   have hy:=y.2
   repeat refine sd ?_
   refine sj ⟨x.val+1,by omega⟩<|sr<|⟨rfl,mapP_congr fun j hj=> ?_,trivial⟩
   rw [Bool.eq_iff_iff]
   simp only [Bool.or_eq_true,Bool.and_eq_true,decide_eq_true_eq]
   omega
  have h1:=of_decide_eq_false h1
  have hx:=x.2
  rw [show x.val=5 by omega,show thP S.1 5 0=thetaL S.1 from mapP_all fun j hj=>by simp;omega]
  have hT:(thetaL S.1).length=25:=by simp [thetaL]
  revert hT
  have hR2:kRound S=iotaS (chiL (rhoPi (thetaL S.1))) S.2 7:=rfl
  rw [hR2] at hR
  revert hR
  generalize thetaL S.1=T
  intro hR hT
  refine Or.inr ⟨{t:Nat // t≤24},fun t=>⟨[(13,.one (.ob .int (t.val:Int))),(11,.one (.ob .int ((rpS T t.val).1.1:Int))),(12,.one (.ob .int ((rpS T t.val).1.2:Int)))],[(5208,.blk 252 [.vec .u64 25 (rpS T t.val).2])]⟩,fun t=>24-t.val,⟨0,by omega⟩,?_⟩
  refine ⟨rfl,rfl,rfl,rfl,rfl,fun t=>⟨fun h1=> ?_,fun h1=> ?_⟩⟩
  ·have h1:=of_decide_eq_true h1
   have ht:=t.2
   obtain ⟨hx,hy⟩:=rpS_lt T t.val
   obtain ⟨hn,hm⟩:=rT_pos t.val (by omega)
   have hm2:((t.val:Int)+1)*((t.val:Int)+2)=(((t.val+1)*(t.val+2):Nat):Int):=by simp
   have hn2:((t.val:Int)+1)*((t.val:Int)+2)/2%64=((rT t.val:Nat):Int):=by rw [hm2];unfold rT;omega
   have hs:rpS T (t.val+1)=(((rpS T t.val).1.2,(2*(rpS T t.val).1.1+3*(rpS T t.val).1.2)%5),(rpS T t.val).2.set ((rpS T t.val).1.2+5*((2*(rpS T t.val).1.1+3*(rpS T t.val).1.2)%5)) (usl (at0 T ((rpS T t.val).1.1+5*(rpS T t.val).1.2)) (rT t.val)|||ush (at0 T ((rpS T t.val).1.1+5*(rpS T t.val).1.2)) (64-rT t.val))):=rfl
   repeat refine sd ?_
   refine ⟨fun h2=> ?_,fun h2=> ?_⟩
   ·repeat refine sd ?_
    have e1:(((rpS T t.val).1.1:Int)+5*((rpS T t.val).1.2:Int)).toNat=(rpS T t.val).1.1+5*(rpS T t.val).1.2:=by omega
    have e2:=rp_nat (rpS T t.val).1.1 (rpS T t.val).1.2
    refine sj ⟨t.val+1,by omega⟩<|sr<|sr ⟨congrArg (fun z:Int=> [z]) ?_,rfl,?_,trivial⟩
    ·show (((2*(rpS T t.val).1.1+3*(rpS T t.val).1.2)%5:Nat):Int)=(2*((rpS T t.val).1.1:Int)+3*((rpS T t.val).1.2:Int))%5
     omega
    ·show (rpS T (t.val+1)).2=(rpS T t.val).2.set (((rpS T t.val).1.2:Int)+5*((2*((rpS T t.val).1.1:Int)+3*((rpS T t.val).1.2:Int))%5)).toNat (usl (T.getD (((rpS T t.val).1.1:Int)+5*((rpS T t.val).1.2:Int)).toNat 0) (((t.val:Int)+1)*((t.val:Int)+2)/2%64).toNat|||ush (T.getD (((rpS T t.val).1.1:Int)+5*((rpS T t.val).1.2:Int)).toNat 0) (64-((t.val:Int)+1)*((t.val:Int)+2)/2%64).toNat)
     rw [hs,e1,e2,hn2,Int.toNat_natCast,show ((64:Int)-((rT t.val:Nat):Int)).toNat=64-rT t.val by omega]
     rfl
   ·have h2:=of_decide_eq_false h2
    omega
  have h1:=of_decide_eq_false h1
  have ht:=t.2
  rw [show t.val=24 by omega,show (rpS T 24).2=rhoPi T from rfl]
  refine Or.inr ⟨{y:Nat // y≤5},fun y=>⟨[(17,.one (.ob .int (y.val:Int)))],[(2000,.blk 252 [.vec .u64 25 (chP T (rhoPi T) y.val 0)])]⟩,fun y=>5-y.val,⟨0,by omega⟩,?_⟩
  refine ⟨rfl,rfl,(mapP_none hT fun j _=>by simp),fun y=>⟨fun h1=> ?_,fun h1=> ?_⟩⟩
  ·have h1:=of_decide_eq_true h1
   have hy:=y.2
   refine Or.inr ⟨{x:Nat // x≤5},fun x=>⟨[(18,.one (.ob .int (x.val:Int)))],[(2000,.blk 252 [.vec .u64 25 (chP T (rhoPi T) y.val x.val)])]⟩,fun x=>5-x.val,⟨0,by omega⟩,?_⟩
   refine ⟨rfl,rfl,rfl,fun x=>⟨fun h2=> ?_,fun h2=> ?_⟩⟩
   ·have h2:=of_decide_eq_true h2
    have hx:=x.2
    repeat refine sd ?_
    refine sj ⟨x.val+1,by omega⟩<|sr<|sr ⟨?_,trivial⟩
    show chP T (rhoPi T) y.val (x.val+1)=(chP T (rhoPi T) y.val x.val).set ((x.val:Int)+5*(y.val:Int)).toNat ((rhoPi T).getD ((x.val:Int)+5*(y.val:Int)).toNat 0^^^(~~~(rhoPi T).getD (((x.val:Int)+1)%5+5*(y.val:Int)).toNat 0&&&(rhoPi T).getD (((x.val:Int)+2)%5+5*(y.val:Int)).toNat 0))
    rw [show ((x.val:Int)+5*(y.val:Int)).toNat=x.val+5*y.val by omega,show (((x.val:Int)+1)%5+5*(y.val:Int)).toNat=(x.val+1)%5+5*y.val by omega,show (((x.val:Int)+2)%5+5*(y.val:Int)).toNat=(x.val+2)%5+5*y.val by omega]
    refine (mapP_set (fun j hj=> ?_) ?_).symm
    ·rw [Bool.eq_iff_iff]
     simp only [Bool.or_eq_true,Bool.and_eq_true,decide_eq_true_eq]
     omega
    ·rw [show (x.val+5*y.val)%5=x.val by omega,show (x.val+5*y.val)/5=y.val by omega]
     rfl
   have h2:=of_decide_eq_false h2
   have hx:=x.2
   repeat refine sd ?_
   refine sj ⟨y.val+1,by omega⟩<|sr<|⟨rfl,mapP_congr fun j hj=> ?_,trivial⟩
   rw [Bool.eq_iff_iff]
   simp only [Bool.or_eq_true,Bool.and_eq_true,decide_eq_true_eq]
   omega
  have h1:=of_decide_eq_false h1
  have hy:=y.2
  rw [show y.val=5 by omega,show chP T (rhoPi T) 5 0=chiL (rhoPi T) from mapP_all fun j hj=>by simp;omega]
  have hC:(chiL (rhoPi T)).length=25:=by simp [chiL]
  revert hC hR
  generalize chiL (rhoPi T)=C
  intro hR hC
  refine Or.inr ⟨{j:Nat // j≤7},fun j=>⟨[(19,.one (.ob .int (j.val:Int))),(3,.one (.ob .u8 (iotaS C S.2 j.val).2))],[(2000,.blk 252 [.vec .u64 25 (iotaS C S.2 j.val).1])]⟩,fun j=>7-j.val,⟨0,by omega⟩,?_⟩
  refine ⟨rfl,rfl,rfl,rfl,fun j=>⟨fun h1=> ?_,fun h1=> ?_⟩⟩
  ·have h1:=of_decide_eq_true h1
   have hj:=j.2
   have hj7:j.val<7:=by omega
   have hs:iotaS C S.2 (j.val+1)=(if (iotaS C S.2 j.val).2&&&1=1 then (iotaS C S.2 j.val).1.set 0 (at0 (iotaS C S.2 j.val).1 0^^^usl 1 (usl 1 j.val-1).toNat) else (iotaS C S.2 j.val).1,lfS (iotaS C S.2 j.val).2):=rfl
   refine ⟨fun h2=> ?_,fun h2=> ?_⟩
   ·have h2:(iotaS C S.2 j.val).2&&&1=1:=of_decide_eq_true h2
    repeat refine sd ?_
    refine ⟨fun h3=> ?_,fun h3=> ?_⟩
    ·have h3:r8 (iotaS C S.2 j.val).2 7=1:=of_decide_eq_true h3
     refine sd<|sj ⟨j.val+1,by omega⟩<|sr ⟨?_,rfl,?_,trivial⟩
     ·show [(iotaS C S.2 (j.val+1)).2]=_
      rw [hs,lfS,if_pos h3]
      rfl
     ·show (iotaS C S.2 (j.val+1)).1=_
      rw [hs,if_pos h2]
      rfl
    ·have h3:¬r8 (iotaS C S.2 j.val).2 7=1:=of_decide_eq_false h3
     refine sd<|sj ⟨j.val+1,by omega⟩<|sr ⟨?_,rfl,?_,trivial⟩
     ·show [(iotaS C S.2 (j.val+1)).2]=_
      rw [hs,lfS,if_neg h3]
      rfl
     ·show (iotaS C S.2 (j.val+1)).1=_
      rw [hs,if_pos h2]
      rfl
   ·have h2:¬(iotaS C S.2 j.val).2&&&1=1:=of_decide_eq_false h2
    refine ⟨fun h3=> ?_,fun h3=> ?_⟩
    ·have h3:r8 (iotaS C S.2 j.val).2 7=1:=of_decide_eq_true h3
     refine sd<|sj ⟨j.val+1,by omega⟩<|sr ⟨?_,rfl,?_,trivial⟩
     ·show [(iotaS C S.2 (j.val+1)).2]=_
      rw [hs,lfS,if_pos h3]
      rfl
     ·show (iotaS C S.2 (j.val+1)).1=_
      rw [hs,if_neg h2]
    ·have h3:¬r8 (iotaS C S.2 j.val).2 7=1:=of_decide_eq_false h3
     refine sd<|sj ⟨j.val+1,by omega⟩<|sr ⟨?_,rfl,?_,trivial⟩
     ·show [(iotaS C S.2 (j.val+1)).2]=_
      rw [hs,lfS,if_neg h3]
      rfl
     ·show (iotaS C S.2 (j.val+1)).1=_
      rw [hs,if_neg h2]
  have h1:=of_decide_eq_false h1
  have hj:=j.2
  rw [show j.val=7 by omega]
  repeat refine sd ?_
  refine sj ⟨i.val+1,by omega⟩<|sr ⟨?_,rfl,?_,trivial⟩
  ·show [(kSt A (i.val+1)).2]=_
   rw [hR]
  ·show (kSt A (i.val+1)).1=_
   rw [hR]
 have h1:=of_decide_eq_false h1
 have hi:=i.2
 rw [show i.val=24 by omega]
 exact ⟨rfl,rfl,trivial⟩
def gPermute:GF:=fun l=>match l with
 | [.agg [.vec .u64 25 A]]=>some ⟨[.agg [.vec .u64 25 (permuteL A)]],[],some (A.length=25)⟩
 |_=>none
theorem permute_sound:CSound 216 (cfA gPermute):=cfR_sound TYDok OPD3 Tryz.func216 (by kernel_rfl) rfl (rs:= [.cell 2 252]) Tryz.results216 fun l g h hp=>by
 unfold gPermute at h
 split at h
 ·cases h;exact ⟨Nat.le_of_ble_eq_true rfl,rfl,rfl,rfl,vcPermute _ hp⟩
 ·cases h
def L5:List (Nat×CF):=(216,cfA gPermute)::(136,cfA gDerive)::L4
theorem L5ok:∀p∈L5,CSound p.1 p.2:=ctCons permute_sound<|ctCons derive_sound L4ok
theorem OPD5:OpsOk TYD (ctOf L5):=opsOk TYDok (ctOk L5ok)
def isRate (r:Nat):Prop:=r=72∨r=136∨r=168
def spZ (r n:Nat):Nat:=(r-(n+1)%r)%r
theorem spZ_1 {r n i:Nat} (h:isRate r) (hi:i≤spZ r n) (hm:((n+1+i:Nat):Int)%(r:Int)≠0):i+1≤spZ r n:=by
 unfold spZ at*
 rcases h with rfl|rfl|rfl<;>omega
theorem spZ_2 {r n i:Nat} (h:isRate r) (hi:i≤spZ r n) (hm:¬((n+1+i:Nat):Int)%(r:Int)≠0):i=spZ r n:=by
 unfold spZ at*
 rcases h with rfl|rfl|rfl<;>omega
theorem spZ_le {r n:Nat} (h:isRate r):spZ r n≤168∧∃K,n+1+spZ r n=r*K:=by
 unfold spZ
 rcases h with rfl|rfl|rfl
 ·exact ⟨by omega,(n+1+(72-(n+1)%72)%72)/72,by omega⟩
 ·exact ⟨by omega,(n+1+(136-(n+1)%136)%136)/136,by omega⟩
 ·exact ⟨by omega,(n+1+(168-(n+1)%168)%168)/168,by omega⟩
def sp0 (b:List UInt8) (x:UInt8) (i:Nat):List UInt8:=b++x::List.replicate i 0
theorem sp0_len (b:List UInt8) (x:UInt8) (i:Nat):(sp0 b x i).length=b.length+1+i:=by simp [sp0];omega
theorem sp0_succ (b:List UInt8) (x:UInt8) (i:Nat):sp0 b x (i+1)=sp0 b x i++ [0]:=by simp [sp0,List.replicate_succ']
def spM (r:Nat) (x:UInt8) (b:List UInt8):List UInt8:=(sp0 b x (spZ r b.length)).set (b.length+spZ r b.length) ((sp0 b x (spZ r b.length)).getD (b.length+spZ r b.length) 0|||128)
theorem spM_len (r:Nat) (x:UInt8) (b:List UInt8):(spM r x b).length=b.length+1+spZ r b.length:=by simp [spM,sp0_len]
def spX (s:List UInt64) (m:List UInt8) (o:Nat):Nat→List UInt64
 |0=>s
 |i+1=>(spX s m o i).set (i/8) (at0 (spX s m o i) (i/8)^^^usl (m.getD (o+i) 0).toUInt64 (8*(i%8)))
theorem spX_len {s:List UInt64} (h:s.length=25) (m:List UInt8) (o:Nat):∀i,(spX s m o i).length=25
 |0=>h
 |i+1=>by rw [spX,List.length_set];exact spX_len h m o i
def spA (r:Nat) (m:List UInt8):Nat→List UInt64
 |0=>List.replicate 25 0
 |k+1=>permuteL (spX (spA r m k) m (r*k) r)
theorem spA_len (r:Nat) (m:List UInt8):∀k,(spA r m k).length=25
 |0=>rfl
 |k+1=>permuteL_len (spX_len (spA_len r m k) _ _ _)
def spQ (s:List UInt64):Nat→List UInt64
 |0=>s
 |k+1=>permuteL (spQ s k)
theorem spQ_len {s:List UInt64} (h:s.length=25):∀k,(spQ s k).length=25
 |0=>h
 |k+1=>permuteL_len (spQ_len h k)
def spB (r:Nat) (s:List UInt64) (j:Nat):UInt8:=(ush (at0 (spQ s (j/r)) (j%r/8)) (8*(j%r%8))).toUInt8
def spongeL (r:Nat) (x:UInt8) (b:List UInt8) (n:Nat):List UInt8:=(List.range n).map (spB r (spA r (spM r x b) ((spM r x b).length/r)))
theorem spB_at {r k i:Nat} (s:List UInt64) (h:i<r):spB r s (r*k+i)=(ush (at0 (spQ s k) (i/8)) (8*(i%8))).toUInt8:=by
 unfold spB
 rw [Nat.mul_add_div (by omega),Nat.mul_add_mod,Nat.mod_eq_of_lt h,Nat.div_eq_of_lt h,Nat.add_zero]
theorem n8a (i:Nat):((i:Int)/8).toNat=i/8:=by omega
theorem n8b (i:Nat):(8*((i:Int)%8)).toNat=8*(i%8):=by omega
theorem nadd (a b:Nat):((a:Int)+(b:Int)).toNat=a+b:=by omega
theorem range_snoc {α:Type} (f:Nat→α) (n:Nat):(List.range (n+1)).map f=(List.range n).map f++ [f n]:=by rw [List.range_succ];simp
set_option maxRecDepth 10000 in
set_option maxHeartbeats 4000000 in
theorem vcSponge (r:Nat) (x:UInt8) (b:List UInt8) (n:Nat) (hr:isRate r) (hb:b.length≤8000000) (hn:n≤65536):vc TYD (ctOf L5) Tryz.f195.ntmps (bodyOf Tryz.f195) ⟨mkSl 0 [.one (.ob .int (r:Int)),.one (.ob .u8 x),.one (.ro .u8 b),.one (.ob .int (n:Int))],[],2000⟩ (retK [8] [.one (.rw 0)] [(0,.row 5 .u8 (spongeL r x b n))]):=by
 have hr2:72≤r∧r≤168:=by rcases hr with rfl|rfl|rfl<;>omega
 obtain ⟨hz,K,hK⟩:=spZ_le (n:=b.length) hr
 refine sd<|sd<|Or.inr ⟨{i:Nat // i≤spZ r b.length},fun i=>⟨[(9,.one (.rw 0))],[(0,.row 5 .u8 (sp0 b x i.val))]⟩,fun i=>200-i.val,⟨0,by omega⟩,?_⟩
 refine ⟨rfl,fun i=>sd fun hl=>⟨fun h1=> ?_,fun h1=> ?_⟩⟩
 ·have h1:=of_decide_eq_true h1
  have hi:=i.2
  have hn:=sp0_len b x i.val
  have h2:=spZ_1 hr hi (by rw [←hn];exact h1)
  refine ⟨?_,sj ⟨i.val+1,h2⟩ ⟨sp0_succ _ _ _,trivial⟩⟩
  show (sp0 b x i.val++ [0]).length≤_
  rw [←sp0_succ,sp0_len];omega
 have h1:=of_decide_eq_false h1
 have hi:=i.2
 have hl2:=sp0_len b x i.val
 have h2:=spZ_2 hr hi (by rw [←hl2];exact h1)
 rw [h2] at hl2 ⊢
 repeat refine sd ?_
 refine fun _ _=> ?_
 have hM:=spM_len r x b
 refine Or.inr ⟨{k:Nat // k≤K},fun k=>⟨[(11,.one (.ob .int ((r*k.val:Nat):Int)))],[(2128,.row 5 .u8 (spM r x b)),(3416,.blk 252 [.vec .u64 25 (spA r (spM r x b) k.val)])]⟩,fun k=>K-k.val,⟨0,by omega⟩,?_⟩
 refine ⟨rfl,?_,rfl,rfl,fun k hl3=>⟨fun h3=> ?_,fun h3=> ?_⟩⟩
 ·show spM r x b=(sp0 b x (spZ r b.length)).set (((sp0 b x (spZ r b.length)).length:Int)-1).toNat ((sp0 b x (spZ r b.length)).getD (((sp0 b x (spZ r b.length)).length:Int)-1).toNat 0|||128)
  rw [hl2,show (((b.length+1+spZ r b.length:Nat):Int)-1).toNat=b.length+spZ r b.length by omega]
  rfl
 ·have h3:=of_decide_eq_true h3
  have hk:=k.2
  have h4:k.val<K:=by
   rw [hM,hK] at h3
   exact Nat.lt_of_mul_lt_mul_left (Int.ofNat_lt.1 h3)
  have h5:r*k.val+r≤(spM r x b).length:=by
   rw [hM,hK,←Nat.mul_succ]
   exact Nat.mul_le_mul_left r h4
  have h6:(spM r x b).length≤8000200:=by omega
  generalize hO:r*k.val=O at h3 h5
  refine Or.inr ⟨{i:Nat // i≤r},fun i=>⟨[(12,.one (.ob .int (i.val:Int)))],[(3416,.blk 252 [.vec .u64 25 (spX (spA r (spM r x b) k.val) (spM r x b) O i.val)])]⟩,fun i=>r-i.val,⟨0,by omega⟩,?_⟩
  refine ⟨rfl,rfl,rfl,fun i=>⟨fun h7=> ?_,fun h7=> ?_⟩⟩
  ·have h7:=of_decide_eq_true h7
   have hi:=i.2
   repeat refine sd ?_
   refine sj ⟨i.val+1,by omega⟩<|sr<|sr ⟨?_,trivial⟩
   show spX _ _ _ (i.val+1)=(spX (spA r (spM r x b) k.val) (spM r x b) O i.val).set ((i.val:Int)/8).toNat ((spX (spA r (spM r x b) k.val) (spM r x b) O i.val).getD ((i.val:Int)/8).toNat 0^^^usl (UInt8.toUInt64 ((spM r x b).getD ((O:Int)+(i.val:Int)).toNat 0)) (8*((i.val:Int)%8)).toNat)
   rw [n8a,n8b,nadd]
   rfl
  have h7:=of_decide_eq_false h7
  have hi:=i.2
  rw [show i.val=r by omega]
  refine ⟨spX_len (spA_len _ _ _) _ _ _,?_⟩
  repeat refine sd ?_
  refine sj ⟨k.val+1,by omega⟩ ⟨congrArg (fun z:Int=> [z]) ?_,rfl,rfl,?_,trivial⟩
  ·show ((r*(k.val+1):Nat):Int)=(O:Int)+(r:Int)
   rw [Nat.mul_succ,hO];omega
  ·show spA r (spM r x b) (k.val+1)=_
   rw [spA,hO]
 have h3:=of_decide_eq_false h3
 have hk:=k.2
 have h4:k.val=K:=by
  rw [hM,hK] at h3
  have h3:=fun h=>h3 (Int.ofNat_lt.2 h)
  rcases Nat.lt_or_ge k.val K with h|h
  ·exact absurd (Nat.mul_lt_mul_of_pos_left h (by omega)) h3
  ·omega
 rw [h4]
 have hS:spongeL r x b n=(List.range n).map (spB r (spA r (spM r x b) K)):=by
  unfold spongeL
  rw [hM,hK,Nat.mul_div_cancel_left _ (by omega)]
 have hSl:=spA_len r (spM r x b) K
 rw [hS]
 generalize spA r (spM r x b) K=S at hSl ⊢
 refine Or.inr ⟨{k:Nat // k≤n},fun k=>⟨[(13,.one (.rw 0))],[(3416,.blk 252 [.vec .u64 25 (spQ S k.val)]),(0,.row 5 .u8 ((List.range (min n (r*k.val))).map (spB r S)))]⟩,fun k=>n-k.val,⟨0,by omega⟩,?_⟩
 refine ⟨rfl,rfl,?_,fun k hl4=>⟨fun h5=> ?_,fun h5=> ?_⟩⟩
 ·show (List.range (min n (r*0))).map (spB r S)= []
  simp
 ·have h5:=of_decide_eq_true h5
  have hk:=k.2
  have h6:r*k.val<n:=by
   rw [List.length_map,List.length_range] at h5;omega
  have h7:72*k.val≤r*k.val:=Nat.mul_le_mul_right _ hr2.1
  have h8:r*(k.val+1)=r*k.val+r:=Nat.mul_succ _ _
  rw [show min n (r*k.val)=r*k.val by omega]
  have fin:∀i,i≤r∧r*k.val+i≤n→(i=r∨r*k.val+i=n)→(List.range (min n (r*(k.val+1)))).map (spB r S)=(List.range (r*k.val+i)).map (spB r S):=fun i hi h=>by
   rw [h8,show min n (r*k.val+r)=r*k.val+i by omega]
  refine Or.inr ⟨{i:Nat // i≤r∧r*k.val+i≤n},fun i=>⟨[(14,.one (.ob .int (i.val:Int))),(13,.one (.rw 0))],[(0,.row 5 .u8 ((List.range (r*k.val+i.val)).map (spB r S)))]⟩,fun i=>r-i.val,⟨0,by omega,by omega⟩,?_⟩
  refine ⟨rfl,rfl,fun i=>⟨fun h9=>⟨h9,fun hl5=>⟨fun h10=> ?_,fun h10=> ?_⟩⟩,fun h9=>⟨h9,?_⟩⟩⟩
  ·have h9:=of_decide_eq_true h9
   have h10:=of_decide_eq_true h10
   have hi:=i.2
   rw [List.length_map,List.length_range] at h10
   have e:(List.range (r*k.val+(i.val+1))).map (spB r S)=(List.range (r*k.val+i.val)).map (spB r S)++ [(ush ((spQ S k.val).getD ((i.val:Int)/8).toNat 0) (8*((i.val:Int)%8)).toNat).toUInt8]:=by
    rw [n8a,n8b,←Nat.add_assoc,range_snoc,spB_at _ (by omega)];rfl
   repeat refine sd ?_
   refine ⟨?_,sd<|sj ⟨i.val+1,by omega,by omega⟩<|sr ⟨e,trivial⟩⟩
   show ((List.range (r*k.val+i.val)).map (spB r S)++ [(ush ((spQ S k.val).getD ((i.val:Int)/8).toNat 0) (8*((i.val:Int)%8)).toNat).toUInt8]).length≤_
   rw [←e,List.length_map,List.length_range]
   omega
  ·have h9:=of_decide_eq_true h9
   have h10:=of_decide_eq_false h10
   have hi:=i.2
   rw [List.length_map,List.length_range] at h10
   refine ⟨spQ_len hSl _,sj ⟨k.val+1,by omega⟩ ⟨rfl,rfl,fin _ hi (by omega),trivial⟩⟩
  ·have h9:=of_decide_eq_false h9
   have hi:=i.2
   refine ⟨spQ_len hSl _,sj ⟨k.val+1,by omega⟩ ⟨rfl,rfl,fin _ hi (by omega),trivial⟩⟩
 have h5:=of_decide_eq_false h5
 rw [List.length_map,List.length_range] at h5
 rw [show min n (r*k.val)=n by omega]
 exact ⟨rfl,trivial⟩
theorem toNat_eq {r:Int} (h:0<r.toNat):r=(r.toNat:Int):=by omega
def preSp (r:Int) (b:List UInt8) (n:Int):Prop:=isRate r.toNat∧b.length≤8000000∧InR 0 n 65536
def gSponge:GF:=fun l=>match l with
 | [.one (.ob .int r),.one (.ob .u8 x),.one (.ro .u8 b),.one (.ob .int n)]=>some ⟨[.one (.rw 0)],[(0,.row 5 .u8 (spongeL r.toNat x b n.toNat))],some (preSp r b n)⟩
 |_=>none
theorem sponge_sound:CSound 195 (cfA gSponge):=cfA_sound OPD5 Tryz.func195 (by kernel_rfl) rfl (rs:= [8]) Tryz.results195 fun l g h hp=>by
 unfold gSponge at h
 split at h
 ·rename_i r x b n
  cases h
  obtain ⟨h1,h2,h3,h4⟩:=hp
  obtain ⟨n,rfl⟩:=Int.eq_ofNat_of_zero_le h3
  obtain ⟨r,rfl⟩:∃m:Nat,r=(m:Int):=⟨r.toNat,toNat_eq (by rcases h1 with h|h|h<;>rw [h]<;>decide)⟩
  exact ⟨Nat.le_of_ble_eq_true rfl,rfl,rfl,rfl,vcSponge _ _ _ _ h1 h2 (by omega)⟩
 ·cases h
def L6:List (Nat×CF):=(195,cfA gSponge)::L5
theorem L6ok:∀p∈L6,CSound p.1 p.2:=ctCons sponge_sound L5ok
theorem OPD6:OpsOk TYD (ctOf L6):=opsOk TYDok (ctOk L6ok)
def sha3L (n:Nat) (b:List UInt8):List UInt8:=spongeL (200-2*n) 6 b n
def shakeL (k n:Nat) (b:List UInt8):List UInt8:=spongeL (200-2*k) 31 b (min n 65536)
theorem vcSha3 (n:Nat) (b:List UInt8) (hn:n=32∨n=64) (hb:b.length≤8000000):vc TYD (ctOf L6) Tryz.f148.ntmps (bodyOf Tryz.f148) ⟨mkSl 0 [.one (.ob .int (n:Int)),.one (.ro .u8 b)],[],2000⟩ (retK [4] [.one (.rw 0)] [(0,.row 5 .u8 (sha3L n b))]):=by
 have e:(200-2*(n:Int)).toNat=200-2*n:=by omega
 refine sd<|sd ⟨⟨?_,hb,by omega,by omega⟩,?_,trivial⟩
 ·show isRate (200-2*(n:Int)).toNat
  rw [e]
  rcases hn with rfl|rfl
  ·exact .inr (.inl rfl)
  ·exact .inl rfl
 ·show sha3L n b=spongeL (200-2*(n:Int)).toNat 6 b n
  rw [e];rfl
theorem vcShake (k n:Nat) (b:List UInt8) (hk:k=16∨k=32) (hn:1≤n) (hb:b.length≤8000000):vc TYD (ctOf L6) Tryz.f196.ntmps (bodyOf Tryz.f196) ⟨mkSl 0 [.one (.ob .int (k:Int)),.one (.ob .int (n:Int)),.one (.ro .u8 b)],[],2000⟩ (retK [6] [.one (.rw 0)] [(0,.row 5 .u8 (shakeL k n b))]):=by
 refine ⟨fun h1=> ?_,fun h1=> ?_⟩
 ·have h1:=of_decide_eq_true h1
  omega
 have e:(200-2*(k:Int)).toNat=200-2*k:=by omega
 have e2:(min (n:Int) 65536).toNat=min n 65536:=by omega
 refine sd<|sd ⟨⟨?_,hb,?_,?_⟩,?_,trivial⟩
 ·show isRate (200-2*(k:Int)).toNat
  rw [e]
  rcases hk with rfl|rfl
  ·exact .inr (.inr rfl)
  ·exact .inr (.inl rfl)
 ·show 0≤min (n:Int) 65536
  omega
 ·show min (n:Int) 65536≤_
  omega
 ·show shakeL k n b=spongeL (200-2*(k:Int)).toNat 31 b (min (n:Int) 65536).toNat
  rw [e,e2];rfl
def preN (n a c:Int) (b:List UInt8) (m:Int):Prop:=(n=a∨n=c)∧b.length≤8000000∧1≤m
def gSha3:GF:=fun l=>match l with
 | [.one (.ob .int n),.one (.ro .u8 b)]=>some ⟨[.one (.rw 0)],[(0,.row 5 .u8 (sha3L n.toNat b))],some (preN n 32 64 b 1)⟩
 |_=>none
theorem sha3_sound:CSound 148 (cfA gSha3):=cfA_sound OPD6 Tryz.func148 (by kernel_rfl) rfl (rs:= [4]) Tryz.results148 fun l g h hp=>by
 unfold gSha3 at h
 split at h
 ·cases h
  obtain ⟨h1,h2,_⟩:=hp
  rcases h1 with rfl|rfl
  ·exact ⟨Nat.le_of_ble_eq_true rfl,rfl,rfl,rfl,vcSha3 32 _ (.inl rfl) h2⟩
  ·exact ⟨Nat.le_of_ble_eq_true rfl,rfl,rfl,rfl,vcSha3 64 _ (.inr rfl) h2⟩
 ·cases h
def gShake:GF:=fun l=>match l with
 | [.one (.ob .int k),.one (.ob .int n),.one (.ro .u8 b)]=>some ⟨[.one (.rw 0)],[(0,.row 5 .u8 (shakeL k.toNat n.toNat b))],some (preN k 16 32 b n)⟩
 |_=>none
theorem shake_sound:CSound 196 (cfA gShake):=cfA_sound OPD6 Tryz.func196 (by kernel_rfl) rfl (rs:= [6]) Tryz.results196 fun l g h hp=>by
 unfold gShake at h
 split at h
 ·rename_i k n b
  cases h
  obtain ⟨h1,h2,h3⟩:=hp
  obtain ⟨n,rfl⟩:=Int.eq_ofNat_of_zero_le (show (0:Int)≤n by omega)
  rcases h1 with rfl|rfl
  ·exact ⟨Nat.le_of_ble_eq_true rfl,rfl,rfl,rfl,vcShake 16 _ _ (.inl rfl) (by omega) h2⟩
  ·exact ⟨Nat.le_of_ble_eq_true rfl,rfl,rfl,rfl,vcShake 32 _ _ (.inr rfl) (by omega) h2⟩
 ·cases h
def L7:List (Nat×CF):=(148,cfA gSha3)::(196,cfA gShake)::L6
theorem L7ok:∀p∈L7,CSound p.1 p.2:=ctCons sha3_sound<|ctCons shake_sound L6ok
theorem OPD7:OpsOk TYD (ctOf L7):=opsOk TYDok (ctOk L7ok)
theorem spongeL_len (r:Nat) (x:UInt8) (b:List UInt8) (n:Nat):(spongeL r x b n).length=n:=by simp [spongeL]
set_option maxRecDepth 10000
def bitN (c:List UInt8) (a:Nat):Nat:=(c.getD (a/8) 0).toNat/2^(a%8)%2
theorem bitN_lt (c:List UInt8) (a:Nat):bitN c a<2:=Nat.mod_lt _ (by omega)
theorem r8_bit (x:UInt8) (n:Nat):(r8 x n&&&1).toNat=x.toNat/2^n%2:=by
 rw [UInt8.toNat_and,r8,UInt8.toNat_ofNat',show (1:UInt8).toNat=1 from rfl,Nat.and_one_is_mod]
 have:x.toNat/2^n<256:=Nat.lt_of_le_of_lt (Nat.div_le_self _ _) x.toNat_lt
 rw [Nat.mod_eq_of_lt this]
theorem vcBit (c:List UInt8) (a:Nat) (h:a/8<c.length) (ha:a≤1000000):vc TYD (ctOf L7) Tryz.f197.ntmps (bodyOf Tryz.f197) ⟨mkSl 0 [.one (.ro .u8 c),.one (.ob .int (a:Int))],[],2000⟩ (retK [4] [.one (.ob .int (bitN c a:Int))] []):=by
 repeat refine sd ?_
 refine ⟨congrArg (fun z:Int=> [z]) ?_,trivial⟩
 show (bitN c a:Int)=((r8 (c.getD ((a:Int)/8).toNat 0) ((a:Int)%8).toNat&&&1).toNat:Int)
 rw [r8_bit,show ((a:Int)/8).toNat=a/8 by omega,show ((a:Int)%8).toNat=a%8 by omega]
 rfl
def gBit:GF:=fun l=>match l with
 | [.one (.ro .u8 c),.one (.ob .int a)]=>some ⟨[.one (.ob .int (bitN c a.toNat:Int))],[],some (c.length≤100000∧InR 0 a (8*c.length-1))⟩
 |_=>none
theorem bit_sound:CSound 197 (cfA gBit):=cfA_sound OPD7 Tryz.func197 (by kernel_rfl) rfl (rs:= [4]) Tryz.results197 fun l g h hp=>by
 unfold gBit at h
 split at h
 ·rename_i c a
  cases h
  obtain ⟨h1,h2,h3⟩:=hp
  obtain ⟨a,rfl⟩:=Int.eq_ofNat_of_zero_le h2
  exact ⟨Nat.le_of_ble_eq_true rfl,rfl,rfl,rfl,vcBit _ _ (by omega) (by omega)⟩
 ·cases h
def zetaN:Nat→Nat
 |0=>1
 |n+1=>zetaN n*17%3329
theorem zetaN_lt:∀n,zetaN n<3329
 |0=>by decide
 |n+1=>Nat.mod_lt _ (by omega)
theorem vcZeta (n:Nat) (h:n≤1000000):vc TYD (ctOf L7) Tryz.f198.ntmps (bodyOf Tryz.f198) ⟨mkSl 0 [.one (.ob .int (n:Int))],[],2000⟩ (retK [2] [.one (.ob .int (zetaN n:Int))] []):=by
 refine Or.inr ⟨{i:Nat // i≤n},fun i=>⟨[(4,.one (.ob .int (i.val:Int))),(3,.one (.ob .int (zetaN i.val:Int)))],[]⟩,fun i=>n-i.val,⟨0,by omega⟩,?_⟩
 refine ⟨rfl,rfl,fun i=>⟨fun h1=> ?_,fun h1=> ?_⟩⟩
 ·have h1:=of_decide_eq_true h1
  have hi:=i.2
  have hz:=zetaN_lt i.val
  repeat refine sd ?_
  refine sj ⟨i.val+1,by omega⟩<|sr ⟨congrArg (fun z:Int=> [z]) ?_,trivial⟩
  show ((zetaN i.val*17%3329:Nat):Int)=(zetaN i.val:Int)*17%3329
  omega
 have h1:=of_decide_eq_false h1
 have hi:=i.2
 rw [show i.val=n by omega]
 exact ⟨rfl,trivial⟩
def gZeta:GF:=fun l=>match l with
 | [.one (.ob .int n)]=>some ⟨[.one (.ob .int (zetaN n.toNat:Int))],[],some (InR 0 n 1000000)⟩
 |_=>none
theorem zeta_sound:CSound 198 (cfA gZeta):=cfA_sound OPD7 Tryz.func198 (by kernel_rfl) rfl (rs:= [2]) Tryz.results198 fun l g h hp=>by
 unfold gZeta at h
 split at h
 ·rename_i a
  cases h
  obtain ⟨h2,h3⟩:=hp
  obtain ⟨a,rfl⟩:=Int.eq_ofNat_of_zero_le h2
  exact ⟨Nat.le_of_ble_eq_true rfl,rfl,rfl,rfl,vcZeta _ (by omega)⟩
 ·cases h
def revN (k:Nat):Nat→Nat
 |0=>0
 |i+1=>revN k i*2|||(k/2^i&&&1)
theorem revN_lt (k:Nat):∀i,revN k i<2^i
 |0=>by simp [revN]
 |i+1=>by
  have h:=revN_lt k i
  refine Nat.or_lt_two_pow (by rw [Nat.pow_succ];omega) ?_
  rw [Nat.and_one_is_mod,Nat.pow_succ]
  have:=Nat.mod_lt (k/2^i) (show 2>0 by omega)
  have:=Nat.two_pow_pos i
  omega
theorem vcRev (k:Nat) (h:k≤1000000):vc TYD (ctOf L7) Tryz.f199.ntmps (bodyOf Tryz.f199) ⟨mkSl 0 [.one (.ob .int (k:Int))],[],2000⟩ (retK [2] [.one (.ob .int (revN k 7:Int))] []):=by
 refine Or.inr ⟨{i:Nat // i≤7},fun i=>⟨[(4,.one (.ob .int (i.val:Int))),(3,.one (.ob .int (revN k i.val:Int)))],[]⟩,fun i=>7-i.val,⟨0,by omega⟩,?_⟩
 refine ⟨rfl,rfl,fun i=>⟨fun h1=> ?_,fun h1=> ?_⟩⟩
 ·have h1:=of_decide_eq_true h1
  have hi:=i.2
  have hz:=revN_lt k i.val
  have h2:2^i.val≤2^7:=Nat.pow_le_pow_right (by omega) hi
  have e1:(revN k i.val:Int)*((2^(Nm.u64 (UInt64.ofNat 1)).toInt.toNat:Nat):Int)=((revN k i.val*2:Nat):Int):=by
   show _*((2^1:Nat):Int)=_
   omega
  have e2:(k:Int)/((2^(Nm.int (i.val:Int)).toInt.toNat:Nat):Int)=((k/2^i.val:Nat):Int):=rfl
  have e3:k/2^i.val≤k:=Nat.div_le_self _ _
  have e5:=Int.natCast_nonneg (k/2^i.val)
  have e4:k/2^i.val&&&1≤1:=Nat.and_le_right
  refine ⟨?_,⟨show (0:Int)≤(i.val:Int) by omega,show (i.val:Int)<64 by omega⟩,?_,?_,?_⟩
  ·rw [e1];exact ⟨by decide,by decide,by omega,by omega⟩
  ·rw [e2];exact ⟨⟨⟨by omega,by omega⟩,by omega⟩,⟨by decide,by decide⟩,by decide⟩
  ·rw [e1,e2,Int.toNat_natCast,show Int.toNat 1=1 from rfl];exact ⟨⟨⟨by omega,by omega⟩,by omega⟩,⟨by omega,by omega⟩,by omega⟩
  ·refine sd<|sj ⟨i.val+1,by omega⟩<|sr ⟨?_,trivial⟩
   show [((revN k i.val*2|||(k/2^i.val&&&1):Nat):Int)]= [((((revN k i.val:Int)*((2^(Nm.u64 (UInt64.ofNat 1)).toInt.toNat:Nat):Int)).toNat|||(((((k:Int)/((2^(Nm.int (i.val:Int)).toInt.toNat:Nat):Int)).toNat&&&Int.toNat 1:Nat):Int)).toNat:Nat):Int)]
   rw [e1,e2];rfl
 have h1:=of_decide_eq_false h1
 have hi:=i.2
 rw [show i.val=7 by omega]
 exact ⟨rfl,trivial⟩
def gRev:GF:=fun l=>match l with
 | [.one (.ob .int n)]=>some ⟨[.one (.ob .int (revN n.toNat 7:Int))],[],some (InR 0 n 1000000)⟩
 |_=>none
theorem rev_sound:CSound 199 (cfA gRev):=cfA_sound OPD7 Tryz.func199 (by kernel_rfl) rfl (rs:= [2]) Tryz.results199 fun l g h hp=>by
 unfold gRev at h
 split at h
 ·rename_i a
  cases h
  obtain ⟨h2,h3⟩:=hp
  obtain ⟨a,rfl⟩:=Int.eq_ofNat_of_zero_le h2
  exact ⟨Nat.le_of_ble_eq_true rfl,rfl,rfl,rfl,vcRev _ (by omega)⟩
 ·cases h
def L8:List (Nat×CF):=(197,cfA gBit)::(198,cfA gZeta)::(199,cfA gRev)::L7
theorem L8ok:∀p∈L8,CSound p.1 p.2:=ctCons bit_sound<|ctCons zeta_sound<|ctCons rev_sound L7ok
theorem OPD8:OpsOk TYD (ctOf L8):=opsOk TYDok (ctOk L8ok)
def gu (l:List UInt16) (i:Nat):Nat:=(l.getD i 0).toNat
def padd (f g:List UInt16):List UInt16:=(List.range 256).map fun i=>UInt16.ofNat ((gu f i+gu g i)%3329)
theorem gu_lt (l:List UInt16) (i:Nat):gu l i<65536:=(l.getD i 0).toNat_lt
set_option maxHeartbeats 1000000 in
theorem vcPAdd (f g:List UInt16):vc TYD (ctOf L8) Tryz.f151.ntmps (bodyOf Tryz.f151) ⟨mkSl 0 [.agg [.vec .u16 256 f],.agg [.vec .u16 256 g]],[],2000⟩ (retR TYD Tryz.f151.ntmps [.cell 4 158] [.agg [.vec .u16 256 (padd f g)]] []):=by
 refine Or.inr ⟨{i:Nat // i≤256},fun i=>⟨[(6,.one (.ob .int (i.val:Int)))],[(2048,.blk 158 [.vec .u16 256 (mapI 0 256 (fun i=>UInt16.ofNat ((gu f i+gu g i)%3329)) (List.replicate 256 0) i.val)])]⟩,fun i=>256-i.val,⟨0,by omega⟩,?_⟩
 refine ⟨rfl,rfl,mapI_0 List.length_replicate,fun i=>⟨fun h1=> ?_,fun h1=> ?_⟩⟩
 ·have h1:=of_decide_eq_true h1
  have hi:=i.2
  have h2:=(f.getD (Int.toNat (i.val:Int)) (Kd.df .u16)).toNat_lt
  have h3:=(g.getD (Int.toNat (i.val:Int)) (Kd.df .u16)).toNat_lt
  repeat refine sd ?_
  refine sj ⟨i.val+1,by omega⟩<|sr<|sr ⟨(congrArg (List.set _ i.val) ?_).trans mapI_set |>.symm,trivial⟩
  refine congrArg UInt16.ofNat (?_:(((gu f i.val:Int)+(gu g i.val:Int))%3329).toNat=_)
  omega
 have h1:=of_decide_eq_false h1
 have hi:=i.2
 rw [show i.val=256 by omega,mapI_end (by omega)]
 exact ⟨rfl,rfl,trivial⟩
def pmA (f:List UInt16) (i:Nat):Nat:=gu f i%3329
def pmulS (f g:List UInt16):Nat→List UInt16
 |0=>List.replicate 256 0
 |i+1=>((pmulS f g i).set (2*i) (UInt16.ofNat ((pmA f (2*i)*pmA g (2*i)+pmA f (2*i+1)*pmA g (2*i+1)%3329*zetaN (2*revN i 7+1))%3329))).set (2*i+1) (UInt16.ofNat ((pmA f (2*i)*pmA g (2*i+1)+pmA f (2*i+1)*pmA g (2*i))%3329))
theorem pmul_b {x y:Int} (hx:0≤x∧x<3329) (hy:0≤y∧y<3329):0≤x*y∧x*y≤11082241:=
 ⟨Int.mul_nonneg hx.1 hy.1,Int.le_trans (Int.mul_le_mul (show x≤3329 by omega) (show y≤3329 by omega) hy.1 (by decide)) (by decide)⟩
theorem set2 {α:Type} {l:List α} {a b:Nat} {x x' y y':α} (hx:x=x') (hy:y=y'):(l.set a x).set b y=(l.set a x').set b y':=by rw [hx,hy]
theorem pm1 (a b c d z:Nat):(((a:Int)%3329*((b:Int)%3329)+(c:Int)%3329*((d:Int)%3329)%3329*(z:Int))%3329).toNat=(a%3329*(b%3329)+c%3329*(d%3329)%3329*z)%3329:=by
 rw [show (a:Int)%3329=((a%3329:Nat):Int) by omega,show (b:Int)%3329=((b%3329:Nat):Int) by omega,show (c:Int)%3329=((c%3329:Nat):Int) by omega,show (d:Int)%3329=((d%3329:Nat):Int) by omega]
 rfl
theorem pm2 (a b c d:Nat):(((a:Int)%3329*((d:Int)%3329)+(c:Int)%3329*((b:Int)%3329))%3329).toNat=(a%3329*(d%3329)+c%3329*(b%3329))%3329:=by
 rw [show (a:Int)%3329=((a%3329:Nat):Int) by omega,show (b:Int)%3329=((b%3329:Nat):Int) by omega,show (c:Int)%3329=((c%3329:Nat):Int) by omega,show (d:Int)%3329=((d%3329:Nat):Int) by omega]
 rfl
set_option maxHeartbeats 2000000 in
theorem vcPMul (f g:List UInt16):vc TYD (ctOf L8) Tryz.f153.ntmps (bodyOf Tryz.f153) ⟨mkSl 0 [.agg [.vec .u16 256 f],.agg [.vec .u16 256 g]],[],2000⟩ (retR TYD Tryz.f153.ntmps [.cell 4 158] [.agg [.vec .u16 256 (pmulS f g 128)]] []):=by
 refine Or.inr ⟨{i:Nat // i≤128},fun i=>⟨[(6,.one (.ob .int (i.val:Int)))],[(2048,.blk 158 [.vec .u16 256 (pmulS f g i.val)])]⟩,fun i=>128-i.val,⟨0,by omega⟩,?_⟩
 refine ⟨rfl,rfl,rfl,fun i=>⟨fun h1=> ?_,fun h1=> ?_⟩⟩
 ·have h1:=of_decide_eq_true h1
  have hi:=i.2
  have hr:revN i.val 7<2^7:=revN_lt _ _
  have hr2:revN (i.val:Int).toNat 7<2^7:=revN_lt _ _
  repeat refine sd ?_
  have hz:=zetaN_lt (2*revN i.val 7+1)
  rw [show (2*((revN (i.val:Int).toNat 7:Nat):Int)+1).toNat=2*revN i.val 7+1 by rw [Int.toNat_natCast];omega]
  rw [show (2*(i.val:Int)).toNat=2*i.val by omega,show (2*(i.val:Int)+1).toNat=2*i.val+1 by omega]
  generalize hA:(((f.getD (2*i.val) (Kd.df .u16)).toNat:Nat):Int)%3329=A
  generalize hB:(((g.getD (2*i.val) (Kd.df .u16)).toNat:Nat):Int)%3329=B
  generalize hC:(((f.getD (2*i.val+1) (Kd.df .u16)).toNat:Nat):Int)%3329=C
  generalize hD:(((g.getD (2*i.val+1) (Kd.df .u16)).toNat:Nat):Int)%3329=D
  have bA:0≤A∧A<3329:=by omega
  have bB:0≤B∧B<3329:=by omega
  have bC:0≤C∧C<3329:=by omega
  have bD:0≤D∧D<3329:=by omega
  have p1:=pmul_b bA bB
  have p2:=pmul_b bC bD
  have p3:=pmul_b (x:=C*D%3329) (y:=(zetaN (2*revN i.val 7+1):Int)) (by omega) (by omega)
  have p4:=pmul_b bA bD
  have p5:=pmul_b bC bB
  repeat refine sd ?_
  refine sj ⟨i.val+1,by omega⟩<|sr<|sr ⟨?_,trivial⟩
  subst hA hB hC hD
  rw [show (2*(i.val:Int)+1).toNat=2*i.val+1 by omega]
  exact set2 (congrArg UInt16.ofNat (pm1 (gu f (2*i.val)) (gu g (2*i.val)) (gu f (2*i.val+1)) (gu g (2*i.val+1)) _).symm) (congrArg UInt16.ofNat (pm2 (gu f (2*i.val)) (gu g (2*i.val)) (gu f (2*i.val+1)) (gu g (2*i.val+1))).symm)
 have h1:=of_decide_eq_false h1
 have hi:=i.2
 rw [show i.val=128 by omega]
 exact ⟨rfl,rfl,trivial⟩
set_option maxRecDepth 10000
def nttJ (l:List UInt16) (z n st:Nat):Nat→List UInt16
 |0=>l
 |i+1=>((nttJ l z n st i).set (st+i+n) (UInt16.ofNat ((gu (nttJ l z n st i) (st+i)%3329+3329-z*gu (nttJ l z n st i) (st+i+n)%3329)%3329))).set (st+i) (UInt16.ofNat ((gu (nttJ l z n st i) (st+i)%3329+z*gu (nttJ l z n st i) (st+i+n)%3329)%3329))
def nttB (l:List UInt16) (n k:Nat):Nat→List UInt16
 |0=>l
 |c+1=>nttJ (nttB l n k c) (zetaN (revN (k+c) 7)) n (2*n*c) n
def nttL (l:List UInt16):Nat→List UInt16
 |0=>l
 |m+1=>nttB (nttL l m) (128/2^m) (2^m) (2^m)
theorem ntF (m c:Nat) (h:m<7):(2*(128/2^m)*c<256→c+1≤2^m∧2*(128/2^m)*c+2*(128/2^m)≤256)∧(¬2*(128/2^m)*c<256→2^m≤c)∧2≤128/2^m∧128/2^m≤128∧2^m≤64∧128/2^(m+1)=128/2^m/2∧2^(m+1)=2^m+2^m:=by
 have:m=0∨m=1∨m=2∨m=3∨m=4∨m=5∨m=6:=by omega
 rcases this with rfl|rfl|rfl|rfl|rfl|rfl|rfl<;>simp<;>omega
theorem nt1 (a b z:Nat):(((a:Int)%3329+3329-(z:Int)*(b:Int)%3329)%3329).toNat=(a%3329+3329-z*b%3329)%3329:=by
 rw [show (z:Int)*(b:Int)=((z*b:Nat):Int) from rfl]
 generalize z*b=c
 omega
theorem nt2 (a b z:Nat):(((a:Int)%3329+(z:Int)*(b:Int)%3329)%3329).toNat=(a%3329+z*b%3329)%3329:=by
 rw [show (z:Int)*(b:Int)=((z*b:Nat):Int) from rfl]
 generalize z*b=c
 omega
theorem nt_b {z b:Nat} (hz:z<3329) (hb:b<65536):0≤(z:Int)*(b:Int)∧(z:Int)*(b:Int)≤218169344:=
 ⟨Int.mul_nonneg (by omega) (by omega),Int.le_trans (Int.mul_le_mul (show (z:Int)≤3329 by omega) (show (b:Int)≤65536 by omega) (by omega) (by decide)) (by decide)⟩
set_option maxHeartbeats 4000000 in
theorem vcNTT (f:List UInt16):vc TYD (ctOf L8) Tryz.f150.ntmps (bodyOf Tryz.f150) ⟨mkSl 0 [.agg [.vec .u16 256 f]],[],2000⟩ (retR TYD Tryz.f150.ntmps [.cell 2 158] [.agg [.vec .u16 256 (nttL f 7)]] []):=by
 refine Or.inr ⟨{m:Nat // m≤7},fun m=>⟨[(4,.one (.ob .int ((128/2^m.val:Nat):Int))),(3,.one (.ob .int ((2^m.val:Nat):Int)))],[(2000,.blk 158 [.vec .u16 256 (nttL f m.val)])]⟩,fun m=>7-m.val,⟨0,by omega⟩,?_⟩
 refine ⟨rfl,rfl,rfl,rfl,fun m=>⟨fun h1=> ?_,fun h1=> ?_⟩⟩
 ·have h1:=of_decide_eq_true h1
  have hm:=m.2
  have hm7:m.val<7:=by
   rcases Nat.lt_or_ge m.val 7 with h|h
   ·exact h
   ·rw [show m.val=7 by omega] at h1;simp at h1
  have hF:nttL f (m.val+1)=nttB (nttL f m.val) (128/2^m.val) (2^m.val) (2^m.val):=rfl
  have hq:=(ntF m.val 0 hm7).2.2
  have hc:=fun c=>And.intro (ntF m.val c hm7).1 (ntF m.val c hm7).2.1
  revert hF
  generalize nttL f m.val=F
  intro hF
  have hK0:0<2^m.val:=Nat.two_pow_pos _
  generalize 128/2^m.val=n at h1 hq hc hF ⊢
  generalize 2^m.val=K at hq hc hF hK0 ⊢
  obtain ⟨q1,q2,q3,q4,q5⟩:=hq
  refine Or.inr ⟨{c:Nat // c≤K},fun c=>⟨[(5,.one (.ob .int ((2*n*c.val:Nat):Int))),(3,.one (.ob .int ((K+c.val:Nat):Int)))],[(2000,.blk 158 [.vec .u16 256 (nttB F n K c.val)])]⟩,fun c=>K-c.val,⟨0,Nat.zero_le _⟩,?_⟩
  refine ⟨rfl,rfl,rfl,rfl,fun c=>⟨fun h2=> ?_,fun h2=> ?_⟩⟩
  ·have h2:=of_decide_eq_true h2
   have hcc:=c.2
   obtain ⟨h3,h4⟩:=(hc c.val).1 (by omega)
   have hG:nttB F n K (c.val+1)=nttJ (nttB F n K c.val) (zetaN (revN (K+c.val) 7)) n (2*n*c.val) n:=rfl
   have hst:2*n*(c.val+1)=2*n*c.val+2*n:=Nat.mul_succ _ _
   revert hG
   generalize nttB F n K c.val=G
   generalize 2*n*c.val=st at h2 h4 hst ⊢
   intro hG
   have hr:revN ((K+c.val:Nat):Int).toNat 7<2^7:=revN_lt _ _
   repeat refine sd ?_
   refine Or.inr ⟨{i:Nat // i≤n},fun i=>⟨[(7,.one (.ob .int ((st+i.val:Nat):Int)))],[(2000,.blk 158 [.vec .u16 256 (nttJ G (zetaN (revN (K+c.val) 7)) n st i.val)])]⟩,fun i=>n-i.val,⟨0,Nat.zero_le _⟩,?_⟩
   refine ⟨rfl,rfl,rfl,fun i=>sd ⟨fun h5=> ?_,fun h5=> ?_⟩⟩
   ·have h5:=of_decide_eq_true h5
    have hi:=i.2
    have hJ:nttJ G (zetaN (revN (K+c.val) 7)) n st (i.val+1)=((nttJ G (zetaN (revN (K+c.val) 7)) n st i.val).set (st+i.val+n) (UInt16.ofNat ((gu (nttJ G (zetaN (revN (K+c.val) 7)) n st i.val) (st+i.val)%3329+3329-zetaN (revN (K+c.val) 7)*gu (nttJ G (zetaN (revN (K+c.val) 7)) n st i.val) (st+i.val+n)%3329)%3329))).set (st+i.val) (UInt16.ofNat ((gu (nttJ G (zetaN (revN (K+c.val) 7)) n st i.val) (st+i.val)%3329+zetaN (revN (K+c.val) 7)*gu (nttJ G (zetaN (revN (K+c.val) 7)) n st i.val) (st+i.val+n)%3329)%3329)):=rfl
    revert hJ
    generalize nttJ G (zetaN (revN (K+c.val) 7)) n st i.val=J
    intro hJ
    have hz:=zetaN_lt (revN (K+c.val) 7)
    have e1:(((st+i.val:Nat):Int)+(n:Int)).toNat=st+i.val+n:=by omega
    have b1:=nt_b hz (gu_lt J (st+i.val+n))
    have b2:(0:Int)≤((zetaN (revN ((K+c.val:Nat):Int).toNat 7:Int).toNat:Nat):Int)*((J.getD (((st+i.val:Nat):Int)+(n:Int)).toNat (Kd.df .u16)).toNat:Int)∧((zetaN (revN ((K+c.val:Nat):Int).toNat 7:Int).toNat:Nat):Int)*((J.getD (((st+i.val:Nat):Int)+(n:Int)).toNat (Kd.df .u16)).toNat:Int)≤218169344:=by rw [e1];exact b1
    repeat refine sd ?_
    refine sj ⟨i.val+1,by omega⟩<|sr<|sr ⟨?_,trivial⟩
    rw [e1]
    exact hJ.trans (set2 (congrArg UInt16.ofNat (nt1 _ _ _).symm) (congrArg UInt16.ofNat (nt2 _ _ _).symm))
   have h5:=of_decide_eq_false h5
   have hi:=i.2
   repeat refine sd ?_
   refine sj ⟨c.val+1,h3⟩ ⟨congrArg (fun z:Int=> [z]) ?_,rfl,rfl,?_,trivial⟩
   ·show ((2*n*(c.val+1):Nat):Int)=(st:Int)+2*(n:Int)
    omega
   ·show nttB F n K (c.val+1)=_
    rw [hG,show i.val=n by omega]
  have h2:=of_decide_eq_false h2
  have hcc:=c.2
  have h3:=(hc c.val).2 (by omega)
  repeat refine sd ?_
  refine sj ⟨m.val+1,by omega⟩ ⟨congrArg (fun z:Int=> [z]) ?_,congrArg (fun z:Int=> [z]) ?_,rfl,?_,trivial⟩
  ·show ((128/2^(m.val+1):Nat):Int)=(n:Int)/2
   rw [q4];rfl
  ·show ((2^(m.val+1):Nat):Int)=((K+c.val:Nat):Int)
   rw [q5,show c.val=K by omega]
  ·show nttL f (m.val+1)=_
   rw [hF,show c.val=K by omega]
 have h1:=of_decide_eq_false h1
 have hm:=m.2
 have hm7:m.val=7:=by
  rcases Nat.lt_or_ge m.val 7 with h|h
  ·have:=(ntF m.val 0 h).2.2.1;omega
  ·omega
 rw [hm7]
 exact ⟨rfl,rfl,trivial⟩
def gPAdd:GF:=fun l=>match l with
 | [.agg [.vec .u16 256 f],.agg [.vec .u16 256 g]]=>some ⟨[.agg [.vec .u16 256 (padd f g)]],[],none⟩
 |_=>none
theorem padd_sound:CSound 151 (cfA gPAdd):=cfR_sound TYDok OPD8 Tryz.func151 (by kernel_rfl) rfl (rs:= [.cell 4 158]) Tryz.results151 fun l g h hp=>by
 unfold gPAdd at h
 split at h
 ·cases h;exact ⟨Nat.le_of_ble_eq_true rfl,rfl,rfl,rfl,vcPAdd _ _⟩
 ·cases h
def gPMul:GF:=fun l=>match l with
 | [.agg [.vec .u16 256 f],.agg [.vec .u16 256 g]]=>some ⟨[.agg [.vec .u16 256 (pmulS f g 128)]],[],none⟩
 |_=>none
theorem pmul_sound:CSound 153 (cfA gPMul):=cfR_sound TYDok OPD8 Tryz.func153 (by kernel_rfl) rfl (rs:= [.cell 4 158]) Tryz.results153 fun l g h hp=>by
 unfold gPMul at h
 split at h
 ·cases h;exact ⟨Nat.le_of_ble_eq_true rfl,rfl,rfl,rfl,vcPMul _ _⟩
 ·cases h
def gNTT:GF:=fun l=>match l with
 | [.agg [.vec .u16 256 f]]=>some ⟨[.agg [.vec .u16 256 (nttL f 7)]],[],none⟩
 |_=>none
theorem ntt_sound:CSound 150 (cfA gNTT):=cfR_sound TYDok OPD8 Tryz.func150 (by kernel_rfl) rfl (rs:= [.cell 2 158]) Tryz.results150 fun l g h hp=>by
 unfold gNTT at h
 split at h
 ·cases h;exact ⟨Nat.le_of_ble_eq_true rfl,rfl,rfl,rfl,vcNTT _⟩
 ·cases h
def L9:List (Nat×CF):=(150,cfA gNTT)::(151,cfA gPAdd)::(153,cfA gPMul)::L8
theorem L9ok:∀p∈L9,CSound p.1 p.2:=ctCons ntt_sound<|ctCons padd_sound<|ctCons pmul_sound L8ok
theorem OPD9:OpsOk TYD (ctOf L9):=opsOk TYDok (ctOk L9ok)
def noiseL (s:List UInt8) (n:UInt8):List UInt16:=(List.range 256).map fun i=>UInt16.ofNat ((bitN (shakeL 32 128 (s++ [n])) (4*i)+bitN (shakeL 32 128 (s++ [n])) (4*i+1)+3329-bitN (shakeL 32 128 (s++ [n])) (4*i+2)-bitN (shakeL 32 128 (s++ [n])) (4*i+3))%3329)
set_option maxHeartbeats 2000000 in
theorem vcNoise (s:List UInt8) (n:UInt8) (h:s.length≤1000):vc TYD (ctOf L9) Tryz.f149.ntmps (bodyOf Tryz.f149) ⟨mkSl 0 [.one (.ro .u8 s),.one (.ob .u8 n)],[],2000⟩ (retR TYD Tryz.f149.ntmps [.cell 4 158] [.agg [.vec .u16 256 (noiseL s n)]] []):=by
 have e1: [s,[n]].flatten=s++ [n]:=by simp
 refine ⟨⟨Nat.le_of_ble_eq_true rfl,by rw [e1];simp;omega⟩,⟨.inr rfl,by rw [e1];simp;omega,by decide⟩,?_⟩
 rw [e1]
 have hD:(shakeL 32 128 (s++ [n])).length=128:=spongeL_len _ _ _ _
 have hN:noiseL s n=(List.range 256).map fun i=>UInt16.ofNat ((bitN (shakeL 32 128 (s++ [n])) (4*i)+bitN (shakeL 32 128 (s++ [n])) (4*i+1)+3329-bitN (shakeL 32 128 (s++ [n])) (4*i+2)-bitN (shakeL 32 128 (s++ [n])) (4*i+3))%3329):=rfl
 revert hD hN
 show (shakeL (Int.toNat 32) (Int.toNat 128) (s++ [n])).length=128→noiseL s n=((List.range 256).map fun i=>UInt16.ofNat ((bitN (shakeL (Int.toNat 32) (Int.toNat 128) (s++ [n])) (4*i)+bitN (shakeL (Int.toNat 32) (Int.toNat 128) (s++ [n])) (4*i+1)+3329-bitN (shakeL (Int.toNat 32) (Int.toNat 128) (s++ [n])) (4*i+2)-bitN (shakeL (Int.toNat 32) (Int.toNat 128) (s++ [n])) (4*i+3))%3329))→_
 generalize shakeL (Int.toNat 32) (Int.toNat 128) (s++ [n])=D
 intro hD hN
 rw [hN]
 refine Or.inr ⟨{i:Nat // i≤256},fun i=>⟨[(7,.one (.ob .int (i.val:Int)))],[(2128,.blk 158 [.vec .u16 256 (mapI 0 256 (fun i=>UInt16.ofNat ((bitN D (4*i)+bitN D (4*i+1)+3329-bitN D (4*i+2)-bitN D (4*i+3))%3329)) (List.replicate 256 0) i.val)])]⟩,fun i=>256-i.val,⟨0,by omega⟩,?_⟩
 refine ⟨rfl,rfl,mapI_0 List.length_replicate,fun i=>⟨fun h1=> ?_,fun h1=> ?_⟩⟩
 ·have h1:=of_decide_eq_true h1
  have hi:=i.2
  have b0:=bitN_lt D (4*(i.val:Int)).toNat
  have b1:=bitN_lt D (4*(i.val:Int)+1).toNat
  have b2:=bitN_lt D (4*(i.val:Int)+2).toNat
  have b3:=bitN_lt D (4*(i.val:Int)+3).toNat
  repeat refine sd ?_
  refine sj ⟨i.val+1,by omega⟩<|sr<|sr ⟨(congrArg (List.set _ i.val) ?_).trans mapI_set |>.symm,trivial⟩
  refine congrArg UInt16.ofNat (?_:(((bitN D (4*(i.val:Int)).toNat:Int)+(bitN D (4*(i.val:Int)+1).toNat:Int)+3329-(bitN D (4*(i.val:Int)+2).toNat:Int)-(bitN D (4*(i.val:Int)+3).toNat:Int))%3329).toNat=_)
  rw [show (4*(i.val:Int)).toNat=4*i.val by omega,show (4*(i.val:Int)+1).toNat=4*i.val+1 by omega,show (4*(i.val:Int)+2).toNat=4*i.val+2 by omega,show (4*(i.val:Int)+3).toNat=4*i.val+3 by omega] at*
  omega
 have h1:=of_decide_eq_false h1
 have hi:=i.2
 rw [show i.val=256 by omega,mapI_end (by omega)]
 exact ⟨rfl,rfl,trivial⟩
def gNoise:GF:=fun l=>match l with
 | [.one (.ro .u8 s),.one (.ob .u8 n)]=>some ⟨[.agg [.vec .u16 256 (noiseL s n)]],[],some (s.length≤1000)⟩
 |_=>none
theorem noise_sound:CSound 149 (cfA gNoise):=cfR_sound TYDok OPD9 Tryz.func149 (by kernel_rfl) rfl (rs:= [.cell 4 158]) Tryz.results149 fun l g h hp=>by
 unfold gNoise at h
 split at h
 ·cases h;exact ⟨Nat.le_of_ble_eq_true rfl,rfl,rfl,rfl,vcNoise _ _ hp⟩
 ·cases h
def uA (c:List UInt8) (a:Nat):Nat:=(c.getD a 0).toNat+256*((c.getD (a+1) 0).toNat%16)
def uB (c:List UInt8) (a:Nat):Nat:=(c.getD (a+1) 0).toNat/16+16*(c.getD (a+2) 0).toNat
def uPut (s:Nat×List UInt16) (v:Nat):Nat×List UInt16:=if v<3329 then (s.1+1,s.2.set s.1 (UInt16.ofNat v)) else s
def uPut2 (s:Nat×List UInt16) (v:Nat):Nat×List UInt16:=if v<3329∧s.1<256 then (s.1+1,s.2.set s.1 (UInt16.ofNat v)) else s
def uSt (c:List UInt8) (f:List UInt16):Nat→Nat×List UInt16
 |0=>(0,f)
 |t+1=>if (uSt c f t).1<256 then uPut2 (uPut (uSt c f t) (uA c (3*t))) (uB c (3*t)) else uSt c f t
def uRow (s:List UInt8) (f:List UInt16) (n:Nat):List UInt16:=(uSt (shakeL 16 n s) f ((shakeL 16 n s).length/3)).2
def uCnt (s:List UInt8) (f:List UInt16) (n:Nat):Nat:=(uSt (shakeL 16 n s) f ((shakeL 16 n s).length/3)).1
def uGo (s:List UInt8) (f:List UInt16):Nat→List UInt16
 |0=>f
 |m+1=>uRow s (uGo s f m) (1024*2^m)
def uFin (s:List UInt8):Nat→Nat→List UInt16
 |0,m=>uGo s (List.replicate 256 0) (m+1)
 |k+1,m=>if uCnt s (uGo s (List.replicate 256 0) m) (1024*2^m)=256 then uGo s (List.replicate 256 0) (m+1) else uFin s k (m+1)
def uniL (s:List UInt8):List UInt16:=uFin s 6 0
set_option maxRecDepth 10000
def L10:List (Nat×CF):=(149,cfA gNoise)::L9
theorem L10ok:∀p∈L10,CSound p.1 p.2:=ctCons noise_sound L9ok
theorem OPD10:OpsOk TYD (ctOf L10):=opsOk TYDok (ctOk L10ok)
theorem uSt_stop {c:List UInt8} {f:List UInt16} {t:Nat} (h:¬(uSt c f t).1<256):∀d,uSt c f (t+d)=uSt c f t
 |0=>rfl
 |d+1=>by
  rw [←Nat.add_assoc,uSt,uSt_stop h d,if_neg h]
theorem u8_lt (c:List UInt8) (a:Nat):(c.getD a 0).toNat<256:=(c.getD a 0).toNat_lt
theorem uA_int (a b:Nat):((a:Int)+256*((b:Int)%16))=((a+256*(b%16):Nat):Int):=by omega
theorem uB_int (a b:Nat):((a:Int)/16+16*(b:Int))=((a/16+16*b:Nat):Int):=by omega
theorem uF1 {S:List UInt8} {m:Nat} (h:uCnt S (uGo S (List.replicate 256 0) m) (1024*2^m)=256):∀k,uFin S k m=uGo S (List.replicate 256 0) (m+1)
 |0=>rfl
 |k+1=>by rw [uFin,if_pos h]
theorem uF3 {S:List UInt8} {m:Nat} (hm:m<6) (h:¬uCnt S (uGo S (List.replicate 256 0) m) (1024*2^m)=256):uFin S (6-m) m=uFin S (6-(m+1)) (m+1):=by
 rw [show 6-m=6-(m+1)+1 by omega,uFin,if_neg h]
theorem p2_6 {m:Nat} (hm:m≤6) (h:65536≤1024*2^m):m=6:=by
 have:m=0∨m=1∨m=2∨m=3∨m=4∨m=5∨m=6:=by omega
 rcases this with rfl|rfl|rfl|rfl|rfl|rfl|rfl<;>omega
theorem p2_5 {m:Nat} (h:¬65536≤1024*2^m):m<6:=by
 rcases Nat.lt_or_ge m 6 with h1|h1
 ·exact h1
 ·have:2^6≤2^m:=Nat.pow_le_pow_right (by omega) h1
  omega
set_option maxHeartbeats 1000000 in
theorem vcUniform (s:List UInt8) (i j:UInt8) (h:s.length≤1000):vc TYD (ctOf L10) Tryz.f152.ntmps (bodyOf Tryz.f152) ⟨mkSl 0 [.one (.ro .u8 s),.one (.ob .u8 i),.one (.ob .u8 j)],[],2000⟩ (retR TYD Tryz.f152.ntmps [.cell 6 158] [.agg [.vec .u16 256 (uniL (s++ [i,j]))]] []):=by
 have e1: [s,[i,j]].flatten=s++ [i,j]:=by simp
 refine ⟨⟨Nat.le_of_ble_eq_true rfl,by rw [e1];simp;omega⟩,?_⟩
 rw [e1]
 have hS:(s++ [i,j]).length≤1002:=by simp;omega
 generalize s++ [i,j]=S at hS ⊢
 refine Or.inr ⟨{m:Nat // m≤6∧uniL S=uFin S (6-m) m},fun m=>⟨[(9,.one (.ob .int ((1024*2^m.val:Nat):Int)))],[(2128,.blk 158 [.vec .u16 256 (uGo S (List.replicate 256 0) m.val)])]⟩,fun m=>6-m.val,⟨0,by omega,rfl⟩,?_⟩
 refine ⟨rfl,rfl,rfl,fun m=> ?_⟩
 obtain ⟨hm,hF⟩:=m.2
 have hn:1024≤1024*2^m.val∧1024*2^m.val≤65536:=by
  have h1:2^m.val≤2^6:=Nat.pow_le_pow_right (by omega) hm
  have h2:=Nat.two_pow_pos m.val
  omega
 refine ⟨⟨.inl rfl,by omega,by omega⟩,?_⟩
 have hC:(shakeL 16 (1024*2^m.val) S).length≤65536:=by
  rw [shakeL,spongeL_len];omega
 have hR:uGo S (List.replicate 256 0) (m.val+1)=(uSt (shakeL 16 (1024*2^m.val) S) (uGo S (List.replicate 256 0) m.val) ((shakeL 16 (1024*2^m.val) S).length/3)).2:=rfl
 have hK:uCnt S (uGo S (List.replicate 256 0) m.val) (1024*2^m.val)=(uSt (shakeL 16 (1024*2^m.val) S) (uGo S (List.replicate 256 0) m.val) ((shakeL 16 (1024*2^m.val) S).length/3)).1:=rfl
 revert hC hR hK
 show (shakeL (Int.toNat 16) ((1024*2^m.val:Nat):Int).toNat S).length≤65536→uGo S (List.replicate 256 0) (m.val+1)=(uSt (shakeL (Int.toNat 16) ((1024*2^m.val:Nat):Int).toNat S) (uGo S (List.replicate 256 0) m.val) ((shakeL (Int.toNat 16) ((1024*2^m.val:Nat):Int).toNat S).length/3)).2→uCnt S (uGo S (List.replicate 256 0) m.val) (1024*2^m.val)=(uSt (shakeL (Int.toNat 16) ((1024*2^m.val:Nat):Int).toNat S) (uGo S (List.replicate 256 0) m.val) ((shakeL (Int.toNat 16) ((1024*2^m.val:Nat):Int).toNat S).length/3)).1→_
 generalize shakeL (Int.toNat 16) ((1024*2^m.val:Nat):Int).toNat S=C
 intro hC hR hK
 have hF0:uGo S (List.replicate 256 0) m.val=(uSt C (uGo S (List.replicate 256 0) m.val) 0).2:=rfl
 generalize hG:uGo S (List.replicate 256 0) m.val=G at hR hK hF0 ⊢
 refine Or.inr ⟨{t:Nat // 3*t≤C.length},fun t=>⟨[(12,.one (.ob .int ((3*t.val:Nat):Int))),(11,.one (.ob .int ((uSt C G t.val).1:Int)))],[(2128,.blk 158 [.vec .u16 256 (uSt C G t.val).2])]⟩,fun t=>C.length-t.val,⟨0,Nat.zero_le _⟩,?_⟩
 refine ⟨rfl,rfl,rfl,rfl,fun t=>⟨fun h1=>⟨h1,sd (fun hl=>⟨fun h2=> ?_,fun h2=> ?_⟩)⟩,fun h1=>⟨h1,sd (fun hl=> ?_)⟩⟩⟩
 ·have h1:=of_decide_eq_true h1
  have h2:=of_decide_eq_true h2
  have ht:=t.2
  have hU:uSt C G (t.val+1)=uPut2 (uPut (uSt C G t.val) (uA C (3*t.val))) (uB C (3*t.val)):=by rw [uSt,if_pos (by omega)]
  revert hU
  generalize uSt C G t.val=U at h2 ⊢
  intro hU
  have c0:=(C.getD ((3*t.val:Nat):Int).toNat (Kd.df .u8)).toNat_lt
  have c1:=(C.getD (((3*t.val:Nat):Int)+1).toNat (Kd.df .u8)).toNat_lt
  have c2:=(C.getD (((3*t.val:Nat):Int)+2).toNat (Kd.df .u8)).toNat_lt
  have n1:(((3*t.val:Nat):Int)+1).toNat=3*t.val+1:=by omega
  have n2:(((3*t.val:Nat):Int)+2).toNat=3*t.val+2:=by omega
  have eA:(((C.getD ((3*t.val:Nat):Int).toNat (Kd.df .u8)).toNat:Nat):Int)+256*((((C.getD (((3*t.val:Nat):Int)+1).toNat (Kd.df .u8)).toNat:Nat):Int)%16)=((uA C (3*t.val):Nat):Int):=by rw [n1];exact uA_int _ _
  have eB:(((C.getD (((3*t.val:Nat):Int)+1).toNat (Kd.df .u8)).toNat:Nat):Int)/16+16*(((C.getD (((3*t.val:Nat):Int)+2).toNat (Kd.df .u8)).toNat:Nat):Int)=((uB C (3*t.val):Nat):Int):=by rw [n1,n2];exact uB_int _ _
  have lA:uA C (3*t.val)<65536:=by have:=u8_lt C (3*t.val);have:=u8_lt C (3*t.val+1);unfold uA;omega
  have lB:uB C (3*t.val)<65536:=by have:=u8_lt C (3*t.val+1);have:=u8_lt C (3*t.val+2);unfold uB;omega
  repeat refine sd ?_
  rw [eA,eB]
  generalize uA C (3*t.val)=va at lA hU ⊢
  generalize uB C (3*t.val)=vb at lB hU ⊢
  have e3:((3*(t.val+1):Nat):Int)=((3*t.val:Nat):Int)+3:=by omega
  have n3:((U.1:Int)+1).toNat=U.1+1:=by omega
  refine ⟨fun h5=> ?_,fun h5=> ?_⟩
  ·have h5:va<3329:=Int.ofNat_lt.1 (of_decide_eq_true h5)
   repeat refine sd ?_
   refine ⟨fun h6=>⟨h6,fun h7=> ?_,fun h7=> ?_⟩,fun h6=>⟨h6,?_⟩⟩
   ·have h6:vb<3329:=Int.ofNat_lt.1 (of_decide_eq_true h6)
    have h7:=of_decide_eq_true h7
    have hV:uSt C G (t.val+1)=(U.1+1+1,(U.2.set U.1 (UInt16.ofNat va)).set (U.1+1) (UInt16.ofNat vb)):=by rw [hU,uPut,if_pos h5,uPut2,if_pos ⟨h6,by dsimp only;omega⟩]
    repeat refine sd ?_
    refine sj ⟨t.val+1,by omega⟩ ⟨congrArg (fun z:Int=> [z]) ?_,congrArg (fun z:Int=> [z]) ?_,rfl,?_,trivial⟩
    ·exact e3
    ·show ((uSt C G (t.val+1)).1:Int)=_
     rw [hV]<;>first |rfl|(dsimp only;omega)
    ·show (uSt C G (t.val+1)).2=_
     rw [hV]<;>first |rfl|(rw [n3];rfl)
   ·have h7:=of_decide_eq_false h7
    have hV:uSt C G (t.val+1)=(U.1+1,U.2.set U.1 (UInt16.ofNat va)):=by rw [hU,uPut,if_pos h5,uPut2,if_neg (fun h=>by dsimp only at h;omega)]
    repeat refine sd ?_
    refine sj ⟨t.val+1,by omega⟩ ⟨congrArg (fun z:Int=> [z]) ?_,congrArg (fun z:Int=> [z]) ?_,rfl,?_,trivial⟩
    ·exact e3
    ·show ((uSt C G (t.val+1)).1:Int)=_
     rw [hV]<;>first |rfl|(dsimp only;omega)
    ·show (uSt C G (t.val+1)).2=_
     rw [hV]<;>first |rfl|(rw [n3];rfl)
   ·have h6:¬vb<3329:=fun h=>of_decide_eq_false h6 (Int.ofNat_lt.2 h)
    have hV:uSt C G (t.val+1)=(U.1+1,U.2.set U.1 (UInt16.ofNat va)):=by rw [hU,uPut,if_pos h5,uPut2,if_neg (fun h=>h6 h.1)]
    repeat refine sd ?_
    refine sj ⟨t.val+1,by omega⟩ ⟨congrArg (fun z:Int=> [z]) ?_,congrArg (fun z:Int=> [z]) ?_,rfl,?_,trivial⟩
    ·exact e3
    ·show ((uSt C G (t.val+1)).1:Int)=_
     rw [hV]<;>first |rfl|(dsimp only;omega)
    ·show (uSt C G (t.val+1)).2=_
     rw [hV]<;>first |rfl|(rw [n3];rfl)
  ·have h5:¬va<3329:=fun h=>of_decide_eq_false h5 (Int.ofNat_lt.2 h)
   refine ⟨fun h6=>⟨h6,fun h7=> ?_,fun h7=> ?_⟩,fun h6=>⟨h6,?_⟩⟩
   ·have h6:vb<3329:=Int.ofNat_lt.1 (of_decide_eq_true h6)
    have h7:=of_decide_eq_true h7
    have hV:uSt C G (t.val+1)=(U.1+1,U.2.set U.1 (UInt16.ofNat vb)):=by rw [hU,uPut,if_neg h5,uPut2,if_pos ⟨h6,by omega⟩]
    repeat refine sd ?_
    refine sj ⟨t.val+1,by omega⟩ ⟨congrArg (fun z:Int=> [z]) ?_,congrArg (fun z:Int=> [z]) ?_,rfl,?_,trivial⟩
    ·exact e3
    ·show ((uSt C G (t.val+1)).1:Int)=_
     rw [hV]<;>first |rfl|(dsimp only;omega)
    ·show (uSt C G (t.val+1)).2=_
     rw [hV]<;>first |rfl|(rw [n3];rfl)
   ·have h7:=of_decide_eq_false h7
    omega
   ·have h6:¬vb<3329:=fun h=>of_decide_eq_false h6 (Int.ofNat_lt.2 h)
    have hV:uSt C G (t.val+1)=U:=by rw [hU,uPut,if_neg h5,uPut2,if_neg (fun h=>h6 h.1)]
    repeat refine sd ?_
    refine sj ⟨t.val+1,by omega⟩ ⟨congrArg (fun z:Int=> [z]) ?_,congrArg (fun z:Int=> [z]) ?_,rfl,?_,trivial⟩
    ·exact e3
    ·show ((uSt C G (t.val+1)).1:Int)=_
     rw [hV]<;>first |rfl|(dsimp only;omega)
    ·show (uSt C G (t.val+1)).2=_
     rw [hV]<;>first |rfl|(rw [n3];rfl)
 all_goals
  have ht:=t.2
  have hend:uSt C G (C.length/3)=uSt C G t.val:=by
   first
    |(have h3:=of_decide_eq_false h2
      have h4:=of_decide_eq_true h1
      rw [show C.length/3=t.val+(C.length/3-t.val) by omega]
      exact uSt_stop (by omega) _)
    |(have h3:=of_decide_eq_false h1
      rw [show C.length/3=t.val by omega])
  rw [hend] at hR hK
  refine ⟨fun h3=>⟨h3,?_⟩,fun h3=>⟨h3,⟨fun h4=> ?_,fun h4=> ?_⟩⟩⟩
  ·have h3:=of_decide_eq_true h3
   refine ⟨rfl,?_,trivial⟩
   show uniL S=(uSt C G t.val).2
   rw [hF,uF1 (by rw [hG,hK];omega),hR]
  ·have h3:=of_decide_eq_false h3
   have h4:=of_decide_eq_true h4
   refine ⟨rfl,?_,trivial⟩
   show uniL S=(uSt C G t.val).2
   have h6:=p2_6 hm (by omega)
   rw [hF,←hR,h6];rfl
  ·have h3:=of_decide_eq_false h3
   have h4:=of_decide_eq_false h4
   have h6:=p2_5 (m:=m.val) (by omega)
   have hU6:¬uCnt S (uGo S (List.replicate 256 0) m.val) (1024*2^m.val)=256:=by
    rw [hG,hK]
    intro h
    exact h3 (congrArg Int.ofNat h)
   have hj:m.val+1≤6∧uniL S=uFin S (6-(m.val+1)) (m.val+1):=⟨h6,hF.trans (uF3 h6 hU6)⟩
   refine sd<|sj ⟨m.val+1,hj⟩ ⟨?_,rfl,?_,trivial⟩
   ·show [((1024*2^(m.val+1):Nat):Int)]= [2*((1024*2^m.val:Nat):Int)]
    rw [Nat.pow_succ]
    exact congrArg (fun z:Int=> [z]) (by omega)
   ·exact hR
def gUniform:GF:=fun l=>match l with
 | [.one (.ro .u8 s),.one (.ob .u8 i),.one (.ob .u8 j)]=>some ⟨[.agg [.vec .u16 256 (uniL (s++ [i,j]))]],[],some (s.length≤1000)⟩
 |_=>none
theorem uniform_sound:CSound 152 (cfA gUniform):=cfR_sound TYDok OPD10 Tryz.func152 (by kernel_rfl) rfl (rs:= [.cell 6 158]) Tryz.results152 fun l g h hp=>by
 unfold gUniform at h
 split at h
 ·cases h;exact ⟨Nat.le_of_ble_eq_true rfl,rfl,rfl,rfl,vcUniform _ _ _ hp⟩
 ·cases h
set_option maxRecDepth 10000
def polyN (d:Nat):List Nat→Nat
 | []=>0
 |v::r=>v+2^d*polyN d r
theorem polyN_dig {d:Nat}:∀ {l:List Nat},(∀v∈l,v<2^d)→∀i,i<l.length→polyN d l/2^(d*i)%2^d=l.getD i 0
 | [],_,i,hi=>by simp at hi
 |v::r,h,0,_=>by
  rw [polyN,Nat.mul_zero,Nat.pow_zero,Nat.div_one,Nat.add_mul_mod_self_left,Nat.mod_eq_of_lt (h v (by simp))];rfl
 |v::r,h,i+1,hi=>by
  rw [polyN,show d*(i+1)=d+d*i by rw [Nat.mul_succ,Nat.add_comm],Nat.pow_add,←Nat.div_div_eq_div_mul,Nat.add_mul_div_left _ _ (Nat.two_pow_pos d),Nat.div_eq_of_lt (h v (by simp)),Nat.zero_add]
  exact polyN_dig (fun u hu=>h u (List.mem_cons_of_mem _ hu)) i (by simpa using hi)
theorem polyN_lt {d:Nat}:∀ {l:List Nat},(∀v∈l,v<2^d)→polyN d l<2^(d*l.length)
 | [],_=>by simp [polyN]
 |v::r,h=>by
  have h1:=h v (by simp)
  have h2:=polyN_lt (l:=r) fun u hu=>h u (List.mem_cons_of_mem _ hu)
  rw [polyN,List.length_cons,Nat.mul_succ,Nat.add_comm (d*r.length),Nat.pow_add]
  have h3:2^d*(polyN d r+1)≤2^d*2^(d*r.length):=Nat.mul_le_mul_left _ h2
  rw [Nat.mul_succ] at h3
  omega
theorem bit_low (x:Nat) {k d:Nat} (h:k<d):x%2^d/2^k%2=x/2^k%2:=by
 obtain ⟨e,rfl⟩:∃e,d=k+(e+1):=⟨d-k-1,by omega⟩
 rw [Nat.pow_add,Nat.mod_mul_right_div_self]
 exact Nat.mod_mod_of_dvd _ ⟨2^e,by rw [Nat.pow_succ,Nat.mul_comm]⟩
theorem polyN_bit {d:Nat} {l:List Nat} (h:∀v∈l,v<2^d) {i k:Nat} (hi:i<l.length) (hk:k<d):polyN d l/2^(d*i+k)%2=l.getD i 0/2^k%2:=by
 rw [←polyN_dig h i hi,bit_low _ hk,Nat.pow_add,Nat.div_div_eq_div_mul]
theorem mod_bit (V a:Nat):V%2^(a+1)=V%2^a+V/2^a%2*2^a:=by
 rw [Nat.pow_succ,Nat.mod_mul,Nat.mul_comm (2^a)]
theorem leB_bit {L X a b:Nat} (hX:X<2^a) (hb:b≤1):(leB L X).set (a/8) ((leB L X).getD (a/8) 0|||s8 (UInt8.ofNat b) (a%8))=leB L (X+b*2^a):=by
 apply List.ext_getElem (by simp [leB_len])
 intro j h1 h2
 rw [leB_len] at h2
 have hp:∀m,2^a=2^(8*m)*2^(a-8*m)∨a<8*m:=fun m=>by
  rcases Nat.lt_or_ge a (8*m) with h|h
  ·exact .inr h
  ·exact .inl (by rw [←Nat.pow_add];congr 1;omega)
 rw [List.getElem_set,leB_get]
 by_cases e:a/8=j
 ·rw [if_pos e,List.getD_eq_getElem?_getD,List.getElem?_eq_getElem (by rw [leB_len];omega),Option.getD_some,leB_get,leB_get,s8]
  rcases hp j with h|h
  ·rw [show a/8=j from e]
   have hr:a-8*j=a%8:=by omega
   rw [hr] at h
   have hq:X/2^(8*j)<2^(a%8):=by
    rw [h] at hX
    exact Nat.div_lt_of_lt_mul hX
   have e1:(X+b*2^a)/2^(8*j)=X/2^(8*j)+b*2^(a%8):=by
    rw [h,←Nat.mul_assoc,Nat.mul_comm b,Nat.mul_assoc,Nat.add_mul_div_left _ _ (Nat.two_pow_pos _)]
   rw [e1]
   generalize X/2^(8*j)=y at hq
   have h7:2^(a%8)≤2^7:=Nat.pow_le_pow_right (by omega) (by omega)
   refine UInt8.toNat_inj.1 ?_
   have hbm:b*2^(a%8)≤2^7:=by
    rcases (show b=0∨b=1 by omega) with rfl|rfl<;>omega
   rw [UInt8.toNat_or,UInt8.toNat_ofNat',UInt8.toNat_ofNat',UInt8.toNat_ofNat',UInt8.toNat_ofNat',Nat.mod_eq_of_lt (show b<2^8 by omega),Nat.mod_eq_of_lt (show y<2^8 by omega),Nat.mod_eq_of_lt (show b*2^(a%8)<2^8 by omega),Nat.mod_eq_of_lt (show y+b*2^(a%8)<2^8 by omega)]
   rw [Nat.or_comm,←Nat.shiftLeft_eq,←Nat.shiftLeft_add_eq_or_of_lt hq,Nat.add_comm]
  ·omega
 ·rw [if_neg e,leB_get]
  rcases Nat.lt_or_ge j (a/8) with h|h
  ·rcases hp (j+1) with h3|h3
   ·rw [show 8*(j+1)=8*j+8 by omega,Nat.pow_add,Nat.mul_assoc] at h3
    rw [h3,←Nat.mul_assoc,Nat.mul_comm b,Nat.mul_assoc,Nat.add_mul_div_left _ _ (Nat.two_pow_pos _)]
    refine UInt8.toNat_inj.1 ?_
    rw [UInt8.toNat_ofNat',UInt8.toNat_ofNat',←Nat.mul_assoc,Nat.mul_comm b,Nat.mul_assoc]
    omega
   ·omega
  ·have h4:2^(a+1)≤2^(8*j):=Nat.pow_le_pow_right (by omega) (by omega)
   rw [Nat.pow_succ] at h4
   have hbm:b*2^a≤2^a:=by
    rcases (show b=0∨b=1 by omega) with rfl|rfl<;>omega
   rw [Nat.div_eq_of_lt (by omega),Nat.div_eq_of_lt (by omega)]
def pv (d:Nat) (f:List UInt16) (i:Nat):Nat:=if d=12 then gu f i%3329 else gu f i%2^d
def encN (d:Nat) (f:List UInt16):Nat:=polyN d ((List.range 256).map (pv d f))
def encL (d:Nat) (f:List UInt16):List UInt8:=leB (32*d) (encN d f)
theorem pv_lt (d:Nat) (f:List UInt16) (i:Nat):pv d f i<2^d:=by
 unfold pv
 split
 ·rename_i h;subst h;have:=Nat.mod_lt (gu f i) (show 3329>0 by omega);omega
 ·exact Nat.mod_lt _ (Nat.two_pow_pos d)
theorem encN_bit {d:Nat} (f:List UInt16) {i k:Nat} (hi:i<256) (hk:k<d):encN d f/2^(d*i+k)%2=pv d f i/2^k%2:=by
 rw [encN,polyN_bit (fun v hv=> ?_) (by simpa using hi) hk,rangeMap_getD hi]
 rw [List.mem_map] at hv
 obtain ⟨j,_,rfl⟩:=hv
 exact pv_lt d f j
theorem encN_lt (d:Nat) (f:List UInt16):encN d f<2^(d*256):=by
 have:=polyN_lt (d:=d) (l:=(List.range 256).map (pv d f)) fun v hv=>by
  rw [List.mem_map] at hv
  obtain ⟨j,_,rfl⟩:=hv
  exact pv_lt d f j
 rw [List.length_map,List.length_range] at this
 exact this
theorem leB_zero (k:Nat):leB k 0=List.replicate k 0:=by
 apply List.ext_getElem (by simp [leB_len])
 intro j h1 h2
 rw [leB_get];simp
theorem shl_one (d:Nat):(1:Int)*((2^(Nm.int (d:Int)).toInt.toNat:Nat):Int)=((2^d:Nat):Int):=by
 show (1:Int)*((2^d:Nat):Int)=_
 omega
set_option maxHeartbeats 2000000 in
theorem vcEncodePoly (f:List UInt16) (d:Nat) (hd:1≤d∧d≤12):vc TYD (ctOf L10) Tryz.f154.ntmps (bodyOf Tryz.f154) ⟨mkSl 0 [.agg [.vec .u16 256 f],.one (.ob .int (d:Int))],[],2000⟩ (retK [4,5] [.one (.rw 0),.one (.ob .int 0)] [(0,.row 5 .u8 (encL d f))]):=by
 refine ⟨fun h1=> ?_,fun h1=>⟨h1,fun h2=> ?_,fun h2=> ?_⟩⟩
 ·have h1:=of_decide_eq_true h1;omega
 ·have h2:=of_decide_eq_true h2;omega
 have hp12:2^d≤2^12:=Nat.pow_le_pow_right (by omega) hd.2
 have hp0:=Nat.two_pow_pos d
 refine sd<|⟨⟨show (0:Int)≤32*(d:Int) by omega,rfl,show 32*(d:Int)≤16777216 by omega⟩,?_⟩
 refine Or.inr ⟨{i:Nat // i≤256},fun i=>⟨[(7,.one (.ob .int (i.val:Int)))],[(2176,.row 5 .u8 (leB (32*d) (encN d f%2^(d*i.val))))]⟩,fun i=>256-i.val,⟨0,by omega⟩,?_⟩
 refine ⟨rfl,?_,fun i=>⟨fun h3=> ?_,fun h3=> ?_⟩⟩
 ·show leB (32*d) (encN d f%2^(d*0))=List.replicate (32*(d:Int)).toNat 0
  rw [Nat.mul_zero,Nat.pow_zero,Nat.mod_one,leB_zero,show (32*(d:Int)).toNat=32*d by omega]
 ·have h3:=of_decide_eq_true h3
  have hi:=i.2
  have hL:(leB (32*d) (encN d f%2^(d*i.val))).length=32*d:=leB_len _ _
  have e1:=shl_one d
  refine sd<|sd<|⟨⟨show (0:Int)≤(d:Int) by omega,show (d:Int)<64 by omega,?_⟩,?_,?_⟩
  ·rw [e1];exact ⟨by omega,by omega⟩
  ·rw [e1];exact ⟨by omega,by omega⟩
  rw [e1]
  have hx:=(f.getD (i.val:Int).toNat (Kd.df .u16)).toNat_lt
  have m1:(i.val:Int)*(d:Int)=((d*i.val:Nat):Int):=by rw [Nat.mul_comm];rfl
  have m2:d*i.val+d≤d*256:=by rw [←Nat.mul_succ];exact Nat.mul_le_mul_left _ (by omega)
  have m3:d*256≤12*256:=Nat.mul_le_mul_right _ hd.2
  have b1:0≤(i.val:Int)*(d:Int):=by rw [m1];exact Int.natCast_nonneg _
  have b2:(i.val:Int)*(d:Int)+(d:Int)≤256*(d:Int):=by rw [m1];omega
  have hbit:=fun k hk=>encN_bit (d:=d) f (i:=i.val) (k:=k) (by omega) hk
  have hlt:=pv_lt d f i.val
  refine ⟨fun h4=> ?_,fun h4=> ?_⟩
  all_goals
   first
    |(have h4:d=12:=by have:=of_decide_eq_true h4;omega
      have e2:(((f.getD (i.val:Int).toNat (Kd.df .u16)).toNat:Nat):Int)%3329=((pv d f i.val:Nat):Int):=by rw [pv,if_pos h4];rfl
      refine sd<|sd<|sd ?_
      rw [e2])
    |(have h4:¬d=12:=by have:=of_decide_eq_false h4;omega
      have e2:(((f.getD (i.val:Int).toNat (Kd.df .u16)).toNat:Nat):Int)%((2^d:Nat):Int)=((pv d f i.val:Nat):Int):=by rw [pv,if_neg h4];rfl
      rw [e2])
   generalize pv d f i.val=v at hbit hlt ⊢
   refine Or.inr ⟨{k:Nat // k≤d},fun k=>⟨[(9,.one (.ob .int (k.val:Int)))],[(2176,.row 5 .u8 (leB (32*d) (encN d f%2^(d*i.val+k.val))))]⟩,fun k=>d-k.val,⟨0,Nat.zero_le _⟩,?_⟩
   refine ⟨rfl,rfl,fun k=>⟨fun h5=> ?_,fun h5=> ?_⟩⟩
   ·have h5:=of_decide_eq_true h5
    have hk:=k.2
    have hX:=mod_bit (encN d f) (d*i.val+k.val)
    rw [hbit k.val (by omega)] at hX
    have hXl:=Nat.mod_lt (encN d f) (Nat.two_pow_pos (d*i.val+k.val))
    have hl:(leB (32*d) (encN d f%2^(d*i.val+k.val))).length=32*d:=leB_len _ _
    refine sd<|sd ?_
    rw [m1,show ((d*i.val:Nat):Int)+(k.val:Int)=((d*i.val+k.val:Nat):Int) from rfl]
    have m4:d*i.val+k.val+1=d*i.val+(k.val+1):=rfl
    rw [m4] at hX
    generalize hE:encN d f%2^(d*i.val+(k.val+1))=X' at hX
    generalize encN d f%2^(d*i.val+k.val)=X at hX hXl hl ⊢
    generalize hA:d*i.val+k.val=a at hX hXl hl ⊢
    have e5:(v:Int)/((2^(Nm.int (k.val:Int)).toInt.toNat:Nat):Int)=((v/2^k.val:Nat):Int):=rfl
    have e6:v/2^k.val≤v:=Nat.div_le_self _ _
    have e7:=Int.natCast_nonneg (v/2^k.val)
    refine sd<|sd<|sd<|sd<|⟨⟨show (0:Int)≤(k.val:Int) by omega,show (k.val:Int)<64 by omega⟩,?_,?_⟩
    ·rw [e5];exact ⟨⟨⟨by omega,by omega⟩,by omega⟩,⟨by decide,by decide⟩,by decide⟩
    rw [e5]
    refine sd<|sd<|⟨show (0:Int)≤(a:Int)%8 by omega,?_⟩
    refine sd<|sd<|sd<|sj ⟨k.val+1,by omega⟩<|sr ⟨?_,trivial⟩
    show leB (32*d) (encN d f%2^(d*i.val+(k.val+1)))=(leB (32*d) X).set ((a:Int)/8).toNat ((leB (32*d) X).getD ((a:Int)/8).toNat 0|||s8 (UInt8.ofNat (v/2^k.val&&&1)) ((a:Int)%8).toNat)
    rw [hE,hX,n8a,show ((a:Int)%8).toNat=a%8 by omega,Nat.and_one_is_mod]
    exact (leB_bit hXl (Nat.lt_succ_iff.1 (Nat.mod_lt _ (by omega)))).symm
   have h5:=of_decide_eq_false h5
   have hk:=k.2
   refine sd<|sj ⟨i.val+1,by omega⟩<|sr ⟨?_,trivial⟩
   show leB (32*d) (encN d f%2^(d*(i.val+1)))=leB (32*d) (encN d f%2^(d*i.val+k.val))
   rw [show d*(i.val+1)=d*i.val+k.val by rw [Nat.mul_succ];omega]
 ·have h3:=of_decide_eq_false h3
  have hi:=i.2
  refine ⟨rfl,?_,trivial⟩
  show leB (32*d) (encN d f)=leB (32*d) (encN d f%2^(d*i.val))
  rw [show i.val=256 by omega,Nat.mod_eq_of_lt (encN_lt d f)]
def gEnc:GF:=fun l=>match l with
 | [.agg [.vec .u16 256 f],.one (.ob .int d)]=>some ⟨[.one (.rw 0),.one (.ob .int 0)],[(0,.row 5 .u8 (encL d.toNat f))],some (InR 1 d 12)⟩
 |_=>none
theorem enc_sound:CSound 154 (cfA gEnc):=cfA_sound OPD10 Tryz.func154 (by kernel_rfl) rfl (rs:= [4,5]) Tryz.results154 fun l g h hp=>by
 unfold gEnc at h
 split at h
 ·rename_i f d
  cases h
  obtain ⟨h1,h2⟩:=hp
  obtain ⟨d,rfl⟩:=Int.eq_ofNat_of_zero_le (show (0:Int)≤d by omega)
  exact ⟨Nat.le_of_ble_eq_true rfl,rfl,rfl,rfl,vcEncodePoly _ _ ⟨by omega,by omega⟩⟩
 ·cases h
def L11:List (Nat×CF):=(152,cfA gUniform)::(154,cfA gEnc)::L10
theorem L11ok:∀p∈L11,CSound p.1 p.2:=ctCons uniform_sound<|ctCons enc_sound L10ok
theorem OPD11:OpsOk TYD (ctOf L11):=opsOk TYDok (ctOk L11ok)
theorem encL_len (d:Nat) (f:List UInt16):(encL d f).length=32*d:=leB_len _ _
set_option maxRecDepth 10000
def kG (d:List UInt8):List UInt8:=sha3L 64 (d++ [3])
def kRho (d:List UInt8):List UInt8:=(kG d).take 32
def kSig (d:List UInt8):List UInt8:=((kG d).drop 32).take ((kG d).length-32)
def kS (d:List UInt8) (i:UInt8):List UInt16:=nttL (noiseL (kSig d) i) 7
def kT (d:List UInt8) (i:UInt8):List UInt16:=padd (padd (padd (kS d (i+3)) (pmulS (uniL (kRho d++ [0,i])) (kS d 0) 128)) (pmulS (uniL (kRho d++ [1,i])) (kS d 1) 128)) (pmulS (uniL (kRho d++ [2,i])) (kS d 2) 128)
def kEk (d:List UInt8):List UInt8:=encL 12 (kT d 0)++encL 12 (kT d 1)++encL 12 (kT d 2)++kRho d
def kDk0 (d:List UInt8):List UInt8:=encL 12 (kS d 0)++encL 12 (kS d 1)++encL 12 (kS d 2)
def kDk (d z:List UInt8):List UInt8:=kDk0 d++kEk d++sha3L 32 (kEk d)++z
theorem kG_len (d:List UInt8):(kG d).length=64:=spongeL_len _ _ _ _
theorem kRho_len (d:List UInt8):(kRho d).length=32:=by simp [kRho,kG_len]
theorem kEk_len (d:List UInt8):(kEk d).length=1184:=by simp only [kEk,List.length_append,encL_len,kRho_len]
theorem kDk0_len (d:List UInt8):(kDk0 d).length=1152:=by simp only [kDk0,List.length_append,encL_len]
theorem se {p q:Prop} (hq:q) (hp:p:=by (simp only [List.length_append,List.length_cons,List.length_nil,List.length_take,List.length_drop,encL_len];omega)):p∧q:=⟨hp,hq⟩
set_option maxHeartbeats 40000000 in
theorem vcKeys (d z:List UInt8) (hd:d.length=32) (hz:z.length=32):vc TYD (ctOf L11) Tryz.f94.ntmps (bodyOf Tryz.f94) ⟨mkSl 0 [.one (.ro .u8 d),.one (.ro .u8 z)],[],2000⟩ (retK [4,5,6] [.one (.rw 0),.one (.rw 1),.one (.ob .int 0)] [(0,.row 5 .u8 (kEk d)),(1,.row 5 .u8 (kDk d z))]):=by
 have e1: [d,[UInt8.ofNat 3]].flatten=d++ [3]:=by simp
 refine ⟨fun h1=> ?_,fun h1=>⟨h1,fun _ _=>⟨fun h2=> ?_,fun h2=> ?_⟩⟩⟩
 ·have h1:=of_decide_eq_true h1;omega
 ·have h2:=of_decide_eq_true h2;omega
 refine ⟨⟨Nat.le_of_ble_eq_true rfl,by rw [e1];simp;omega⟩,⟨.inr rfl,by rw [e1];simp;omega,by decide⟩,?_⟩
 rw [e1]
 have hG:=kG_len d
 revert hG
 generalize hg:kG d=G
 intro hG
 have hg2:sha3L (Int.toNat 64) (d++ [3])=G:=hg
 rw [hg2]
 repeat refine sd ?_
 refine Or.inl ⟨4,?_⟩
 repeat refine sd ?_
 refine Or.inl ⟨4,?_⟩
 repeat refine sd ?_
 refine Or.inl ⟨4,?_⟩
 repeat (first|refine sd ?_|refine se ?_)
 refine Or.inl ⟨4,?_⟩
 repeat (first|refine sd ?_|refine se ?_)
 refine Or.inl ⟨4,?_⟩
 repeat (first|refine sd ?_|refine se ?_)
 subst hg
 refine ⟨⟨.inl rfl,?_,by decide⟩,?_⟩
 ·show (kEk d).length≤_
  rw [kEk_len];decide
 refine ⟨⟨Nat.le_of_ble_eq_true rfl,?_⟩,?_⟩
 ·show [kDk0 d,kEk d,sha3L 32 (kEk d),z].flatten.length≤_
  simp only [List.flatten_cons,List.flatten_nil,List.length_append,List.length_nil,kDk0_len,kEk_len,sha3L,spongeL_len,hz]
  decide
 refine ⟨rfl,rfl,?_,trivial⟩
 show kDk d z= [kDk0 d,kEk d,sha3L 32 (kEk d),z].flatten
 simp [kDk]
def gKeys:GF:=fun l=>match l with
 | [.one (.ro .u8 d),.one (.ro .u8 z)]=>some ⟨[.one (.rw 0),.one (.rw 1),.one (.ob .int 0)],[(0,.row 5 .u8 (kEk d)),(1,.row 5 .u8 (kDk d z))],some (d.length=32∧z.length=32)⟩
 |_=>none
theorem keys_sound:CSound 94 (cfA gKeys):=cfA_sound OPD11 Tryz.func94 (by kernel_rfl) rfl (rs:= [4,5,6]) Tryz.results94 fun l g h hp=>by
 unfold gKeys at h
 split at h
 ·cases h;exact ⟨Nat.le_of_ble_eq_true rfl,rfl,rfl,rfl,vcKeys _ _ hp.1 hp.2⟩
 ·cases h
def nmB (nx:Nat) (ns:List Nat) (b:Nat):Nat:=match isBn b with |true=>nx+b|false=>ns.getD (b-1000) 0
def Cl.rb (f:Nat→Nat):Cl→Cl
 | .ptr b j=> .ptr (f b) j
 | .rw b=> .rw (f b)
 | .sl b j m c=> .sl (f b) j m c
 | .sub b j m=> .sub (f b) j m
 |x=>x
def AV.rb (f:Nat→Nat):AV→AV
 | .one x=> .one (x.rb f)
 | .agg l=> .agg (l.map (Cl.rb f))
def Ch.rb (f:Nat→Nat):Ch→Ch
 | .blk E l=> .blk E (l.map (Cl.rb f))
 | .row E k l=> .row E k l
def nmOk (n b:Nat):Bool:=match Nat.blt b 16 with
 |true=>true
 |false=>match Nat.blt b 1000 with
  |true=>false
  |false=>Nat.blt b (1000+n)
def clOkB (n:Nat):Cl→Bool
 | .ptr b _=>nmOk n b| .sl b _ _ _=>nmOk n b| .rw b=>nmOk n b| .sub b _ _=>nmOk n b
 | .pix _ _ _=>false| .pro _ _=>false| .ro _ _=>false| .bb _=>false| .pbb _=>false| .mp _ _=>false| .rv _ _=>false
 |_=>true
def clsOkB (n:Nat):List Cl→Bool
 | []=>true
 |x::r=>match clOkB n x with |true=>clsOkB n r|false=>false
def avsOkB (n:Nat):List AV→Bool
 | []=>true
 | .one x::r=>match clOkB n x with |true=>avsOkB n r|false=>false
 | .agg l::r=>match clsOkB n l with |true=>avsOkB n r|false=>false
def chOkB (n:Nat):Ch→Bool
 | .blk _ l=>clsOkB n l
 | .row _ _ _=>true
def hpsOkB (n:Nat):List (Nat×Ch)→Bool
 | []=>true
 |(b,c)::r=>match nmOk n b,chOkB n c with
  |true,true=>hpsOkB n r
  |_,_=>false
def Cl.inB (n:Nat):Cl→Bool
 | .ptr b _=>match Nat.blt b 1000 with |true=>false|false=>Nat.blt b (1000+n)
 | .sl b _ _ _=>match Nat.blt b 1000 with |true=>false|false=>Nat.blt b (1000+n)
 | .rw b=>match Nat.blt b 1000 with |true=>false|false=>Nat.blt b (1000+n)
 | .sub b _ _=>match Nat.blt b 1000 with |true=>false|false=>Nat.blt b (1000+n)
 | .pix _ _ _=>false
 |_=>true
def clsInB (n:Nat):List Cl→Bool
 | []=>true
 |x::r=>match x.inB n with |true=>clsInB n r|false=>false
def avsInB (n:Nat):List AV→Bool
 | []=>true
 | .one x::r=>match x.inB n with |true=>avsInB n r|false=>false
 | .agg l::r=>match clsInB n l with |true=>avsInB n r|false=>false
def chsInB (n:Nat):List Ch→Bool
 | []=>true
 | .blk _ l::r=>match clsInB n l,clsOkB n l with |true,true=>chsInB n r|_,_=>false
 | .row _ _ _::r=>chsInB n r
def hpOf:Nat→List Ch→List (Nat×Nat×Ch)
 |_,[]=> []
 |i,c::r=>(i,1,c)::hpOf (i+1) r
def delK (d:List Nat):List (Nat×Nat×Ch)→List (Nat×Nat×Ch)
 | []=> []
 |(b,v,c)::r=>match memN b d with |true=>delK d r|false=>(b,v,c)::delK d r
def nodupN:List Nat→Bool
 | []=>true
 |x::r=>match memN x r with |true=>false|false=>nodupN r
def retB (ty:Nat→TE) (N:Nat) (rs:List ResultVar) (outs:List AV) (us:List (Nat×Ch)) (cs:List Ch) (d:List Nat):KK:=fun e S'=>match e with
 | .exit _=>False
 |_=>rdRes ty rs N S' fun l=>mtAll ⟨l,S'.hp,S'.nx⟩ 2000 (nums N outs) ⟨zipN N outs,us⟩ (delK d (hpOf 1000 cs)) fun _=>mtRest us S'.hp (delK d (hpOf 1000 cs)) True
def updB (f:Nat→Nat) (us:List (Nat×Ch)) (d:List Nat):List (Nat×Option Ch):=d.map (fun b=>(f b,none))++us.map fun p=>(f p.1,some (p.2.rb f))
section
variable {nx:Nat} {ns:List Nat} {η η' ηh:Env} {A A':Nat→Prop} {w:World}
theorem bltF {a b:Nat}:Nat.blt a b=false↔b≤a:=by
 rw [←Bool.not_eq_true,Nat.blt_eq];omega
theorem nmOk_spec {n b:Nat} (h:nmOk n b=true):b<16∨(1000≤b∧b<1000+n):=by
 unfold nmOk at h
 cases e:Nat.blt b 16 with
 |true=>exact .inl (by simpa using e)
 |false=>
  rw [e] at h
  cases e2:Nat.blt b 1000 with
  |true=>rw [e2] at h;cases h
  |false=>
   rw [e2] at h
   exact .inr ⟨bltF.1 e2,by simpa using h⟩
theorem nmB_new {b:Nat} (h:b<1000):nmB nx ns b=nx+b:=by
 unfold nmB isBn
 rw [show Nat.blt b 1000=true by simpa using h]
theorem nmB_old {b:Nat} (h:1000≤b):nmB nx ns b=ns.getD (b-1000) 0:=by
 unfold nmB isBn
 rw [bltF.2 h]
theorem rnN_new {n b:Nat} (h:b<1000):rnN n b=n+b:=by
 unfold rnN isBn
 rw [show Nat.blt b 1000=true by simpa using h]
theorem rnN_old {n b:Nat} (h:1000≤b):rnN n b=b:=by
 unfold rnN isBn
 rw [bltF.2 h]
theorem Cl.rn_rb {n:Nat} (x:Cl):x.rn n=x.rb (rnN n):=by cases x<;>rfl
theorem AV.rn_rb {n:Nat} (x:AV):x.rn n=x.rb (rnN n):=by
 cases x with
 |one x=>exact congrArg AV.one x.rn_rb
 |agg l=>exact congrArg AV.agg (List.map_congr_left fun x _=>x.rn_rb)
theorem Ch.rn_rb {n:Nat} (x:Ch):x.rn n=x.rb (rnN n):=by
 cases x with
 |row E k l=>rfl
 |blk E l=>exact congrArg (Ch.blk E) (List.map_congr_left fun x _=>x.rn_rb)
theorem Cl.rb_id (x:Cl):x.rb id=x:=by cases x<;>rfl
theorem Ch.rb_id (x:Ch):x.rb id=x:=by
 cases x with
 |row E k l=>rfl
 |blk E l=>exact congrArg (Ch.blk E) ((List.map_congr_left fun x _=>x.rb_id).trans (List.map_id _))
variable {f g:Nat→Nat} {n:Nat}
theorem Cl.H.rbn (he:∀b,nmOk n b=true→∀v,ηh (f b)=some v→η' (g b)=some v) {x:Cl} (hx:clOkB n x=true) {cs:List Value} (h:(x.rb f).H ηh A w cs):(x.rb g).H η' A' w cs:=by
 cases x
 case any=>exact h
 case un=>exact h
 case cv=>exact h
 case ob=>exact h
 case vec=>exact h
 case ptr b j=>
  obtain ⟨g,h1,h2⟩:=h
  exact ⟨g,he b hx _ h1,h2⟩
 case pix b j i=>cases hx
 case pro k x=>cases hx
 case sl b j m c=>
  obtain ⟨hn,g,h1,h2⟩:=h
  exact ⟨hn,g,he b hx _ h1,h2⟩
 case rw b=>
  obtain ⟨v,h1,h2⟩:=h
  exact ⟨v,he b hx _ h1,h2⟩
 case sub b j m=>
  obtain ⟨v,a,c,h1,h2⟩:=h
  exact ⟨v,a,c,he b hx _ h1,h2⟩
 case ro k l=>cases hx
 case bb l=>cases hx
 case pbb l=>cases hx
 case ln=>exact h
 case mp v f=>cases hx
 case rv v l=>cases hx
theorem ClsH.rbn (he:∀b,nmOk n b=true→∀v,ηh (f b)=some v→η' (g b)=some v):∀ {l:List Cl},clsOkB n l=true→∀ {cs:List Value},ClsH ηh A w (l.map (Cl.rb f)) cs→ClsH η' A' w (l.map (Cl.rb g)) cs
 | [],_,_,h=>h
 |x::r,hl,cs,⟨h,t,e,hx,hr⟩=>by
  unfold clsOkB at hl
  cases e1:clOkB n x with
  |false=>rw [e1] at hl;cases hl
  |true=>rw [e1] at hl;exact ⟨h,t,e,hx.rbn he e1,ClsH.rbn he hl hr⟩
theorem avsOkB_cons {x:AV} {l:List AV} (h:avsOkB n (x::l)=true):avsOkB n [x]=true∧avsOkB n l=true:=by
 cases x with
 |one x=>
  simp only [avsOkB] at h ⊢
  cases e:clOkB n x with
  |false=>rw [e] at h;cases h
  |true=>rw [e] at h;exact ⟨rfl,h⟩
 |agg q=>
  simp only [avsOkB] at h ⊢
  cases e:clsOkB n q with
  |false=>rw [e] at h;cases h
  |true=>rw [e] at h;exact ⟨rfl,h⟩
theorem AV.H.rbn (he:∀b,nmOk n b=true→∀v,ηh (f b)=some v→η' (g b)=some v) {x:AV} (hx:avsOkB n [x]=true) {v:Value} (h:(x.rb f).H ηh A w v):(x.rb g).H η' A' w v:=by
 cases x with
 |one x=>
  simp only [avsOkB] at hx
  cases e:clOkB n x with
  |false=>rw [e] at hx;cases hx
  |true=>exact Cl.H.rbn (x:=x) he e h
 |agg l=>
  simp only [avsOkB] at hx
  cases e:clsOkB n l with
  |false=>rw [e] at hx;cases hx
  |true=>
   obtain ⟨cs,e1,h1,h2⟩:=h
   exact ⟨cs,e1,h1.rbn he e,h2⟩
theorem AvsH.rbn (he:∀b,nmOk n b=true→∀v,ηh (f b)=some v→η' (g b)=some v):∀ {l:List AV},avsOkB n l=true→∀ {vs:List Value},AvsH ηh A w (l.map (AV.rb f)) vs→AvsH η' A' w (l.map (AV.rb g)) vs
 | [],_,_,h=>h
 |x::r,hl,vs,⟨v,t,e,hx,hr⟩=>by
  obtain ⟨h1,h2⟩:=avsOkB_cons hl
  exact ⟨v,t,e,hx.rbn he h1,hr.rbn he h2⟩
theorem Ch.H.rbn (he:∀b,nmOk n b=true→∀v,ηh (f b)=some v→η' (g b)=some v) {b:Nat} (hb:nmOk n b=true) {c:Ch} (hc:chOkB n c=true) (h:(c.rb f).H ηh A w (f b)):(c.rb g).H η' A' w (g b):=by
 cases c with
 |blk E l=>
  obtain ⟨g,cs,h1,h2,h3,h4⟩:=h
  exact ⟨g,cs,he b hb _ h1,h2,h3.rbn he hc,h4⟩
 |row E k l=>
  obtain ⟨v,cs,h1,h2⟩:=h
  exact ⟨v,cs,he b hb _ h1,h2⟩
theorem Ch.H.inb (he:∀b,1000≤b→b<1000+n→ηh b=η (nmB nx ns b)) {b:Nat} (hb:1000≤b∧b<1000+n) {c:Ch} (hl:∀E l,c= .blk E l→∀cs,ClsH η A w (l.map (Cl.rb (nmB nx ns))) cs→ClsH ηh A' w l cs) (h:(c.rb (nmB nx ns)).H η A w (nmB nx ns b)):c.H ηh A' w b:=by
 cases c with
 |blk E l=>
  obtain ⟨g,cs,h1,h2,h3,h4⟩:=h
  exact ⟨g,cs,by rw [he b hb.1 hb.2];exact h1,h2,hl E l rfl cs h3,h4⟩
 |row E k l=>
  obtain ⟨v,cs,h1,h2⟩:=h
  exact ⟨v,cs,by rw [he b hb.1 hb.2];exact h1,h2⟩
theorem chsInB_mem:∀ {cs:List Ch},chsInB n cs=true→∀E l,Ch.blk E l∈cs→clsInB n l=true∧clsOkB n l=true
 | [],_,E,l,h=>(by cases h)
 | .row _ _ _::r,h,E,l,hm=>by
  rcases List.mem_cons.1 hm with h1|h1
  ·cases h1
  ·exact chsInB_mem (cs:=r) h E l h1
 | .blk F m::r,h,E,l,hm=>by
  unfold chsInB at h
  cases e1:clsInB n m<;>cases e2:clsOkB n m<;>rw [e1,e2] at h<;>first |(cases h;done)|skip
  rcases List.mem_cons.1 hm with h1|h1
  ·cases h1;exact ⟨e1,e2⟩
  ·exact chsInB_mem (cs:=r) h E l h1
theorem Cl.H.inb (he:∀b,1000≤b→b<1000+n→ηh b=η (nmB nx ns b)) (hA:∀g,A g→A' g) {x:Cl} (hx:x.inB n=true) {cs:List Value} (h:(x.rb (nmB nx ns)).H η A w cs):x.H ηh A' w cs:=by
 have hb:∀b,(match Nat.blt b 1000 with |true=>false|false=>Nat.blt b (1000+n))=true→ηh b=η (nmB nx ns b):=fun b hb=>by
  cases e:Nat.blt b 1000 with
  |true=>rw [e] at hb;cases hb
  |false=>rw [e] at hb;exact he b (bltF.1 e) (by simpa using hb)
 cases x
 case any=>exact h
 case un=>exact h
 case cv=>exact h
 case ob=>exact h
 case vec=>exact h
 case ptr b j=>
  obtain ⟨g,h1,h2⟩:=h
  exact ⟨g,by rw [hb b hx];exact h1,h2⟩
 case pix b j i=>cases hx
 case pro k x=>
  obtain ⟨g,q,us,h1,h2,h3⟩:=h
  exact ⟨g,q,us,h1,hA _ h2,h3⟩
 case sl b j m c=>
  obtain ⟨hn,g,h1,h2⟩:=h
  exact ⟨hn,g,by rw [hb b hx];exact h1,h2⟩
 case rw b=>
  obtain ⟨v,h1,h2⟩:=h
  exact ⟨v,by rw [hb b hx];exact h1,h2⟩
 case sub b j m=>
  obtain ⟨v,a,c,h1,h2⟩:=h
  exact ⟨v,a,c,by rw [hb b hx];exact h1,h2⟩
 case ro k l=>exact Cl.H.names (n:=0) (η:=η) (fun b hb=>by omega) hA rfl h
 case bb l=>exact Cl.H.names (n:=0) (η:=η) (fun b hb=>by omega) hA rfl h
 case pbb l=>exact Cl.H.names (n:=0) (η:=η) (fun b hb=>by omega) hA rfl h
 case ln=>exact h
 case mp v f=>exact Cl.H.names (n:=0) (η:=η) (fun b hb=>by omega) hA rfl h
 case rv v l=>exact Cl.H.names (n:=0) (η:=η) (fun b hb=>by omega) hA rfl h
theorem ClsH.inb (he:∀b,1000≤b→b<1000+n→ηh b=η (nmB nx ns b)) (hA:∀g,A g→A' g):∀ {l:List Cl},clsInB n l=true→∀ {cs:List Value},ClsH η A w (l.map (Cl.rb (nmB nx ns))) cs→ClsH ηh A' w l cs
 | [],_,_,h=>h
 |x::r,hl,cs,⟨h,t,e,hx,hr⟩=>by
  unfold clsInB at hl
  cases e1:x.inB n with
  |false=>rw [e1] at hl;cases hl
  |true=>rw [e1] at hl;exact ⟨h,t,e,hx.inb he hA e1,ClsH.inb he hA hl hr⟩
theorem AvsH.inb (he:∀b,1000≤b→b<1000+n→ηh b=η (nmB nx ns b)) (hA:∀g,A g→A' g):∀ {l:List AV},avsInB n l=true→∀ {vs:List Value},AvsH η A w (l.map (AV.rb (nmB nx ns))) vs→AvsH ηh A' w l vs
 | [],_,_,h=>h
 |x::r,hl,vs,⟨v,t,e,hx,hr⟩=>by
  have h12:(match x with | .one y=>y.inB n| .agg q=>clsInB n q)=true∧avsInB n r=true:=by
   cases x with
   |one x=>
    simp only [avsInB] at hl
    cases e:x.inB n with
    |false=>rw [e] at hl;cases hl
    |true=>rw [e] at hl;exact ⟨e,hl⟩
   |agg q=>
    simp only [avsInB] at hl
    cases e:clsInB n q with
    |false=>rw [e] at hl;cases hl
    |true=>rw [e] at hl;exact ⟨e,hl⟩
  refine ⟨v,t,e,?_,AvsH.inb he hA h12.2 hr⟩
  cases x with
  |one x=>exact Cl.H.inb (x:=x) he hA h12.1 hx
  |agg q=>
   obtain ⟨cs,e1,h1,h2⟩:=hx
   exact ⟨cs,e1,h1.inb he hA h12.1,h2⟩
theorem hpOf_lk:∀ {cs:List Ch} {i b:Nat},lkH (hpOf i cs) b=(if i≤b then cs[b-i]? else none)∧verH (hpOf i cs) b=(if i≤b∧b<i+cs.length then 1 else 0)
 | [],i,b=>by simp [hpOf,lkH,verH];try omega
 |c::r,i,b=>by
  obtain ⟨h1,h2⟩:=hpOf_lk (cs:=r) (i:=i+1) (b:=b)
  simp only [hpOf,lkH,verH]
  cases e:Nat.beq i b with
  |true=>have:=beqT e;subst this;simp
  |false=>
   have e:=Nat.ne_of_beq_eq_false e
   rw [h1,h2]
   constructor
   ·by_cases hb:i≤b
    ·rw [if_pos (by omega),if_pos hb,show b-i=(b-(i+1))+1 by omega];rfl
    ·rw [if_neg (by omega),if_neg hb]
   ·simp only [List.length_cons]
    by_cases hb:i+1≤b∧b<i+1+r.length
    ·rw [if_pos hb,if_pos (by omega)]
    ·rw [if_neg hb,if_neg (by omega)]
theorem delK_lk {d:List Nat} {b:Nat}:∀ {l:List (Nat×Nat×Ch)},memN b d=false→lkH (delK d l) b=lkH l b∧verH (delK d l) b=verH l b
 | [],_=>⟨rfl,rfl⟩
 |(u,v,c)::r,h=>by
  obtain ⟨h1,h2⟩:=delK_lk (l:=r) h
  cases e:memN u d with
  |true=>
   have hne:Nat.beq u b=false:=by
    cases e2:Nat.beq u b with
    |false=>rfl
    |true=>have:=beqT e2;subst this;rw [h] at e;cases e
   simp only [delK,e,lkH,verH,hne]
   exact ⟨h1,h2⟩
  |false=>
   simp only [delK,e,lkH,verH,h1,h2]
   exact ⟨trivial,trivial⟩
theorem updB_some {f:Nat→Nat} {d:List Nat}:∀ {us:List (Nat×Ch)} {H:Nat→Option Ch} {b:Nat} {c:Ch},updF (updB f us d) H b=some c→(∃p∈us,b=f p.1∧c=p.2.rb f)∨(H b=some c∧(∀p∈us,b≠f p.1)∧∀x∈d,b≠f x):=by
 have h1:∀ {us:List (Nat×Ch)} {H:Nat→Option Ch} {b:Nat} {c:Ch},updF (us.map fun p=>(f p.1,some (p.2.rb f))) H b=some c→(∃p∈us,b=f p.1∧c=p.2.rb f)∨(H b=some c∧∀p∈us,b≠f p.1):=fun {us}=>by
  induction us with
  |nil=>exact fun h=> .inr ⟨h,fun p hp=>(by cases hp)⟩
  |cons p us ih=>
   intro H b c h
   rcases ih (H:=fun x=>if x=f p.1 then some (p.2.rb f) else H x) h with ⟨q,hq,e⟩|⟨h1,h2⟩
   ·exact .inl ⟨q,List.mem_cons_of_mem _ hq,e⟩
   ·by_cases e:b=f p.1
    ·rw [if_pos e] at h1;cases h1;exact .inl ⟨p,by simp,e,rfl⟩
    ·rw [if_neg e] at h1
     exact .inr ⟨h1,fun q hq=>by
      rcases List.mem_cons.1 hq with rfl|hq
      ·exact e
      ·exact h2 q hq⟩
 induction d with
 |nil=>
  intro us H b c h
  rcases h1 h with h|⟨h,h2⟩
  ·exact .inl h
  ·exact .inr ⟨h,h2,fun x hx=>(by cases hx)⟩
 |cons x d ih=>
  intro us H b c h
  rcases ih (H:=fun y=>if y=f x then none else H y) h with h|⟨h,h2,h3⟩
  ·exact .inl h
  ·by_cases e:b=f x
   ·rw [if_pos e] at h;cases h
   ·rw [if_neg e] at h
    exact .inr ⟨h,h2,fun y hy=>by
     rcases List.mem_cons.1 hy with rfl|hy
     ·exact e
     ·exact h3 y hy⟩
theorem hpsOkB_mem:∀ {us:List (Nat×Ch)},hpsOkB n us=true→∀p∈us,nmOk n p.1=true∧chOkB n p.2=true
 | [],_,p,hp=>(by cases hp)
 |(b,c)::r,h,p,hp=>by
  unfold hpsOkB at h
  cases e:nmOk n b<;>cases e2:chOkB n c<;>rw [e,e2] at h<;>first |(cases h;done)|skip
  rcases List.mem_cons.1 hp with rfl|hp
  ·exact ⟨e,e2⟩
  ·exact hpsOkB_mem h p hp
theorem nodupN_inj:∀ {l:List Nat},nodupN l=true→∀i j,i<l.length→j<l.length→l.getD i 0=l.getD j 0→i=j
 | [],_,i,j,h,_,_=>by simp at h
 |x::r,h,i,j,hi,hj,e=>by
  unfold nodupN at h
  cases e1:memN x r with
  |true=>rw [e1] at h;cases h
  |false=>
   rw [e1] at h
   have hx:x ∉ r:=by rw [←memN_iff];simp [e1]
   have hm:∀k,k<r.length→r.getD k 0∈r:=fun k hk=>by
    rw [List.getD_eq_getElem?_getD,List.getElem?_eq_getElem hk];exact List.getElem_mem hk
   simp only [List.length_cons] at hi hj
   cases i with
   |zero=>
    cases j with
    |zero=>rfl
    |succ j=>exact absurd (show x∈r from by have:x=r.getD j 0:=e;rw [this];exact hm j (by omega)) hx
   |succ i=>
    cases j with
    |zero=>exact absurd (show x∈r from by have:r.getD i 0=x:=e;rw [←this];exact hm i (by omega)) hx
    |succ j=>rw [nodupN_inj h i j (by omega) (by omega) e]
end
section
variable {ty:Nat→TE} {ct:Nat→Option CF} {H:Nat→Option Ch} {η:Env} {w:World} {nx:Nat}
theorem hp_val (hH:HpOk H η w) {b:Nat} (hb:H b≠none):∃v,η b=some v:=by
 cases e:H b with
 |none=>exact absurd e hb
 |some c=>
  have:=hH.chunk b c e
  cases c with
  |blk E l=>obtain ⟨g,cs,h1,_⟩:=this;exact ⟨_,h1⟩
  |row E k l=>obtain ⟨v,cs,h1,_⟩:=this;exact ⟨_,h1⟩
theorem hp_lt (hH:HpOk H η w) {b g:Nat} (hb:H b≠none) (hg:fpE η b=some g):g<w.heap.size:=by
 cases e:H b with
 |none=>exact absurd e hb
 |some c=>
  have:=hH.chunk b c e
  cases c with
  |blk E l=>
   obtain ⟨g',cs,h1,h2,_⟩:=this
   unfold fpE at hg;rw [h1] at hg;cases hg;exact h2.lt
  |row E k l=>
   obtain ⟨u,cs,h1,h2,h3⟩:=this
   rcases h3.2 with ⟨rfl,_⟩|⟨g',cap,cur,rfl,_,h4,_⟩
   ·unfold fpE at hg;rw [h1] at hg;cases hg
   ·unfold fpE at hg;rw [h1] at hg;cases hg;exact (Array.getElem?_eq_some_iff.1 h4).1
theorem calls_B (hm:Tryz.prog.follows .mixedOrders=true) (hT:TysOk ty) (hO:OpsOk ty ct) {f:Nat} {fn:Func} {c:Code} {rs:List ResultVar} (hf:Tryz.prog.funcs[f]?=some fn) (hb:fn.body=some c) (hr:fn.results=rs.toArray) {l:List AV} {cs:List Ch} {ns d:List Nat}
  (hn:cs.length≤500) (hl:avsInB cs.length l=true) (hcs:chsInB cs.length cs=true) (hlen:l.length≤fn.ntmps) (hns:ns.length=cs.length) (hnd:nodupN ns=true) (hH0:∀j c,cs[j]?=some c→H (ns.getD j 0)=some (c.rb (nmB nx ns)))
  {outs:List AV} {us:List (Nat×Ch)} (ho:outs.length=rs.length) (h16:avsOkB cs.length outs=true) (hh16:hpsOkB cs.length us=true) (hvc:vc ty ct fn.ntmps c ⟨mkSl 0 l,hpOf 1000 cs,2000⟩ (retB ty fn.ntmps rs outs us cs d))
  (hH:HpOk H η w) (hfree:∀b,nx≤b→b<nx+16→η b=none) {vs:List Value} (hv:AvsH η (Anon H η) w (l.map (AV.rb (nmB nx ns))) vs) {pre:Option Prop}:
  Calls Tryz.prog f vs.toArray w fun e w'=>∃v η',e= .returned v∧ResH H η w nx ⟨outs.map (AV.rb (nmB nx ns)),updB (nmB nx ns) us d,pre,none⟩ v w' η':=by
 refine calls_of_wp hf hb ?_
 let ηc:Env:=fun b=>if 1000≤b∧b<1000+cs.length then η (nmB nx ns b) else none
 have hc1:∀b,1000≤b→b<1000+cs.length→ηc b=η (nmB nx ns b):=fun b h1 h2=>by show (if _ then _ else _)=_;rw [if_pos ⟨h1,h2⟩]
 have hc0:∀b,2000≤b→ηc b=none:=fun b h1=>by show (if _ then _ else _)=_;rw [if_neg (by omega)]
 have hnm:∀j,nmB nx ns (1000+j)=ns.getD j 0:=fun j=>by rw [nmB_old (by omega),show 1000+j-1000=j by omega]
 have hlk:∀b c,lkH (hpOf 1000 cs) b=some c→∃j,b=1000+j∧j<cs.length∧cs[j]?=some c:=fun b c h=>by
  rw [hpOf_lk.1] at h
  split at h
  ·exact ⟨b-1000,by omega,(List.getElem?_eq_some_iff.1 h).1,h⟩
  ·cases h
 have hHj:∀j,j<cs.length→H (ns.getD j 0)≠none:=fun j hj=>by
  rw [hH0 j cs[j] (List.getElem?_eq_getElem hj)];simp
 have hfc:∀j,j<cs.length→fpE ηc (1000+j)=fpE η (ns.getD j 0):=fun j hj=>by
  unfold fpE;rw [hc1 _ (by omega) (by omega),hnm]
 have hinj:∀i j,i<cs.length→j<cs.length→ns.getD i 0=ns.getD j 0→i=j:=fun i j hi hj e=>nodupN_inj hnd i j (by omega) (by omega) e
 have hA:∀g,Anon H η g→Anon (lkH (hpOf 1000 cs)) ηc g:=fun g ha b hb=>by
  cases e:lkH (hpOf 1000 cs) b with
  |none=>exact absurd e hb
  |some c=>
   obtain ⟨j,rfl,hj,_⟩:=hlk b c e
   rw [hfc j hj]
   exact ha _ (hHj j hj)
 have hv0:AvsH ηc (Anon (lkH (hpOf 1000 cs)) ηc) w l vs:=AvsH.inb hc1 hA hl hv
 obtain ⟨hvl,hsl⟩:=mkSl_ok (i:=0) hv0
 have hS:SatS fn.ntmps ⟨mkSl 0 l,hpOf 1000 cs,2000⟩ ηc {tmps:=vs.toArray++Array.replicate (fn.ntmps-vs.toArray.size) undef,defers:= []} w:=by
  refine ⟨⟨rfl,?_,fun t=> ?_,fun b c h=> ?_,fun b b' g hbb h1 h2 hg=> ?_⟩,hc0⟩
  ·simp;omega
  ·rcases hsl t with h|⟨x,v,h1,h2,h3,h4⟩
   ·show OutH _ _ _ (lkS (mkSl 0 l) t) _
    rw [h];trivial
   ·show OutH _ _ _ (lkS (mkSl 0 l) t) _
    rw [h1]
    have e:(vs.toArray++Array.replicate (fn.ntmps-vs.toArray.size) undef).getD t undef=v:=by
     rw [Array.getD_eq_getD_getElem?,Array.getElem?_append_left (by simp;exact (List.getElem?_eq_some_iff.1 h3).1)]
     simp only [Nat.sub_zero] at h3
     rw [List.getElem?_toArray,h3];rfl
    show OutH _ _ _ [x] (Array.getD _ t undef)
    rw [e]
    exact h4
  ·obtain ⟨j,rfl,hj,hc⟩:=hlk b c h
   refine Ch.H.inb hc1 ⟨by omega,by omega⟩ (fun E q e cs' hq=> ?_) (hH.chunk _ _ ?_)
   ·subst e
    exact ClsH.inb hc1 hA (chsInB_mem hcs E q (List.mem_of_getElem? hc)).1 hq
   ·rw [hnm];exact hH0 j c hc
  ·cases e1:lkH (hpOf 1000 cs) b with
   |none=>exact absurd e1 h1
   |some c1=>
    cases e2:lkH (hpOf 1000 cs) b' with
    |none=>exact absurd e2 h2
    |some c2=>
     obtain ⟨j,rfl,hj,_⟩:=hlk b c1 e1
     obtain ⟨j',rfl,hj',_⟩:=hlk b' c2 e2
     rw [hfc j hj] at hg
     rw [hfc j' hj']
     exact hH.apart _ _ g (fun e=>hbb (by rw [hinj j j' hj hj' e])) (hHj j hj) (hHj j' hj') hg
 refine wp_mono (vc_sound hm hO c _ _ hvc _ _ _ hS) fun e a' w' hP=> ?_
 obtain ⟨e',S',η',h1,h2,⟨hS',_⟩,hF,hHp,hE,_⟩:=hP
 have key:(rdRes ty rs fn.ntmps S' fun l=>mtAll ⟨l,S'.hp,S'.nx⟩ 2000 (nums fn.ntmps outs) ⟨zipN fn.ntmps outs,us⟩ (delK d (hpOf 1000 cs)) fun _=>mtRest us S'.hp (delK d (hpOf 1000 cs)) True)→a'.defers= []∧∃v,(results fn a'.tmps).run Tryz.prog w'= .ok v w'∧∃v' η'',Ending.returned v= .returned v'∧ResH H η w nx ⟨outs.map (AV.rb (nmB nx ns)),updB (nmB nx ns) us d,pre,none⟩ v' w' η'':=fun hrd=>by
  obtain ⟨l2,vals,hmt,hres,hvl2,hsl2⟩:=rdRes_ok hT hS' hrd
  refine ⟨hS'.df,_,run_resultsR hr hres,?_⟩
  have hget:∀j v,vals[j]?=some v→(a'.tmps++vals.toArray).getD (fn.ntmps+j) undef=v:=fun j v hj=>by
   rw [Array.getD_eq_getD_getElem?,Array.getElem?_append_right (by rw [hS'.sz];omega),hS'.sz,show fn.ntmps+j-fn.ntmps=j by omega,List.getElem?_toArray,hj];rfl
  have hS2:Sat (lkS l2) (lkH S'.hp) (fn.ntmps+vals.length) η' {tmps:=a'.tmps++vals.toArray,defers:= []} w':=by
   refine ⟨rfl,by simp [hS'.sz],fun t=> ?_,hS'.chunk,hS'.apart⟩
   rcases hsl2 t with h|⟨j,v,rfl,h3,h4⟩
   ·rw [h];trivial
   ·show OutH _ _ _ _ (Array.getD _ _ undef)
    rw [hget j v h3]
    exact h4
  obtain ⟨τ,hτ,hrest,_,_,hX⟩:=mtAll_ok (S:=⟨l2,S'.hp,S'.nx⟩) hS2 hmt
  obtain ⟨hrest,_⟩:=mtRest_spec hrest
  have hM:Meant 2000 (kpOf us (delK d (hpOf 1000 cs))) η' (Anon (lkH S'.hp) η') τ (headE 2000 τ η') (fun _=>True):=
   ⟨fun b _ hlt v hv=>by rw [headE_lt hlt];exact hv,fun b c hb hs=>by rw [headE_new (isBn_lt hb),hs],fun b hb hs=>by rw [headE_new (isBn_lt hb),hs],fun _ _=>trivial,fun _ _ _ _=>trivial⟩
  obtain ⟨x1,x2⟩:=hX _ _ hM
  let ηf:Env:=fun b=>if nx≤b∧b<nx+16 then headE 2000 τ η' (2000+(b-nx)) else η b
  have hff:∀b,¬(nx≤b∧b<nx+16)→ηf b=η b:=fun b h=>by show (if _ then _ else _)=_;rw [if_neg h]
  have hfn:∀b,b<16→ηf (nx+b)=headE 2000 τ η' (2000+b):=fun b h=>by show (if _ then _ else _)=_;rw [if_pos (by omega),show 2000+(nx+b-nx)=2000+b by omega]
  have hout:∀b,H b≠none→¬(nx≤b∧b<nx+16):=fun b hb h=>by
   obtain ⟨v,hv⟩:=hp_val hH hb
   rw [hfree b h.1 h.2] at hv;cases hv
  have hold:∀b,H b≠none→ηf b=η b:=fun b hb=>hff b (hout b hb)
  have he:∀b,nmOk cs.length b=true→∀v,headE 2000 τ η' (rnN 2000 b)=some v→ηf (nmB nx ns b)=some v:=fun b hb v hv=>by
   rcases nmOk_spec hb with h|⟨h3,h4⟩
   ·rw [rnN_new (by omega)] at hv
    rw [nmB_new (by omega),hfn b h];exact hv
   ·rw [rnN_old h3,headE_lt (by omega),hE b (by show b<2000;omega),hc1 b h3 h4] at hv
    rw [hold _ (by rw [nmB_old h3];exact hHj _ (by omega))];exact hv
  -- what stands at a name
  have hcase:∀b c,updF (updB (nmB nx ns) us d) H b=some c→(∃p∈us,b=nmB nx ns p.1∧c=p.2.rb (nmB nx ns))∨(H b=some c∧((∃j,j<cs.length∧b=ns.getD j 0∧lkH S'.hp (1000+j)=cs[j]?∧kpOf us (delK d (hpOf 1000 cs)) (1000+j)=true)∨∀j,j<cs.length→b≠ns.getD j 0)):=fun b c hb=>by
   rcases updB_some hb with h|⟨h3,h4,h5⟩
   ·exact .inl h
   ·refine .inr ⟨h3,?_⟩
    by_cases hj:∃j,j<cs.length∧b=ns.getD j 0
    ·obtain ⟨j,hj,rfl⟩:=hj
     have hd:memN (1000+j) d=false:=by
      cases e:memN (1000+j) d with
      |false=>rfl
      |true=>exact absurd (hnm j).symm (h5 _ ((memN_iff _ _).1 e))
     obtain ⟨g1,g2⟩:=delK_lk (l:=hpOf 1000 cs) hd
     obtain ⟨g3,g4⟩:=hpOf_lk (cs:=cs) (i:=1000) (b:=1000+j)
     rw [if_pos (by omega),show 1000+j-1000=j by omega] at g3
     rw [if_pos (by omega)] at g4
     have hm:memK (1000+j) us=false:=by
      cases e:memK (1000+j) us with
      |false=>rfl
      |true=>
       rw [memK_iff] at e
       obtain ⟨p,hp,e2⟩:=e
       exact absurd (by rw [e2,hnm]) (h4 p hp)
     have hk:memK (1000+j) (delK d (hpOf 1000 cs))=true:=lkH_memK (c:=cs[j]) (by rw [g1,g3];exact List.getElem?_eq_getElem hj)
     refine .inl ⟨j,hj,rfl,?_,by unfold kpOf;rw [hm];exact hk⟩
     rcases hrest (1000+j) cs[j] (by rw [g1,g3];exact List.getElem?_eq_getElem hj) with h6|h6
     ·rw [hm] at h6;cases h6
     ·rw [g2,g4] at h6
      rcases hHp.2 (1000+j) with ⟨_,h7⟩|h7|h7
      ·rw [h7];exact g3
      ·have h7:2000≤verH S'.hp (1000+j):=h7
       have h6:verH S'.hp (1000+j)=1:=h6
       omega
      ·have h6:verH S'.hp (1000+j)=1:=h6
       omega
    ·exact .inr fun j hj' e=>hj ⟨j,hj',e⟩
  have hsrc:∀p∈us,p.1<16→∀g,fpE ηf (nmB nx ns p.1)=some g→∃a,subOf τ.m p.1=some (some a)∧lkH S'.hp a≠none∧fpE η' a=some g:=fun p hp hlt g hg=>by
   have hbn:isBn p.1=true:=by unfold isBn;simp;omega
   obtain ⟨dd,d1,d2⟩:=(x2 p hp).2.2 hbn
   have eh:=headE_new (nx:=2000) (τ:=τ) (η:=η') (show p.1<1000 by omega)
   rw [d1] at eh
   unfold fpE at hg
   rw [nmB_new (by omega),hfn _ hlt] at hg
   cases dd with
   |none=>rw [eh] at hg;cases hg
   |some a=>rw [eh] at hg;exact ⟨a,d1,d2 a rfl,hg⟩
  have hkeep:∀p∈us,1000≤p.1→lkH S'.hp p.1≠none∧kpOf us (delK d (hpOf 1000 cs)) p.1=true:=fun p hp h3=>by
   have hbn:isBn p.1=false:=by unfold isBn;exact bltF.2 h3
   refine ⟨(x2 p hp).2.1 hbn,?_⟩
   unfold kpOf
   rw [(memK_iff _ _).2 ⟨p,hp,rfl⟩]
  -- two sorts: new ones, and those that were
  have hsort:∀b,updF (updB (nmB nx ns) us d) H b≠none→(∃p∈us,p.1<16∧b=nmB nx ns p.1)∨(H b≠none∧ηf b=η b∧((∃j,j<cs.length∧b=ns.getD j 0∧lkH S'.hp (1000+j)≠none∧kpOf us (delK d (hpOf 1000 cs)) (1000+j)=true)∨∀j,j<cs.length→b≠ns.getD j 0)):=fun b hb=>by
   cases e:updF (updB (nmB nx ns) us d) H b with
   |none=>exact absurd e hb
   |some c=>
    rcases hcase b c e with ⟨p,hp,e1,e2⟩|⟨h3,h4⟩
    ·rcases nmOk_spec (hpsOkB_mem hh16 p hp).1 with h5|⟨h5,h6⟩
     ·exact .inl ⟨p,hp,h5,e1⟩
     ·right
      obtain ⟨k1,k2⟩:=hkeep p hp h5
      have hj:p.1-1000<cs.length:=by omega
      rw [nmB_old h5] at e1
      subst e1
      exact ⟨hHj _ hj,hold _ (hHj _ hj),.inl ⟨p.1-1000,hj,rfl,by rw [show 1000+(p.1-1000)=p.1 by omega];exact k1,by rw [show 1000+(p.1-1000)=p.1 by omega];exact k2⟩⟩
    ·right
     refine ⟨by rw [h3];simp,hold _ (by rw [h3];simp),?_⟩
     rcases h4 with ⟨j,hj,e1,e2,e3⟩|h4
     ·exact .inl ⟨j,hj,e1,by rw [e2,List.getElem?_eq_getElem hj];simp,e3⟩
     ·exact .inr h4
  have hfE:∀j,j<cs.length→fpE η' (1000+j)=fpE η (ns.getD j 0):=fun j hj=>by
   rw [←hfc j hj]
   unfold fpE
   rw [hE _ (by show 1000+j<2000;omega)]
  have hanon:∀g,g<w.heap.size→Anon H η g→Anon (updF (updB (nmB nx ns) us d) H) ηf g:=fun g hg ha b hb=>by
   rcases hsort b hb with ⟨p,hp,h3,rfl⟩|⟨h3,h4,_⟩
   ·intro hgb
    obtain ⟨a,a1,a2,a3⟩:=hsrc p hp h3 g hgb
    exact (hF.anon g hg (hA g ha)).2 a a2 a3
   ·unfold fpE;rw [h4];exact ha b h3
  have hfw:Fw H η w (updF (updB (nmB nx ns) us d) H) ηf w':=⟨hF.os,hF.tape,hF.output,hF.size,fun b v hv=>by
   rw [hff b (fun h=>by rw [hfree b h.1 h.2] at hv;cases hv)];exact hv,fun g hg ha=>⟨(hF.anon g hg (hA g ha)).1,hanon g hg ha⟩⟩
  -- a new one and one that was
  have hnewold:∀p∈us,p.1<16→∀b,H b≠none→((∃j,j<cs.length∧b=ns.getD j 0∧lkH S'.hp (1000+j)≠none∧kpOf us (delK d (hpOf 1000 cs)) (1000+j)=true)∨∀j,j<cs.length→b≠ns.getD j 0)→∀g,fpE ηf (nmB nx ns p.1)=some g→fpE η b≠some g:=fun p hp hlt b hb hor g hg hgb=>by
   obtain ⟨a,a1,a2,a3⟩:=hsrc p hp hlt g hg
   rcases hor with ⟨j,hj,rfl,k1,k2⟩|hno
   ·refine hS'.apart a (1000+j) g ?_ a2 k1 a3 (by rw [hfE j hj];exact hgb)
    rintro rfl
    have:=hτ.kept _ _ a1
    rw [k2] at this;cases this
   ·refine (hF.anon g (hp_lt hH hb hgb) fun b' hb'=> ?_).2 a a2 a3
    cases e:lkH (hpOf 1000 cs) b' with
    |none=>exact absurd e hb'
    |some c'=>
     obtain ⟨j,rfl,hj,_⟩:=hlk b' c' e
     rw [hfc j hj]
     exact hH.apart b _ g (hno j hj) hb (hHj j hj) hgb
  have hall:=zipN_outs (nx:=2000) (val:=fun t=>(a'.tmps++vals.toArray).getD t undef) (ho.trans hvl2.symm) hget x1
  have hall2:AvsH ηf (Anon (updF (updB (nmB nx ns) us d) H) ηf) w' (outs.map (AV.rb (nmB nx ns))) vals:=by
   rw [List.map_congr_left fun x _=>AV.rn_rb (n:=2000) x] at hall
   exact hall.rbn he h16
  refine ⟨_,ηf,rfl,⟨?_,⟨fun b c hbc=> ?_,fun b b' g hbb h3 h4 hg=> ?_⟩,hfw,fun b hb=>hff b (by omega),trivial⟩⟩
  ·show OutH _ _ _ (outs.map (AV.rb (nmB nx ns))) (oneOr vals)
   rcases outs with _|⟨x,_|⟨y,outs⟩⟩
   ·trivial
   ·obtain ⟨v,t,e,h1,h2⟩:=hall2
    cases h2
    rw [e]
    exact h1
   ·obtain ⟨v,t,e,h1,v2,t2,e2,h3,h4⟩:=hall2
    subst e2
    rw [e]
    exact ⟨_,rfl,_,_,rfl,h1,_,_,rfl,h3,h4⟩
  ·rcases hcase b c hbc with ⟨p,hp,rfl,rfl⟩|⟨h3,h4⟩
   ·obtain ⟨k1,k2⟩:=hpsOkB_mem hh16 p hp
    have:=(x2 p hp).1
    rw [Ch.rn_rb] at this
    exact Ch.H.rbn he k1 k2 this
   ·rcases h4 with ⟨j,hj,rfl,k1,_⟩|hno
    ·rw [List.getElem?_eq_getElem hj] at k1
     have h5:=hH0 j cs[j] (List.getElem?_eq_getElem hj)
     rw [h3] at h5
     cases h5
     have h6:=hS'.chunk (1000+j) _ k1
     have hok:nmOk cs.length (1000+j)=true:=by
      unfold nmOk
      rw [bltF.2 (by omega),bltF.2 (by omega)]
      simp;omega
     have hch:chOkB cs.length cs[j]=true:=by
      cases e:cs[j] with
      |row E k l=>rfl
      |blk E l=>exact (chsInB_mem hcs E l (by rw [←e];exact List.getElem_mem hj)).2
     rw [←hnm j]
     have h7:(cs[j].rb (rnN 2000)).H (headE 2000 τ η') (fun _=>True) w' (rnN 2000 (1000+j)):=Ch.H.rbn (f:=id) (g:=rnN 2000) (n:=cs.length) (ηh:=η') (η':=headE 2000 τ η') (fun b hb v hv=>by
      rcases nmOk_spec hb with h8|⟨h8,h9⟩
      ·have:η' b=ηc b:=hE b (by show b<2000;omega)
       rw [show η' (id b)=η' b from rfl,this,show ηc b=none from if_neg (by omega)] at hv
       cases hv
      ·rw [rnN_old h8,headE_lt (by omega)];exact hv) hok hch (by rw [Ch.rb_id];exact h6)
     exact Ch.H.rbn he hok hch h7
    ·refine (hH.chunk b c h3).later hfw.lt fun g hg=>(hF.anon g (hp_lt hH (by rw [h3];simp) hg) fun b' hb'=> ?_).1
     cases e:lkH (hpOf 1000 cs) b' with
     |none=>exact absurd e hb'
     |some c'=>
      obtain ⟨j,rfl,hj,_⟩:=hlk b' c' e
      rw [hfc j hj]
      exact hH.apart b _ g (hno j hj) (by rw [h3];simp) (hHj j hj) hg
  ·rcases hsort b h3 with ⟨p,hp,p1,rfl⟩|⟨q1,q2,q3⟩
   ·rcases hsort b' h4 with ⟨p',hp',p1',rfl⟩|⟨q1,q2,q3⟩
    ·intro hg'
     obtain ⟨a,a1,a2,a3⟩:=hsrc p hp p1 g hg
     obtain ⟨b,b1,b2,b3⟩:=hsrc p' hp' p1' g hg'
     refine hS'.apart a b g ?_ a2 b2 a3 b3
     rintro rfl
     exact hbb (by rw [hτ.inj _ _ _ a1 b1])
    ·unfold fpE;rw [q2];exact hnewold p hp p1 b' q1 q3 g hg
   ·unfold fpE at hg;rw [q2] at hg
    rcases hsort b' h4 with ⟨p',hp',p1',rfl⟩|⟨q1',q2',q3'⟩
    ·intro hg'
     exact hnewold p' hp' p1' b q1 q3 g hg' hg
    ·unfold fpE;rw [q2'];exact hH.apart b b' g hbb q1 q1' hg
 cases e with
 |normal=>cases h1;exact key h2
 |ret=>cases h1;exact key h2
 |exit id=>cases h1;exact h2.elim
 |panic c=>cases h1
 |outgrown=>cases h1
 |goto l=>cases h1
end
def nameN {α:Type} (b:Nat):List Nat→Nat→(Nat→List Nat→α)→α
 | [],i,k=>frcN i fun i=>k i [b]
 |a::r,i,k=>match Nat.beq a b with
  |true=>frcN i fun i=>k i (a::r)
  |false=>nameN b r (i+1) fun i r=>k i (a::r)
def gaCl {α:Type} (x:Cl) (ns:List Nat) (k:Cl→List Nat→α):α:=match x with
 | .ptr b o=>nameN b ns 1000 fun b ns=>k (.ptr b o) ns
 | .rw b=>nameN b ns 1000 fun b ns=>k (.rw b) ns
 | .sl b o n c=>nameN b ns 1000 fun b ns=>k (.sl b o n c) ns
 | .sub b o n=>nameN b ns 1000 fun b ns=>k (.sub b o n) ns
 |x=>k x ns
def gaCls {α:Type}:List Cl→List Nat→(List Cl→List Nat→α)→α
 | [],ns,k=>k [] ns
 |x::r,ns,k=>gaCl x ns fun x ns=>gaCls r ns fun r ns=>k (x::r) ns
def gaA {α:Type} (x:AV) (ns:List Nat) (k:AV→List Nat→α):α:=match x with
 | .one x=>gaCl x ns fun x ns=>k (.one x) ns
 | .agg l=>gaCls l ns fun l ns=>k (.agg l) ns
def gaAs {α:Type}:List AV→List Nat→(List AV→List Nat→α)→α
 | [],ns,k=>k [] ns
 |x::r,ns,k=>gaA x ns fun x ns=>gaAs r ns fun r ns=>k (x::r) ns
def nthN:List Nat→Nat→Option Nat
 | [],_=>none
 |a::_,0=>some a
 |_::r,i+1=>nthN r i
def gaH (k:List Nat→List Ch→R Res):Nat→Nat→List Nat→List Ch→R Res
 |0,_,_,_=> .fail
 |m+1,j,ns,cs=>match nthN ns j with
  |none=>k ns cs
  |some b=> .hp b fun c=>match c with
   |none=> .fail
   |some (.row E q l)=>gaH k m (j+1) ns (cs++ [.row E q l])
   |some (.blk E l)=>gaCls l ns fun l ns=>gaH k m (j+1) ns (cs++ [.blk E l])
structure GRB where
 outs:List AV
 us:List (Nat×Ch)
 d:List Nat
 pre:Option Prop
abbrev GFB:Type:=List AV→List Ch→Option GRB
def okIn (l:List AV) (ns:List Nat) (cs:List Ch):Bool:=match avsInB cs.length l,chsInB cs.length cs,Nat.beq ns.length cs.length,nodupN ns with
 |true,true,true,true=>Nat.ble cs.length 500
 |_,_,_,_=>false
def fDs {α:Type} (g:Nat→Nat):List Nat→(List (Nat×Option Ch)→α)→α
 | [],k=>k []
 |b::r,k=>frcN (g b) fun b=>fDs g r fun r=>k ((b,none)::r)
theorem fCl_rb {α:Type} (g:Nat→Nat) (x:Cl) (k:Cl→α):fCl g x k=k (x.rb g):=by
 cases x<;>first |rfl|(dsimp only [fCl];rw [frcN_eq];rfl)
theorem fCls_rb {α:Type} (g:Nat→Nat):∀(l:List Cl) (k:List Cl→α),fCls g l k=k (l.map (Cl.rb g))
 | [],_=>rfl
 |x::r,k=>by rw [fCls,fCl_rb,fCls_rb g r];rfl
theorem fAs_rb {α:Type} (g:Nat→Nat):∀(l:List AV) (k:List AV→α),fAs g l k=k (l.map (AV.rb g))
 | [],_=>rfl
 | .one x::r,k=>by rw [fAs,fCl_rb,fAs_rb g r];rfl
 | .agg l::r,k=>by rw [fAs,fCls_rb,fAs_rb g r];rfl
theorem fUs_rb {α:Type} (g:Nat→Nat):∀(l:List (Nat×Ch)) (k:List (Nat×Option Ch)→α),fUs g l k=k (l.map fun p=>(g p.1,some (p.2.rb g)))
 | [],_=>rfl
 |(b,.blk E l)::r,k=>by rw [fUs,frcN_eq];simp only [fCls_rb,fUs_rb g r];rfl
 |(b,.row E q l)::r,k=>by rw [fUs,frcN_eq];simp only [fUs_rb g r];rfl
theorem fDs_rb {α:Type} (g:Nat→Nat):∀(l:List Nat) (k:List (Nat×Option Ch)→α),fDs g l k=k (l.map fun b=>(g b,none))
 | [],_=>rfl
 |b::r,k=>by rw [fDs,frcN_eq,fDs_rb g r];rfl
theorem cfB_run {g:Nat→Nat} {outs:List AV} {us:List (Nat×Ch)} {d:List Nat} {p:Option Prop} {sl:Nat→List AV} {H:Nat→Option Ch} {ds:List Bool} {res:Res} {rd:List Loc} {qs:List (Bool×Bool)} (h:(fAs g outs fun o=>fUs g us fun u=>fDs g d fun d=>R.pure ⟨o,d++u,p,none⟩:R Res).run sl H ds= .ok res rd qs):res=⟨outs.map (AV.rb g),updB g us d,p,none⟩:=by
 rw [fAs_rb,fUs_rb,fDs_rb] at h
 simp only [R.run,RR.ok.injEq] at h
 exact h.1.symm
def cfB (G:GFB):CF:=fun nx args=>gaAs args [] fun l ns=>gaH (fun ns cs=>match okIn (normAs l) ns cs with
 |true=>match G (normAs l) cs with
  |some ⟨outs,us,d,p⟩=>fAs (nmB nx ns) outs fun o=>fUs (nmB nx ns) us fun u=>fDs (nmB nx ns) d fun d=> .pure ⟨o,d++u,p,none⟩
  |none=> .fail
 |false=> .fail) 40 0 ns []
def Ext (a b:List Nat):Prop:=∃m,b=a++m
theorem Ext.refl (a:List Nat):Ext a a:=⟨[],by simp⟩
theorem Ext.trans {a b c:List Nat} (h:Ext a b) (k:Ext b c):Ext a c:=by
 obtain ⟨m,rfl⟩:=h
 obtain ⟨n,rfl⟩:=k
 exact ⟨m++n,by simp⟩
theorem nameN_spec (b:Nat):∀(ns:List Nat) (i:Nat),∃j ns',(∀ {α:Type} (k:Nat→List Nat→α),nameN b ns i k=k (i+j) ns')∧Ext ns ns'∧ns'[j]?=some b
 | [],i=>⟨0,[b],fun k=>by simp [nameN,frcN_eq],⟨[b],rfl⟩,rfl⟩
 |a::r,i=>by
  cases e:Nat.beq a b with
  |true=>exact ⟨0,a::r,fun k=>by simp [nameN,e,frcN_eq],Ext.refl _,by simp [beqT e]⟩
  |false=>
   obtain ⟨j,ns',h1,⟨m,h2⟩,h3⟩:=nameN_spec b r (i+1)
   exact ⟨j+1,a::ns',fun k=>by simp only [nameN,e];rw [h1,show i+1+j=i+(j+1) by omega],⟨m,by rw [h2];rfl⟩,by simpa using h3⟩
theorem nmB_ext {nx j b:Nat} {ns ns':List Nat} (h:ns[j]?=some b) (he:Ext ns ns'):nmB nx ns' (1000+j)=b:=by
 obtain ⟨m,rfl⟩:=he
 rw [nmB_old (by omega),show 1000+j-1000=j by omega,List.getD_eq_getElem?_getD,List.getElem?_append_left (List.getElem?_eq_some_iff.1 h).1,h]
 rfl
theorem gaCl_spec (nx:Nat) (x:Cl) (ns:List Nat):∃x' ns',(∀ {α:Type} (k:Cl→List Nat→α),gaCl x ns k=k x' ns')∧Ext ns ns'∧∀ns'',Ext ns' ns''→x'.rb (nmB nx ns'')=x:=by
 cases x
 case ptr b o=>
  obtain ⟨j,ns',h1,h2,h3⟩:=nameN_spec b ns 1000
  exact ⟨.ptr (1000+j) o,ns',fun k=>h1 _,h2,fun ns'' he=>by show Cl.ptr _ _=_;rw [nmB_ext h3 he]⟩
 case rw b=>
  obtain ⟨j,ns',h1,h2,h3⟩:=nameN_spec b ns 1000
  exact ⟨.rw (1000+j),ns',fun k=>h1 _,h2,fun ns'' he=>by show Cl.rw _=_;rw [nmB_ext h3 he]⟩
 case sl b o n c=>
  obtain ⟨j,ns',h1,h2,h3⟩:=nameN_spec b ns 1000
  exact ⟨.sl (1000+j) o n c,ns',fun k=>h1 _,h2,fun ns'' he=>by show Cl.sl _ _ _ _=_;rw [nmB_ext h3 he]⟩
 case sub b o n=>
  obtain ⟨j,ns',h1,h2,h3⟩:=nameN_spec b ns 1000
  exact ⟨.sub (1000+j) o n,ns',fun k=>h1 _,h2,fun ns'' he=>by show Cl.sub _ _ _=_;rw [nmB_ext h3 he]⟩
 all_goals exact ⟨_,ns,fun k=>rfl,Ext.refl _,fun _ _=>rfl⟩
theorem gaCls_spec (nx:Nat):∀(l:List Cl) (ns:List Nat),∃l' ns',(∀ {α:Type} (k:List Cl→List Nat→α),gaCls l ns k=k l' ns')∧Ext ns ns'∧∀ns'',Ext ns' ns''→l'.map (Cl.rb (nmB nx ns''))=l
 | [],ns=>⟨[],ns,fun k=>rfl,Ext.refl _,fun _ _=>rfl⟩
 |x::r,ns=>by
  obtain ⟨x',n1,h1,h2,h3⟩:=gaCl_spec nx x ns
  obtain ⟨r',n2,h4,h5,h6⟩:=gaCls_spec nx r n1
  exact ⟨x'::r',n2,fun k=>by simp only [gaCls];rw [h1,h4],h2.trans h5,fun ns'' he=>by rw [List.map_cons,h3 _ (h5.trans he),h6 _ he]⟩
theorem gaA_spec (nx:Nat) (x:AV) (ns:List Nat):∃x' ns',(∀ {α:Type} (k:AV→List Nat→α),gaA x ns k=k x' ns')∧Ext ns ns'∧∀ns'',Ext ns' ns''→x'.rb (nmB nx ns'')=x:=by
 cases x with
 |one x=>
  obtain ⟨x',n1,h1,h2,h3⟩:=gaCl_spec nx x ns
  exact ⟨.one x',n1,fun k=>h1 fun x ns=>k (.one x) ns,h2,fun ns'' he=>congrArg AV.one (h3 _ he)⟩
 |agg l=>
  obtain ⟨x',n1,h1,h2,h3⟩:=gaCls_spec nx l ns
  exact ⟨.agg x',n1,fun k=>h1 fun x ns=>k (.agg x) ns,h2,fun ns'' he=>congrArg AV.agg (h3 _ he)⟩
theorem gaAs_spec (nx:Nat):∀(l:List AV) (ns:List Nat),∃l' ns',(∀ {α:Type} (k:List AV→List Nat→α),gaAs l ns k=k l' ns')∧Ext ns ns'∧∀ns'',Ext ns' ns''→l'.map (AV.rb (nmB nx ns''))=l
 | [],ns=>⟨[],ns,fun k=>rfl,Ext.refl _,fun _ _=>rfl⟩
 |x::r,ns=>by
  obtain ⟨x',n1,h1,h2,h3⟩:=gaA_spec nx x ns
  obtain ⟨r',n2,h4,h5,h6⟩:=gaAs_spec nx r n1
  exact ⟨x'::r',n2,fun k=>by simp only [gaAs];rw [h1,h4],h2.trans h5,fun ns'' he=>by rw [List.map_cons,h3 _ (h5.trans he),h6 _ he]⟩
theorem nthN_eq:∀(l:List Nat) (i:Nat),nthN l i=l[i]?
 | [],_=>rfl
 |_::_,0=>rfl
 |_::r,i+1=>by simp only [nthN,List.getElem?_cons_succ];exact nthN_eq r i
section
variable {ty:Nat→TE} {ct:Nat→Option CF} {H:Nat→Option Ch} {η:Env} {w:World} {nx:Nat} {sl:Nat→List AV} {ds:List Bool} {res:Res} {qs:List (Bool×Bool)}
theorem gaH_ok (nx:Nat) {k:List Nat→List Ch→R Res}:∀ {m j:Nat} {ns:List Nat} {cs:List Ch} {rd:List Loc},(gaH k m j ns cs).run sl H ds= .ok res rd qs→cs.length=j→
  ∃ns' cs' rd',(k ns' cs').run sl H ds= .ok res rd' qs∧Ext ns ns'∧(∀i,i<j→cs'[i]?=cs[i]?)∧∀i c,j≤i→cs'[i]?=some c→H (ns'.getD i 0)=some (c.rb (nmB nx ns'))
 |0,j,ns,cs,rd,h,_=>by cases h
 |m+1,j,ns,cs,rd,h,hj=>by
  unfold gaH at h
  rw [nthN_eq] at h
  split at h
  ·refine ⟨ns,cs,rd,h,Ext.refl _,fun i hi=>rfl,fun i c hi hc=> ?_⟩
   have:=(List.getElem?_eq_some_iff.1 hc).1
   omega
  ·rename_i b hb
   obtain ⟨rd1,h1⟩:=run_hp h
   split at h1
   ·cases h1
   ·rename_i E q l hc
    obtain ⟨ns',cs',rd',g1,g2,g3,g4⟩:=gaH_ok nx h1 (by simp [hj])
    refine ⟨ns',cs',rd',g1,g2,fun i hi=> ?_,fun i c hi hci=> ?_⟩
    ·rw [g3 i (by omega),List.getElem?_append_left (by omega)]
    ·rcases Nat.lt_or_ge j i with h2|h2
     ·exact g4 i c (by omega) hci
     ·obtain rfl:i=j:=by omega
      rw [g3 i (by omega),List.getElem?_append_right (by omega),hj,Nat.sub_self] at hci
      cases hci
      have:=nmB_ext (nx:=nx) hb g2
      rw [nmB_old (by omega),show 1000+i-1000=i by omega] at this
      rw [this,hc]
      rfl
   ·rename_i E l hc
    obtain ⟨l',n1,e1,e2,e3⟩:=gaCls_spec nx l ns
    rw [e1] at h1
    obtain ⟨ns',cs',rd',g1,g2,g3,g4⟩:=gaH_ok nx h1 (by simp [hj])
    refine ⟨ns',cs',rd',g1,e2.trans g2,fun i hi=> ?_,fun i c hi hci=> ?_⟩
    ·rw [g3 i (by omega),List.getElem?_append_left (by omega)]
    ·rcases Nat.lt_or_ge j i with h2|h2
     ·exact g4 i c (by omega) hci
     ·obtain rfl:i=j:=by omega
      rw [g3 i (by omega),List.getElem?_append_right (by omega),hj,Nat.sub_self] at hci
      cases hci
      have:=nmB_ext (nx:=nx) hb (e2.trans g2)
      rw [nmB_old (by omega),show 1000+i-1000=i by omega] at this
      rw [this,hc]
      exact congrArg (fun z=>some (Ch.blk E z)) (e3 _ g2).symm
theorem normA_rb (f:Nat→Nat) (x:AV):normA (x.rb f)=(normA x).rb f:=by
 rcases x with x|l
 ·cases x
  case cv v=>
   cases v<;>try rfl
   rename_i k z;cases k<;>rfl
  all_goals rfl
 ·rfl
theorem normAs_rb (f:Nat→Nat):∀l:List AV,normAs (l.map (AV.rb f))=(normAs l).map (AV.rb f)
 | []=>rfl
 |x::r=>by simp only [List.map_cons,normAs,normA_rb,normAs_rb f r]
theorem cfB_sound (hT : TysOk ty) (hO : OpsOk ty ct) {f : Nat} {fn : Func} {c : Code} {rs : List ResultVar} (hf : Tryz.prog.funcs[f]? = some fn) (hn : (fn.name == "runtime.NumGoroutine") = false) (hb : fn.body = some c) (hr : fn.results = rs.toArray) {G : GFB}
  (hG:∀l cs g,G l cs=some g→preOk g.pre→l.length≤fn.ntmps∧g.outs.length=rs.length∧avsOkB cs.length g.outs=true∧hpsOkB cs.length g.us=true∧vc ty ct fn.ntmps c ⟨mkSl 0 l,hpOf 1000 cs,2000⟩ (retB ty fn.ntmps rs g.outs g.us cs g.d)):CSound f (cfB G):=by
 refine ⟨⟨fn,c,hf,hn,hb⟩,fun nx args sl H ds res rd qs h hq hp η w vs hH hv hfree=> ?_⟩
 obtain ⟨l',n1,e1,e2,e3⟩:=gaAs_spec nx args []
 unfold cfB at h
 rw [e1] at h
 obtain ⟨ns,cs,rd',g1,g2,g3,g4⟩:=gaH_ok nx h rfl
 split at g1
 ·rename_i hok
  split at g1
  ·rename_i outs us d p e4
   have:=cfB_run g1
   subst this
   unfold okIn at hok
   split at hok
   ·rename_i k1 k2 k3 k4
    obtain ⟨q1,q2,q3,q4,q5⟩:=hG _ _ _ e4 hp
    refine calls_B followsMixed hT hO hf hb hr (ble_le hok) k1 k2 q1 (beqT k3) k4 (fun j c hc=>g4 j c (Nat.zero_le _) hc) q2 q3 q4 q5 hH hfree ?_
    rw [←normAs_rb,e3 ns g2]
    exact normAs_ok hv
   ·cases hok
  ·cases g1
 ·cases g1
end
set_option maxRecDepth 10000
def lb (n:Nat) (f:Nat→Nat):List UInt64:=(List.range n).map fun i=>UInt64.ofNat (f i)
theorem lb_len (n:Nat) (f:Nat→Nat):(lb n f).length=n:=by simp [lb]
theorem lb_get {n i:Nat} (f:Nat→Nat) (h:i<n):(lb n f).getD i 0=UInt64.ofNat (f i):=by simp [lb,List.getD_eq_getElem?_getD,h]
theorem lb_congr {n:Nat} {f g:Nat→Nat} (h:∀i,i<n→f i=g i):lb n f=lb n g:=List.map_congr_left fun i hi=>by rw [h i (by simpa using hi)]
theorem lb_set {n i:Nat} {f g:Nat→Nat} {x:UInt64} (hx:x=UInt64.ofNat (g i)) (h:∀j,j<n→j≠i→g j=f j):(lb n f).set i x=lb n g:=by
 subst hx
 apply List.ext_getElem (by simp [lb])
 intro j h1 h2
 have hj:j<n:=by simpa [lb] using h2
 rw [List.getElem_set]
 by_cases e:i=j
 ·subst e;simp [lb]
 ·rw [if_neg e];simp [lb,h j hj (fun z=>e z.symm)]
theorem u_and {a:Nat} (h:a<18446744073709551616):UInt64.ofNat a&&&UInt64.ofNat 65535=UInt64.ofNat (a%65536):=by
 refine UInt64.toNat_inj.1 ?_
 rw [UInt64.toNat_and,UInt64.toNat_ofNat',UInt64.toNat_ofNat',UInt64.toNat_ofNat',Nat.mod_eq_of_lt (show a<2^64 from h),show 65535%2^64=2^16-1 from rfl,Nat.and_two_pow_sub_one_eq_mod]
 omega
theorem u_and15 {a:Nat} (h:a<18446744073709551616):UInt64.ofNat a&&&UInt64.ofNat 32767=UInt64.ofNat (a%32768):=by
 refine UInt64.toNat_inj.1 ?_
 rw [UInt64.toNat_and,UInt64.toNat_ofNat',UInt64.toNat_ofNat',UInt64.toNat_ofNat',Nat.mod_eq_of_lt (show a<2^64 from h),show 32767%2^64=2^15-1 from rfl,Nat.and_two_pow_sub_one_eq_mod]
 omega
theorem u_sh {a:Nat} (h:a<18446744073709551616) (n:Nat):ush (UInt64.ofNat a) n=UInt64.ofNat (a/2^n):=by
 rw [ush,UInt64.toNat_ofNat',Nat.mod_eq_of_lt (show a<2^64 from h)]
theorem u_nat {a:Nat} (h:a<18446744073709551616):(UInt64.ofNat a).toNat=a:=by rw [UInt64.toNat_ofNat',Nat.mod_eq_of_lt (show a<2^64 from h)]
theorem u_sub {a b:Nat} (h:b≤a):UInt64.ofNat a-UInt64.ofNat b=UInt64.ofNat (a-b):=by
 refine UInt64.toNat_inj.1 ?_
 rw [UInt64.toNat_sub,UInt64.toNat_ofNat',UInt64.toNat_ofNat',UInt64.toNat_ofNat']
 omega
def primeF (i:Nat):Nat:=if i=0 then 65517 else if i=15 then 32767 else 65535
theorem primeF_d16:∀i:Fin 16,primeF i.val=d16 Pq i.val:=by decide +kernel
def L12:List (Nat×CF):=(94,cfA gKeys)::L11
theorem L12ok:∀p∈L12,CSound p.1 p.2:=ctCons keys_sound L11ok
theorem OPD12:OpsOk TYD (ctOf L12):=opsOk TYDok (ctOk L12ok)
theorem vcPrime:vc TYD (ctOf L12) Tryz.f188.ntmps (bodyOf Tryz.f188) ⟨mkSl 0 [],[],2000⟩ (retR TYD Tryz.f188.ntmps [.cell 0 143] [.agg [.vec .u64 16 (lb 16 primeF)]] []):=by
 refine Or.inl ⟨17,?_⟩
 exact ⟨rfl,rfl,trivial⟩
def gPrime:GF:=fun l=>match l with
 | []=>some ⟨[.agg [.vec .u64 16 (lb 16 primeF)]],[],none⟩
 |_=>none
theorem prime_sound:CSound 188 (cfA gPrime):=cfR_sound TYDok OPD12 Tryz.func188 (by kernel_rfl) rfl (rs:= [.cell 0 143]) Tryz.results188 fun l g h hp=>by
 unfold gPrime at h
 split at h
 ·cases h;exact ⟨Nat.le_of_ble_eq_true rfl,rfl,rfl,rfl,vcPrime⟩
 ·cases h
def L13:List (Nat×CF):=(188,cfA gPrime)::L12
theorem L13ok:∀p∈L13,CSound p.1 p.2:=ctCons prime_sound L12ok
theorem OPD13:OpsOk TYD (ctOf L13):=opsOk TYDok (ctOk L13ok)
def fL (l:List UInt64) (i:Nat):Nat:=(l.getD i 0).toNat
def numL (l:List UInt64):Nat:=v16 (fL l) 16
theorem fL_lb {n i:Nat} {f:Nat→Nat} (hi:i<n) (h:f i<18446744073709551616):fL (lb n f) i=f i:=by rw [fL,lb_get f hi,u_nat h]
set_option maxHeartbeats 1000000 in
theorem vcLeast (x:Nat) (hx:x<65536^16):vc TYD (ctOf L13) Tryz.f214.ntmps (bodyOf Tryz.f214) ⟨mkSl 0 [.agg [.vec .u64 16 (lb 16 (d16 x))]],[],2000⟩ (retK [2] [.one (.ob .bool (decide (x<Pq)))] []):=by
 refine Or.inr ⟨{k:Nat // k≤16∧x/65536^k=Pq/65536^k},fun k=>⟨[(4,.one (.ob .int ((k.val:Int)-1)))],[]⟩,fun k=>k.val,⟨16,by omega,?_⟩,?_⟩
 ·rw [Nat.div_eq_of_lt hx,Nat.div_eq_of_lt (by decide +kernel)]
 refine ⟨rfl,fun k=>⟨fun h1=> ?_,fun h1=> ?_⟩⟩
 ·have h1:=of_decide_eq_true h1
  obtain ⟨hk,he⟩:=k.2
  have e1:((k.val:Int)-1).toNat=k.val-1:=by omega
  have d1:=d16_lt x (k.val-1)
  have d2:primeF (k.val-1)=d16 Pq (k.val-1):=primeF_d16 ⟨k.val-1,by omega⟩
  have d3:=d16_lt Pq (k.val-1)
  have hk1:k.val=k.val-1+1:=by omega
  rw [hk1] at he
  repeat refine sd ?_
  rw [e1,show (lb 16 (d16 x)).getD (k.val-1) (Kd.df .u64)=UInt64.ofNat (d16 x (k.val-1)) from lb_get _ (by omega),show (lb 16 primeF).getD (k.val-1) (Kd.df .u64)=UInt64.ofNat (d16 Pq (k.val-1)) from (lb_get _ (by omega)).trans (by rw [d2])]
  refine ⟨fun h2=> ?_,fun h2=> ?_⟩
  ·have h2:=of_decide_eq_true h2
   have hne:d16 x (k.val-1)≠d16 Pq (k.val-1):=fun h=>h2 (by rw [h])
   repeat refine sd ?_
   refine ⟨congrArg (fun z:Bool=> [z]) ?_,trivial⟩
   show decide (x<Pq)=decide ((lb 16 (d16 x)).getD ((k.val:Int)-1).toNat (Kd.df .u64)<(lb 16 primeF).getD ((k.val:Int)-1).toNat (Kd.df .u64))
   rw [e1,show (lb 16 (d16 x)).getD (k.val-1) (Kd.df .u64)=UInt64.ofNat (d16 x (k.val-1)) from lb_get _ (by omega),show (lb 16 primeF).getD (k.val-1) (Kd.df .u64)=UInt64.ofNat (d16 Pq (k.val-1)) from (lb_get _ (by omega)).trans (by rw [d2]),less16 x Pq _ he hne]
   refine decide_eq_decide.2 ?_
   rw [UInt64.lt_iff_toNat_lt,u_nat (by omega),u_nat (by omega)]
  ·have h2:=of_decide_eq_false h2
   have heq:d16 x (k.val-1)=d16 Pq (k.val-1):=by
    have:=congrArg UInt64.toNat (Decidable.not_not.1 h2)
    rw [u_nat (by omega),u_nat (by omega)] at this
    exact this
   refine sd<|sj ⟨k.val-1,by omega,same16 x Pq _ he heq⟩ ⟨congrArg (fun z:Int=> [z]) ?_,trivial⟩
   show ((k.val-1:Nat):Int)-1=(k.val:Int)-1-1
   omega
 ·have h1:=of_decide_eq_false h1
  obtain ⟨hk,he⟩:=k.2
  have h0:k.val=0:=by omega
  rw [h0,Nat.pow_zero,Nat.div_one,Nat.div_one] at he
  refine ⟨congrArg (fun z:Bool=> [z]) ?_,trivial⟩
  exact decide_eq_false (by omega)
def is16 (l:List UInt64):Prop:=∃x,x<65536^16∧l=lb 16 (d16 x)
theorem numL_d16 {x:Nat} (h:x<65536^16):numL (lb 16 (d16 x))=x:=by
 rw [numL,v16_congr 16 (g:=d16 x) fun i hi=>fL_lb hi (by have:=d16_lt x i;omega),d16_val,Nat.mod_eq_of_lt h]
def gLeast:GF:=fun l=>match l with
 | [.agg [.vec .u64 16 a]]=>some ⟨[.one (.ob .bool (decide (numL a<Pq)))],[],some (is16 a)⟩
 |_=>none
theorem least_sound:CSound 214 (cfA gLeast):=cfA_sound OPD13 Tryz.func214 (by kernel_rfl) rfl (rs:= [2]) Tryz.results214 fun l g h hp=>by
 unfold gLeast at h
 split at h
 ·cases h
  obtain ⟨x,hx,rfl⟩:=hp
  rw [numL_d16 hx]
  exact ⟨Nat.le_of_ble_eq_true rfl,rfl,rfl,rfl,vcLeast x hx⟩
 ·cases h
def L14:List (Nat×CF):=(214,cfA gLeast)::L13
theorem L14ok:∀p∈L14,CSound p.1 p.2:=ctCons least_sound L13ok
theorem OPD14:OpsOk TYD (ctOf L14):=opsOk TYDok (ctOk L14ok)
def it3 (f:Nat→Nat):Nat→Nat→Nat
 |0=>f
 |k+1=>rnd16 (it3 f k)
theorem it3_le (f:Nat→Nat) (h:∀i,f i≤17592186044416):∀k i,it3 f k i≤17592186044416
 |0,i=>h i
 |k+1,i=>by
  have hn:=rnd16_nr (it3 f k) _ (cr16_lt (it3 f k) _ (it3_le f h k) 16)
  show rnd16 (it3 f k) i≤_
  by_cases e:i=0
  ·subst e;have:=hn.z;omega
  ·have:=hn.r i (by omega);omega
theorem over16:∀d:Fin 19,∀i:Fin 16,d16 (Pq+d.val) i.val=primeF i.val+d16 d.val i.val:=by decide +kernel
def pV (g:Nat→Nat) (j i:Nat):Nat:=if i<j then pas16 g i else g i
set_option maxHeartbeats 4000000 in
theorem vcCarried (f:Nat→Nat) (hf:∀i,f i≤17592186044416):vc TYD (ctOf L14) Tryz.f187.ntmps (bodyOf Tryz.f187) ⟨mkSl 0 [.agg [.vec .u64 16 (lb 16 f)]],[],2000⟩ (retR TYD Tryz.f187.ntmps [.cell 2 143] [.agg [.vec .u64 16 (lb 16 (d16 (v16 f 16%Pq)))]] []):=by
 refine Or.inr ⟨{k:Nat // k≤3},fun k=>⟨[(3,.one (.ob .int (k.val:Int)))],[(2000,.blk 143 [.vec .u64 16 (lb 16 (it3 f k.val))])]⟩,fun k=>3-k.val,⟨0,by omega⟩,?_⟩
 refine ⟨rfl,rfl,rfl,fun k=>⟨fun h1=> ?_,fun h1=> ?_⟩⟩
 ·have h1:=of_decide_eq_true h1
  have hk:=k.2
  have hg:=it3_le f hf k.val
  have hI:it3 f (k.val+1)=rnd16 (it3 f k.val):=rfl
  generalize it3 f k.val=g at hg hI ⊢
  have hc:=cr16_lt g _ hg
  refine Or.inr ⟨{i:Nat // i≤16},fun i=>⟨[(5,.one (.ob .int (i.val:Int))),(4,.one (.ob .u64 (UInt64.ofNat (cr16 g i.val))))],[(2000,.blk 143 [.vec .u64 16 (lb 16 (pV g i.val))])]⟩,fun i=>16-i.val,⟨0,by omega⟩,?_⟩
  refine ⟨rfl,rfl,rfl,?_,fun i=>⟨fun h2=> ?_,fun h2=> ?_⟩⟩
  ·exact lb_congr fun i hi=>by simp [pV]
  ·have h2:=of_decide_eq_true h2
   have hi:=i.2
   have c1:=hc i.val
   have g1:=hg i.val
   have e1:(lb 16 (pV g i.val)).getD (i.val:Int).toNat (Kd.df .u64)=UInt64.ofNat (g i.val):=(lb_get _ (by omega)).trans (by rw [pV,if_neg (by omega)];rfl)
   have e2:UInt64.ofNat (g i.val)+UInt64.ofNat (cr16 g i.val)=UInt64.ofNat (g i.val+cr16 g i.val):=(UInt64.ofNat_add _ _).symm
   repeat refine sd ?_
   refine sj ⟨i.val+1,by omega⟩<|sr ⟨congrArg (fun z:UInt64=> [z]) ?_,rfl,?_,trivial⟩
   ·show UInt64.ofNat (cr16 g (i.val+1))=ush ((lb 16 (pV g i.val)).getD (i.val:Int).toNat (Kd.df .u64)+UInt64.ofNat (cr16 g i.val)) 16
    rw [e1,e2,u_sh (by omega)]
    rfl
   ·show lb 16 (pV g (i.val+1))=(lb 16 (pV g i.val)).set i.val (((lb 16 (pV g i.val)).getD (i.val:Int).toNat (Kd.df .u64)+UInt64.ofNat (cr16 g i.val))&&&UInt64.ofNat 65535)
    rw [e1,e2,u_and (by omega)]
    refine (lb_set (by rw [pV,if_pos (by omega)];rfl) fun j hj hne=> ?_).symm
    unfold pV
    by_cases hl:j<i.val
    ·rw [if_pos (by omega),if_pos hl]
    ·rw [if_neg (by omega),if_neg hl]
  have h2:=of_decide_eq_false h2
  have hi:=i.2
  have hP:lb 16 (pV g i.val)=lb 16 (pas16 g):=lb_congr fun j hj=>by rw [pV,if_pos (by omega)]
  rw [hP,show i.val=16 by omega]
  repeat refine sd ?_
  have p0:=pas16_lt g 0
  have p15:=pas16_lt g 15
  have c16:=hc 16
  have e3:UInt64.ofNat (pas16 g 0)+UInt64.ofNat 38*UInt64.ofNat (cr16 g 16)+UInt64.ofNat 19*ush (UInt64.ofNat (pas16 g 15)) 15=UInt64.ofNat (rnd16 g 0):=by
   rw [u_sh (by omega),←UInt64.ofNat_mul,←UInt64.ofNat_mul,←UInt64.ofNat_add,←UInt64.ofNat_add]
   rfl
  have e4:(lb 16 (pas16 g)).set 0 (UInt64.ofNat (rnd16 g 0))=lb 16 (fun j=>if j=0 then rnd16 g 0 else pas16 g j):=lb_set (by rw [if_pos rfl]) fun j hj hne=>by rw [if_neg hne]
  refine sj ⟨k.val+1,by omega⟩<|sr ⟨rfl,?_,trivial⟩
  show lb 16 (it3 f (k.val+1))=((lb 16 (pas16 g)).set 0 ((lb 16 (pas16 g)).getD 0 0+UInt64.ofNat 38*UInt64.ofNat (cr16 g 16)+UInt64.ofNat 19*ush ((lb 16 (pas16 g)).getD 15 0) 15)).set 15 (((lb 16 (pas16 g)).set 0 ((lb 16 (pas16 g)).getD 0 0+UInt64.ofNat 38*UInt64.ofNat (cr16 g 16)+UInt64.ofNat 19*ush ((lb 16 (pas16 g)).getD 15 0) 15)).getD 15 0&&&UInt64.ofNat 32767)
  rw [lb_get _ (show 0<16 by omega),lb_get _ (show 15<16 by omega),e3,e4,lb_get _ (show 15<16 by omega),if_neg (show ¬15=0 by omega),u_and15 (by omega),hI]
  refine (lb_set (g:=rnd16 g) ?_ fun j hj hne=> ?_).symm
  ·rw [rnd16,if_neg (by omega),if_pos rfl]
  ·by_cases h0:j=0
   ·subst h0;rw [if_pos rfl]
   ·rw [if_neg h0,rnd16,if_neg h0,if_neg hne]
 have h1:=of_decide_eq_false h1
 have hk:=k.2
 rw [show k.val=3 by omega]
 obtain ⟨hC,hmod⟩:=fin16_ok f hf
 have hlt:=hC.lt
 have hN:lb 16 (it3 f 3)=lb 16 (d16 (v16 (fin16 f) 16)):=lb_congr fun i hi=>(d16_of (fin16 f) hC.r 16 i hi).symm
 rw [hN,←hmod]
 generalize v16 (fin16 f) 16=y at hlt ⊢
 refine Or.inr ⟨{z:Nat // z%Pq=y%Pq∧z<57896044618658097711785492504343953926634992332820282019728792003956564819968},fun z=>⟨[],[(2000,.blk 143 [.vec .u64 16 (lb 16 (d16 z.val))])]⟩,fun z=>z.val,⟨y,rfl,hlt⟩,?_⟩
 refine ⟨rfl,rfl,fun z=> ?_⟩
 obtain ⟨hz,hzl⟩:=z.2
 have hz16:z.val<65536^16:=Nat.lt_trans hzl (by decide +kernel)
 refine ⟨⟨z.val,hz16,rfl⟩,?_⟩
 rw [numL_d16 hz16]
 refine ⟨fun h2=> ?_,fun h2=> ?_⟩
 ·have h3:¬z.val<Pq:=by
   intro h
   rw [decide_eq_true h] at h2;cases h2
  obtain ⟨d,hd⟩:∃d,z.val=Pq+d:=⟨z.val-Pq,by omega⟩
  have hd19:d<19:=by unfold Pq at hd;omega
  have ho:=fun i (hi:i<16)=>over16 ⟨d,hd19⟩ ⟨i,hi⟩
  refine Or.inr ⟨{i:Nat // i≤16},fun i=>⟨[(9,.one (.ob .int (i.val:Int))),(8,.one (.ob .u64 (UInt64.ofNat 0)))],[(2000,.blk 143 [.vec .u64 16 (lb 16 fun j=>if j<i.val then d16 d j else d16 z.val j)])]⟩,fun i=>16-i.val,⟨0,by omega⟩,?_⟩
  refine ⟨rfl,rfl,rfl,?_,fun i=>⟨fun h4=> ?_,fun h4=> ?_⟩⟩
  ·exact lb_congr fun i hi=>by simp
  ·have h4:=of_decide_eq_true h4
   have hi:=i.2
   have hoi:d16 z.val i.val=primeF i.val+d16 d i.val:=by rw [hd];exact ho i.val (by omega)
   have dl:=d16_lt d i.val
   have e1:(lb 16 fun j=>if j<i.val then d16 d j else d16 z.val j).getD (i.val:Int).toNat (Kd.df .u64)=UInt64.ofNat (primeF i.val+d16 d i.val):=(lb_get _ (show i.val<16 by omega)).trans (by rw [if_neg (by omega),hoi])
   have e2:(lb 16 primeF).getD (i.val:Int).toNat (Kd.df .u64)=UInt64.ofNat (primeF i.val):=lb_get _ (show i.val<16 by omega)
   have e3:UInt64.ofNat (primeF i.val+d16 d i.val)+UInt64.ofNat 65536-UInt64.ofNat (primeF i.val)-UInt64.ofNat 0=UInt64.ofNat (d16 d i.val+65536):=by
    rw [←UInt64.ofNat_add,u_sub (by omega),u_sub (by omega)]
    exact congrArg UInt64.ofNat (by omega)
   repeat refine sd ?_
   refine sj ⟨i.val+1,by omega⟩<|sr ⟨congrArg (fun z:UInt64=> [z]) ?_,rfl,?_,trivial⟩
   ·show UInt64.ofNat 0=UInt64.ofNat 1-ush ((lb 16 fun j=>if j<i.val then d16 d j else d16 z.val j).getD (i.val:Int).toNat (Kd.df .u64)+UInt64.ofNat 65536-(lb 16 primeF).getD (i.val:Int).toNat (Kd.df .u64)-UInt64.ofNat 0) 16
    rw [e1,e2,e3,u_sh (by omega),show (d16 d i.val+65536)/2^16=1 by omega]
    rfl
   ·show (lb 16 fun j=>if j<i.val+1 then d16 d j else d16 z.val j)=(lb 16 fun j=>if j<i.val then d16 d j else d16 z.val j).set i.val (((lb 16 fun j=>if j<i.val then d16 d j else d16 z.val j).getD (i.val:Int).toNat (Kd.df .u64)+UInt64.ofNat 65536-(lb 16 primeF).getD (i.val:Int).toNat (Kd.df .u64)-UInt64.ofNat 0)&&&UInt64.ofNat 65535)
    rw [e1,e2,e3,u_and (by omega),show (d16 d i.val+65536)%65536=d16 d i.val by omega]
    refine (lb_set (by rw [if_pos (by omega)]) fun j hj hne=> ?_).symm
    by_cases hl:j<i.val
    ·rw [if_pos (by omega),if_pos hl]
    ·rw [if_neg (by omega),if_neg hl]
  have h4:=of_decide_eq_false h4
  have hi:=i.2
  have hPq:=Pq_pos
  have hzz:d%Pq=y%Pq:=by rw [←hz,hd,Nat.add_mod_left]
  refine sj ⟨d,hzz,by omega⟩ ⟨rfl,?_,trivial⟩
  exact lb_congr fun j hj=>by rw [if_pos (by omega)]
 ·have h3:z.val<Pq:=by
   rcases Nat.lt_or_ge z.val Pq with h|h
   ·exact h
   ·rw [decide_eq_false (by omega)] at h2;cases h2
  refine ⟨rfl,?_,trivial⟩
  show lb 16 (d16 (y%Pq))=lb 16 (d16 z.val)
  exact congrArg (fun q=>lb 16 (d16 q)) (hz.symm.trans (Nat.mod_eq_of_lt h3))
def isCar (l:List UInt64):Prop:=∃f:Nat→Nat,(∀i,f i≤17592186044416)∧l=lb 16 f
theorem numL_lb {f:Nat→Nat} (hf:∀i,f i≤17592186044416):numL (lb 16 f)=v16 f 16:=v16_congr 16 fun i hi=>fL_lb hi (by have:=hf i;omega)
def gCarried:GF:=fun l=>match l with
 | [.agg [.vec .u64 16 a]]=>some ⟨[.agg [.vec .u64 16 (lb 16 (d16 (numL a%Pq)))]],[],some (isCar a)⟩
 |_=>none
theorem carried_sound:CSound 187 (cfA gCarried):=cfR_sound TYDok OPD14 Tryz.func187 (by kernel_rfl) rfl (rs:= [.cell 2 143]) Tryz.results187 fun l g h hp=>by
 unfold gCarried at h
 split at h
 ·cases h
  obtain ⟨f,hf,rfl⟩:=hp
  rw [numL_lb hf]
  exact ⟨Nat.le_of_ble_eq_true rfl,rfl,rfl,rfl,vcCarried f hf⟩
 ·cases h
def L15:List (Nat×CF):=(187,cfA gCarried)::L14
theorem L15ok:∀p∈L15,CSound p.1 p.2:=ctCons carried_sound L14ok
theorem OPD15:OpsOk TYD (ctOf L15):=opsOk TYDok (ctOk L15ok)
def feL (x:F):List UInt64:=lb 16 (d16 x.val)
theorem carL {f:Nat→Nat} {x:F} (hf:∀i,f i≤17592186044416) (h:v16 f 16%Pq=x.val):feL x=lb 16 (d16 (numL (lb 16 f)%Pq)):=by rw [numL_lb hf,h,feL]
theorem v16_add (f g:Nat→Nat):∀n,v16 (fun i=>f i+g i) n=v16 f n+v16 g n
 |0=>rfl
 |n+1=>by simp only [v16];rw [v16_add f g n,Nat.add_mul];omega
theorem v16_mul (c:Nat) (f:Nat→Nat):∀n,v16 (fun i=>c*f i) n=c*v16 f n
 |0=>rfl
 |n+1=>by simp only [v16];rw [v16_mul c f n,Nat.mul_add,Nat.mul_assoc]
theorem Pq16 {x:Nat} (h:x<Pq):x<65536^16:=Nat.lt_trans h (by decide +kernel)
theorem d16_v {x:Nat} (h:x<Pq):v16 (d16 x) 16=x:=by rw [d16_val,Nat.mod_eq_of_lt (Pq16 h)]
theorem primeF_v:v16 primeF 16=Pq:=by decide +kernel
def sumF (x y i:Nat):Nat:=d16 x i+d16 y i
theorem sumF_le (x y i:Nat):sumF x y i≤17592186044416:=by have:=d16_lt x i;have:=d16_lt y i;unfold sumF;omega
theorem sumF_v (x y:F):v16 (sumF x.val y.val) 16%Pq=(x+y).val:=by
 rw [show sumF x.val y.val=fun i=>d16 x.val i+d16 y.val i from rfl,v16_add,d16_v x.isLt,d16_v y.isLt];rfl
def mxV (f g:Nat→Nat) (j i:Nat):Nat:=if i<j then g i else f i
theorem mxV_set {n j:Nat} {f g:Nat→Nat} {x:UInt64} (hx:x=UInt64.ofNat (g j)):(lb n (mxV f g j)).set j x=lb n (mxV f g (j+1)):=
 lb_set (by rw [mxV,if_pos (by omega)];exact hx) fun i _ hne=>by
  unfold mxV
  by_cases hl:i<j
  ·rw [if_pos (by omega),if_pos hl]
  ·rw [if_neg (by omega),if_neg hl]
theorem mxV_0 {n:Nat} (f g:Nat→Nat):lb n (mxV f g 0)=lb n f:=lb_congr fun i _=>by simp [mxV]
theorem mxV_n {n:Nat} (f g:Nat→Nat):lb n (mxV f g n)=lb n g:=lb_congr fun i hi=>by simp [mxV,hi]
theorem mxV_get {n j:Nat} (f g:Nat→Nat) (h:j<n):(lb n (mxV f g j)).getD (j:Int).toNat (Kd.df .u64)=UInt64.ofNat (f j):=(lb_get _ h).trans (by rw [mxV,if_neg (by omega)])
set_option maxHeartbeats 1000000 in
theorem vcFAdd (x y:F):vc TYD (ctOf L15) Tryz.f131.ntmps (bodyOf Tryz.f131) ⟨mkSl 0 [.agg [.vec .u64 16 (feL x)],.agg [.vec .u64 16 (feL y)]],[],2000⟩ (retR TYD Tryz.f131.ntmps [.cell 4 143] [.agg [.vec .u64 16 (feL (x+y))]] []):=by
 refine Or.inr ⟨{i:Nat // i≤16},fun i=>⟨[(5,.one (.ob .int (i.val:Int)))],[(2000,.blk 143 [.vec .u64 16 (lb 16 (mxV (d16 x.val) (sumF x.val y.val) i.val))])]⟩,fun i=>16-i.val,⟨0,by omega⟩,?_⟩
 refine ⟨rfl,rfl,mxV_0 _ _,fun i=>⟨fun h2=> ?_,fun h2=> ?_⟩⟩
 ·have h2:=of_decide_eq_true h2
  have hi:=i.2
  repeat refine sd ?_
  refine sj ⟨i.val+1,by omega⟩<|sr<|sr ⟨(mxV_set ?_).symm,trivial⟩
  show (lb 16 (mxV (d16 x.val) (sumF x.val y.val) i.val)).getD (i.val:Int).toNat (Kd.df .u64)+(feL y).getD i.val 0=_
  rw [mxV_get _ _ (by omega),feL,lb_get _ (by omega),←UInt64.ofNat_add]
  rfl
 have h2:=of_decide_eq_false h2
 have hi:=i.2
 rw [show i.val=16 by omega,mxV_n]
 exact ⟨⟨_,sumF_le _ _,rfl⟩,rfl,carL (sumF_le _ _) (sumF_v x y),trivial⟩
set_option maxRecDepth 10000
def difF (x y i:Nat):Nat:=d16 x i+4*primeF i-d16 y i
theorem primeF_ge (i:Nat):32767≤primeF i∧primeF i≤65535:=by unfold primeF;split<;>(try split)<;>omega
theorem difF_le (x y i:Nat):difF x y i≤17592186044416:=by have:=d16_lt x i;have:=primeF_ge i;unfold difF;omega
theorem difF_v (x y:F):v16 (difF x.val y.val) 16%Pq=(x-y).val:=by
 have e:v16 (fun i=>difF x.val y.val i+d16 y.val i) 16=v16 (fun i=>d16 x.val i+4*primeF i) 16:=v16_congr 16 fun i _=>by
  have:=d16_lt y.val i;have:=primeF_ge i;unfold difF;omega
 rw [v16_add,v16_add,v16_mul,d16_v x.isLt,d16_v y.isLt,primeF_v] at e
 have hx:=x.isLt
 have hy:=y.isLt
 rw [Fin.sub_def]
 show _=(Pq-y.val+x.val)%Pq
 have e2:v16 (difF x.val y.val) 16=Pq-y.val+x.val+3*Pq:=by omega
 rw [e2,Nat.add_mul_mod_self_right]
set_option maxHeartbeats 1000000 in
theorem vcFSub (x y:F):vc TYD (ctOf L15) Tryz.f133.ntmps (bodyOf Tryz.f133) ⟨mkSl 0 [.agg [.vec .u64 16 (feL x)],.agg [.vec .u64 16 (feL y)]],[],2000⟩ (retR TYD Tryz.f133.ntmps [.cell 4 143] [.agg [.vec .u64 16 (feL (x-y))]] []):=by
 refine Or.inr ⟨{i:Nat // i≤16},fun i=>⟨[(6,.one (.ob .int (i.val:Int)))],[(2000,.blk 143 [.vec .u64 16 (lb 16 (mxV (d16 x.val) (difF x.val y.val) i.val))])]⟩,fun i=>16-i.val,⟨0,by omega⟩,?_⟩
 refine ⟨rfl,rfl,mxV_0 _ _,fun i=>⟨fun h2=> ?_,fun h2=> ?_⟩⟩
 ·have h2:=of_decide_eq_true h2
  have hi:=i.2
  have hp:=primeF_ge i.val
  have hx:=d16_lt x.val i.val
  have hy:=d16_lt y.val i.val
  repeat refine sd ?_
  refine sj ⟨i.val+1,by omega⟩<|sr<|sr ⟨(mxV_set ?_).symm,trivial⟩
  show (lb 16 (mxV (d16 x.val) (difF x.val y.val) i.val)).getD (i.val:Int).toNat (Kd.df .u64)+UInt64.ofNat 4*(lb 16 primeF).getD i.val 0-(feL y).getD i.val 0=_
  rw [mxV_get _ _ (by omega),feL,lb_get _ (by omega),lb_get _ (by omega),←UInt64.ofNat_mul,←UInt64.ofNat_add,u_sub (by omega)]
  rfl
 have h2:=of_decide_eq_false h2
 have hi:=i.2
 rw [show i.val=16 by omega,mxV_n]
 exact ⟨⟨_,difF_le _ _,rfl⟩,rfl,carL (difF_le _ _) (difF_v x y),trivial⟩
def updC (c:Nat→Nat) (m v i:Nat):Nat:=if i=m then v else c i
theorem v16_upd (c:Nat→Nat) (m a:Nat):∀n,m<n→v16 (updC c m (c m+a)) n=v16 c n+a*65536^m
 |0,h=>by omega
 |n+1,h=>by
  by_cases e:m=n
  ·subst e
   have h1:v16 (updC c m (c m+a)) m=v16 c m:=v16_congr m fun i hi=>by unfold updC;rw [if_neg (by omega)]
   simp only [v16]
   rw [h1]
   simp only [updC,if_true]
   rw [Nat.add_mul];omega
  ·have ih:=v16_upd c m a n (by omega)
   simp only [v16]
   rw [ih]
   simp only [updC,if_neg (fun x:n=m=>e x.symm)]
   omega
theorem v16_succ (f:Nat→Nat) (n:Nat):v16 f (n+1)=v16 f n+f n*65536^n:=rfl
def MM:Nat:=4294836225
theorem prod_le (x y i k:Nat):d16 x i*d16 y k≤MM:=by
 have h1:=d16_lt x i;have h2:=d16_lt y k
 exact Nat.le_trans (Nat.mul_le_mul (show d16 x i≤65535 by omega) (show d16 y k≤65535 by omega)) (by decide)
structure MulIn (f g c:Nat→Nat) (i k:Nat):Prop where
 lo:∀j,c j≤(i+1)*MM
 hi:∀j,i+k≤j→c j≤i*MM
 v:v16 c 32=v16 f i*v16 g 16+f i*65536^i*v16 g k
structure MulOut (f g c:Nat→Nat) (i:Nat):Prop where
 lo:∀j,c j≤i*MM
 v:v16 c 32=v16 f i*v16 g 16
theorem MulOut.start (f g:Nat→Nat):MulOut f g (fun _=>0) 0:=⟨fun _=>by omega,by rw [show v16 f 0=0 from rfl,Nat.zero_mul];rfl⟩
theorem MulOut.into {f g c:Nat→Nat} {i:Nat} (h:MulOut f g c i):MulIn f g c i 0:=
 ⟨fun j=>Nat.le_trans (h.lo j) (Nat.mul_le_mul_right _ (by omega)),fun j _=>h.lo j,by rw [h.v,show v16 g 0=0 from rfl,Nat.mul_zero,Nat.add_zero]⟩
theorem MulIn.step {f g c:Nat→Nat} {i k:Nat} (h:MulIn f g c i k) (hk:k<16) (hi:i<16) (hp:f i*g k≤MM):MulIn f g (updC c (i+k) (c (i+k)+f i*g k)) i (k+1):=by
 have e:(i+1)*MM=i*MM+MM:=by rw [Nat.add_mul,Nat.one_mul]
 refine ⟨fun j=> ?_,fun j hj=> ?_,?_⟩
 ·unfold updC
  split
  ·have:=h.hi (i+k) (Nat.le_refl _);omega
  ·exact h.lo j
 ·unfold updC
  rw [if_neg (by omega)]
  exact h.hi j (by omega)
 ·rw [v16_upd _ _ _ _ (by omega),h.v,v16_succ g k,Nat.pow_add]
  generalize v16 f i*v16 g 16=A
  generalize v16 g k=B
  generalize 65536^i=C
  generalize 65536^k=D
  rw [Nat.mul_add,Nat.add_assoc]
  congr 2
  grind
theorem MulIn.out {f g c:Nat→Nat} {i:Nat} (h:MulIn f g c i 16):MulOut f g c (i+1):=
 ⟨h.lo,by rw [h.v,v16_succ f i,Nat.add_mul]⟩
def fldF (c:Nat→Nat) (i:Nat):Nat:=c i+38*c (i+16)
theorem v16_append (c:Nat→Nat) (m:Nat):∀n,v16 c (m+n)=v16 c m+65536^m*v16 (fun i=>c (i+m)) n
 |0=>by simp [v16]
 |n+1=>by
  show v16 c (m+n)+c (m+n)*65536^(m+n)=_
  rw [v16_append c m n]
  simp only [v16]
  rw [Nat.pow_add,Nat.add_comm n m]
  grind
theorem fldF_v (c:Nat→Nat):v16 (fldF c) 16%Pq=v16 c 32%Pq:=by
 rw [show v16 c 32=v16 c (16+16) from rfl,v16_append c 16 16]
 rw [show fldF c=fun i=>c i+(fun i=>38*(fun i=>c (i+16)) i) i from rfl,v16_add,v16_mul]
 generalize v16 (fun i=>c (i+16)) 16=H
 generalize v16 c 16=L
 rw [Nat.add_mod L (65536^16*H),Nat.mul_mod,show (65536^16:Nat)%Pq=38 from by decide +kernel,Nat.add_mod L (38*H),Nat.mul_mod 38 H,show 38%Pq=38 from by decide +kernel]
theorem MulOut.fin {x y:F} {c:Nat→Nat} (h:MulOut (d16 x.val) (d16 y.val) c 16):v16 (fldF c) 16%Pq=(x*y).val:=by
 rw [fldF_v,h.v,d16_v x.isLt,d16_v y.isLt];rfl
theorem fld_le {c:Nat→Nat} (h:∀j,c j≤16*MM) (i:Nat):fldF c i≤17592186044416:=by
 have h1:=h i;have h2:=h (i+16);unfold fldF;unfold MM at *;omega
theorem updC_set {n m v:Nat} {c:Nat→Nat} {x:UInt64} (hx:x=UInt64.ofNat v):(lb n c).set m x=lb n (updC c m v):=
 lb_set (by rw [updC,if_pos rfl];exact hx) fun i _ hne=>by rw [updC,if_neg hne]
set_option maxHeartbeats 2000000 in
theorem vcFMul (x y:F):vc TYD (ctOf L15) Tryz.f132.ntmps (bodyOf Tryz.f132) ⟨mkSl 0 [.agg [.vec .u64 16 (feL x)],.agg [.vec .u64 16 (feL y)]],[],2000⟩ (retR TYD Tryz.f132.ntmps [.cell 4 143] [.agg [.vec .u64 16 (feL (x*y))]] []):=by
 refine Or.inr ⟨{p:Nat×(Nat→Nat) // p.1≤16∧MulOut (d16 x.val) (d16 y.val) p.2 p.1},fun p=>⟨[(6,.one (.ob .int (p.val.1:Int)))],[(2048,.blk 229 [.vec .u64 32 (lb 32 p.val.2)])]⟩,fun p=>16-p.val.1,⟨(0,fun _=>0),by omega,MulOut.start _ _⟩,?_⟩
 refine ⟨rfl,rfl,rfl,fun p=>⟨fun h1=> ?_,fun h1=> ?_⟩⟩
 ·have h1:=of_decide_eq_true h1
  obtain ⟨hp,hM⟩:=p.2
  refine Or.inr ⟨{q:Nat×(Nat→Nat) // q.1≤16∧MulIn (d16 x.val) (d16 y.val) q.2 p.val.1 q.1},fun q=>⟨[(7,.one (.ob .int (q.val.1:Int)))],[(2048,.blk 229 [.vec .u64 32 (lb 32 q.val.2)])]⟩,fun q=>16-q.val.1,⟨(0,p.val.2),by omega,hM.into⟩,?_⟩
  refine ⟨rfl,rfl,rfl,fun q=>⟨fun h2=> ?_,fun h2=> ?_⟩⟩
  ·have h2:=of_decide_eq_true h2
   obtain ⟨hq,hI⟩:=q.2
   have hpr:=prod_le x.val y.val p.val.1 q.val.1
   have e1:((p.val.1:Int)+(q.val.1:Int)).toNat=p.val.1+q.val.1:=by omega
   repeat refine sd ?_
   refine sj ⟨(q.val.1+1,updC q.val.2 (p.val.1+q.val.1) (q.val.2 (p.val.1+q.val.1)+d16 x.val p.val.1*d16 y.val q.val.1)),by omega,hI.step (by omega) (by omega) hpr⟩<|sr<|sr ⟨?_,trivial⟩
   show lb 32 (updC q.val.2 (p.val.1+q.val.1) (q.val.2 (p.val.1+q.val.1)+d16 x.val p.val.1*d16 y.val q.val.1))=(lb 32 q.val.2).set ((p.val.1:Int)+(q.val.1:Int)).toNat ((lb 32 q.val.2).getD ((p.val.1:Int)+(q.val.1:Int)).toNat 0+(feL x).getD p.val.1 0*(feL y).getD q.val.1 0)
   rw [e1,feL,feL,lb_get _ (by omega),lb_get _ (by omega),lb_get _ (by omega),←UInt64.ofNat_mul,←UInt64.ofNat_add]
   exact (updC_set rfl).symm
  have h2:=of_decide_eq_false h2
  obtain ⟨hq,hI⟩:=q.2
  have hq16:q.val.1=16:=by omega
  rw [hq16] at hI
  refine sd<|sj ⟨(p.val.1+1,q.val.2),by omega,hI.out⟩<|sr<|sr ⟨rfl,trivial⟩
 have h1:=of_decide_eq_false h1
 obtain ⟨hp,hM⟩:=p.2
 have hp16:p.val.1=16:=by omega
 rw [hp16] at hM
 refine Or.inr ⟨{i:Nat // i≤16},fun i=>⟨[(9,.one (.ob .int (i.val:Int)))],[(3112,.blk 143 [.vec .u64 16 (lb 16 (mxV (fun _=>0) (fldF p.val.2) i.val))])]⟩,fun i=>16-i.val,⟨0,by omega⟩,?_⟩
 refine ⟨rfl,rfl,rfl,fun i=>⟨fun h2=> ?_,fun h2=> ?_⟩⟩
 ·have h2:=of_decide_eq_true h2
  have hi:=i.2
  repeat refine sd ?_
  refine sj ⟨i.val+1,by omega⟩<|sr<|sr ⟨(mxV_set ?_).symm,trivial⟩
  show (lb 32 p.val.2).getD i.val 0+UInt64.ofNat 38*(lb 32 p.val.2).getD ((i.val:Int)+16).toNat 0=_
  rw [show ((i.val:Int)+16).toNat=i.val+16 by omega,lb_get _ (by omega),lb_get _ (by omega),←UInt64.ofNat_mul,←UInt64.ofNat_add]
  rfl
 have h2:=of_decide_eq_false h2
 have hi:=i.2
 rw [show i.val=16 by omega,mxV_n]
 exact ⟨⟨_,fld_le hM.lo,rfl⟩,rfl,carL (fld_le hM.lo) hM.fin,trivial⟩
set_option maxRecDepth 10000
theorem lims_u64 {l:List UInt64} {cs:List Value}:Lims Kd.u64.rp l cs↔cs=l.map fun x=> .int .u64 (x.toNat:Int):=by
 induction l generalizing cs with
 |nil=>exact Iff.rfl
 |cons x l ih=>
  constructor
  ·rintro ⟨h,r,h1,rfl,h2⟩
   rw [show h= [_] from h1,ih.1 h2];rfl
  ·rintro rfl
   exact ⟨[.int .u64 (x.toNat:Int)],_,rfl,rfl,ih.2 rfl⟩
theorem feL_cells (x:F):(feL x).map (fun x=>Value.int .u64 (x.toNat:Int))=(List.range 16).map fun i=> .int .u64 ((d16 x.val i:Nat):Int):=by
 rw [feL,lb,List.map_map]
 refine List.map_congr_left fun i _=> ?_
 have:=d16_lt x.val i
 show Value.int .u64 ((UInt64.ofNat (d16 x.val i)).toNat:Int)=_
 rw [u_nat (by omega)]
def Cl.lm (c:Cl):Cl:=match c with
 | .ob (.x 1) x=> .vec .u64 16 (feL x)
 |c=>c
def AV.lm:AV→AV
 | .one x=> .one x
 | .agg l=> .agg (l.map Cl.lm)
section
variable {η:Env} {A:Nat→Prop} {w:World}
theorem Cl.lm_H {c:Cl} {cs:List Value}:(c.lm).H η A w cs↔c.H η A w cs:=by
 unfold Cl.lm
 split
 ·rename_i x
  constructor
  ·rintro ⟨_,h⟩
   exact ⟨trivial,(lims_u64.1 h).trans (feL_cells x)⟩
  ·rintro ⟨_,h⟩
   exact ⟨lb_len _ _,lims_u64.2 (h.trans (feL_cells x).symm)⟩
 ·exact Iff.rfl
theorem ClsH_lm:∀ {l:List Cl} {cs:List Value},ClsH η A w (l.map Cl.lm) cs↔ClsH η A w l cs
 | [],_=>Iff.rfl
 |x::r,cs=>by
  constructor
  ·rintro ⟨h,t,e,h1,h2⟩
   exact ⟨h,t,e,Cl.lm_H.1 h1,ClsH_lm.1 h2⟩
  ·rintro ⟨h,t,e,h1,h2⟩
   exact ⟨h,t,e,Cl.lm_H.2 h1,ClsH_lm.2 h2⟩
theorem AV.lm_H {x:AV} {v:Value}:(x.lm).H η A w v↔x.H η A w v:=by
 cases x with
 |one x=>exact Iff.rfl
 |agg l=>
  constructor
  ·rintro ⟨cs,e,h1,h2⟩
   exact ⟨cs,e,ClsH_lm.1 h1,h2⟩
  ·rintro ⟨cs,e,h1,h2⟩
   exact ⟨cs,e,ClsH_lm.2 h1,h2⟩
theorem AvsH_lm:∀ {l:List AV} {vs:List Value},AvsH η A w (l.map AV.lm) vs↔AvsH η A w l vs
 | [],_=>Iff.rfl
 |x::r,vs=>by
  constructor
  ·rintro ⟨v,t,e,h1,h2⟩
   exact ⟨v,t,e,AV.lm_H.1 h1,AvsH_lm.1 h2⟩
  ·rintro ⟨v,t,e,h1,h2⟩
   exact ⟨v,t,e,AV.lm_H.2 h1,AvsH_lm.2 h2⟩
theorem Cl.lm_rn (n:Nat) (c:Cl):(c.lm).rn n=(c.rn n).lm:=by
 rcases c with _|_|_|⟨k,x⟩|_|_|_|_|_|_|_|_|_|_<;>try rfl
 rcases k with _|_|_|_|_|_|_|i<;>try rfl
 rcases i with _|_|i<;>rfl
theorem AV.lm_rn (n:Nat) (x:AV):(x.lm).rn n=(x.rn n).lm:=by
 cases x with
 |one x=>rfl
 |agg l=>
  refine congrArg AV.agg ?_
  rw [List.map_map,List.map_map]
  exact List.map_congr_left fun c _=>Cl.lm_rn n c
theorem OutH_lm {l:List AV} {v:Value} (h:OutH η A w (l.map AV.lm) v):OutH η A w l v:=by
 rcases l with _|⟨x,_|⟨y,l⟩⟩
 ·trivial
 ·exact AV.lm_H.1 h
 ·obtain ⟨vs,e,h⟩:=h
  have h2:AvsH η A w ((x::y::l).map AV.lm) vs:=h
  exact ⟨vs,e,AvsH_lm.1 h2⟩
end
theorem cfX_sound {ty : Nat → TE} {ct : Nat → Option CF} (hT : TysOk ty) (hO : OpsOk ty ct) {f : Nat} {fn : Func} {c : Code} {rs : List ResultVar} (hf : Tryz.prog.funcs[f]? = some fn) (hn : (fn.name == "runtime.NumGoroutine") = false) (hb : fn.body = some c) (hr : fn.results = rs.toArray) {G : GF}
  (hG:∀l g,G l=some g→preOk g.pre→l.length≤fn.ntmps∧g.outs.length=rs.length∧avs16 (g.outs.map AV.lm)=true∧hps16 g.us=true∧avsLt 0 (l.map AV.lm)=true∧vc ty ct fn.ntmps c ⟨mkSl 0 (l.map AV.lm),[],2000⟩ (retR ty fn.ntmps rs (g.outs.map AV.lm) g.us)):CSound f (cfA G):=by
 refine ⟨⟨fn,c,hf,hn,hb⟩,fun nx args sl H ds res rd qs h hq hp η w vs hH hv hfree=> ?_⟩
 obtain ⟨l,rd1,h1,hl⟩:=viewsB_ok hH h hv
 split at h1
 ·rename_i e1 e2
  split at h1
  ·rename_i outs us p e3
   have:=cfA_run h1
   subst this
   obtain ⟨g1,g2,g3,g4,g6,g5⟩:=hG _ _ e3 hp
   rw [updRn_of g4]
   refine (calls_R (pre:=p) followsMixed hT hO hf hb hr g6 (by rw [List.length_map];exact g1) (by rw [List.length_map];exact g2) g3 g4 g5 (ble_le e2) hH hfree (AvsH_lm.2 (normAs_ok hl))).mono fun e w' hR=> ?_
   obtain ⟨v,η',he,o1,o2,o3,o4,o5⟩:=hR
   refine ⟨v,η',he,⟨OutH_lm ?_,o2,o3,o4,o5⟩⟩
   have e5:(outs.map AV.lm).map (AV.rn nx)=(outs.map (AV.rn nx)).map AV.lm:=by
    rw [List.map_map,List.map_map]
    exact List.map_congr_left fun x _=>AV.lm_rn nx x
   rw [←e5]
   exact o1
  ·cases h1
 ·cases h1
def xAdd (a b:F):F:=a+b
def xSub (a b:F):F:=a-b
def xMul (a b:F):F:=a*b
def gFAdd:GF:=fun l=>match l with
 | [.agg [.ob (.x 1) a],.agg [.ob (.x 1) b]]=>some ⟨[.agg [.ob (.x 1) (xAdd a b)]],[],none⟩
 |_=>none
theorem fadd_sound:CSound 131 (cfA gFAdd):=cfX_sound TYDok OPD15 Tryz.func131 (by kernel_rfl) rfl (rs:= [.cell 4 143]) Tryz.results131 fun l g h hp=>by
 unfold gFAdd at h
 split at h
 ·cases h;exact ⟨Nat.le_of_ble_eq_true rfl,rfl,rfl,rfl,rfl,vcFAdd _ _⟩
 ·cases h
def gFSub:GF:=fun l=>match l with
 | [.agg [.ob (.x 1) a],.agg [.ob (.x 1) b]]=>some ⟨[.agg [.ob (.x 1) (xSub a b)]],[],none⟩
 |_=>none
theorem fsub_sound:CSound 133 (cfA gFSub):=cfX_sound TYDok OPD15 Tryz.func133 (by kernel_rfl) rfl (rs:= [.cell 4 143]) Tryz.results133 fun l g h hp=>by
 unfold gFSub at h
 split at h
 ·cases h;exact ⟨Nat.le_of_ble_eq_true rfl,rfl,rfl,rfl,rfl,vcFSub _ _⟩
 ·cases h
def gFMul:GF:=fun l=>match l with
 | [.agg [.ob (.x 1) a],.agg [.ob (.x 1) b]]=>some ⟨[.agg [.ob (.x 1) (xMul a b)]],[],none⟩
 |_=>none
theorem fmul_sound:CSound 132 (cfA gFMul):=cfX_sound TYDok OPD15 Tryz.func132 (by kernel_rfl) rfl (rs:= [.cell 4 143]) Tryz.results132 fun l g h hp=>by
 unfold gFMul at h
 split at h
 ·cases h;exact ⟨Nat.le_of_ble_eq_true rfl,rfl,rfl,rfl,rfl,vcFMul _ _⟩
 ·cases h
def L16:List (Nat×CF):=(131,cfA gFAdd)::(133,cfA gFSub)::(132,cfA gFMul)::L15
theorem L16ok:∀p∈L16,CSound p.1 p.2:=ctCons fadd_sound<|ctCons fsub_sound<|ctCons fmul_sound L15ok
theorem OPD16:OpsOk TYD (ctOf L16):=opsOk TYDok (ctOk L16ok)
set_option maxRecDepth 10000
theorem p16 (i:Nat):2^(16*i)=65536^i:=by rw [Nat.pow_mul]
def smlF (n j i:Nat):Nat:=if i<j then d16 n i else 0
theorem vcFSmall (n:UInt64):vc TYD (ctOf L16) Tryz.f130.ntmps (bodyOf Tryz.f130) ⟨mkSl 0 [.one (.ob .u64 n)],[],2000⟩ (retR TYD Tryz.f130.ntmps [.cell 2 143] [.agg [.vec .u64 16 (feL (fn n.toNat))]] []):=by
 refine Or.inr ⟨{i:Nat // i≤4},fun i=>⟨[(4,.one (.ob .int (i.val:Int)))],[(2016,.blk 143 [.vec .u64 16 (lb 16 (smlF n.toNat i.val))])]⟩,fun i=>4-i.val,⟨0,by omega⟩,?_⟩
 refine ⟨rfl,rfl,rfl,fun i=>⟨fun h2=> ?_,fun h2=> ?_⟩⟩
 ·have h2:=of_decide_eq_true h2
  have hi:=i.2
  have hn:=n.toNat_lt
  have hd:n.toNat/2^(16*i.val)≤n.toNat:=Nat.div_le_self _ _
  refine sd<|⟨show (0:Int)≤16*(i.val:Int) by omega,?_⟩
  repeat refine sd ?_
  refine sj ⟨i.val+1,by omega⟩<|sr<|sr ⟨?_,trivial⟩
  show lb 16 (smlF n.toNat (i.val+1))=(lb 16 (smlF n.toNat i.val)).set i.val (ush n (16*(i.val:Int)).toNat&&&UInt64.ofNat 65535)
  rw [show (16*(i.val:Int)).toNat=16*i.val by omega,ush,u_and (by omega),p16]
  refine (lb_set (by rw [smlF,if_pos (by omega)];rfl) fun j hj hne=> ?_).symm
  unfold smlF
  by_cases hl:j<i.val
  ·rw [if_pos (by omega),if_pos hl]
  ·rw [if_neg (by omega),if_neg hl]
 have h2:=of_decide_eq_false h2
 have hi:=i.2
 refine ⟨rfl,?_,trivial⟩
 show feL (fn n.toNat)=lb 16 (smlF n.toNat i.val)
 have hn:=n.toNat_lt
 have hv:(fn n.toNat).val=n.toNat:=Nat.mod_eq_of_lt (Nat.lt_trans hn (by decide +kernel))
 rw [show i.val=4 by omega,feL,hv]
 refine lb_congr fun j hj=> ?_
 unfold smlF
 by_cases hl:j<4
 ·rw [if_pos hl]
 ·rw [if_neg hl,d16,Nat.div_eq_of_lt]
  have:65536^4≤65536^j:=Nat.pow_le_pow_right (by omega) (by omega)
  omega
def gFSmall:GF:=fun l=>match l with
 | [.one (.ob .u64 n)]=>some ⟨[.agg [.ob (.x 1) (fn n.toNat)]],[],none⟩
 |_=>none
theorem fsmall_sound:CSound 130 (cfA gFSmall):=cfX_sound TYDok OPD16 Tryz.func130 (by kernel_rfl) rfl (rs:= [.cell 2 143]) Tryz.results130 fun l g h hp=>by
 unfold gFSmall at h
 split at h
 ·cases h;exact ⟨Nat.le_of_ble_eq_true rfl,rfl,rfl,rfl,rfl,vcFSmall _⟩
 ·cases h
def P2e255:Nat:=57896044618658097711785492504343953926634992332820282019728792003956564819968
def ofB (l:List UInt8):F:=fn (leN (l.take 32)%P2e255)
def twoF (l:List UInt8) (i:Nat):Nat:=(l.getD (2*i) 0).toNat+256*(l.getD (2*i+1) 0).toNat
theorem v16_two (l:List UInt8):∀n,2*n≤l.length→v16 (twoF l) n=leN (l.take (2*n))
 |0,_=>rfl
 |n+1,h=>by
  have e1:l.getD (2*n) 0=l[2*n]:=by rw [List.getD_eq_getElem?_getD,List.getElem?_eq_getElem (by omega)];rfl
  have e2:l.getD (2*n+1) 0=l[2*n+1]:=by rw [List.getD_eq_getElem?_getD,List.getElem?_eq_getElem (by omega)];rfl
  rw [v16,v16_two l n (by omega),show 2*(n+1)=2*n+1+1 by omega,leN_take l (2*n+1) (by omega),leN_take l (2*n) (by omega),twoF,e1,e2,Nat.pow_succ,show (65536:Nat)=256^2 from rfl,←Nat.pow_mul]
  generalize 256^(2*n)=X
  generalize leN _=Y
  rw [Nat.add_mul]
  have:256*l[2*n+1].toNat*X=l[2*n+1].toNat*(X*256):=by rw [Nat.mul_comm X,←Nat.mul_assoc,Nat.mul_comm 256]
  omega
def msk31 (l:List UInt8):List UInt8:=l.set 31 (l.getD 31 0&&&127)
theorem leN_msk {l:List UInt8} (h:l.length=32):leN (msk31 l)=leN l%P2e255:=by
 have h1:=leN_take l 31 (by omega)
 have h2:=leN_take (msk31 l) 31 (by simp [msk31,h])
 have h3:=leN_take_lt l 31
 rw [List.take_of_length_le (by omega)] at h1
 rw [List.take_of_length_le (by simp [msk31,h])] at h2
 have e1:(msk31 l).take 31=l.take 31:=by simp [msk31,List.take_set_of_le]
 have e2:(msk31 l)[31]'(by simp [msk31,h])=l.getD 31 0&&&127:=by simp [msk31]
 have e3:l.getD 31 0=l[31]:=by rw [List.getD_eq_getElem?_getD,List.getElem?_eq_getElem (by omega)];rfl
 have e4:(l[31]&&&127).toNat=l[31].toNat%128:=by rw [UInt8.toNat_and,show (127:UInt8).toNat=2^7-1 from rfl,Nat.and_two_pow_sub_one_eq_mod]
 rw [h2,h1,e1,e2,e3,e4]
 generalize leN (l.take 31)=A at h3
 generalize l[31].toNat=x
 unfold P2e255
 have e5:(256:Nat)^31=452312848583266388373324160190187140051835877600158453279131187530910662656:=by decide
 rw [e5] at h3 ⊢
 omega
theorem twoF_le (l:List UInt8) (i:Nat):twoF l i≤17592186044416:=by
 have h1:=(l.getD (2*i) 0).toNat_lt
 have h2:=(l.getD (2*i+1) 0).toNat_lt
 unfold twoF;omega
theorem or_two (a b:UInt8):a.toUInt64|||usl b.toUInt64 8=UInt64.ofNat (a.toNat+256*b.toNat):=by
 have ha:=a.toNat_lt
 have hb:=b.toNat_lt
 refine UInt64.toNat_inj.1 ?_
 rw [UInt64.toNat_or,usl,UInt64.toNat_ofNat',UInt64.toNat_ofNat',UInt8.toNat_toUInt64,UInt8.toNat_toUInt64,Nat.mod_eq_of_lt (show b.toNat*2^8<2^64 by omega),Nat.mod_eq_of_lt (show a.toNat+256*b.toNat<2^64 by omega),Nat.or_comm,←Nat.shiftLeft_eq,←Nat.shiftLeft_add_eq_or_of_lt (by omega),Nat.shiftLeft_eq]
 omega
theorem leN_pad (l:List UInt8) (n:Nat):leN (l++List.replicate n 0)=leN l:=by rw [leN_append,leN_zeros,Nat.mul_zero,Nat.add_zero]
def L17:List (Nat×CF):=(130,cfA gFSmall)::L16
theorem L17ok:∀p∈L17,CSound p.1 p.2:=ctCons fsmall_sound L16ok
theorem OPD17:OpsOk TYD (ctOf L17):=opsOk TYDok (ctOk L17ok)
set_option maxHeartbeats 1000000 in
theorem vcFOf (b:List UInt8):vc TYD (ctOf L17) Tryz.f129.ntmps (bodyOf Tryz.f129) ⟨mkSl 0 [.one (.ro .u8 b)],[],2000⟩ (retR TYD Tryz.f129.ntmps [.cell 2 143] [.agg [.vec .u64 16 (feL (ofB b))]] []):=by
 have hl:(b.take (Int.toNat 32)++List.replicate (Int.toNat 32-b.length) 0).length=32:=by simp;omega
 have hv:leN (b.take 32)=leN (b.take (Int.toNat 32)++List.replicate (Int.toNat 32-b.length) 0):=(leN_pad _ _).symm
 have hO:ofB b=fn (leN (b.take (Int.toNat 32)++List.replicate (Int.toNat 32-b.length) 0)%P2e255):=by rw [ofB,hv]
 rw [hO]
 clear hO hv
 refine sd ?_
 generalize b.take (Int.toNat 32)++List.replicate (Int.toNat 32-b.length) 0=C at hl ⊢
 have hm:=leN_msk hl
 have hml:(msk31 C).length=32:=by simp [msk31,hl]
 repeat refine sd ?_
 refine Or.inr ⟨{i:Nat // i≤16},fun i=>⟨[(5,.one (.ob .int (i.val:Int)))],[(2032,.row 5 .u8 (msk31 C)),(2176,.blk 143 [.vec .u64 16 (lb 16 (mxV (fun _=>0) (twoF (msk31 C)) i.val))])]⟩,fun i=>16-i.val,⟨0,by omega⟩,?_⟩
 refine ⟨rfl,rfl,rfl,rfl,fun i=>⟨fun h2=> ?_,fun h2=> ?_⟩⟩
 ·have h2:=of_decide_eq_true h2
  have hi:=i.2
  repeat refine sd ?_
  refine sj ⟨i.val+1,by omega⟩<|sr<|sr<|sr ⟨(mxV_set ?_).symm,trivial⟩
  show UInt8.toUInt64 ((msk31 C).getD (2*(i.val:Int)).toNat 0)|||usl (UInt8.toUInt64 ((msk31 C).getD (2*(i.val:Int)+1).toNat 0)) 8=_
  rw [show (2*(i.val:Int)).toNat=2*i.val by omega,show (2*(i.val:Int)+1).toNat=2*i.val+1 by omega,or_two]
  rfl
 have h2:=of_decide_eq_false h2
 have hi:=i.2
 rw [show i.val=16 by omega,mxV_n]
 refine ⟨⟨_,twoF_le _,rfl⟩,rfl,carL (twoF_le _) ?_,trivial⟩
 rw [v16_two _ _ (by omega),List.take_of_length_le (by omega),hm]
 rfl
def gFOf:GF:=fun l=>match l with
 | [.one (.ro .u8 b)]=>some ⟨[.agg [.ob (.x 1) (ofB b)]],[],none⟩
 |_=>none
theorem fof_sound:CSound 129 (cfA gFOf):=cfX_sound TYDok OPD17 Tryz.func129 (by kernel_rfl) rfl (rs:= [.cell 2 143]) Tryz.results129 fun l g h hp=>by
 unfold gFOf at h
 split at h
 ·cases h;exact ⟨Nat.le_of_ble_eq_true rfl,rfl,rfl,rfl,rfl,vcFOf _⟩
 ·cases h
theorem leB_two (n i:Nat):leB (2*(i+1)) n=leB (2*i) n++ [(UInt64.ofNat (d16 n i)).toUInt8,(ush (UInt64.ofNat (d16 n i)) 8).toUInt8]:=by
 have hd:=d16_lt n i
 rw [show 2*(i+1)=2*i+2 by omega,leB_append,u_sh (by omega),UInt64.toUInt8_ofNat',UInt64.toUInt8_ofNat']
 refine congrArg _ ?_
 have e:n/2^(8*(2*i))=n/65536^i:=by rw [←p16];congr 2;omega
 show [UInt8.ofNat (n/2^(8*(2*i))/2^0),UInt8.ofNat (n/2^(8*(2*i))/2^8)]=_
 rw [e,d16]
 generalize n/65536^i=m
 refine congr (congrArg List.cons (UInt8.toNat_inj.1 ?_)) (congrArg (fun z=> [z]) (UInt8.toNat_inj.1 ?_))
 ·rw [UInt8.toNat_ofNat',UInt8.toNat_ofNat'];omega
 ·rw [UInt8.toNat_ofNat',UInt8.toNat_ofNat'];omega
theorem vcFBytes (x:F):vc TYD (ctOf L17) Tryz.f135.ntmps (bodyOf Tryz.f135) ⟨mkSl 0 [.agg [.vec .u64 16 (feL x)]],[],2000⟩ (retR TYD Tryz.f135.ntmps [.tmp 2] [.one (.rw 0)] [(0,.row 5 .u8 (leB 32 x.val))]):=by
 refine Or.inr ⟨{i:Nat // i≤16},fun i=>⟨[(4,.one (.ob .int (i.val:Int))),(3,.one (.rw 0))],[(0,.row 5 .u8 (leB (2*i.val) x.val))]⟩,fun i=>16-i.val,⟨0,by omega⟩,?_⟩
 refine ⟨rfl,rfl,fun i=>⟨fun h2=> ?_,fun h2=> ?_⟩⟩
 ·have h2:=of_decide_eq_true h2
  have hi:=i.2
  have e:(feL x).getD (i.val:Int).toNat (Kd.df .u64)=UInt64.ofNat (d16 x.val i.val):=lb_get _ (show i.val<16 by omega)
  have e2:=leB_two x.val i.val
  rw [←e] at e2
  repeat refine sd ?_
  refine ⟨?_,sd<|sj ⟨i.val+1,by omega⟩<|sr ⟨e2,trivial⟩⟩
  refine Nat.le_trans (Nat.le_of_eq (congrArg List.length e2.symm)) ?_
  rw [leB_len];omega
 have h2:=of_decide_eq_false h2
 have hi:=i.2
 refine ⟨?_,trivial⟩
 show leB 32 x.val=leB (2*i.val) x.val
 rw [show i.val=16 by omega]
def gFBytes:GF:=fun l=>match l with
 | [.agg [.ob (.x 1) x]]=>some ⟨[.one (.rw 0)],[(0,.row 5 .u8 (leB 32 (Fin.val (n:=Pq) x)))],none⟩
 |_=>none
theorem fbytes_sound:CSound 135 (cfA gFBytes):=cfX_sound TYDok OPD17 Tryz.func135 (by kernel_rfl) rfl (rs:= [.tmp 2]) Tryz.results135 fun l g h hp=>by
 unfold gFBytes at h
 split at h
 ·cases h;exact ⟨Nat.le_of_ble_eq_true rfl,rfl,rfl,rfl,rfl,vcFBytes _⟩
 ·cases h
def L18:List (Nat×CF):=(129,cfA gFOf)::(135,cfA gFBytes)::L17
theorem L18ok:∀p∈L18,CSound p.1 p.2:=ctCons fof_sound<|ctCons fbytes_sound L17ok
set_option maxRecDepth 10000
def z1:Cl:= .ob (.x 1) (0:F)
def TYF (t:Nat):TE:=match Nat.beq t 143 with
 |true=>⟨.arr 16 111,16,[z1]⟩
 |false=>match Nat.beq t 145 with
  |true=>⟨.st [(0,143),(16,143),(32,143)],48,[z1,z1,z1]⟩
  |false=>TYD t
theorem tok_zero {ty ty':Nat→TE} {t:Nat} {i:TypeInfo} {d:TypeDesc} {z:Value} (h:TOK ty t i d z) (h1:(ty' t).ti=(ty t).ti) (h2:(ty' t).size=(ty t).size) (h3:∀η A w,ClsH η A w (ty' t).zero z.cells.toList):TOK ty' t i d z:=
 ⟨h.info,h.und,by rw [h1];exact h.desc,by rw [h2];exact h.size,h.zero,h3,h.one,by rw [h1];exact h.kz,by rw [h2];exact h.zs,by rw [h1,h2];exact h.ks,h.bytes⟩
theorem feL_0:feL 0=List.replicate 16 0:=by decide +kernel
theorem TYFok:TysOk TYF:=fun t=>by
 by_cases e1:t=143
 ·subst e1
  rcases TYDok 143 with h|⟨i,d,z,h⟩
  ·cases h
  ·refine .inr ⟨i,d,z,tok_zero h rfl rfl fun η A w=> ?_⟩
   refine ClsH_lm.1 ?_
   show ClsH η A w [.vec .u64 16 (feL 0)] _
   rw [feL_0]
   exact h.cells η A w
 ·by_cases e2:t=145
  ·subst e2
   rcases TYDok 145 with h|⟨i,d,z,h⟩
   ·cases h
   ·refine .inr ⟨i,d,z,tok_zero h rfl rfl fun η A w=> ?_⟩
    refine ClsH_lm.1 ?_
    show ClsH η A w [.vec .u64 16 (feL 0),.vec .u64 16 (feL 0),.vec .u64 16 (feL 0)] _
    rw [feL_0]
    exact h.cells η A w
  ·have e:TYF t=TYD t:=by
    unfold TYF
    rw [show Nat.beq t 143=false from by rw [←Bool.not_eq_true,Nat.beq_eq];exact e1,show Nat.beq t 145=false from by rw [←Bool.not_eq_true,Nat.beq_eq];exact e2]
   rcases TYDok t with h|⟨i,d,z,h⟩
   ·exact .inl (by rw [e];exact h)
   ·exact .inr ⟨i,d,z,tok_zero h (by rw [e]) (by rw [e]) (by rw [e];exact h.cells)⟩
theorem OPF18:OpsOk TYF (ctOf L18):=opsOk TYFok (ctOk L18ok)
def xNeg (a:F):F:= -a
theorem vcFNeg (x:F):vc TYF (ctOf L18) Tryz.f157.ntmps (bodyOf Tryz.f157) ⟨mkSl 0 [.agg [.ob (.x 1) x]],[],2000⟩ (retR TYF Tryz.f157.ntmps [.cell 2 143] [.agg [.ob (.x 1) (xNeg x)]] []):=by
 refine ⟨⟨rfl,?_⟩,trivial⟩
 show [xNeg x]= [xSub 0 x]
 refine congrArg (fun z=> [z]) (F.ext' ?_)
 show (-x).val=(0-x).val
 rw [Fin.sub_def,Fin.neg_def]
 show (Pq-x.val)%Pq=(Pq-x.val+0)%Pq
 rw [Nat.add_zero]
def pwL (a b:UInt8):List UInt8:=((List.replicate 32 255).set 0 a).set 31 b
theorem vcPower (a b:UInt8):vc TYF (ctOf L18) Tryz.f190.ntmps (bodyOf Tryz.f190) ⟨mkSl 0 [.one (.ob .u8 a),.one (.ob .u8 b)],[],2000⟩ (retK [4] [.one (.rw 0)] [(0,.row 5 .u8 (pwL a b))]):=by
 refine sd<|Or.inr ⟨{i:Nat // i≤32},fun i=>⟨[(6,.one (.ob .int (i.val:Int)))],[(2016,.row 5 .u8 (mapI 0 32 (fun _=>255) (List.replicate 32 0) i.val))]⟩,fun i=>32-i.val,⟨0,by omega⟩,?_⟩
 refine ⟨rfl,mapI_0 (by simp),fun i=>⟨fun h2=> ?_,fun h2=> ?_⟩⟩
 ·have h2:=of_decide_eq_true h2
  have hi:=i.2
  have hl:=mapI_len (d:=(0:UInt8)) (n:=32) (f:=fun _=>255) (old:=List.replicate 32 0) i.val
  repeat refine sd ?_
  exact sj ⟨i.val+1,by omega⟩<|sr ⟨mapI_set.symm,trivial⟩
 have h2:=of_decide_eq_false h2
 have hi:=i.2
 have e:mapI 0 32 (fun _=>255) (List.replicate 32 0) i.val=List.replicate 32 (255:UInt8):=by
  rw [mapI_end (by omega)];rfl
 rw [e]
 refine ⟨by decide,by decide,?_⟩
 refine ⟨by simp,by simp,rfl,trivial⟩
def gFNeg:GF:=fun l=>match l with
 | [.agg [.ob (.x 1) a]]=>some ⟨[.agg [.ob (.x 1) (xNeg a)]],[],none⟩
 |_=>none
theorem fneg_sound:CSound 157 (cfA gFNeg):=cfR_sound TYFok OPF18 Tryz.func157 (by kernel_rfl) rfl (rs:= [.cell 2 143]) Tryz.results157 fun l g h hp=>by
 unfold gFNeg at h
 split at h
 ·cases h;exact ⟨Nat.le_of_ble_eq_true rfl,rfl,rfl,rfl,vcFNeg _⟩
 ·cases h
def gPower:GF:=fun l=>match l with
 | [.one (.ob .u8 a),.one (.ob .u8 b)]=>some ⟨[.one (.rw 0)],[(0,.row 5 .u8 (pwL a b))],none⟩
 |_=>none
theorem power_sound:CSound 190 (cfA gPower):=cfA_sound OPF18 Tryz.func190 (by kernel_rfl) rfl (rs:= [4]) Tryz.results190 fun l g h hp=>by
 unfold gPower at h
 split at h
 ·cases h;exact ⟨Nat.le_of_ble_eq_true rfl,rfl,rfl,rfl,vcPower _ _⟩
 ·cases h
def pwN (N b j:Nat):Nat:=N*2^(8-j)+b/2^j
theorem pwN_top (N b:Nat) (hb:b<256):pwN N b 8=N:=by simp [pwN,Nat.div_eq_of_lt hb]
theorem pwN_low (N b:Nat):pwN N b 0=N*256+b:=by simp [pwN]
theorem pwN_step (N b j:Nat) (hj:j<8):pwN N b j=pwN N b (j+1)+pwN N b (j+1)+b/2^j%2:=by
 unfold pwN
 rw [show 8-j=8-(j+1)+1 from by omega,Nat.pow_succ,Nat.pow_succ,←Nat.div_div_eq_div_mul,←Nat.mul_assoc]
 generalize N*2^(8-(j+1))=A
 generalize b/2^j=B
 omega
theorem F1:(fn 1:F)=1:=by decide +kernel
def beL (l:List UInt8):Nat:=leN l.reverse
theorem beL_take {l:List UInt8} {i:Nat} (h:i<l.length):beL (l.take (i+1))=beL (l.take i)*256+(l.getD i 0).toNat:=by
 rw [beL,List.take_add_one,List.getElem?_eq_getElem h,List.getD_eq_getElem?_getD,List.getElem?_eq_getElem h,List.reverse_append]
 show _+256*_=_
 rw [Nat.mul_comm,Nat.add_comm]
 rfl
set_option maxHeartbeats 1000000 in
theorem vcPow (x:F) (e:List UInt8):vc TYF (ctOf L18) Tryz.f189.ntmps (bodyOf Tryz.f189) ⟨mkSl 0 [.agg [.ob (.x 1) x],.one (.ro .u8 e)],[],2000⟩ (retR TYF Tryz.f189.ntmps [.cell 4 143] [.agg [.ob (.x 1) (fpow x (beL e))]] []):=by
 refine Or.inr ⟨{i:Nat // i≤e.length},fun i=>⟨[(6,.one (.ob .int (i.val:Int)))],[(2048,.blk 143 [.ob (.x 1) (fpow x (beL (e.take i.val)))])]⟩,fun i=>e.length-i.val,⟨0,by omega⟩,?_⟩
 refine ⟨rfl,⟨rfl,?_⟩,fun i hl=>⟨fun h1=> ?_,fun h1=> ?_⟩⟩
 ·show [fpow x 0]= [fn 1]
  rw [fpow_zero,F1]
 ·have h1:=of_decide_eq_true h1
  have hi:=i.2
  have hb:=(e.getD i.val 0).toNat_lt
  have hN:=beL_take (l:=e) (i:=i.val) (by omega)
  refine Or.inr ⟨{j:Nat // j≤8},fun j=>⟨[(7,.one (.ob .int ((j.val:Int)-1)))],[(2048,.blk 143 [.ob (.x 1) (fpow x (pwN (beL (e.take i.val)) (e.getD i.val 0).toNat j.val))])]⟩,fun j=>j.val,⟨8,by omega⟩,?_⟩
  refine ⟨rfl,⟨rfl,?_⟩,fun j=>⟨fun h2=> ?_,fun h2=> ?_⟩⟩
  ·show [fpow x (pwN _ _ 8)]=_
   rw [pwN_top _ _ hb]
   rfl
  ·have h2:=of_decide_eq_true h2
   have hj:=j.2
   have hs:=pwN_step (beL (e.take i.val)) (e.getD i.val 0).toNat (j.val-1) (by omega)
   rw [show j.val-1+1=j.val by omega] at hs
   have hr:=r8_bit (e.getD i.val 0) (j.val-1)
   have e1:((j.val:Int)-1).toNat=j.val-1:=by omega
   repeat refine sd ?_
   refine ⟨fun h3=> ?_,fun h3=> ?_⟩
   ·have h3:r8 (e.getD i.val 0) ((j.val:Int)-1).toNat&&&1=1:=of_decide_eq_true h3
    rw [e1] at h3
    rw [h3] at hr
    refine sd<|sj ⟨j.val-1,by omega⟩ ⟨congrArg (fun z:Int=> [z]) ?_,⟨rfl,?_⟩,trivial⟩
    ·show ((j.val-1:Nat):Int)-1=(j.val:Int)-1-1
     omega
    ·show [fpow x (pwN (beL (e.take i.val)) (e.getD i.val 0).toNat (j.val-1))]= [fpow x (pwN (beL (e.take i.val)) (e.getD i.val 0).toNat j.val)*fpow x (pwN (beL (e.take i.val)) (e.getD i.val 0).toNat j.val)*x]
     rw [hs,←hr,fpow_add,fpow_add]
     exact congrArg (fun z=> [_*z]) (fpow_one x)
   ·have h3:¬r8 (e.getD i.val 0) ((j.val:Int)-1).toNat&&&1=1:=of_decide_eq_false h3
    rw [e1] at h3
    have h4:(e.getD i.val 0).toNat/2^(j.val-1)%2=0:=by
     have h5:(r8 (e.getD i.val 0) (j.val-1)&&&1).toNat≠1:=fun h=>h3 (UInt8.toNat_inj.1 h)
     rw [hr] at h5
     omega
    refine sd<|sj ⟨j.val-1,by omega⟩ ⟨congrArg (fun z:Int=> [z]) ?_,⟨rfl,?_⟩,trivial⟩
    ·show ((j.val-1:Nat):Int)-1=(j.val:Int)-1-1
     omega
    ·show [fpow x (pwN (beL (e.take i.val)) (e.getD i.val 0).toNat (j.val-1))]= [fpow x (pwN (beL (e.take i.val)) (e.getD i.val 0).toNat j.val)*fpow x (pwN (beL (e.take i.val)) (e.getD i.val 0).toNat j.val)]
     rw [hs,h4,Nat.add_zero,fpow_add]
  have h2:=of_decide_eq_false h2
  have hj:=j.2
  simp only [maxLen] at hl
  refine sd<|sj ⟨i.val+1,by omega⟩<|sr ⟨⟨rfl,?_⟩,trivial⟩
  show [fpow x (beL (e.take (i.val+1)))]=_
  rw [hN,show j.val=0 by omega,pwN_low]
  rfl
 have h1:=of_decide_eq_false h1
 have hi:=i.2
 refine ⟨⟨rfl,?_⟩,trivial⟩
 show [fpow x (beL e)]=_
 rw [List.take_of_length_le (by omega)]
 rfl
def gPow:GF:=fun l=>match l with
 | [.agg [.ob (.x 1) a],.one (.ro .u8 e)]=>some ⟨[.agg [.ob (.x 1) (fpow a (beL e))]],[],none⟩
 |_=>none
theorem pow_sound:CSound 189 (cfA gPow):=cfR_sound TYFok OPF18 Tryz.func189 (by kernel_rfl) rfl (rs:= [.cell 4 143]) Tryz.results189 fun l g h hp=>by
 unfold gPow at h
 split at h
 ·cases h;exact ⟨Nat.le_of_ble_eq_true rfl,rfl,rfl,rfl,vcPow _ _⟩
 ·cases h
def L19:List (Nat×CF):=(157,cfA gFNeg)::(190,cfA gPower)::(189,cfA gPow)::L18
theorem L19ok:∀p∈L19,CSound p.1 p.2:=ctCons fneg_sound<|ctCons power_sound<|ctCons pow_sound L18ok
theorem OPF19:OpsOk TYF (ctOf L19):=opsOk TYFok (ctOk L19ok)
theorem vcFInv (x:F):vc TYF (ctOf L19) Tryz.f134.ntmps (bodyOf Tryz.f134) ⟨mkSl 0 [.agg [.ob (.x 1) x]],[],2000⟩ (retR TYF Tryz.f134.ntmps [.cell 2 143] [.agg [.ob (.x 1) (finv x)]] []):=by
 refine ⟨⟨rfl,?_⟩,trivial⟩
 show [finv x]= [fpow x (beL (pwL (UInt8.ofNat 127) (UInt8.ofNat 235)))]
 rw [show beL (pwL (UInt8.ofNat 127) (UInt8.ofNat 235))=expInv by decide +kernel]
 rfl
def gFInv:GF:=fun l=>match l with
 | [.agg [.ob (.x 1) a]]=>some ⟨[.agg [.ob (.x 1) (finv a)]],[],none⟩
 |_=>none
theorem finv_sound:CSound 134 (cfA gFInv):=cfR_sound TYFok OPF19 Tryz.func134 (by kernel_rfl) rfl (rs:= [.cell 2 143]) Tryz.results134 fun l g h hp=>by
 unfold gFInv at h
 split at h
 ·cases h;exact ⟨Nat.le_of_ble_eq_true rfl,rfl,rfl,rfl,vcFInv _⟩
 ·cases h
def L20:List (Nat×CF):=(134,cfA gFInv)::L19
theorem L20ok:∀p∈L20,CSound p.1 p.2:=ctCons finv_sound L19ok
theorem OPF20:OpsOk TYF (ctOf L20):=opsOk TYFok (ctOk L20ok)
set_option maxRecDepth 10000
def fillL (b:List UInt8) (n:Nat):List UInt8:=b.take n++List.replicate (n-b.length) 0
theorem fillL_len (b:List UInt8) (n:Nat):(fillL b n).length=n:=by simp [fillL];omega
def clampL (b:List UInt8):List UInt8:=((fillL b 32).set 0 ((fillL b 32).getD 0 0&&&248)).set 31 ((((fillL b 32).set 0 ((fillL b 32).getD 0 0&&&248)).getD 31 0&&&127)|||64)
theorem clampL_len (b:List UInt8):(clampL b).length=32:=by simp [clampL,fillL_len]
theorem vcClamp (b:List UInt8):vc TYF (ctOf L20) Tryz.f86.ntmps (bodyOf Tryz.f86) ⟨mkSl 0 [.one (.ro .u8 b)],[],2000⟩ (retK [2] [.one (.rw 0)] [(0,.row 5 .u8 (clampL b))]):=by
 have hl:(b.take (Int.toNat 32)++List.replicate (Int.toNat 32-b.length) 0).length=32:=fillL_len b 32
 refine sd ?_
 repeat refine sd ?_
 refine ⟨by rw [List.length_set,hl];decide,by rw [List.length_set,hl];decide,by rw [List.length_set,hl];decide,by rw [List.length_set,hl];decide,rfl,trivial⟩
def gClamp:GF:=fun l=>match l with
 | [.one (.ro .u8 b)]=>some ⟨[.one (.rw 0)],[(0,.row 5 .u8 (clampL b))],none⟩
 |_=>none
theorem clamp_sound:CSound 86 (cfA gClamp):=cfA_sound OPF20 Tryz.func86 (by kernel_rfl) rfl (rs:= [2]) Tryz.results86 fun l g h hp=>by
 unfold gClamp at h
 split at h
 ·cases h;exact ⟨Nat.le_of_ble_eq_true rfl,rfl,rfl,rfl,vcClamp _⟩
 ·cases h
def L21:List (Nat×CF):=(86,cfA gClamp)::L20
theorem L21ok:∀p∈L21,CSound p.1 p.2:=ctCons clamp_sound L20ok
theorem OPF21:OpsOk TYF (ctOf L21):=opsOk TYFok (ctOk L21ok)
structure Lad where
 x2:F
 z2:F
 x3:F
 z3:F
def Lad.swp (s:Lad):Lad:=⟨s.x3,s.z3,s.x2,s.z2⟩
def Lad.step (u:F) (s:Lad):Lad:=
 let a:=s.x2+s.z2
 let aa:=a*a
 let b:=s.x2-s.z2
 let bb:=b*b
 let e:=aa-bb
 let da:=(s.x3-s.z3)*a
 let cb:=(s.x3+s.z3)*b
 ⟨aa*bb,e*(aa+fn 121665*e),(da+cb)*(da+cb),u*((da-cb)*(da-cb))⟩
def ladS (k:List UInt8) (u:F):Nat→Lad×Nat
 |0=>(⟨1,0,u,1⟩,0)
 |m+1=>(((if (ladS k u m).2≠bitN k (254-m) then (ladS k u m).1.swp else (ladS k u m).1).step u),bitN k (254-m))
def ladO (s:Lad×Nat):Lad:=if s.2=1 then s.1.swp else s.1
def x255 (k u:List UInt8):F:=(ladO (ladS (clampL k) (ofB u) 255)).x2*finv (ladO (ladS (clampL k) (ofB u) 255)).z2
set_option maxHeartbeats 4000000 in
theorem vcX25519 (s p:List UInt8):vc TYF (ctOf L21) Tryz.f80.ntmps (bodyOf Tryz.f80) ⟨mkSl 0 [.one (.ro .u8 s),.one (.ro .u8 p)],[],2000⟩ (retK [4] [.one (.rw 0)] [(0,.row 5 .u8 (leB 32 (x255 s p).val))]):=by
 have hx:x255 s p=(ladO (ladS (clampL s) (ofB p) 255)).x2*finv (ladO (ladS (clampL s) (ofB p) 255)).z2:=rfl
 have hk:=clampL_len s
 rw [hx]
 clear hx
 refine Or.inr ⟨{m:Nat // m≤255},fun m=>⟨[(12,.one (.ob .int (254-(m.val:Int)))),(11,.one (.ob .int ((ladS (clampL s) (ofB p) m.val).2:Int)))],[(2192,.blk 143 [.ob (.x 1) (ladS (clampL s) (ofB p) m.val).1.x2]),(2208,.blk 143 [.ob (.x 1) (ladS (clampL s) (ofB p) m.val).1.z2]),(2224,.blk 143 [.ob (.x 1) (ladS (clampL s) (ofB p) m.val).1.x3]),(2240,.blk 143 [.ob (.x 1) (ladS (clampL s) (ofB p) m.val).1.z3])]⟩,fun m=>255-m.val,⟨0,by omega⟩,?_⟩
 refine ⟨rfl,rfl,⟨rfl,?_⟩,⟨rfl,rfl⟩,⟨rfl,rfl⟩,⟨rfl,?_⟩,fun m=>⟨fun h1=> ?_,fun h1=> ?_⟩⟩
 ·exact congrArg (fun z=> [z]) F1.symm
 ·exact congrArg (fun z=> [z]) F1.symm
 ·have h1:=of_decide_eq_true h1
  have hm:=m.2
  have hS:ladS (clampL s) (ofB p) (m.val+1)=(((if (ladS (clampL s) (ofB p) m.val).2≠bitN (clampL s) (254-m.val) then (ladS (clampL s) (ofB p) m.val).1.swp else (ladS (clampL s) (ofB p) m.val).1).step (ofB p)),bitN (clampL s) (254-m.val)):=rfl
  generalize clampL s=k at hk hS ⊢
  generalize ladS k (ofB p) m.val=S at hS ⊢
  have e0:(254-(m.val:Int)).toNat=254-m.val:=by omega
  have e1:((254-(m.val:Int))/8).toNat=(254-m.val)/8:=by omega
  have e2:((254-(m.val:Int))%8).toNat=(254-m.val)%8:=by omega
  have hb:=r8_bit (k.getD ((254-m.val)/8) 0) ((254-m.val)%8)
  have e3:(((r8 (k.getD ((254-(m.val:Int))/8).toNat (Kd.df .u8)) ((254-(m.val:Int))%8).toNat&&&UInt8.ofNat 1:UInt8).toNat:Nat):Int)=((bitN k (254-m.val):Nat):Int):=by
   rw [e1,e2]
   exact congrArg Int.ofNat hb
  repeat refine sd ?_
  rw [e3]
  generalize bitN k (254-m.val)=b at hS ⊢
  have e4:(254:Int)-((m.val+1:Nat):Int)=254-(m.val:Int)-1:=by omega
  refine ⟨fun h2=> ?_,fun h2=> ?_⟩
  ·have h2:S.2≠b:=fun h=>of_decide_eq_true h2 (congrArg Int.ofNat h)
   rw [if_pos h2] at hS
   refine sd<|sj ⟨m.val+1,by omega⟩ ⟨congrArg (fun z:Int=> [z]) e4,?_,⟨rfl,?_⟩,⟨rfl,?_⟩,⟨rfl,?_⟩,⟨rfl,?_⟩,trivial⟩
   ·show [((ladS k (ofB p) (m.val+1)).2:Int)]= [(b:Int)]
    rw [hS]
   ·show [(ladS k (ofB p) (m.val+1)).1.x2]=_
    rw [hS];rfl
   ·show [(ladS k (ofB p) (m.val+1)).1.z2]=_
    rw [hS];rfl
   ·show [(ladS k (ofB p) (m.val+1)).1.x3]=_
    rw [hS];rfl
   ·show [(ladS k (ofB p) (m.val+1)).1.z3]=_
    rw [hS];rfl
  ·have h2:¬S.2≠b:=fun h=>of_decide_eq_false h2 fun h3=>h (Int.ofNat_inj.1 h3)
   rw [if_neg h2] at hS
   refine sd<|sj ⟨m.val+1,by omega⟩ ⟨congrArg (fun z:Int=> [z]) e4,?_,⟨rfl,?_⟩,⟨rfl,?_⟩,⟨rfl,?_⟩,⟨rfl,?_⟩,trivial⟩
   ·show [((ladS k (ofB p) (m.val+1)).2:Int)]= [(b:Int)]
    rw [hS]
   ·show [(ladS k (ofB p) (m.val+1)).1.x2]=_
    rw [hS];rfl
   ·show [(ladS k (ofB p) (m.val+1)).1.z2]=_
    rw [hS];rfl
   ·show [(ladS k (ofB p) (m.val+1)).1.x3]=_
    rw [hS];rfl
   ·show [(ladS k (ofB p) (m.val+1)).1.z3]=_
    rw [hS];rfl
 have h1:=of_decide_eq_false h1
 have hm:=m.2
 have hm2:m.val=255:=by omega
 rw [hm2]
 generalize ladS (clampL s) (ofB p) 255=S
 refine ⟨fun h2=> ?_,fun h2=> ?_⟩
 ·have h2:S.2=1:=by have:=of_decide_eq_true h2;omega
  refine ⟨?_,trivial⟩
  rw [ladO,if_pos h2]
  rfl
 ·have h2:¬S.2=1:=by have:=of_decide_eq_false h2;omega
  refine ⟨?_,trivial⟩
  rw [ladO,if_neg h2]
  rfl
def gX255:GF:=fun l=>match l with
 | [.one (.ro .u8 s),.one (.ro .u8 p)]=>some ⟨[.one (.rw 0)],[(0,.row 5 .u8 (leB 32 (x255 s p).val))],none⟩
 |_=>none
theorem x255_sound:CSound 80 (cfA gX255):=cfA_sound OPF21 Tryz.func80 (by kernel_rfl) rfl (rs:= [4]) Tryz.results80 fun l g h hp=>by
 unfold gX255 at h
 split at h
 ·cases h;exact ⟨Nat.le_of_ble_eq_true rfl,rfl,rfl,rfl,vcX25519 _ _⟩
 ·cases h
def L22:List (Nat×CF):=(80,cfA gX255)::L21
theorem L22ok:∀p∈L22,CSound p.1 p.2:=ctCons x255_sound L21ok
theorem OPF22:OpsOk TYF (ctOf L22):=opsOk TYFok (ctOk L22ok)
theorem vcBase (s:List UInt8):vc TYF (ctOf L22) Tryz.f52.ntmps (bodyOf Tryz.f52) ⟨mkSl 0 [.one (.ro .u8 s)],[],2000⟩ (retK [2] [.one (.rw 0)] [(0,.row 5 .u8 (leB 32 (x255 s [9]).val))]):=⟨rfl,trivial⟩
def gBase:GF:=fun l=>match l with
 | [.one (.ro .u8 s)]=>some ⟨[.one (.rw 0)],[(0,.row 5 .u8 (leB 32 (x255 s [9]).val))],none⟩
 |_=>none
theorem base_sound:CSound 52 (cfA gBase):=cfA_sound OPF22 Tryz.func52 (by kernel_rfl) rfl (rs:= [2]) Tryz.results52 fun l g h hp=>by
 unfold gBase at h
 split at h
 ·cases h;exact ⟨Nat.le_of_ble_eq_true rfl,rfl,rfl,rfl,vcBase _⟩
 ·cases h
theorem bpad_len (l:List UInt8):(padB l).length=l.length+1+(240-(l.length+1)%128)%128+8+8:=by
 simp only [padB,List.length_append,List.length_cons,List.length_replicate,be8,List.length_reverse,leB_len];omega
theorem be8_eq (x:UInt64):bigI x 8 8=be8 x:=by rw [beI_eq,be8]
theorem padB_eq (b:List UInt8):pad1 b ((240-(b.length+1)%128)%128)++List.replicate 8 (0:UInt8)++bigI (UInt64.ofNat (b.length:Int).toNat*UInt64.ofNat 8) 8 8=padB b:=by
 unfold padB pad1
 rw [be8_eq]
 refine congrArg (fun z=>_++be8 z) (UInt64.toNat_inj.1 ?_)
 rw [UInt64.toNat_mul,UInt64.toNat_ofNat',UInt64.toNat_ofNat',UInt64.toNat_ofNat',Int.toNat_natCast]
 omega
theorem wL_pre (b:List UInt64) {j:Nat}:∀ {t:Nat},j<t→at0 (wL b t) j=if j<16 then at0 b j else wNext (wL b j) j
 |0,h=>by omega
 |t+1,h=>by
  by_cases e:j<t
  ·rw [←wL_pre b e]
   unfold at0
   rw [wL,List.getD_eq_getElem?_getD,List.getElem?_append_left (by rw [wL_len];omega)]
   rfl
  ·obtain rfl:j=t:=by omega
   unfold at0
   rw [wL,List.getD_eq_getElem?_getD,List.getElem?_append_right (by rw [wL_len];omega),wL_len,Nat.sub_self]
   rfl
theorem wL_lo (b:List UInt64) {j:Nat} (h:j<16):at0 (wL b 80) j=at0 b j:=by rw [wL_pre b (by omega),if_pos h]
theorem wL_at (b:List UInt64) {j t:Nat} (h:j<t) (ht:t≤80):at0 (wL b t) j=at0 (wL b 80) j:=by rw [wL_pre b h,wL_pre b (Nat.lt_of_lt_of_le h ht)]
theorem wL_hi (b:List UInt64) {j:Nat} (h:16≤j) (h2:j<80):at0 (wL b 80) j=up (up (up (at0 (wL b 80) (j-16)) (sg0 (at0 (wL b 80) (j-15)))) (at0 (wL b 80) (j-7))) (sg1 (at0 (wL b 80) (j-2))):=by
 rw [wL_pre b h2,if_neg (by omega)]
 unfold wNext
 have k:=fun m (h1:0<m)=>wL_at b (j:=j-m) (t:=j) (by omega) (by omega)
 rw [k 16 (by omega),k 15 (by omega),k 7 (by omega),k 2 (by omega)]
abbrev ws512 (b:List UInt8) (i:Nat):List UInt64:=wL (words ((padB b).drop (128*i))) 80
abbrev mw512 (b:List UInt8) (i j:Nat):List UInt64:=mapI 0 80 (at0 (ws512 b i)) (List.replicate 80 0) j
abbrev out512 (b:List UInt8) (k:Nat):List UInt8:=((List.range k).map fun i=>be8 (at0 (hSt (padB b) ((padB b).length/128)) i)).flatten
theorem out512_len (b:List UInt8) (k:Nat):(out512 b k).length=8*k:=by
 induction k with
 |zero=>rfl
 |succ k ih=>rw [out512,range_flat,List.length_append,ih,be8_ln];omega
set_option maxRecDepth 4000 in
set_option maxHeartbeats 4000000 in
theorem vcSum512 (b:List UInt8) (hb:b.length≤8388608):vc TYD CT1 Tryz.f84.ntmps (bodyOf Tryz.f84) ⟨mkSl 0 [.one (.ro .u8 b)],[],2000⟩ (retK [2] [.one (.rw 0)] [(0,.row 5 .u8 (sha512 b))]):=by
 refine sd<|sd<|Or.inr ⟨{i:Nat // i≤(240-(b.length+1)%128)%128},fun i=>⟨[(5,.one (.rw 0))],[(0,.row 5 .u8 (pad1 b i.val))]⟩,fun i=>128-i.val,⟨0,by omega⟩,?_⟩
 refine ⟨rfl,fun i=>sd fun hl=>⟨fun h1=> ?_,fun h1=> ?_⟩⟩
 ·have h1:=of_decide_eq_true h1
  have hi:=i.2
  have hn:=pad1_len b i.val
  rw [hn] at h1
  have h2:i.val+1≤(240-(b.length+1)%128)%128:=by omega
  exact ⟨by simp [hn];omega,sj ⟨i.val+1,h2⟩ ⟨pad1_succ _ _,trivial⟩⟩
 have h1:=of_decide_eq_false h1
 have hi:=i.2
 have hn:=pad1_len b i.val
 have hp:=bpad_len b
 have hi2:i.val=(240-(b.length+1)%128)%128:=by rw [hn] at h1;omega
 rw [hi2] at hn ⊢
 have e:=padB_eq b
 refine ⟨by simp [hn];omega,?_⟩
 refine sd<|sd ⟨?_,fun hl=> ?_⟩
 ·show (pad1 b ((240-(b.length+1)%128)%128)++List.replicate 8 (0:UInt8)++bigI (UInt64.ofNat (b.length:Int).toNat*UInt64.ofNat 8) 8 8).length≤_
  rw [e];omega
 refine Or.inr ⟨{i:Nat // 128*i≤(padB b).length},fun i=>⟨[(6,.one (.ob .int ((128*i.val:Nat):Int)))],[(2080,.blk 188 [.vec .u64 8 (hSt (padB b) i.val)]),(3384,.row 5 .u8 (padB b))]⟩,fun i=>8388864-i.val,⟨0,by omega⟩,?_⟩
 refine ⟨rfl,rfl,rfl,e.symm,fun i hl2=>⟨fun h1=> ?_,fun h1=> ?_⟩⟩
 ·have h1:=of_decide_eq_true h1
  have hi:=i.2
  obtain ⟨i,hi0⟩:=i
  dsimp only at hi h1 ⊢
  have hl64:128*i+128≤(padB b).length:=by rw [hp] at h1 ⊢;omega
  refine Or.inr ⟨{j:Nat // j≤16},fun j=>⟨[(8,.one (.ob .int (j.val:Int)))],[(4496,.blk 186 [.vec .u64 80 (mw512 b i j.val)])]⟩,fun j=>16-j.val,⟨0,by omega⟩,?_⟩
  refine ⟨rfl,rfl,mapI_0 (by simp),fun j=>⟨fun h1=> ?_,fun h1=> ?_⟩⟩
  ·have h1:=of_decide_eq_true h1
   have hj:=j.2
   repeat refine sd ?_
   refine sj ⟨j.val+1,by omega⟩<|sr<|sr ⟨?_,trivial⟩
   refine (congrArg (fun z=>(mw512 b i j.val).set j.val z) ?_).trans mapI_set |>.symm
   have e1:((128*i:Nat):Int)+8*(j.val:Int)+8=((128*i+8*j.val+8:Nat):Int):=by omega
   have e2:((128*i:Nat):Int)+8*(j.val:Int)=((128*i+8*j.val:Nat):Int):=by omega
   show gb (List.take (Int.toNat (((128*i:Nat):Int)+8*(j.val:Int)+8)-Int.toNat (((128*i:Nat):Int)+8*(j.val:Int))) (List.drop (Int.toNat (((128*i:Nat):Int)+8*(j.val:Int))) (padB b))) 8=_
   rw [e1,e2,Int.toNat_natCast,Int.toNat_natCast,show 128*i+8*j.val+8-(128*i+8*j.val)=8 by omega,gb8 (by rw [List.length_take,List.length_drop];omega),wL_lo _ (by omega)]
   unfold at0 words
   rw [rangeMap_getD (by omega),List.drop_drop]
  have h1:=of_decide_eq_false h1
  have hj:=j.2
  rw [show j.val=16 by omega]
  refine Or.inr ⟨{j:Nat // 16≤j∧j≤80},fun j=>⟨[(9,.one (.ob .int (j.val:Int)))],[(4496,.blk 186 [.vec .u64 80 (mw512 b i j.val)])]⟩,fun j=>80-j.val,⟨16,by omega,by omega⟩,?_⟩
  refine ⟨rfl,rfl,rfl,fun j=>⟨fun h1=> ?_,fun h1=> ?_⟩⟩
  ·have h1:=of_decide_eq_true h1
   have hj:=j.2
   have k:=fun m (h0:0<m) (hm:m≤16)=>show (mw512 b i j.val).getD (Int.toNat ((j.val:Int)-(m:Nat))) 0=at0 (ws512 b i) (j.val-m) by rw [show Int.toNat ((j.val:Int)-(m:Nat))=j.val-m by omega,mapI_get (by omega),if_pos (by omega)]
   repeat refine sd ?_
   refine sj ⟨j.val+1,by omega⟩<|sr<|sr ⟨?_,trivial⟩
   refine (congrArg (fun z=>(mw512 b i j.val).set j.val z) ?_).trans mapI_set |>.symm
   rw [wL_hi _ hj.1 (by omega),←k 16 (by omega) (by omega),←k 15 (by omega) (by omega),←k 7 (by omega) (by omega),←k 2 (by omega) (by omega)]
   rfl
  have h1:=of_decide_eq_false h1
  have hj:=j.2
  rw [show j.val=80 by omega,show mw512 b i 80=ws512 b i from (mapI_end (by omega)).trans (range_getD (wL_len _ _))]
  refine Or.inr ⟨{t:Nat // t≤80},fun t=>⟨[(13,.one (.ob .int (t.val:Int)))],[(6624,.blk 188 [.vec .u64 8 (rL (hSt (padB b) i) (ws512 b i) t.val)])]⟩,fun t=>80-t.val,⟨0,by omega⟩,?_⟩
  refine ⟨rfl,rfl,rfl,fun t=>⟨fun h1=> ?_,fun h1=> ?_⟩⟩
  ·have h1:=of_decide_eq_true h1
   have ht:=t.2
   repeat refine sd ?_
   refine sj ⟨t.val+1,by omega⟩<|sr<|sr ⟨?_,trivial⟩
   rfl
  have h1:=of_decide_eq_false h1
  have ht:=t.2
  rw [show t.val=80 by omega]
  refine Or.inr ⟨{t:Nat // t≤8},fun t=>⟨[(18,.one (.ob .int (t.val:Int)))],[(2080,.blk 188 [.vec .u64 8 (mapI 0 8 (fun j=>up (at0 (hSt (padB b) i) j) (at0 (rL (hSt (padB b) i) (ws512 b i) 80) j)) (hSt (padB b) i) t.val)])]⟩,fun t=>8-t.val,⟨0,by omega⟩,?_⟩
  refine ⟨rfl,rfl,mapI_0 (hSt_len _ _),fun t=>⟨fun h1=> ?_,fun h1=> ?_⟩⟩
  ·have h1:=of_decide_eq_true h1
   have ht:=t.2
   repeat refine sd ?_
   refine sj ⟨t.val+1,by omega⟩<|sr<|sr ⟨?_,trivial⟩
   refine (congrArg (fun z=>(mapI 0 8 (fun j=>up (at0 (hSt (padB b) i) j) (at0 (rL (hSt (padB b) i) (ws512 b i) 80) j)) (hSt (padB b) i) t.val).set t.val z) ?_).trans mapI_set |>.symm
   show up ((mapI 0 8 _ (hSt (padB b) i) t.val).getD t.val 0) _=_
   rw [mapI_get (by omega),if_neg (by omega)]
   rfl
  have h1:=of_decide_eq_false h1
  have ht:=t.2
  rw [show t.val=8 by omega,mapI_end (by omega)]
  repeat refine sd ?_
  refine ⟨⟨i+1,by omega⟩,(by show 8388864-(i+1)<8388864-i;omega),?_,rfl,rfl,rfl,trivial⟩
  show [((128*(i+1):Nat):Int)]= [((128*i:Nat):Int)+128]
  exact congrArg (fun z=> [z]) (by omega)
 have h1:=of_decide_eq_false h1
 have hi:=i.2
 rw [show i.val=(padB b).length/128 by omega]
 refine Or.inr ⟨{t:Nat // t≤8},fun t=>⟨[(20,.one (.ob .int (t.val:Int))),(19,.one (.rw 0))],[(0,.row 5 .u8 (out512 b t.val))]⟩,fun t=>8-t.val,⟨0,by omega⟩,?_⟩
 refine ⟨rfl,rfl,fun t=>⟨fun h1=> ?_,fun h1=> ?_⟩⟩
 ·have h1:=of_decide_eq_true h1
  have ht:=t.2
  repeat refine sd ?_
  have e4:out512 b (t.val+1)=out512 b t.val++bigI ((hSt (padB b) ((padB b).length/128)).getD t.val 0) 8 8:=by
   rw [be8_eq];exact range_flat _ _
  refine ⟨?_,sd<|sj ⟨t.val+1,by omega⟩<|sr ⟨e4,trivial⟩⟩
  have:=out512_len b (t.val+1)
  show (out512 b t.val++bigI ((hSt (padB b) ((padB b).length/128)).getD t.val 0) 8 8).length≤_
  rw [←e4];omega
 have h1:=of_decide_eq_false h1
 have ht:=t.2
 refine ⟨?_,trivial⟩
 show sha512 b=out512 b t.val
 rw [show t.val=8 by omega]
 rfl
theorem sha512_len (l:List UInt8):(sha512 l).length=64:=out512_len l 8
def gSum512:GF:=fun l=>match l with
 | [.one (.ro .u8 b)]=>some ⟨[.one (.rw 0)],[(0,.row 5 .u8 (sha512 b))],some (b.length≤8388608)⟩
 |_=>none
theorem sum512_sound:CSound 84 (cfA gSum512):=cfA_sound OPD1 Tryz.func84 (by kernel_rfl) rfl (rs:= [2]) Tryz.results84 fun l g h hp=>by
 unfold gSum512 at h
 split at h
 ·cases h;exact ⟨Nat.le_of_ble_eq_true rfl,rfl,rfl,rfl,vcSum512 _ hp⟩
 ·cases h
end Go.Proofs.YtknlbpjcjdenbaaGreat
namespace Go.Proofs.YtknlbpjcjdenbaaGreat
open Go.RowKit
end Go.Proofs.YtknlbpjcjdenbaaGreat
namespace Go.Proofs.YtknlbpjcjdenbaaGreat
def dB (n m:Nat):Nat:=n/256^m%256
theorem dB_lt (n m:Nat):dB n m<256:=Nat.mod_lt _ (by omega)
def bR (n x i:Nat):Nat:=dB x (n-1-i)
theorem bR_lt (n x i:Nat):bR n x i<256:=dB_lt _ _
theorem pow256 (m:Nat):0<256^m:=Nat.pow_pos (by omega)
theorem div_succ256 (n m:Nat):n/256^(m+1)=n/256^m/256:=by rw [Nat.pow_succ,Nat.div_div_eq_div_mul]
def shc (r b m:Nat):Nat:=((r%256^m)*2+b)/256^m
theorem shc_zero (r b:Nat):shc r b 0=b:=by simp [shc,Nat.mod_one]
theorem shc_lt (r b m:Nat) (h:b<2):shc r b m<2:=by
 have:=Nat.mod_lt r (pow256 m)
 have hp:=pow256 m
 unfold shc
 rw [Nat.div_lt_iff_lt_mul hp]
 omega
theorem sh_div (r b m:Nat):(2*r+b)/256^m=2*(r/256^m)+shc r b m:=by
 have hp:=pow256 m
 have e:=Nat.div_add_mod r (256^m)
 have:2*r+b=(r%256^m*2+b)+256^m*(2*(r/256^m)):=by
  rw [Nat.mul_left_comm];omega
 rw [this,Nat.add_mul_div_left _ _ hp,Nat.add_comm];rfl
theorem sh_step (r b m:Nat) (h:b<2):dB (2*r+b) m=2*dB r m%256+shc r b m∧shc r b (m+1)=dB r m/128:=by
 have hc:=shc_lt r b m h
 have hc1:=shc_lt r b (m+1) h
 have e1:=sh_div r b m
 have e2:=sh_div r b (m+1)
 have e3:=div_succ256 r m
 have e4:=div_succ256 (2*r+b) m
 unfold dB
 generalize r/256^(m+1)=q1 at*
 generalize (2*r+b)/256^(m+1)=q2 at*
 generalize (2*r+b)/256^m=q3 at*
 generalize r/256^m=q4 at*
 generalize shc r b m=c at*
 generalize shc r b (m+1)=c1 at*
 constructor<;>omega
def bwB (a b m:Nat):Nat:=if a%256^m<b%256^m then 1 else 0
theorem bwB_zero (a b:Nat):bwB a b 0=0:=by simp [bwB,Nat.mod_one]
theorem bwB_le (a b m:Nat):bwB a b m≤1:=by unfold bwB;split<;>omega
theorem mod_succ256 (n m:Nat):n%256^(m+1)=dB n m*256^m+n%256^m:=by rw [Nat.pow_succ];exact split_mod n (256^m) 256
theorem lt_digits {p d e x y:Nat} (hx:x<p) (hy:y<p):d*p+x<e*p+y↔d<e∨(d=e∧x<y):=by
 constructor
 ·intro h
  rcases Nat.lt_trichotomy d e with h1|h1|h1
  ·exact .inl h1
  ·subst h1;exact .inr ⟨rfl,by omega⟩
  ·exfalso
   have:(e+1)*p≤d*p:=Nat.mul_le_mul_right _ h1
   rw [Nat.succ_mul] at this
   omega
 ·rintro (h|⟨rfl,h⟩)
  ·have:(d+1)*p≤e*p:=Nat.mul_le_mul_right _ h
   rw [Nat.succ_mul] at this
   omega
  ·omega
theorem bwB_succ (a b m:Nat):bwB a b (m+1)=if dB a m<dB b m+bwB a b m then 1 else 0:=by
 have h:=lt_digits (d:=dB a m) (e:=dB b m) (Nat.mod_lt a (pow256 m)) (Nat.mod_lt b (pow256 m))
 unfold bwB
 rw [mod_succ256,mod_succ256]
 by_cases h1:a%256^m<b%256^m
 ·rw [if_pos h1]
  by_cases h2:dB a m<dB b m+1
  ·rw [if_pos h2,if_pos (h.2 (by omega))]
  ·rw [if_neg h2,if_neg (fun h3=>by have:=h.1 h3;omega)]
 ·rw [if_neg h1]
  by_cases h2:dB a m<dB b m+0
  ·rw [if_pos h2,if_pos (h.2 (by omega))]
  ·rw [if_neg h2,if_neg (fun h3=>by have:=h.1 h3;omega)]
theorem sub_div256 {a b:Nat} (h:b≤a) (m:Nat):(a-b)/256^m=a/256^m-b/256^m-bwB a b m∧b/256^m+bwB a b m≤a/256^m:=by
 have hp:=pow256 m
 have ea:=Nat.div_add_mod a (256^m)
 have eb:=Nat.div_add_mod b (256^m)
 have ha:=Nat.mod_lt a hp
 have hb:=Nat.mod_lt b hp
 have hq:b/256^m≤a/256^m:=Nat.div_le_div_right h
 unfold bwB
 generalize a/256^m=qa at*
 generalize b/256^m=qb at*
 generalize a%256^m=ra at*
 generalize b%256^m=rb at*
 generalize 256^m=p at*
 obtain ⟨d,rfl⟩:∃d,qa=qb+d:=⟨qa-qb,by omega⟩
 rw [Nat.mul_add] at ea
 by_cases h1:ra<rb
 ·rw [if_pos h1]
  have hd:0<d:=by
   rcases Nat.eq_zero_or_pos d with h0|h0
   ·subst h0;simp at ea;omega
   ·exact h0
  obtain ⟨e,rfl⟩:∃e,d=e+1:=⟨d-1,by omega⟩
  rw [Nat.mul_add,Nat.mul_one] at ea
  refine ⟨?_,by omega⟩
  have:a-b=(p+ra-rb)+p*e:=by omega
  rw [this,Nat.add_mul_div_left _ _ hp,Nat.div_eq_of_lt (by omega)]
  omega
 ·rw [if_neg h1]
  refine ⟨?_,by omega⟩
  have:a-b=(ra-rb)+p*d:=by omega
  rw [this,Nat.add_mul_div_left _ _ hp,Nat.div_eq_of_lt (by omega)]
  omega
theorem sub_step {a b:Nat} (h:b≤a) (m:Nat):(dB (a-b) m:Int)=if ((dB a m:Nat):Int)-(dB b m:Nat)-(bwB a b m:Nat)<0 then ((dB a m:Nat):Int)-(dB b m:Nat)-(bwB a b m:Nat)+256 else ((dB a m:Nat):Int)-(dB b m:Nat)-(bwB a b m:Nat):=by
 obtain ⟨e,hle⟩:=sub_div256 h m
 unfold dB
 rw [e]
 generalize a/256^m=qa at*
 generalize b/256^m=qb at*
 have:=bwB_le a b m
 generalize bwB a b m=w at*
 split<;>omega
theorem bwB_int (a b m:Nat):(bwB a b (m+1):Int)=if ((dB a m:Nat):Int)-(dB b m:Nat)-(bwB a b m:Nat)<0 then 1 else 0:=by
 rw [bwB_succ]
 by_cases h:dB a m<dB b m+bwB a b m
 ·rw [if_pos h,if_pos (by omega)];rfl
 ·rw [if_neg h,if_neg (by omega)];rfl
def beN (l:List UInt8):Nat:=leN l.reverse
theorem beN_take (l:List UInt8) (k:Nat) (h:k<l.length):beN (l.take (k+1))=256*beN (l.take k)+l[k].toNat:=by
 unfold beN
 rw [List.take_succ_eq_append_getElem h,List.reverse_append]
 show leN (l[k]::(l.take k).reverse)=_
 show l[k].toNat+256*leN _=_
 omega
theorem beN_zero (l:List UInt8):beN (l.take 0)=0:=rfl
def partN (v c k:Nat):Nat:=v*2^(8-k)+c/2^k
theorem partN_8 (v c:Nat) (h:c<256):partN v c 8=v:=by unfold partN;omega
theorem partN_0 (v c:Nat):partN v c 0=256*v+c:=by unfold partN;omega
theorem partN_step (v c k:Nat) (h:k<8):partN v c k=2*partN v c (k+1)+c/2^k%2:=by
 have:k=0∨k=1∨k=2∨k=3∨k=4∨k=5∨k=6∨k=7:=by omega
 unfold partN
 rcases this with rfl|rfl|rfl|rfl|rfl|rfl|rfl|rfl<;>simp<;>omega
theorem part_once (v c k:Nat) (h:k<8):partN v c k%Lq=once (2*(partN v c (k+1)%Lq)+c/2^k%2):=by
 have hL:0<Lq:=by unfold Lq;omega
 have h1:=Nat.mod_lt (partN v c (k+1)) hL
 rw [once_mod (by omega),partN_step v c k h]
 generalize partN v c (k+1)=q at*
 generalize c/2^k%2=b at*
 have e:=Nat.div_add_mod q Lq
 have:2*q+b=(2*(q%Lq)+b)+Lq*(2*(q/Lq)):=by rw [Nat.mul_left_comm];omega
 rw [this,Nat.add_mul_mod_self_left]
theorem cmp_digit {x y m:Nat} (hq:x/256^(m+1)=y/256^(m+1)) (hne:dB x m≠dB y m):decide (y≤x)=decide (dB y m<dB x m):=by
 rw [div_succ256,div_succ256] at hq
 have ex:=Nat.div_add_mod x (256^m)
 have ey:=Nat.div_add_mod y (256^m)
 have hx:=Nat.mod_lt x (pow256 m)
 have hy:=Nat.mod_lt y (pow256 m)
 unfold dB at*
 rw [decide_eq_decide]
 generalize x/256^m=qx at*
 generalize y/256^m=qy at*
 generalize x%256^m=rx at*
 generalize y%256^m=ry at*
 have hl:=lt_digits (d:=qx) (e:=qy) hx hy
 rw [Nat.mul_comm qx,Nat.mul_comm qy] at hl
 generalize 256^m*qx=X at*
 generalize 256^m*qy=Y at*
 omega
theorem cmp_same {x y m:Nat} (hq:x/256^(m+1)=y/256^(m+1)) (he:dB x m=dB y m):x/256^m=y/256^m:=by
 rw [div_succ256,div_succ256] at hq
 unfold dB at he
 omega
end Go.Proofs.YtknlbpjcjdenbaaGreat
namespace Go.Proofs.YtknlbpjcjdenbaaGreat
open Go.RowKit
theorem beN_leB (n x:Nat):beN ((leB n x).reverse)=x%256^n:=by
 unfold beN;rw [List.reverse_reverse,leN_leB,p256]
def cyB (a b m:Nat):Nat:=(a%256^m+b%256^m)/256^m
theorem cyB_zero (a b:Nat):cyB a b 0=0:=by simp [cyB,Nat.mod_one]
theorem cyB_le (a b m:Nat):cyB a b m≤1:=by
 have h1:=Nat.mod_lt a (pow256 m);have h2:=Nat.mod_lt b (pow256 m)
 unfold cyB
 have:(a%256^m+b%256^m)/256^m<2:=by rw [Nat.div_lt_iff_lt_mul (pow256 m)];omega
 omega
theorem add_div256 (a b m:Nat):(a+b)/256^m=a/256^m+b/256^m+cyB a b m:=by
 have ea:=Nat.div_add_mod a (256^m)
 have eb:=Nat.div_add_mod b (256^m)
 have:a+b=(a%256^m+b%256^m)+256^m*(a/256^m+b/256^m):=by rw [Nat.mul_add];omega
 rw [this,Nat.add_mul_div_left _ _ (pow256 m),Nat.add_comm];rfl
theorem add_step (a b m:Nat):dB (a+b) m=(dB a m+dB b m+cyB a b m)%256∧cyB a b (m+1)=(dB a m+dB b m+cyB a b m)/256:=by
 have e1:=add_div256 a b m
 have e2:=add_div256 a b (m+1)
 have e3:=div_succ256 a m
 have e4:=div_succ256 b m
 have e5:=div_succ256 (a+b) m
 have h1:=cyB_le a b m
 have h2:=cyB_le a b (m+1)
 unfold dB
 generalize cyB a b m=c at*
 generalize cyB a b (m+1)=c' at*
 generalize (a+b)/256^(m+1)=s' at*
 generalize (a+b)/256^m=s at*
 generalize a/256^(m+1)=a' at*
 generalize b/256^(m+1)=b' at*
 generalize a/256^m=x at*
 generalize b/256^m=y at*
 constructor<;>omega
theorem add_top {a b:Nat} (ha:a<256^32) (hb:b<256^32):dB (a+b) 32=cyB a b 32:=by
 have e:=add_div256 a b 32
 have:=cyB_le a b 32
 rw [Nat.div_eq_of_lt ha,Nat.div_eq_of_lt hb] at e
 unfold dB
 omega
def hv (f:Nat→Nat):Nat→Nat
 |0=>0
 |n+1=>256*hv f n+f n
theorem hv_congr {f g:Nat→Nat}:∀n,(∀i,i<n→f i=g i)→hv f n=hv g n
 |0,_=>rfl
 |n+1,h=>by simp only [hv];rw [hv_congr n (fun i hi=>h i (by omega)),h n (by omega)]
def updN (c:Nat→Nat) (m v i:Nat):Nat:=if i=m then v else c i
theorem hv_upd (c:Nat→Nat) (m a:Nat):∀n,hv (updN c m (c m+a)) (m+1+n)=hv c (m+1+n)+a*256^n
 |0=>by
  show 256*hv (updN c m (c m+a)) m+updN c m (c m+a) m=256*hv c m+c m+a*256^0
  rw [hv_congr (f:=updN c m (c m+a)) (g:=c) m (fun i hi=>by unfold updN;rw [if_neg (by omega)])]
  simp only [updN,if_true];omega
 |n+1=>by
  show 256*hv (updN c m (c m+a)) (m+1+n)+updN c m (c m+a) (m+1+n)=256*hv c (m+1+n)+c (m+1+n)+a*256^(n+1)
  rw [hv_upd c m a n,Nat.pow_succ]
  simp only [updN,if_neg (show ¬m+1+n=m by omega)]
  grind
theorem hv_bR (n x:Nat):∀k,k≤n→hv (bR n x) k=x/256^(n-k)%256^k
 |0,_=>by simp [hv,Nat.mod_one]
 |k+1,h=>by
  rw [hv,hv_bR n x k (by omega)]
  unfold bR dB
  rw [show n-k=(n-(k+1))+1 by omega,div_succ256,show n-1-k=n-(k+1) by omega]
  generalize x/256^(n-(k+1))=q
  rw [Nat.pow_succ,Nat.mul_comm (256^k) 256,Nat.mod_mul]
  omega
theorem hv_full {n x:Nat} (h:x<256^n):hv (bR n x) n=x:=by
 rw [hv_bR n x n (Nat.le_refl _),Nat.sub_self,Nat.pow_zero,Nat.div_one,Nat.mod_eq_of_lt h]
def MB:Nat:=65025
theorem prodB_le (x y i k:Nat):bR 32 x i*bR 32 y k≤MB:=by
 have h1:=bR_lt 32 x i;have h2:=bR_lt 32 y k
 exact Nat.le_trans (Nat.mul_le_mul (show bR 32 x i≤255 by omega) (show bR 32 y k≤255 by omega)) (by decide)
structure MbIn (f g c:Nat→Nat) (i k:Nat):Prop where
 lo:∀j,c j≤(i+1)*MB
 hi:∀j,i+k+1≤j→c j≤i*MB
 v:hv c 64=hv f i*256^(32-i)*hv g 32+f i*256^(31-i)*(hv g k*256^(32-k))
structure MbOut (f g c:Nat→Nat) (i:Nat):Prop where
 lo:∀j,c j≤i*MB
 v:hv c 64=hv f i*256^(32-i)*hv g 32
theorem MbOut.start (f g:Nat→Nat):MbOut f g (fun _=>0) 0:=⟨fun _=>by omega,by
 rw [show hv f 0=0 from rfl]
 simp only [Nat.zero_mul]
 have:∀n,hv (fun _=>0) n=0:=fun n=>by induction n with |zero=>rfl|succ n ih=>simp [hv,ih]
 exact this 64⟩
theorem MbOut.into {f g c:Nat→Nat} {i:Nat} (h:MbOut f g c i):MbIn f g c i 0:=
 ⟨fun j=>Nat.le_trans (h.lo j) (Nat.mul_le_mul_right _ (by omega)),fun j _=>h.lo j,by rw [h.v,show hv g 0=0 from rfl,Nat.zero_mul,Nat.mul_zero,Nat.add_zero]⟩
theorem MbIn.step {f g c:Nat→Nat} {i k:Nat} (h:MbIn f g c i k) (hk:k<32) (hi:i<32) (hp:f i*g k≤MB):MbIn f g (updN c (i+k+1) (c (i+k+1)+f i*g k)) i (k+1):=by
 have e:(i+1)*MB=i*MB+MB:=by rw [Nat.add_mul,Nat.one_mul]
 refine ⟨fun j=> ?_,fun j hj=> ?_,?_⟩
 ·unfold updN
  split
  ·have:=h.hi (i+k+1) (Nat.le_refl _);omega
  ·exact h.lo j
 ·unfold updN
  rw [if_neg (by omega)]
  exact h.hi j (by omega)
 ·have e64:(64:Nat)=i+k+1+1+(62-i-k):=by omega
  have hu:=hv_upd c (i+k+1) (f i*g k) (62-i-k)
  rw [←e64] at hu
  rw [hu,h.v]
  show _=_+f i*256^(31-i)*((256*hv g k+g k)*256^(32-(k+1)))
  have e1:62-i-k=(31-i)+(31-k):=by omega
  have e2:32-k=(31-k)+1:=by omega
  have e3:32-(k+1)=31-k:=by omega
  rw [e1,e2,e3,Nat.pow_add 256 (31-i) (31-k),Nat.pow_succ]
  generalize hv f i*256^(32-i)*hv g 32=A
  generalize hv g k=B
  generalize 256^(31-i)=C
  generalize 256^(31-k)=D
  clear h hu e e64 e1 e2 e3 hp hk hi
  generalize f i=p
  generalize g k=q
  grind
theorem MbIn.out {f g c:Nat→Nat} {i:Nat} (hi:i<32) (h:MbIn f g c i 32):MbOut f g c (i+1):=
 ⟨h.lo,by
  rw [h.v,Nat.sub_self,Nat.pow_zero,Nat.mul_one]
  show _=(256*hv f i+f i)*256^(32-(i+1))*hv g 32
  rw [show 32-(i+1)=31-i by omega,show 32-i=(31-i)+1 by omega,Nat.pow_succ]
  generalize hv f i=A
  generalize 256^(31-i)=C
  generalize hv g 32=D
  clear h hi
  generalize f i=p
  grind⟩
theorem MbOut.fin {x y:Nat} {c:Nat→Nat} (hx:x<256^32) (hy:y<256^32) (h:MbOut (bR 32 x) (bR 32 y) c 32):hv c 64=x*y:=by
 rw [h.v,hv_full hx,hv_full hy,Nat.sub_self,Nat.pow_zero,Nat.mul_one]
def crN (c:Nat→Nat):Nat→Nat
 |0=>0
 |m+1=>(c (63-m)+crN c m)/256
theorem crN_le {c:Nat→Nat} (h:∀j,c j≤32*MB):∀m,crN c m≤10000
 |0=>by simp [crN]
 |m+1=>by
  have h1:=h (63-m)
  have h2:=crN_le h m
  unfold crN
  unfold MB at h1
  omega
theorem crN_div (c:Nat→Nat):∀m,m≤64→hv c 64/256^m=hv c (64-m)+crN c m
 |0,_=>by simp [crN]
 |m+1,h=>by
  rw [div_succ256,crN_div c m (by omega),show 64-m=(63-m)+1 by omega,hv,crN,show 64-(m+1)=63-m by omega]
  omega
theorem crN_digit (c:Nat→Nat) (m:Nat) (h:m<64):dB (hv c 64) m=(c (63-m)+crN c m)%256:=by
 unfold dB
 rw [crN_div c m (by omega),show 64-m=(63-m)+1 by omega,hv]
 omega
end Go.Proofs.YtknlbpjcjdenbaaGreat
namespace Go.Proofs.YtknlbpjcjdenbaaGreat
open Go Go.RowKit
set_option maxRecDepth 10000
def bb (n:Nat) (f:Nat→Nat):List UInt8:=(List.range n).map fun i=>UInt8.ofNat (f i)
theorem bb_len (n:Nat) (f:Nat→Nat):(bb n f).length=n:=by simp [bb]
theorem bb_get {n i:Nat} (f:Nat→Nat) (h:i<n):(bb n f).getD i 0=UInt8.ofNat (f i):=by simp [bb,List.getD_eq_getElem?_getD,h]
theorem bb_congr {n:Nat} {f g:Nat→Nat} (h:∀i,i<n→f i=g i):bb n f=bb n g:=List.map_congr_left fun i hi=>by rw [h i (by simpa using hi)]
theorem bb_set {n i:Nat} {f g:Nat→Nat} {x:UInt8} (hx:x=UInt8.ofNat (g i)) (h:∀j,j<n→j≠i→g j=f j):(bb n f).set i x=bb n g:=by
 subst hx
 apply List.ext_getElem (by simp [bb])
 intro j h1 h2
 have hj:j<n:=by simpa [bb] using h2
 rw [List.getElem_set]
 by_cases e:i=j
 ·subst e;simp [bb]
 ·rw [if_neg e];simp [bb,h j hj (fun z=>e z.symm)]
theorem b_nat {a:Nat} (h:a<256):(UInt8.ofNat a).toNat=a:=by rw [UInt8.toNat_ofNat',Nat.mod_eq_of_lt (show a<2^8 from h)]
theorem b_inj {a b:Nat} (ha:a<256) (hb:b<256) (h:UInt8.ofNat a=UInt8.ofNat b):a=b:=by
 have:=congrArg UInt8.toNat h
 rwa [b_nat ha,b_nat hb] at this
theorem bb_bR (n x:Nat):bb n (bR n x)=(leB n x).reverse:=by
 apply List.ext_getElem (by simp [bb,leB_len])
 intro j h1 h2
 have hj:j<n:=by simpa [bb] using h1
 rw [List.getElem_reverse,leB_get]
 simp only [bb,List.getElem_map,List.getElem_range,leB_len,bR,dB]
 rw [Nat.pow_mul,show (2:Nat)^8=256 from rfl]
 exact (UInt8.toNat_inj.1 (by simp))
theorem bb_beN (n x:Nat) (h:x<256^n):beN (bb n (bR n x))=x:=by rw [bb_bR,beN_leB,Nat.mod_eq_of_lt h]
def orderL:List UInt8:= [16,0,0,0,0,0,0,0,0,0,0,0,0,0,0,0,20,222,249,222,162,247,156,214,88,18,99,26,92,245,211,237]
theorem orderL_eq:orderL=bb 32 (bR 32 Lq):=by decide +kernel
theorem vcOrder:vc TYD (ctOf L1) Tryz.f193.ntmps (bodyOf Tryz.f193) ⟨mkSl 0 [],[],2000⟩ (retK [0] [.one (.rw 0)] [(0,.row 5 .u8 orderL)]):=by
 exact ⟨rfl,trivial⟩
def gOrder:GF:=fun l=>match l with
 | []=>some ⟨[.one (.rw 0)],[(0,.row 5 .u8 orderL)],none⟩
 |_=>none
theorem OPZ1:OpsOk TYD (ctOf L1):=opsOk TYDok (ctOk L1ok)
theorem order_sound:CSound 193 (cfA gOrder):=cfA_sound OPZ1 Tryz.func193 (by kernel_rfl) rfl (rs:= [0]) Tryz.results193 fun l g h hp=>by
 unfold gOrder at h
 split at h
 ·cases h;exact ⟨Nat.le_of_ble_eq_true rfl,rfl,rfl,rfl,vcOrder⟩
 ·cases h
theorem vcTurned (b:List UInt8) (hb:b.length≤1000):vc TYD (ctOf L1) Tryz.f142.ntmps (bodyOf Tryz.f142) ⟨mkSl 0 [.one (.ro .u8 b)],[],2000⟩ (retK [2] [.one (.rw 0)] [(0,.row 5 .u8 b.reverse)]):=by
 refine sd fun hl=>Or.inr ⟨{i:Nat // i≤b.length},fun i=>⟨[(4,.one (.ob .int (((b.length-i.val:Nat):Int)-1))),(3,.one (.rw 0))],[(0,.row 5 .u8 ((b.drop (b.length-i.val)).reverse))]⟩,fun i=>b.length-i.val,⟨0,by omega⟩,?_⟩
 refine ⟨by show [(((b.length-0:Nat):Int)-1)]= [(b.length:Int)-1];rw [Nat.sub_zero],by show (b.drop (b.length-0)).reverse= [];simp,fun i=>⟨fun h1=> ?_,fun h1=> ?_⟩⟩
 ·have h1:=of_decide_eq_true h1
  have hi:=i.2
  have h2:i.val+1≤b.length:=by omega
  have e1:(((b.length-i.val:Nat):Int)-1).toNat=b.length-(i.val+1):=by omega
  have e2:(b.drop (b.length-(i.val+1))).reverse=(b.drop (b.length-i.val)).reverse++ [b.getD (b.length-(i.val+1)) 0]:=by
   rw [List.drop_eq_getElem_cons (show b.length-(i.val+1)<b.length by omega),List.reverse_cons,show b.length-(i.val+1)+1=b.length-i.val by omega,List.getD_eq_getElem?_getD,List.getElem?_eq_getElem (by omega)]
   rfl
  repeat refine sd ?_
  refine ⟨by simp;omega,?_⟩
  refine sd<|sj ⟨i.val+1,h2⟩<|⟨?_,?_,trivial⟩
  ·show [(((b.length-(i.val+1):Nat):Int)-1)]= [((b.length-i.val:Nat):Int)-1-1]
   exact congrArg (fun z=> [z]) (by omega)
  ·exact e2.trans (by rw [e1];rfl)
 have h1:=of_decide_eq_false h1
 have hi:=i.2
 refine ⟨?_,trivial⟩
 show b.reverse=(b.drop (b.length-i.val)).reverse
 rw [show b.length-i.val=0 by omega];rfl
def gTurned:GF:=fun l=>match l with
 | [.one (.ro .u8 b)]=>some ⟨[.one (.rw 0)],[(0,.row 5 .u8 b.reverse)],some (b.length≤1000)⟩
 |_=>none
theorem turned_sound:CSound 142 (cfA gTurned):=cfA_sound OPZ1 Tryz.func142 (by kernel_rfl) rfl (rs:= [2]) Tryz.results142 fun l g h hp=>by
 unfold gTurned at h
 split at h
 ·cases h;exact ⟨Nat.le_of_ble_eq_true rfl,rfl,rfl,rfl,vcTurned _ hp⟩
 ·cases h
def LS2:List (Nat×CF):=(193,cfA gOrder)::(142,cfA gTurned)::L1
theorem LS2ok:∀p∈LS2,CSound p.1 p.2:=ctCons order_sound<|ctCons turned_sound L1ok
theorem OPZ2:OpsOk TYD (ctOf LS2):=opsOk TYDok (ctOk LS2ok)
theorem b_top33 {x:Nat} (h:dB x 32=0) (hx:x<256^33):x/256^32=Lq/256^32:=by
 have h1:x/256^32<256:=by rw [Nat.div_lt_iff_lt_mul (by decide)];exact hx
 have h2:Lq/256^32=0:=by decide +kernel
 unfold dB at h
 omega
theorem b_high33 {x:Nat} (h:dB x 32≠0):Lq≤x:=by
 have h1:256^32≤x:=by
  rcases Nat.lt_or_ge x (256^32) with h2|h2
  ·unfold dB at h;rw [Nat.div_eq_of_lt h2] at h;simp at h
  ·exact h2
 exact Nat.le_trans (by decide +kernel) h1
theorem vcAbove (x:Nat) (hx:x<256^33):vc TYD (ctOf LS2) Tryz.f194.ntmps (bodyOf Tryz.f194) ⟨mkSl 0 [.agg [.vec .u8 33 (bb 33 (bR 33 x))]],[],2000⟩ (retK [2] [.one (.ob .bool (decide (Lq≤x)))] []):=by
 have hd:=dB_lt x
 have g0:(bb 33 (bR 33 x)).getD 0 (Kd.df .u8)=UInt8.ofNat (dB x 32):=bb_get _ (by omega)
 have k:∀i,i≤32→(bb 33 (bR 33 x)).getD i (Kd.df .u8)=UInt8.ofNat (dB x (32-i)):=fun i hi=>bb_get _ (by omega)
 have m:∀i,i<32→orderL.getD i (Kd.df .u8)=UInt8.ofNat (dB Lq (31-i)):=fun i hi=>by rw [orderL_eq];exact bb_get _ (by omega)
 refine ⟨fun h1=> ?_,fun h1=> ?_⟩
 ·have h1:=of_decide_eq_true h1
  refine ⟨congrArg (fun z:Bool=> [z]) ?_,trivial⟩
  exact decide_eq_true (b_high33 fun h=>h1 (g0.trans (by rw [h])))
 have h1:dB x 32=0:=by
  have h1:=Decidable.not_not.1 (of_decide_eq_false h1)
  exact b_inj (hd 32) (by omega) (g0.symm.trans h1)
 refine Or.inr ⟨{k:Nat // k≤32∧x/256^(32-k)=Lq/256^(32-k)},fun k=>⟨[(4,.one (.ob .int (k.val:Int)))],[]⟩,fun k=>32-k.val,⟨0,by omega,b_top33 h1 hx⟩,?_⟩
 refine ⟨rfl,fun i=>⟨fun h2=> ?_,fun h2=> ?_⟩⟩
 ·have h2:=of_decide_eq_true h2
  obtain ⟨hi,he⟩:=i.2
  have hi2:i.val<32:=by omega
  have e1:((i.val:Int)+1).toNat=i.val+1:=by omega
  have k1:(bb 33 (bR 33 x)).getD ((i.val:Int)+1).toNat (Kd.df .u8)=UInt8.ofNat (dB x (31-i.val)):=by rw [e1,k _ (by omega)];congr 2;omega
  have m1:orderL.getD (i.val:Int).toNat (Kd.df .u8)=UInt8.ofNat (dB Lq (31-i.val)):=m _ hi2
  have e2:32-i.val=31-i.val+1:=by omega
  have d2:=dB_lt Lq (31-i.val)
  rw [e2] at he
  have hoL:orderL.length=32:=rfl
  repeat refine sd ?_
  refine ⟨fun h3=> ?_,fun h3=> ?_⟩
  ·have h3:=of_decide_eq_true h3
   rw [k1,m1] at h3
   have hne:dB x (31-i.val)≠dB Lq (31-i.val):=fun h=>h3 (by rw [h])
   repeat refine sd ?_
   refine ⟨congrArg (fun z:Bool=> [z]) ?_,trivial⟩
   show decide (Lq≤x)=decide (orderL.getD (i.val:Int).toNat (Kd.df .u8)<(bb 33 (bR 33 x)).getD ((i.val:Int)+1).toNat (Kd.df .u8))
   rw [k1,m1,cmp_digit he hne]
   refine decide_eq_decide.2 ?_
   rw [UInt8.lt_iff_toNat_lt,b_nat d2,b_nat (hd _)]
  ·have h3:=Decidable.not_not.1 (of_decide_eq_false h3)
   rw [k1,m1] at h3
   have h4:=b_inj (hd _) d2 h3
   refine sd<|sj ⟨i.val+1,by omega,?_⟩ ⟨rfl,trivial⟩
   rw [show 32-(i.val+1)=31-i.val by omega]
   exact cmp_same he h4
 ·have h2:=of_decide_eq_false h2
  obtain ⟨hi,he⟩:=i.2
  rw [show 32-i.val=0 by omega,Nat.pow_zero,Nat.div_one,Nat.div_one] at he
  refine ⟨congrArg (fun z:Bool=> [z]) ?_,trivial⟩
  exact decide_eq_true (by omega)
def isB33 (l:List UInt8):Prop:=∃x,x<256^33∧l=bb 33 (bR 33 x)
def gAbove:GF:=fun l=>match l with
 | [.agg [.vec .u8 33 l]]=>some ⟨[.one (.ob .bool (decide (Lq≤beN l)))],[],some (isB33 l)⟩
 |_=>none
theorem above_sound:CSound 194 (cfA gAbove):=cfA_sound OPZ2 Tryz.func194 (by kernel_rfl) rfl (rs:= [2]) Tryz.results194 fun l g h hp=>by
 unfold gAbove at h
 split at h
 ·cases h
  obtain ⟨x,hx,rfl⟩:=hp
  rw [bb_beN _ _ hx]
  exact ⟨Nat.le_of_ble_eq_true rfl,rfl,rfl,rfl,vcAbove x hx⟩
 ·cases h
def LS3:List (Nat×CF):=(194,cfA gAbove)::LS2
theorem LS3ok:∀p∈LS3,CSound p.1 p.2:=ctCons above_sound LS2ok
theorem OPZ3:OpsOk TYD (ctOf LS3):=opsOk TYDok (ctOk LS3ok)
set_option maxRecDepth 10000
def bsh (r b m i:Nat):Nat:=if 32-i<m then dB (2*r+b) (32-i) else dB r (32-i)
def bsu (x m i:Nat):Nat:=if 32-i<m then dB (x-Lq) (32-i) else dB x (32-i)
theorem bsh_0 (r b:Nat):bb 33 (bsh r b 0)=bb 33 (bR 33 r):=bb_congr fun i hi=>by unfold bsh bR;rw [if_neg (by omega)]
theorem bsh_33 (r b:Nat):bb 33 (bsh r b 33)=bb 33 (bR 33 (2*r+b)):=bb_congr fun i hi=>by unfold bsh bR;rw [if_pos (by omega)]
theorem bsu_0 (x:Nat):bb 33 (bsu x 0)=bb 33 (bR 33 x):=bb_congr fun i hi=>by unfold bsu bR;rw [if_neg (by omega)]
theorem bsu_33 (x:Nat):bb 33 (bsu x 33)=bb 33 (bR 33 (x-Lq)):=bb_congr fun i hi=>by unfold bsu bR;rw [if_pos (by omega)]
theorem bsh_set {r b m:Nat} (h:m<33) {x:UInt8} (hx:x=UInt8.ofNat (dB (2*r+b) m)):(bb 33 (bsh r b m)).set (32-m) x=bb 33 (bsh r b (m+1)):=
 bb_set (by rw [hx];unfold bsh;rw [show 32-(32-m)=m by omega,if_pos (by omega)]) fun j hj hne=>by
  unfold bsh
  by_cases e:32-j<m
  ·rw [if_pos e,if_pos (by omega)]
  ·rw [if_neg e,if_neg (by omega)]
theorem bsu_set {y m:Nat} (h:m<33) {x:UInt8} (hx:x=UInt8.ofNat (dB (y-Lq) m)):(bb 33 (bsu y m)).set (32-m) x=bb 33 (bsu y (m+1)):=
 bb_set (by rw [hx];unfold bsu;rw [show 32-(32-m)=m by omega,if_pos (by omega)]) fun j hj hne=>by
  unfold bsu
  by_cases e:32-j<m
  ·rw [if_pos e,if_pos (by omega)]
  ·rw [if_neg e,if_neg (by omega)]
theorem bsh_get {r b m:Nat} (h:m<33):(bb 33 (bsh r b m)).getD (32-m) (Kd.df .u8)=UInt8.ofNat (dB r m):=(bb_get _ (by omega)).trans (by unfold bsh;rw [show 32-(32-m)=m by omega,if_neg (by omega)])
theorem bsu_get {y m:Nat} (h:m<33):(bb 33 (bsu y m)).getD (32-m) (Kd.df .u8)=UInt8.ofNat (dB y m):=(bb_get _ (by omega)).trans (by unfold bsu;rw [show 32-(32-m)=m by omega,if_neg (by omega)])
theorem Lq_lt32:Lq<256^32:=by decide +kernel
theorem b_bit {c j:Nat} (hc:c<256):r8 (UInt8.ofNat c) j&&&UInt8.ofNat 1=UInt8.ofNat (c/2^j%2):=by
 have hd:c/2^j≤c:=Nat.div_le_self _ _
 refine UInt8.toNat_inj.1 ?_
 rw [UInt8.toNat_and,r8,b_nat hc,b_nat (by omega),b_nat (by omega),b_nat (by omega),Nat.and_one_is_mod]
theorem b_top {d:Nat} (hd:d<256):r8 (UInt8.ofNat d) 7=UInt8.ofNat (d/128):=by rw [r8,b_nat hd]
theorem b_or {d c:Nat} (hd:d<256) (hc:c<2):s8 (UInt8.ofNat d) 1|||UInt8.ofNat c=UInt8.ofNat (2*d%256+c):=by
 refine UInt8.toNat_inj.1 ?_
 have h1:(UInt8.ofNat (d*2^1)).toNat=(d%128)*2^1:=by rw [UInt8.toNat_ofNat'];omega
 rw [UInt8.toNat_or,s8,b_nat hd,h1,b_nat (show c<256 by omega),b_nat (show 2*d%256+c<256 by omega),show 2*d%256+c=(d%128)*2^1+c by omega,←Nat.shiftLeft_eq,Nat.shiftLeft_add_eq_or_of_lt (by omega)]
set_option maxHeartbeats 4000000 in
theorem vcMod (l:List UInt8) (hl:l.length≤1000):vc TYD (ctOf LS3) Tryz.f141.ntmps (bodyOf Tryz.f141) ⟨mkSl 0 [.one (.ro .u8 l)],[],2000⟩ (retR TYD Tryz.f141.ntmps [.cell 2 140] [.agg [.vec .u8 32 (bb 32 (bR 32 (beN l%Lq)))]] []):=by
 refine Or.inr ⟨{i:Nat // i≤l.length},fun i=>⟨[(5,.one (.ob .int (i.val:Int)))],[(2016,.blk 232 [.vec .u8 33 (bb 33 (bR 33 (beN (l.take i.val)%Lq)))])]⟩,fun i=>l.length-i.val,⟨0,by omega⟩,?_⟩
 refine ⟨rfl,rfl,(by show bb 33 (bR 33 (beN (l.take 0)%Lq))=List.replicate 33 0;rw [beN_zero];decide +kernel),fun i hl2=>⟨fun h1=> ?_,fun h1=> ?_⟩⟩
 ·have h1:=of_decide_eq_true h1
  have hi:=i.2
  have hlt:i.val<l.length:=by omega
  generalize hv:beN (l.take i.val)=v
  generalize hc:l[i.val].toNat=c
  have hc8:c<256:=by rw [←hc];exact (l[i.val]).toNat_lt
  have hgc:l.getD i.val 0=UInt8.ofNat c:=by
   rw [List.getD_eq_getElem?_getD,List.getElem?_eq_getElem hlt,←hc];simp
  refine Or.inr ⟨{k:Nat // k≤8},fun k=>⟨[(6,.one (.ob .int (7-(k.val:Int))))],[(2016,.blk 232 [.vec .u8 33 (bb 33 (bR 33 (partN v c (8-k.val)%Lq)))])]⟩,fun k=>8-k.val,⟨0,by omega⟩,?_⟩
  refine ⟨rfl,rfl,?_,fun k=>⟨fun h2=> ?_,fun h2=> ?_⟩⟩
  ·show bb 33 (bR 33 (partN v c (8-0)%Lq))=bb 33 (bR 33 (v%Lq))
   rw [partN_8 v c hc8]
  ·have h2:=of_decide_eq_true h2
   have hk:=k.2
   have hk8:k.val<8:=by omega
   have e1:(i.val:Int).toNat=i.val:=rfl
   have e2:Int.toNat (7-(k.val:Int))=7-k.val:=by omega
   have hL:0<Lq:=by unfold Lq;omega
   have hr:=Nat.mod_lt (partN v c (8-k.val)) hL
   have hB:c/2^(7-k.val)%2<2:=Nat.mod_lt _ (by omega)
   have hnext:partN v c (7-k.val)%Lq=once (2*(partN v c (8-k.val)%Lq)+c/2^(7-k.val)%2):=by rw [part_once _ _ _ (by omega),show 7-k.val+1=8-k.val by omega]
   have hbit:r8 (l.getD (i.val:Int).toNat (Kd.df .u8)) (Int.toNat (7-(k.val:Int)))&&&UInt8.ofNat 1=UInt8.ofNat (c/2^(7-k.val)%2):=by
    rw [e1,e2,show l.getD i.val (Kd.df .u8)=UInt8.ofNat c from hgc,b_bit hc8]
   generalize partN v c (8-k.val)%Lq=r at hr hnext ⊢
   generalize c/2^(7-k.val)%2=B at hB hnext hbit
   repeat refine sd ?_
   refine Or.inr ⟨{m:Nat // m≤33},fun m=>⟨[(8,.one (.ob .int (32-(m.val:Int)))),(7,.one (.ob .u8 (UInt8.ofNat (shc r B m.val))))],[(2016,.blk 232 [.vec .u8 33 (bb 33 (bsh r B m.val))])]⟩,fun m=>33-m.val,⟨0,by omega⟩,?_⟩
   refine ⟨rfl,?_,rfl,?_,fun m=>⟨fun h3=> ?_,fun h3=> ?_⟩⟩
   ·show [UInt8.ofNat (shc r B 0)]= [r8 (l.getD (i.val:Int).toNat (Kd.df .u8)) (Int.toNat (7-(k.val:Int)))&&&UInt8.ofNat 1]
    rw [hbit,shc_zero]
   ·exact bsh_0 r B
   ·have h3:=of_decide_eq_true h3
    have hm:=m.2
    have hm33:m.val<33:=by omega
    have e3:Int.toNat (32-(m.val:Int))=32-m.val:=by omega
    obtain ⟨s1,s2⟩:=sh_step r B m.val hB
    have hg:(bb 33 (bsh r B m.val)).getD (Int.toNat (32-(m.val:Int))) (Kd.df .u8)=UInt8.ofNat (dB r m.val):=by rw [e3,bsh_get hm33]
    have hd:=dB_lt r m.val
    repeat refine sd ?_
    refine sj ⟨m.val+1,by omega⟩ ⟨?_,?_,rfl,?_,trivial⟩
    ·show [32-((m.val+1:Nat):Int)]= [32-(m.val:Int)-1]
     exact congrArg (fun z=> [z]) (by omega)
    ·refine congrArg (fun z=> [z]) ?_
     show UInt8.ofNat (shc r B (m.val+1))=r8 ((bb 33 (bsh r B m.val)).getD (Int.toNat (32-(m.val:Int))) (Kd.df .u8)) 7
     rw [hg,b_top hd,s2]
    ·show bb 33 (bsh r B (m.val+1))=(bb 33 (bsh r B m.val)).set (Int.toNat (32-(m.val:Int))) (s8 ((bb 33 (bsh r B m.val)).getD (Int.toNat (32-(m.val:Int))) (Kd.df .u8)) 1|||UInt8.ofNat (shc r B m.val))
     rw [hg,b_or hd (shc_lt r B _ hB),e3]
     exact (bsh_set hm33 (by rw [s1])).symm
   ·have h3:=of_decide_eq_false h3
    have hm:=m.2
    have hm33:m.val=33:=by omega
    rw [hm33,bsh_33]
    have hx:2*r+B<256^33:=by have:=Lq_lt32;rw [Nat.pow_succ];omega
    generalize 2*r+B=x at hx hnext ⊢
    refine ⟨⟨x,hx,rfl⟩,fun h4=> ?_,fun h4=> ?_⟩
    ·have h4:Lq≤x:=by have h4:=of_decide_eq_true h4;rwa [bb_beN _ _ hx] at h4
     refine Or.inr ⟨{m:Nat // m≤33},fun m=>⟨[(11,.one (.ob .int (32-(m.val:Int)))),(10,.one (.ob .int (bwB x Lq m.val:Int)))],[(2016,.blk 232 [.vec .u8 33 (bb 33 (bsu x m.val))])]⟩,fun m=>33-m.val,⟨0,by omega⟩,?_⟩
     refine ⟨rfl,?_,rfl,bsu_0 x,fun m=>⟨fun h5=> ?_,fun h5=> ?_⟩⟩
     ·show [((bwB x Lq 0:Nat):Int)]= [0]
      rw [bwB_zero];rfl
     ·have h5:=of_decide_eq_true h5
      have hm:=m.2
      have hm33:m.val<33:=by omega
      have e3:Int.toNat (32-(m.val:Int))=32-m.val:=by omega
      have hd:=dB_lt x m.val
      have hg:(((bb 33 (bsu x m.val)).getD (Int.toNat (32-(m.val:Int))) (Kd.df .u8)).toNat:Int)=(dB x m.val:Nat):=by rw [e3,bsu_get hm33,b_nat hd]
      have hs:=sub_step h4 m.val
      have hw:=bwB_int x Lq m.val
      have hb1:=bwB_le x Lq m.val
      have hdL:=dB_lt Lq m.val
      have hdX:=dB_lt (x-Lq) m.val
      have fin:∀z:Int,z=(dB (x-Lq) m.val:Nat)→bb 33 (bsu x (m.val+1))=(bb 33 (bsu x m.val)).set (Int.toNat (32-(m.val:Int))) (UInt8.ofNat z.toNat):=fun z hz=>by
       rw [e3,hz,Int.toNat_natCast]
       exact (bsu_set hm33 rfl).symm
      have f1: [32-((m.val+1:Nat):Int)]= [32-(m.val:Int)-1]:=congrArg (fun z=> [z]) (by omega)
      have fb:∀z:Int,((bwB x Lq (m.val+1):Nat):Int)=z→ [((bwB x Lq (m.val+1):Nat):Int)]= [z]:=fun z h=>congrArg (fun z=> [z]) h
      refine ⟨fun h6=> ?_,fun h6=> ?_⟩
      ·have h6:=of_decide_eq_true h6
       have ho:((orderL.getD (Int.toNat (32-(m.val:Int)-1)) (Kd.df .u8)).toNat:Int)=(dB Lq m.val:Nat):=by
        rw [show Int.toNat (32-(m.val:Int)-1)=31-m.val by omega,orderL_eq,show (bb 32 (bR 32 Lq)).getD (31-m.val) (Kd.df .u8)=UInt8.ofNat (bR 32 Lq (31-m.val)) from bb_get _ (by omega),bR,show 32-1-(31-m.val)=m.val by omega,b_nat hdL]
       have hoL:orderL.length=32:=rfl
       repeat refine sd ?_
       refine ⟨fun h7=> ?_,fun h7=> ?_⟩
       ·have h7:=of_decide_eq_true h7
        have hz:((((bb 33 (bsu x m.val)).getD (Int.toNat (32-(m.val:Int))) (Kd.df .u8)).toNat:Int)-((orderL.getD (Int.toNat (32-(m.val:Int)-1)) (Kd.df .u8)).toNat:Int)-(bwB x Lq m.val:Int))+256=(dB (x-Lq) m.val:Nat):=by rw [hg,ho] at h7 ⊢;rw [hs,if_pos h7]
        have hw2:((bwB x Lq (m.val+1):Nat):Int)=1:=by rw [hg,ho] at h7;rw [hw,if_pos h7]
        refine sd (hp:=by rw [hz];exact ⟨by omega,by omega⟩) ?_
        refine sd (hp:=by rw [hz];omega) ?_
        repeat refine sd ?_
        exact sj ⟨m.val+1,by omega⟩ ⟨f1,fb _ hw2,rfl,fin _ hz,trivial⟩
       ·have h7:=of_decide_eq_false h7
        have hz:((((bb 33 (bsu x m.val)).getD (Int.toNat (32-(m.val:Int))) (Kd.df .u8)).toNat:Int)-((orderL.getD (Int.toNat (32-(m.val:Int)-1)) (Kd.df .u8)).toNat:Int)-(bwB x Lq m.val:Int))=(dB (x-Lq) m.val:Nat):=by rw [hg,ho] at h7 ⊢;rw [hs,if_neg h7]
        have hw2:((bwB x Lq (m.val+1):Nat):Int)=0:=by rw [hg,ho] at h7;rw [hw,if_neg h7]
        refine sd (hp:=by rw [hz];omega) ?_
        repeat refine sd ?_
        exact sj ⟨m.val+1,by omega⟩ ⟨f1,fb _ hw2,rfl,fin _ hz,trivial⟩
      ·have h6:=of_decide_eq_false h6
       have ho:dB Lq m.val=0:=by rw [show m.val=32 by omega];decide +kernel
       repeat refine sd ?_
       refine ⟨fun h7=> ?_,fun h7=> ?_⟩
       ·have h7:=of_decide_eq_true h7
        have hz:((((bb 33 (bsu x m.val)).getD (Int.toNat (32-(m.val:Int))) (Kd.df .u8)).toNat:Int)-0-(bwB x Lq m.val:Int))+256=(dB (x-Lq) m.val:Nat):=by rw [hg] at h7 ⊢;rw [hs,if_pos (by omega)];omega
        have hw2:((bwB x Lq (m.val+1):Nat):Int)=1:=by rw [hg] at h7;rw [hw,if_pos (by omega)]
        refine sd (hp:=by rw [hz];exact ⟨by omega,by omega⟩) ?_
        refine sd (hp:=by rw [hz];omega) ?_
        repeat refine sd ?_
        exact sj ⟨m.val+1,by omega⟩ ⟨f1,fb _ hw2,rfl,fin _ hz,trivial⟩
       ·have h7:=of_decide_eq_false h7
        have hz:((((bb 33 (bsu x m.val)).getD (Int.toNat (32-(m.val:Int))) (Kd.df .u8)).toNat:Int)-0-(bwB x Lq m.val:Int))=(dB (x-Lq) m.val:Nat):=by rw [hg] at h7 ⊢;rw [hs,if_neg (by omega)];omega
        have hw2:((bwB x Lq (m.val+1):Nat):Int)=0:=by rw [hg] at h7;rw [hw,if_neg (by omega)]
        refine sd (hp:=by rw [hz];omega) ?_
        repeat refine sd ?_
        exact sj ⟨m.val+1,by omega⟩ ⟨f1,fb _ hw2,rfl,fin _ hz,trivial⟩
     ·have h5:=of_decide_eq_false h5
      have hm:=m.2
      rw [show m.val=33 by omega,bsu_33]
      refine sd<|sj ⟨k.val+1,by omega⟩ ⟨?_,rfl,?_,trivial⟩
      ·show [7-((k.val+1:Nat):Int)]= [7-(k.val:Int)-1]
       exact congrArg (fun z=> [z]) (by omega)
      ·show bb 33 (bR 33 (partN v c (8-(k.val+1))%Lq))=bb 33 (bR 33 (x-Lq))
       rw [show 8-(k.val+1)=7-k.val by omega,hnext,once,if_neg (by omega)]
    ·have h4:¬Lq≤x:=by have h4:=of_decide_eq_false h4;rwa [bb_beN _ _ hx] at h4
     refine sd<|sj ⟨k.val+1,by omega⟩ ⟨?_,rfl,?_,trivial⟩
     ·show [7-((k.val+1:Nat):Int)]= [7-(k.val:Int)-1]
      exact congrArg (fun z=> [z]) (by omega)
     ·show bb 33 (bR 33 (partN v c (8-(k.val+1))%Lq))=bb 33 (bR 33 x)
      rw [show 8-(k.val+1)=7-k.val by omega,hnext,once,if_pos (by omega)]
  ·have h2:=of_decide_eq_false h2
   have hk:=k.2
   refine sd<|sj ⟨i.val+1,by omega⟩ ⟨rfl,rfl,?_,trivial⟩
   show bb 33 (bR 33 (beN (l.take (i.val+1))%Lq))=bb 33 (bR 33 (partN v c (8-k.val)%Lq))
   rw [show 8-k.val=0 by omega,partN_0,beN_take l i.val hlt,hv,hc]
 ·have h1:=of_decide_eq_false h1
  have hi:=i.2
  rw [show i.val=l.length by omega,List.take_length]
  have hV:beN l%Lq<Lq:=Nat.mod_lt _ (by unfold Lq;omega)
  generalize beN l%Lq=V at hV ⊢
  repeat refine sd ?_
  refine ⟨?_,trivial⟩
  show bb 32 (bR 32 V)=_
  have key:List.take (33-1) (List.drop (0+1) (bb 33 (bR 33 V)))=bb 32 (bR 32 V):=by
   apply List.ext_getElem (by simp [bb])
   intro j h1 h2
   have hj:j<32:=by simpa [bb] using h2
   simp only [bb,List.getElem_take,List.getElem_drop,List.getElem_map,List.getElem_range,bR]
   congr 2
   omega
  rw [key,bb_len]
  exact (List.take_of_length_le (Nat.le_of_eq (bb_len 32 (bR 32 V)))).symm
def gMod:GF:=fun l=>match l with
 | [.one (.ro .u8 l)]=>some ⟨[.agg [.vec .u8 32 (bb 32 (bR 32 (beN l%Lq)))]],[],some (l.length≤1000)⟩
 |_=>none
theorem mod_sound:CSound 141 (cfA gMod):=cfR_sound TYDok OPZ3 Tryz.func141 (by kernel_rfl) rfl (rs:= [.cell 2 140]) Tryz.results141 fun l g h hp=>by
 unfold gMod at h
 split at h
 ·cases h;exact ⟨Nat.le_of_ble_eq_true rfl,rfl,rfl,rfl,vcMod _ hp⟩
 ·cases h
def LS4:List (Nat×CF):=(141,cfA gMod)::LS3
theorem LS4ok:∀p∈LS4,CSound p.1 p.2:=ctCons mod_sound LS3ok
theorem OPZ4:OpsOk TYD (ctOf LS4):=opsOk TYDok (ctOk LS4ok)
set_option maxRecDepth 10000
def scL (x:Nat):List UInt8:=bb 32 (bR 32 x)
theorem scL_len (x:Nat):(scL x).length=32:=bb_len _ _
theorem scL_rev (x:Nat):(scL x).reverse=leB 32 x:=by rw [scL,bb_bR,List.reverse_reverse]
theorem vcWide (l:List UInt8):vc TYD (ctOf LS4) Tryz.f85.ntmps (bodyOf Tryz.f85) ⟨mkSl 0 [.one (.ro .u8 l)],[],2000⟩ (retR TYD Tryz.f85.ntmps [.cell 2 140] [.agg [.vec .u8 32 (scL (leN (fillL l 64)%Lq))]] []):=by
 refine sd<|sd (hp:=by show (fillL l 64).length≤1000;rw [fillL_len];omega) ?_
 refine sd (hp:=by show (fillL l 64).reverse.length≤1000;rw [List.length_reverse,fillL_len];omega) ?_
 refine ⟨rfl,?_,trivial⟩
 show scL (leN (fillL l 64)%Lq)=scL (beN (fillL l 64).reverse%Lq)
 rw [beN,List.reverse_reverse]
theorem b_digit (x k:Nat) (_h:k<256):dB x (k/8)/2^(k%8)%2=x/2^k%2:=by
 unfold dB
 have e:x/2^k=x/256^(k/8)/2^(k%8):=by
  rw [Nat.div_div_eq_div_mul,p256,←Nat.pow_add,show 8*(k/8)+k%8=k by omega]
 rw [e]
 generalize x/256^(k/8)=q
 have:k%8=0∨k%8=1∨k%8=2∨k%8=3∨k%8=4∨k%8=5∨k%8=6∨k%8=7:=by omega
 rcases this with h|h|h|h|h|h|h|h<;>rw [h]<;>simp<;>omega
set_option maxRecDepth 10000
def bad (a b m i:Nat):Nat:=if 32-i<m then dB (a+b) (32-i) else 0
theorem bad_0 (a b:Nat):bb 33 (bad a b 0)=List.replicate 33 0:=(bb_congr (g:=fun _=>0) fun i hi=>by unfold bad;rw [if_neg (by omega)]).trans (by decide +kernel)
theorem bad_set {a b m:Nat} (h:m<33) {x:UInt8} (hx:x=UInt8.ofNat (dB (a+b) m)):(bb 33 (bad a b m)).set (32-m) x=bb 33 (bad a b (m+1)):=
 bb_set (by rw [hx];unfold bad;rw [show 32-(32-m)=m by omega,if_pos (by omega)]) fun j hj hne=>by
  unfold bad
  by_cases e:32-j<m
  ·rw [if_pos e,if_pos (by omega)]
  ·rw [if_neg e,if_neg (by omega)]
theorem bad_33 (a b:Nat):bb 33 (bad a b 33)=bb 33 (bR 33 (a+b)):=bb_congr fun i hi=>by unfold bad bR;rw [if_pos (by omega)]
theorem scL_get {x m:Nat} (h:m<32):(scL x).getD (31-m) (Kd.df .u8)=UInt8.ofNat (dB x m):=(bb_get _ (by omega)).trans (by rw [bR,show 32-1-(31-m)=m by omega])
theorem vcScAdd (a b:Nat) (ha:a<256^32) (hb:b<256^32):vc TYD (ctOf LS4) Tryz.f91.ntmps (bodyOf Tryz.f91) ⟨mkSl 0 [.agg [.vec .u8 32 (scL a)],.agg [.vec .u8 32 (scL b)]],[],2000⟩ (retR TYD Tryz.f91.ntmps [.cell 4 140] [.agg [.vec .u8 32 (scL ((a+b)%Lq))]] []):=by
 refine sd<|Or.inr ⟨{m:Nat // m≤32},fun m=>⟨[(7,.one (.ob .int (31-(m.val:Int)))),(6,.one (.ob .int (cyB a b m.val:Int)))],[(2048,.row 5 .u8 (bb 33 (bad a b m.val)))]⟩,fun m=>32-m.val,⟨0,by omega⟩,?_⟩
 refine ⟨rfl,?_,bad_0 a b,fun m=>⟨fun h1=> ?_,fun h1=> ?_⟩⟩
 ·show [((cyB a b 0:Nat):Int)]= [0]
  rw [cyB_zero];rfl
 ·have h1:=of_decide_eq_true h1
  have hm:=m.2
  have hm32:m.val<32:=by omega
  have e3:Int.toNat (31-(m.val:Int))=31-m.val:=by omega
  have e4:Int.toNat (31-(m.val:Int)+1)=32-m.val:=by omega
  have da:=dB_lt a m.val
  have db:=dB_lt b m.val
  have hga:(((scL a).getD (Int.toNat (31-(m.val:Int))) (Kd.df .u8)).toNat:Int)=(dB a m.val:Nat):=by rw [e3,scL_get hm32,b_nat da]
  have hgb:(((scL b).getD (Int.toNat (31-(m.val:Int))) (Kd.df .u8)).toNat:Int)=(dB b m.val:Nat):=by rw [e3,scL_get hm32,b_nat db]
  have hc:=cyB_le a b m.val
  have hlen:=bb_len 33 (bad a b m.val)
  obtain ⟨s1,s2⟩:=add_step a b m.val
  have hz:(((scL a).getD (Int.toNat (31-(m.val:Int))) (Kd.df .u8)).toNat:Int)+(((scL b).getD (Int.toNat (31-(m.val:Int))) (Kd.df .u8)).toNat:Int)+(cyB a b m.val:Int)=((dB a m.val+dB b m.val+cyB a b m.val:Nat):Int):=by rw [hga,hgb];omega
  repeat refine sd ?_
  refine sj ⟨m.val+1,by omega⟩ ⟨congrArg (fun z=> [z]) (show 31-((m.val+1:Nat):Int)=31-(m.val:Int)-1 by omega),congrArg (fun z=> [z]) ?_,?_,trivial⟩
  ·show ((cyB a b (m.val+1):Nat):Int)=((((scL a).getD (Int.toNat (31-(m.val:Int))) (Kd.df .u8)).toNat:Int)+(((scL b).getD (Int.toNat (31-(m.val:Int))) (Kd.df .u8)).toNat:Int)+(cyB a b m.val:Int))/2^8
   rw [hz,s2];omega
  ·show bb 33 (bad a b (m.val+1))=(bb 33 (bad a b m.val)).set (Int.toNat (31-(m.val:Int)+1)) (UInt8.ofNat ((((scL a).getD (Int.toNat (31-(m.val:Int))) (Kd.df .u8)).toNat:Int)+(((scL b).getD (Int.toNat (31-(m.val:Int))) (Kd.df .u8)).toNat:Int)+(cyB a b m.val:Int)).toNat)
   rw [hz,e4,Int.toNat_natCast]
   exact (bad_set (by omega) (by rw [s1];exact UInt8.toNat_inj.1 (by simp))).symm
 ·have h1:=of_decide_eq_false h1
  have hm:=m.2
  rw [show m.val=32 by omega]
  have hlen:=bb_len 33 (bad a b 32)
  have hc:=cyB_le a b 32
  repeat refine sd ?_
  have e5:(bb 33 (bad a b 32)).set 0 (UInt8.ofNat ((cyB a b 32:Nat):Int).toNat)=bb 33 (bR 33 (a+b)):=by
   rw [Int.toNat_natCast,←add_top ha hb,←bad_33]
   exact bad_set (m:=32) (by omega) rfl
  refine sd (hp:=by show ((bb 33 (bad a b 32)).set 0 (UInt8.ofNat ((cyB a b 32:Nat):Int).toNat)).length≤1000;rw [List.length_set,hlen];omega) ?_
  refine ⟨rfl,?_,trivial⟩
  show scL ((a+b)%Lq)=scL (beN ((bb 33 (bad a b 32)).set 0 (UInt8.ofNat ((cyB a b 32:Nat):Int).toNat))%Lq)
  rw [e5,bb_beN _ _ (by rw [Nat.pow_succ];omega)]
end Go.Proofs.YtknlbpjcjdenbaaGreat
