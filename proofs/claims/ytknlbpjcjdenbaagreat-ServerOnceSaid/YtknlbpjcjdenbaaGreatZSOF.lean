/- What SO rests on, part 6 of 6: my own texts, put together (merge.py). -/
import Derived.Test.YtknlbpjcjdenbaaGreatRows
import Derived.WalkKit
import Derived.ProofKit
import Derived.Lib.Hide
import Derived.OpenShut
import Derived.WalkSpells
import Derived.StillTactics
import Derived.Laws.Pointers
import Derived.Laws.CopyOwn
import Derived.Laws.AppendOwnNone
import Derived.Deep.RegionHeld3
import Derived.RowKit3
import Derived.BigQuiet
import Derived.Deep.QuietTactic
import Derived.Deep.LoopGhost
import Derived.Deep.DeepFit
import Derived.WalkLawsBesides
import Derived.Shelf.Spec.BitsCarry
import Derived.Maps.RangeWalk
import Derived.Deep.MidRow
import Derived.Laws.IdiomStrings
import Derived.Great.BuildSlice
import Derived.Lib.AppendZerosOnto
import Derived.Deep.DeepCutAuto
import Derived.Lib.SliceRun
import Derived.Laws.ResultCell
import Derived.Laws.CopyRow
import Derived.Deep.Cut
import Derived.Deep.RegionLaw
import Derived.Laws.Tables
import Derived.StillTailTactics
import Derived.ShutString
import Derived.ChangeOld
import Derived.Test.YtknlbpjcjdenbaaGreatZSOE
set_option maxRecDepth 100000
namespace Go.Proofs.YtknlbpjcjdenbaaGreat
open Go Go.RowKit Go.Maps
set_option linter.unusedVariables false
theorem wpList_of_ex {ops:Array Oper} {rest:List Oper} {o:Oper} {a:Act} {w w':World} {v:Value} {Q:Exit→Act→World→Prop} (hg:o.guard=none) (hex:(execOp a.eval o).run Tryz.prog w= .ok (.value v) w') (h:wpList Tryz.prog ops Q rest (a.put o.dst v) w'):wpList Tryz.prog ops Q (o::rest) a w:=
 wpList_plain hg fun K hK=>by
  unfold Oper.wp
  rw [hex]
  exact hK _ _ h
theorem info27:(Tryz.prog.info? 27).map (·.size)=some 6:=by kernel_rfl
abbrev stepC (nm:ByteArray) (n v:Int):List Value:= [.int .i64 0,.string nm,.int .i64 n,.int .i64 v,.slice none 0 0,.int .i64 0]
theorem law_step {w:World} (nm:ByteArray) (n v i:Int):Calls Tryz.prog 11 #[.agg (stepC nm n v).toArray,.int .i64 i] w fun e w'=>∃cs:List Value,e= .returned (.agg cs.toArray)∧Below w.heap.size w w'∧BnV (fun g=>w.heap.size≤g) w' (lawB n v i) (.agg cs.toArray):=
 (law_call (A:=fun _=>True) 0 n v 0 i nm (nil_ro .int) rfl (Int.le_refl _)).mono fun e w' ⟨v',he,hb,hv⟩=>by
  obtain ⟨cs,rfl,_⟩:=hv
  exact ⟨cs,he,hb,⟨cs,rfl,by assumption⟩⟩
abbrev nmA:ByteArray:=⟨#[97]⟩
abbrev nmA1:ByteArray:=⟨#[97,49]⟩
abbrev nmUp:ByteArray:=⟨#[65]⟩
abbrev nmBob:ByteArray:=⟨#[98,111,98]⟩
theorem awake_adds (n v:Int):(En.mk (lawB n v 0) [] (fun _=>0) fun _=>0).adds [lawB n v 1]=((e0 n v).add (lawB n v 1),1):=by
 have h:(e0 n v).takes (lawB n v 1)=true:=tk_yes rfl (by decide) (by simp [e0]) rfl rfl
 exact stp_yes h
set_option maxHeartbeats 4000000 in
theorem awake_any (w:World):Calls Tryz.prog 8 #[] w fun e w'=>e= .returned (.bool true)∧Below w.heap.size w w':=by
 go_enter Tryz.func8,Tryz.ntmps8
 go_upto_region 5 with (go_at_call 9;go_must (refine (snew_any _).mono ?_;rintro r w1 ⟨rfl,hg1,hb1⟩;have HG1:=Lib.hid hg1;have HB1:=Lib.hid hb1;clear hg1 hb1))
 obtain ⟨g,hg⟩:∃g,g=w.heap.size:=⟨_,rfl⟩
 obtain ⟨p,hp⟩:∃p,p=w1.heap.size:=⟨_,rfl⟩
 have hgp:g<p:=by have:=HG1.out.lt;omega
 refine wp_gen (fun W=>Blk W g [.map none] 60∧Blk W p (stepC nmA 1 0) 27∧Below w.heap.size w W) ⟨?_,?_,?_⟩ (fun W0 ⟨hG,hP,hB⟩=> ?_)
 ·rw [hg];exact HG1.out.alloc _
 ·rw [hp];exact Blk.new w1 _ _
 ·exact Below.alloc' HB1.out _
 rw [←hg,←hp]
 have hrp:=hP.rng
 have HG:=Lib.hid hG
 have HP:=Lib.hid hP
 have HB:=Lib.hid hB
 have HGP:=Lib.hid hgp
 have HGE:=Lib.hid hg
 have HNA:Hid (nameB nmA=true):=Lib.hid (by decide)
 have HSZ:Hid (nmA.size≤1000):=Lib.hid (by decide)
 clear hG hP hB hgp hg hp HG1 HB1
 go_upto_region 6 with (first|(refine wpList_load_mid rfl 27 (.tmp 2) rfl p 0 rfl (stepC nmA 1 0) _ hrp Tryz.underlying27 rfl info27 ?_)|(go_at_call 11;go_must (refine (law_step nmA 1 0 0).mono ?_;rintro r w2 ⟨cs,rfl,hb2,hv2⟩;have HB2:=Lib.hid hb2;have HV2:=Lib.hid hv2;clear hb2 hv2))|(go_at_call 10;go_must (refine (srv_reg nmA HSZ.out HNA.out (HG.out.below' HB2.out) HV2.out rfl rfl (verB_law _ _ _) (law_fine _ _ _) (Nat.not_le.2 HG.out.lt)).mono ?_;rintro r w3 ⟨rfl,T,hS3,hT3,hf3⟩;have HS3:=Lib.hid hS3;have HT3:=Lib.hid hT3;have HF3:=Lib.hid hf3;clear hS3 hT3 hf3)))
 have hP3:Blk w3 p (stepC nmA 1 0) 27:=HF3.out.blk (HP.out.below' HB2.out) (fun h=>by have:=HGP.out;omega)
 have hb3:Below w.heap.size w w3:=(Below.call HB.out HB2.out).trans (HF3.out.below (Nat.le_trans HB.out.size HB2.out.size) (fun x hx=>by have h1:x=g:=hx;have:=HGE.out;omega))
 have hnp3:¬mine T 4 p:=HT3.out p (Nat.lt_of_lt_of_le HP.out.lt HB2.out.size)
 have hrp3:=hP3.rng
 have HP3:=Lib.hid hP3
 have HB3:=Lib.hid hb3
 have HNP3:=Lib.hid hnp3
 clear hP3 hb3 hnp3 hrp
 go_upto_region 7 with (first|(refine wpList_load_mid rfl 27 (.tmp 2) rfl p 0 rfl (stepC nmA 1 0) _ hrp3 Tryz.underlying27 rfl info27 ?_)|(go_at_call 11;go_must (refine (law_step nmA 1 0 1).mono ?_;rintro r w4 ⟨cs4,rfl,hb4,hv4⟩;have hl4:=bn_len hv4;have HB4:=Lib.hid hb4;have HV4:=Lib.hid hv4;clear hb4 hv4))|(refine wpList_of_ex rfl (ex_bslice rfl rfl hl4) ?_)|(go_at_call 12;go_must (refine (srv_once nmA HSZ.out HNA.out (A:=fun x=>w3.heap.size≤x) (l:= [lawB 1 0 1]) (zs:=cs4) ((HS3.out.below HB4.out).below ((Below.refl _ _).alloc (Nat.le_refl _) _)) HS3.out.new ((Blk.new w4 _ _).rng) ⟨cs4,[],by simp,HV4.out.below ((Below.refl _ _).alloc (Nat.le_refl _) _),rfl⟩ HB4.out.size (fun B hB=>by rw [List.mem_singleton.1 hB];exact law_fine _ _ _) (by decide)).mono ?_;rintro r w5 ⟨rfl,T5,hT5,hS5,hf5⟩;rw [awake_adds] at hS5 ⊢;have HS5:=Lib.hid hS5;have HT5:=Lib.hid hT5;have HF5:=Lib.hid hf5;clear hS5 hT5 hf5)))
 have hP5:Blk w5 p (stepC nmA 1 0) 27:=HF5.out.blk ((HP3.out.below' HB4.out).alloc _) HNP3.out
 have hb5:Below w.heap.size w w5:=((Below.call HB3.out HB4.out).alloc (Nat.le_trans HB3.out.size HB4.out.size) _).trans (HF5.out.below (B:=w.heap.size) (Nat.le_trans (Nat.le_trans HB3.out.size HB4.out.size) (by simp)) (fun x hx=>by
  rcases Nat.lt_or_ge x w.heap.size with h|h
  ·exact absurd hx (HT3.out x (by have:=HB2.out.size;have:=HB.out.size;omega))
  ·exact h))
 have HB5:=Lib.hid hb5
 clear hP5 hb5 hrp3
 go_upto_region 8 with (first|(go_at_call 14;go_must (refine (srv_fetch nmA HSZ.out HNA.out HS5.out rfl).mono ?_;rintro r w6 ⟨z6,T6,A6,rfl,hz6,hT6,hS6,hf6⟩;obtain ⟨y6,rfl⟩:∃y6:List Value,z6= .agg y6.toArray:=(by obtain ⟨y,e,_⟩:=hz6;exact ⟨y,e⟩);have hl6:=bn_len hz6;have hi6:(Tryz.prog.info? 32).map (·.size)=some y6.toArray.size:=(by rw [info32];simp [hl6]);have ho6:bn0.size=y6.toArray.size:=(by simp [hl6]);have h61:=bn_one hz6;have HZ6:=Lib.hid hz6;have HT6:=Lib.hid hT6;have HS6:=Lib.hid hS6;have HF6:=Lib.hid hf6;clear hz6 hT6 hS6 hf6))|(refine wpList_store_row rfl 32 _ _ rfl w6.heap.size _ rfl rfl 32 bn0 (Blk.new w6 _ _) hi6 ho6 h61 ?_))
 have hb6:Below w.heap.size w w6:=HB5.out.trans (HF6.out.below (B:=w.heap.size) HB5.out.size (fun x hx=>by
  rcases Nat.lt_or_ge x w.heap.size with h|h
  ·have h1:=HT3.out x (by have:=HB2.out.size;have:=HB.out.size;omega)
   unfold mine at hx h1
   rw [HT5.out x (by have:=HB3.out.size;have:=HB4.out.size;simp;omega)] at hx
   exact absurd hx h1
  ·exact h))
 obtain ⟨U6,hU6⟩:∃U6,U6=(w6.alloc (.cells bn0 32)).setRow w6.heap.size y6.toArray:=⟨_,rfl⟩
 have hu6:Below w6.heap.size w6 U6:=by rw [hU6];exact below_setRow (Below.alloc' (Below.refl _ _) _) (Nat.le_refl _) _
 have hP6:Blk U6 w6.heap.size y6 32:=by rw [hU6];exact setRow_blk (Blk.new w6 _ _)
 have HU6:=Lib.hid hu6
 have HP6:=Lib.hid hP6
 have HB6:=Lib.hid hb6
 have HSU:=Lib.hid (HS6.out.below hu6)
 rw [←hU6]
 obtain ⟨p6,hp6⟩:∃p6,p6=w6.heap.size:=⟨_,rfl⟩
 rw [←hp6]
 have HPE:=Lib.hid hp6
 clear hU6 hu6 hP6 hb6 hp6
 go_upto_region 9 with (first|(go_at_call 14;go_must (refine (srv_base nmA HSZ.out HNA.out HSU.out rfl).mono ?_;rintro r w8 ⟨z8,A8,rfl,hz8,hb8⟩;obtain ⟨y8,rfl⟩:∃y8:List Value,z8= .agg y8.toArray:=(by obtain ⟨y,e,_⟩:=hz8;exact ⟨y,e⟩);have hl8:=bn_len hz8;have hi8:(Tryz.prog.info? 32).map (·.size)=some y8.toArray.size:=(by rw [info32];simp [hl8]);have ho8:bn0.size=y8.toArray.size:=(by simp [hl8]);have h81:=bn_one hz8;have HZ8:=Lib.hid hz8;have HB8:=Lib.hid hb8;clear hz8 hb8))|(refine wpList_store_row rfl 32 _ _ rfl w8.heap.size _ rfl rfl 32 bn0 (Blk.new w8 _ _) hi8 ho8 h81 ?_))
 obtain ⟨U8,hU8⟩:∃U8,U8=(w8.alloc (.cells bn0 32)).setRow w8.heap.size y8.toArray:=⟨_,rfl⟩
 have hu8:Below w8.heap.size w8 U8:=by rw [hU8];exact below_setRow (Below.alloc' (Below.refl _ _) _) (Nat.le_refl _) _
 have hP8:Blk U8 w8.heap.size y8 32:=by rw [hU8];exact setRow_blk (Blk.new w8 _ _)
 have hP68:Blk U8 p6 y6 32:=by rw [HPE.out];exact (HP6.out.below' HB8.out).below' hu8
 have hc8:=(bn_ids HZ8.out hP8).1
 have hc6:=(bn_ids HZ6.out hP68).1
 rw [show (lawB 1 0 1).onceId=1 from rfl] at hc6
 rw [show (En.mk ((e0 1 0).add (lawB 1 0 1)).base [] ((e0 1 0).add (lawB 1 0 1)).onces ((e0 1 0).add (lawB 1 0 1)).kems).base.onceId=0 from rfl] at hc8
 have HW8:Hid (Below w.heap.size w U8):=Lib.hid (Below.call (Below.call (Below.call HB6.out HU6.out) HB8.out) hu8)
 rw [←hU8]
 clear hU8 hu8 hP8 hP68 hi8 ho8 h81 hi6 ho6 h61
 have hn1:nameB nmA1=true:=by decide
 have hn2:nameB nmUp=false:=by decide
 have HN1:=Lib.hid hn1
 have HN2:=Lib.hid hn2
 clear hn1 hn2
 go_wp2_with (go_at_call 20;go_must (first|(with_reducible refine (sname_any nmA1 (by decide) _).mono ?_;rintro r w9 ⟨rfl,rfl⟩;rw [HN1.out])|(with_reducible refine (sname_any nmUp (by decide) _).mono ?_;rintro r w9 ⟨rfl,rfl⟩;rw [HN2.out])))
 go_ret
 exact ⟨rfl,HW8.out⟩
end Go.Proofs.YtknlbpjcjdenbaaGreat
namespace Go.Proofs.YtknlbpjcjdenbaaGreat
open Go Go.RowKit
structure GN (n:Nat) (T:List WP) (i:Nat) (L:Nat→Bool) (u:Nat→Value) (W:World):Prop where
 soft:L n=false→(T.getD i kany).P (u i) W
 val:∀x,T.getD i kany=knw x→u i=x
section
variable {n:Nat} {w1:World} {T:List WP} {P:World→Prop} {ops:Array Oper} {wt:Nat→Nat→Bool} {Q:Exit→Act→World→Prop} {fr:(Nat→Value)→Array Value} {df:List Deferred} {i:Nat} {o:Oper}
theorem GN.keep {k:Nat} {L:Nat→Bool} {u:Nat→Value} {z:Value} {W W':World} (hki:k≠i) (hb:Below W.heap.size W W') (h:GN n T k L u W):GN n T k (putL L i) (putV u i z) W':=
 ⟨fun hl=>by rw [putV_ne hki];exact (T.getD k kany).st _ _ _ (h.soft (putL_false hl)) hb,fun x e=>by rw [putV_ne hki];exact h.val x e⟩
theorem soft_GN:Soft wt (GN n T):=⟨fun _ _ _ _ _ _ hki _ h=>GN.keep hki (Below.refl _ _) h,fun _ _ _ _ _ hb h=>⟨fun hl=>(T.getD _ kany).st _ _ _ (h.soft hl) hb,h.val⟩⟩
theorem GN.here {L:Nat→Bool} {u:Nat→Value} {v:Value} {W:World} (h:(T.getD i kany).P v W):GN n T i L (putV u i v) W:=⟨fun _=>by rw [putV_same];exact h,fun x e=>by rw [putV_same];rw [e] at h;exact h⟩
theorem knC (hp:Path wt n i) (hr:∀u W,Below w1.heap.size w1 W→(∀j,wt i j=true→(T.getD j kany).P (u j) W)→∀K:Act→World→Prop,Shut (∀v w',Below W.heap.size W w'→(T.getD i kany).P v w'→K ((⟨fr u,df⟩:Act).put o.dst v) w')→Oper.wp Tryz.prog o ⟨fr u,df⟩ W K Q) (hi:i≠n:=by decide) (hg:o.guard=none:=by rfl):
  StepAt Tryz.prog ops wt Q fr df (GN n T) (JX n w1 P) i o:=by
 intro L u W hcl hJ hG hL hdep K hK
 rw [if_pos (by simp [Region.wanted,hg])]
 have hn:=notL hcl hp hL
 refine hr u W (hJ.old hn) (fun j hw=>(hG j (hdep j hw)).soft hn) K (fun v w' hb hv=> ?_)
 refine hK.out _ w' ⟨fun h=>Below.call (hJ.old hn) hb,fun h=> ?_⟩ (fun k hk hki hwk h=>GN.keep hki hb h) (GN.here hv)
 rw [putL_ne (Ne.symm hi)] at h;rw [hn] at h;cases h
theorem knM (hp:Path wt n i) (hr:∀u W,Below w1.heap.size w1 W→(∀j,wt i j=true→(T.getD j kany).P (u j) W)→∃v W',(execOp (⟨fr u,df⟩:Act).eval o).run Tryz.prog W= .ok (.value v) W'∧(T.getD i kany).P v W'∧Below W.heap.size W W') (hi:i≠n:=by decide) (hg:o.guard=none:=by rfl):
  StepAt Tryz.prog ops wt Q fr df (GN n T) (JX n w1 P) i o:=
 knC hp (fun u W hb hu K hK=>by
  obtain ⟨v,W',hrun,hv,hb'⟩:=hr u W hb hu
  unfold Oper.wp
  rw [hrun]
  exact hK.out v W' hb' hv) hi hg
theorem knP {x:Value} (hp:Path wt n i) (hT:T.getD i kany=knw x) (hr:∀u W,Below w1.heap.size w1 W→(∀j,wt i j=true→(T.getD j kany).P (u j) W)→(execOp (⟨fr u,df⟩:Act).eval o).run Tryz.prog W= .ok (.value x) W) (hi:i≠n:=by decide) (hg:o.guard=none:=by rfl):
  StepAt Tryz.prog ops wt Q fr df (GN n T) (JX n w1 P) i o:=
 knM hp (fun u W hb hu=>⟨x,W,hr u W hb hu,by rw [hT];rfl,Below.refl _ _⟩) hi hg
theorem knN {x:Value} (hT:T.getD n kany=knw x) (hr:∀u W,Below w1.heap.size w1 W→(∀j,wt n j=true→(T.getD j kany).P (u j) W)→∀K:Act→World→Prop,Shut (∀w',P w'→K ((⟨fr u,df⟩:Act).put o.dst x) w')→Oper.wp Tryz.prog o ⟨fr u,df⟩ W K Q) (hg:o.guard=none:=by rfl):
  StepAt Tryz.prog ops wt Q fr df (GN n T) (JX n w1 P) n o:=by
 intro L u W hcl hJ hG hL hdep K hK
 rw [if_pos (by simp [Region.wanted,hg])]
 refine hr u W (hJ.old hL) (fun j hw=>(hG j (hdep j hw)).soft hL) K (fun w' hP=> ?_)
 refine hK.out x w' ⟨fun h=> ?_,fun _=>hP⟩ (fun k hk hki hwk h=>⟨fun hl=> ?_,fun y e=>by rw [putV_ne hki];exact h.val y e⟩) ⟨fun hl=> ?_,fun y e=> ?_⟩
 ·rw [putL_same] at h;cases h
 ·rw [putL_same] at hl;cases hl
 ·rw [putL_same] at hl;cases hl
 ·rw [hT] at e
  have e2:(knw x).P x W:=rfl
  rw [e] at e2
  rw [putV_same];exact e2
theorem knA {x:Value} (hp:Path wt i n) (hT:T.getD i kany=knw x) (hr:∀u W,(∀j,wt i j=true→∀y,T.getD j kany=knw y→u j=y)→(execOp (⟨fr u,df⟩:Act).eval o).run Tryz.prog W= .ok (.value x) W) (hi:i≠n:=by decide) (hg:o.guard=none:=by rfl):
  StepAt Tryz.prog ops wt Q fr df (GN n T) (JX n w1 P) i o:=by
 intro L u W hcl hJ hG hL hdep K hK
 rw [if_pos (by simp [Region.wanted,hg])]
 have hn:=hp.first hcl hdep
 unfold Oper.wp
 rw [hr u W (fun j hw y e=>(hG j (hdep j hw)).val y e)]
 refine hK.out x W ⟨fun h=> ?_,fun _=>hJ.done hn⟩ (fun k hk hki hwk h=>GN.keep hki (Below.refl _ _) h) ⟨fun hl=> ?_,fun y e=> ?_⟩
 ·rw [putL_ne (Ne.symm hi)] at h;rw [hn] at h;cases h
 ·rw [putL_ne (Ne.symm hi)] at hl;rw [hn] at hl;cases hl
 ·rw [hT] at e
  have e2:(knw x).P x W:=rfl
  rw [e] at e2
  rw [putV_same];exact e2
end
section
variable {F:List Value} {fr:(Nat→Value)→Array Value} {df:List Deferred} {ops:Array Oper} {id:Nat} {Q:Exit→Act→World→Prop} {w:World}
theorem rgN (N n:Nat) (p:List (Nat×Nat)) (T:List WP) (P:World→Prop)
  (hsteps:AllSteps Tryz.prog ops (waitsOn .any ops) Q fr df (GN n T) (JX n w P) 0 ops.toList)
  (hdone:∀u W,P W→(∀k,k<N→∀x,T.getD k kany=knw x→u k=x)→Q .normal ⟨fr u,df⟩ W) (hnN:n<N)
  (hF:∀u,(mrg F p u).toArray=fr u:=by intro u;dsimp only [mrg];try exact rfl)
  (hc:okP p ops=true:=by kernel_rfl) (hn:ops.size=N:=by kernel_rfl) (hm:Tryz.prog.follows .mixedOrders=true:=by kernel_rfl) (he:earlier .any ops=true:=by kernel_rfl):(Code.region id ops true).wp Tryz.prog Q ⟨F.toArray,df⟩ w:=by
 obtain ⟨u0,hu⟩:=mrg_self p F (by simp only [okP,Bool.and_eq_true] at hc;exact hc.1)
 exact wp_region_mid (a:=⟨F.toArray,df⟩) fr (GN n T) (JX n w P) u0 hm he (okP_put hc hF) (by rw [←hF,hu]) ⟨fun _=>(Below.refl _ _).drew,fun h=>by cases h⟩ soft_GN (fun _=>hsteps)
  (fun L u W hall hJ hG=>hdone u W (hJ.done (hall n (by omega))) (fun k hk x e=>(hG k (by omega)).val x e))
end
end Go.Proofs.YtknlbpjcjdenbaaGreat
namespace Go.Proofs.YtknlbpjcjdenbaaGreat
open Go Go.RowKit Go.Maps
set_option linter.unusedVariables false
structure Lw (w W:World) (g p:Nat) (nm:ByteArray) (n v:Int) (T:Nat→Nat) (N:Nat) (e:En):Prop where
 srv:Srv W g nm T N e
 stp:Blk W p (stepC nm n v) 27
 np:¬mine T 4 p
 bel:Below w.heap.size w W
 old:∀x,x<w.heap.size→¬mine T 4 x
theorem mine_eq {T T':Nat→Nat} {x:Nat} (h:T' x=T x):mine T' 4 x↔mine T 4 x:=by unfold mine;rw [h]
theorem Lw.below {w W W':World} {g p N:Nat} {nm:ByteArray} {n v:Int} {T:Nat→Nat} {e:En} (h:Lw w W g p nm n v T N e) (hb:Below W.heap.size W W'):Lw w W' g p nm n v T N e:=⟨h.srv.below hb,h.stp.below' hb,h.np,Below.call h.bel hb,h.old⟩
theorem Lw.step {w W W':World} {g p N N':Nat} {nm:ByteArray} {n v:Int} {T T':Nat→Nat} {e e':En} (h:Lw w W g p nm n v T N e) (hT:∀x,x<W.heap.size→T' x=T x) (hS:Srv W' g nm T' N' e') (hf:Fr (mine T 4) W W'):Lw w W' g p nm n v T' N' e':=
 ⟨hS,hf.blk h.stp h.np,fun k=>h.np ((mine_eq (hT p h.stp.lt)).1 k),h.bel.trans (hf.below h.bel.size fun x hx=>by
  rcases Nat.lt_or_ge x w.heap.size with k|k
  ·exact absurd hx (h.old x k)
  ·exact k),fun x hx k=>h.old x hx ((mine_eq (hT x (Nat.lt_of_lt_of_le hx h.bel.size))).1 k)⟩
def wB (lo:Nat) (B:Bn):WP:=⟨fun v w=>∃cs:List Value,v= .agg cs.toArray∧BnV (fun x=>lo≤x) w B (.agg cs.toArray),fun v w w' ⟨cs,h1,h2⟩ hb=>⟨cs,h1,h2.below hb⟩⟩
def wS (lo:Nat) (l:List Bn):WP:=⟨fun v w=>∃(q:Nat) (zs:List Value),v= .slice (some ⟨q,0,none⟩) l.length l.length∧lo≤q∧Blk w q zs 32∧RowsB (fun x=>lo≤x) w zs l,fun v w w' ⟨q,zs,h1,h2,h3,h4⟩ hb=>⟨q,zs,h1,h2,h3.below' hb,h4.later fun x hx ha=>⟨hb.block x hx,ha⟩⟩⟩
theorem ex_load27 {o:Oper} {a:Act} {w:World} {b:Nat} {x:Operand} {nm:ByteArray} {n v:Int} (ho:o.op= .load 27 x) (ha:a.eval x= .pointer (some ⟨b,0,none⟩)) (hr:w.rangeAt b 0 (stepC nm n v)):(execOp a.eval o).run Tryz.prog w= .ok (.value (.agg (stepC nm n v).toArray)) w:=by
 unfold execOp
 simp only [ho,ha,Sem.run_bind,run_loadAt_mid w b 0 27 (stepC nm n v) _ hr Tryz.underlying27 rfl info27,Result.andThen_ok,Sem.run_pure]
theorem law_fines (n v:Int) (ks:List Int):∀B∈ks.map (lawB n v),B.fine:=fun B hB=>by
 obtain ⟨k,_,rfl⟩:=List.mem_map.1 hB
 exact law_fine n v k
theorem rowsB3 {A:Nat→Prop} {w:World} {B0 B1 B2:Bn} {c0 c1 c2:List Value} (h0:BnV A w B0 (.agg c0.toArray)) (h1:BnV A w B1 (.agg c1.toArray)) (h2:BnV A w B2 (.agg c2.toArray)):RowsB A w (c0++c1++c2) [B0,B1,B2]:=
 ⟨c0,c1++c2,by simp,h0,c1,c2,rfl,h1,c2,[],by simp,h2,rfl⟩
theorem rowsB4 {A:Nat→Prop} {w:World} {B0 B1 B2 B3:Bn} {c0 c1 c2 c3:List Value} (h0:BnV A w B0 (.agg c0.toArray)) (h1:BnV A w B1 (.agg c1.toArray)) (h2:BnV A w B2 (.agg c2.toArray)) (h3:BnV A w B3 (.agg c3.toArray)):RowsB A w (c0++c1++c2++c3) [B0,B1,B2,B3]:=
 ⟨c0,c1++(c2++c3),by simp,h0,c1,c2++c3,rfl,h1,c2,c3,rfl,h2,c3,[],by simp,h3,rfl⟩
theorem ex_bslice3 {o:Oper} {a:Act} {w:World} {x0 x1 x2:Operand} {c0 c1 c2:List Value} (ho:o.op= .buildSlice 49 3 #[(0,x0),(1,x1),(2,x2)]) (h0:a.eval x0= .agg c0.toArray) (h1:a.eval x1= .agg c1.toArray) (h2:a.eval x2= .agg c2.toArray) (l0:c0.length=11) (l1:c1.length=11) (l2:c2.length=11):(execOp a.eval o).run Tryz.prog w= .ok (.value (.slice (some ⟨w.heap.size,0,none⟩) 3 3)) (w.alloc (.cells (c0++c1++c2).toArray 32)):=by
 obtain ⟨i,z,hi,hz,hs,hzs,hby,hze⟩:=info32z
 obtain ⟨a0,a1,a2,a3,a4,a5,a6,a7,a8,a9,aa,rfl⟩:=len11 l0
 obtain ⟨b0,b1,b2,b3,b4,b5,b6,b7,b8,b9,ba,rfl⟩:=len11 l1
 obtain ⟨d0,d1,d2,d3,d4,d5,d6,d7,d8,d9,da,rfl⟩:=len11 l2
 have h:(Instr.buildSlice 49 3 #[(0,Value.agg #[a0,a1,a2,a3,a4,a5,a6,a7,a8,a9,aa]),(1,Value.agg #[b0,b1,b2,b3,b4,b5,b6,b7,b8,b9,ba]),(2,Value.agg #[d0,d1,d2,d3,d4,d5,d6,d7,d8,d9,da])]).run Tryz.prog w= .ok (.slice (some ⟨w.heap.size,0,none⟩) 3 3) (w.alloc (.cells #[a0,a1,a2,a3,a4,a5,a6,a7,a8,a9,aa,b0,b1,b2,b3,b4,b5,b6,b7,b8,b9,ba,d0,d1,d2,d3,d4,d5,d6,d7,d8,d9,da] 32)):=
  run_buildSlice (P:=Tryz.prog) w 49 32 3 _ _ i z Tryz.underlying49 hi hz (by rw [hs];decide) (by rw [hs];decide) (by rw [hs,hze];kernel_rfl)
 unfold execOp
 simp only [ho,List.map_toArray,List.map_cons,List.map_nil,h0,h1,h2]
 rw [Sem.run_bind,h]
 rfl
theorem ex_bslice4 {o:Oper} {a:Act} {w:World} {x0 x1 x2 x3:Operand} {c0 c1 c2 c3:List Value} (ho:o.op= .buildSlice 49 4 #[(0,x0),(1,x1),(2,x2),(3,x3)]) (h0:a.eval x0= .agg c0.toArray) (h1:a.eval x1= .agg c1.toArray) (h2:a.eval x2= .agg c2.toArray) (h3:a.eval x3= .agg c3.toArray) (l0:c0.length=11) (l1:c1.length=11) (l2:c2.length=11) (l3:c3.length=11):(execOp a.eval o).run Tryz.prog w= .ok (.value (.slice (some ⟨w.heap.size,0,none⟩) 4 4)) (w.alloc (.cells (c0++c1++c2++c3).toArray 32)):=by
 obtain ⟨i,z,hi,hz,hs,hzs,hby,hze⟩:=info32z
 obtain ⟨a0,a1,a2,a3,a4,a5,a6,a7,a8,a9,aa,rfl⟩:=len11 l0
 obtain ⟨b0,b1,b2,b3,b4,b5,b6,b7,b8,b9,ba,rfl⟩:=len11 l1
 obtain ⟨d0,d1,d2,d3,d4,d5,d6,d7,d8,d9,da,rfl⟩:=len11 l2
 obtain ⟨f0,f1,f2,f3,f4,f5,f6,f7,f8,f9,fa,rfl⟩:=len11 l3
 have h:(Instr.buildSlice 49 4 #[(0,Value.agg #[a0,a1,a2,a3,a4,a5,a6,a7,a8,a9,aa]),(1,Value.agg #[b0,b1,b2,b3,b4,b5,b6,b7,b8,b9,ba]),(2,Value.agg #[d0,d1,d2,d3,d4,d5,d6,d7,d8,d9,da]),(3,Value.agg #[f0,f1,f2,f3,f4,f5,f6,f7,f8,f9,fa])]).run Tryz.prog w= .ok (.slice (some ⟨w.heap.size,0,none⟩) 4 4) (w.alloc (.cells #[a0,a1,a2,a3,a4,a5,a6,a7,a8,a9,aa,b0,b1,b2,b3,b4,b5,b6,b7,b8,b9,ba,d0,d1,d2,d3,d4,d5,d6,d7,d8,d9,da,f0,f1,f2,f3,f4,f5,f6,f7,f8,f9,fa] 32)):=
  run_buildSlice (P:=Tryz.prog) w 49 32 4 _ _ i z Tryz.underlying49 hi hz (by rw [hs];decide) (by rw [hs];decide) (by rw [hs,hze];kernel_rfl)
 unfold execOp
 simp only [ho,List.map_toArray,List.map_cons,List.map_nil,h0,h1,h2,h3]
 rw [Sem.run_bind,h]
 rfl
end Go.Proofs.YtknlbpjcjdenbaaGreat
