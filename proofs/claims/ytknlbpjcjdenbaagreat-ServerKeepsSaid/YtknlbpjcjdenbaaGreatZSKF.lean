/- What SK rests on, part 6 of 6: my own texts, put together (merge.py). -/
import Derived.Test.YtknlbpjcjdenbaaGreatRows
import Derived.WalkKit
import Derived.ProofKit
import Derived.Lib.Hide
import Derived.OpenShut
import Derived.WalkSpells
import Derived.StillTactics
import Derived.Laws.Pointers
import Derived.Laws.CopyOwn
import Derived.Laws.AppendOwnNone
import Derived.Deep.RegionHeld3
import Derived.RowKit3
import Derived.BigQuiet
import Derived.Deep.QuietTactic
import Derived.Deep.LoopGhost
import Derived.Deep.DeepFit
import Derived.WalkLawsBesides
import Derived.Shelf.Spec.BitsCarry
import Derived.Maps.RangeWalk
import Derived.Deep.MidRow
import Derived.Laws.IdiomStrings
import Derived.Great.BuildSlice
import Derived.Lib.AppendZerosOnto
import Derived.Deep.DeepCutAuto
import Derived.Lib.SliceRun
import Derived.Laws.ResultCell
import Derived.Laws.CopyRow
import Derived.Deep.Cut
import Derived.Deep.RegionLaw
import Derived.Laws.Tables
import Derived.StillTailTactics
import Derived.ShutString
import Derived.ChangeOld
import Derived.Test.YtknlbpjcjdenbaaGreatZSKE
set_option maxRecDepth 100000
namespace Go.Proofs.YtknlbpjcjdenbaaGreat
open Go Go.RowKit
section
variable {n:Nat} {w1:World} {T:List WP} {P:World→Prop} {ops:Array Oper} {wt:Nat→Nat→Bool} {Q:Exit→Act→World→Prop} {fr:(Nat→Value)→Array Value} {df:List Deferred} {i:Nat} {o:Oper}
end
section
variable {F:List Value} {fr:(Nat→Value)→Array Value} {df:List Deferred} {ops:Array Oper} {id:Nat} {Q:Exit→Act→World→Prop} {w:World}
end
end Go.Proofs.YtknlbpjcjdenbaaGreat
namespace Go.Proofs.YtknlbpjcjdenbaaGreat
open Go Go.RowKit Go.Maps
set_option linter.unusedVariables false
theorem mine_eq {T T':Nat→Nat} {x:Nat} (h:T' x=T x):mine T' 4 x↔mine T 4 x:=by unfold mine;rw [h]
def wB (lo:Nat) (B:Bn):WP:=⟨fun v w=>∃cs:List Value,v= .agg cs.toArray∧BnV (fun x=>lo≤x) w B (.agg cs.toArray),fun v w w' ⟨cs,h1,h2⟩ hb=>⟨cs,h1,h2.below hb⟩⟩
theorem ex_load27 {o:Oper} {a:Act} {w:World} {b:Nat} {x:Operand} {nm:ByteArray} {n v:Int} (ho:o.op= .load 27 x) (ha:a.eval x= .pointer (some ⟨b,0,none⟩)) (hr:w.rangeAt b 0 (stepC nm n v)):(execOp a.eval o).run Tryz.prog w= .ok (.value (.agg (stepC nm n v).toArray)) w:=by
 unfold execOp
 simp only [ho,ha,Sem.run_bind,run_loadAt_mid w b 0 27 (stepC nm n v) _ hr Tryz.underlying27 rfl info27,Result.andThen_ok,Sem.run_pure]
set_option linter.unusedVariables false
theorem bn0_noB (o:Nat) (x:Int):bn0.toList[o]?≠some (.int .u8 x):=by
 rcases Nat.lt_or_ge o 11 with h|h
 ·have:o=0∨o=1∨o=2∨o=3∨o=4∨o=5∨o=6∨o=7∨o=8∨o=9∨o=10:=by omega
  rcases this with rfl|rfl|rfl|rfl|rfl|rfl|rfl|rfl|rfl|rfl|rfl<;>simp
 ·rw [List.getElem?_eq_none (by simpa using h)];simp
theorem ro_off {A:Nat→Prop} {w:World} {l:List UInt8} {v:Value} {b E:Nat} {zs:List Value} (hz:Blk w b zs E) (hn:∀(o:Nat) (x:Int),zs[o]?≠some (Value.int .u8 x)) (h:RoH A w .u8 l v):RoH (fun x=>A x∧x≠b) w .u8 l v:=by
 obtain ⟨ad,c1,e2,hR⟩:=h.rdb
 obtain ⟨a,c,q1,q2,q3,q4,q5⟩:=h
 refine ⟨a,c,q1,q2,q3,q4,fun k=> ?_⟩
 obtain ⟨g,o,cs,z1,z2,z3⟩:=q5 k
 refine ⟨g,o,cs,z1,⟨z2,fun e=> ?_⟩,z3⟩
 subst e
 rw [e2,z1] at q1
 injection q1 with q1 _ _
 subst q1
 rcases hR.cases with ⟨h1,h2⟩|⟨b',o',hn',h1,hc⟩
 ·subst h2;cases k
 ·injection h1 with h1
  cases h1
  cases l with
  |nil=>cases k
  |cons x l=>
   have h3:=hc 0 (by simp)
   rw [Nat.add_zero,hz.cell] at h3
   exact hn _ _ h3
theorem BnV.off {A:Nat→Prop} {w:World} {B:Bn} {v:Value} {b E:Nat} {zs:List Value} (hz:Blk w b zs E) (hn:∀(o:Nat) (x:Int),zs[o]?≠some (Value.int .u8 x)) (h:BnV A w B v):BnV (fun x=>A x∧x≠b) w B v:=by
 obtain ⟨cs,e,hc,h1⟩:=h
 obtain ⟨_,_,e0,⟨v0,f0,r0⟩,_,_,e1,⟨v1,f1,r1⟩,_,_,e2,⟨v2,f2,r2⟩,_,_,e3,⟨v3,f3,r3⟩,_,_,e4,h4,_,_,e5,⟨v4,f4,r4⟩,_,_,e6,h6,_,_,e7,⟨v5,f5,r5⟩,_,_,e8,⟨v6,f6,r6⟩,hr⟩:=hc
 have m:∀ {l:List UInt8} {v:Value},RoH A w .u8 l v→RoH (fun x=>A x∧x≠b) w .u8 l v:=fun h=>ro_off hz hn h
 exact ⟨cs,e,⟨_,_,e0,⟨v0,f0,m r0⟩,_,_,e1,⟨v1,f1,m r1⟩,_,_,e2,⟨v2,f2,m r2⟩,_,_,e3,⟨v3,f3,m r3⟩,_,_,e4,h4,_,_,e5,⟨v4,f4,m r4⟩,_,_,e6,h6,_,_,e7,⟨v5,f5,m r5⟩,_,_,e8,⟨v6,f6,m r6⟩,hr⟩,h1⟩
theorem ro_noB {A:Nat→Prop} {w:World} {l:List UInt8} {v:Value} (h:RoH A w .u8 l v) (x:Int):v≠Value.int .u8 x:=by
 obtain ⟨a,c,e,_⟩:=h
 rw [e];simp
theorem bn_noB {A:Nat→Prop} {w:World} {B:Bn} {cs:List Value} (h:BnV A w B (.agg cs.toArray)) (o:Nat) (x:Int):cs[o]?≠some (Value.int .u8 x):=by
 obtain ⟨v0,v1,v2,v3,v5,v7,v8,e,r0,r1,r2,r3,r5,r7,r8⟩:=bn_cells h
 obtain rfl:cs= [v0,v1,v2,v3,.int .i64 B.onceId,v5,.int .i64 B.kemId,v7,v8,.bool B.last,.int .i64 B.version]:=congrArg Array.toList (by injection e)
 rcases Nat.lt_or_ge o 11 with h|h
 ·have:o=0∨o=1∨o=2∨o=3∨o=4∨o=5∨o=6∨o=7∨o=8∨o=9∨o=10:=by omega
  rcases this with rfl|rfl|rfl|rfl|rfl|rfl|rfl|rfl|rfl|rfl|rfl
  all_goals (intro h;simp only [List.getElem?_cons_zero,List.getElem?_cons_succ,Option.some.injEq] at h)
  ·exact ro_noB r0 _ h
  ·exact ro_noB r1 _ h
  ·exact ro_noB r2 _ h
  ·exact ro_noB r3 _ h
  ·cases h
  ·exact ro_noB r5 _ h
  ·cases h
  ·exact ro_noB r7 _ h
  ·exact ro_noB r8 _ h
  ·cases h
  ·cases h
 ·rw [List.getElem?_eq_none (by simpa using h)];simp
theorem BnV.put {A:Nat→Prop} {w:World} {B:Bn} {v:Value} {b E:Nat} (hz:Blk w b bn0.toList E) (h:BnV A w B v) (cs:List Value):BnV (fun x=>A x∧x≠b) (w.setRow b cs.toArray) B v:=
 (h.off hz bn0_noB).later fun g _ ha=>⟨setRow_other w b g _ ha.2,ha⟩
def wA (lo:Nat):WP:=⟨fun v w=>∃b,v= .pointer (some ⟨b,0,none⟩)∧lo≤b∧Blk w b bn0.toList 32,fun v w w' ⟨b,h1,h2,h3⟩ hb=>⟨b,h1,h2,h3.below' hb⟩⟩
def M2 (lo:Nat) (B0 B1:Bn) (v3 v4 v5:Value) (W:World):Prop:=∃b4 b5 cs,v4= .pointer (some ⟨b4,0,none⟩)∧v5= .pointer (some ⟨b5,0,none⟩)∧b4≠b5∧lo≤b4∧lo≤b5∧Blk W b4 cs 32∧Blk W b5 bn0.toList 32∧BnV (fun x=>lo≤x∧x≠b4) W B0 (.agg cs.toArray)∧∃ds:List Value,v3= .agg ds.toArray∧BnV (fun x=>lo≤x∧x≠b4) W B1 (.agg ds.toArray)
def P2 (lo:Nat) (B0 B1:Bn) (v4 v5:Value) (W:World):Prop:=∃b4 b5 cs ds,v4= .pointer (some ⟨b4,0,none⟩)∧v5= .pointer (some ⟨b5,0,none⟩)∧b4≠b5∧lo≤b4∧lo≤b5∧Blk W b4 cs 32∧Blk W b5 ds 32∧BnV (fun x=>lo≤x∧x≠b4∧x≠b5) W B0 (.agg cs.toArray)∧BnV (fun x=>lo≤x∧x≠b4∧x≠b5) W B1 (.agg ds.toArray)
structure J2 (w1:World) (B0 B1:Bn) (L:Nat→Bool) (u:Nat→Value) (W:World):Prop where
 old:L 6=false→Below w1.heap.size w1 W
 ne:L 6=false→L 4=true→L 5=true→u 4≠u 5
 mid:L 6=true→L 7=false→Below w1.heap.size w1 W∧M2 w1.heap.size B0 B1 (u 3) (u 4) (u 5) W
 done:L 6=true→L 7=true→Below w1.heap.size w1 W∧P2 w1.heap.size B0 B1 (u 4) (u 5) W
section
variable {w1:World} {B0 B1:Bn} {x0 x2:Value} {ops:Array Oper} {wt:Nat→Nat→Bool} {Q:Exit→Act→World→Prop} {fr:(Nat→Value)→Array Value} {df:List Deferred} {i:Nat} {o:Oper}
abbrev T2 (w1:World) (B0 B1:Bn) (x0 x2:Value):List WP:= [knw x0,wB w1.heap.size B0,knw x2,wB w1.heap.size B1,wA w1.heap.size,wA w1.heap.size]
theorem k2C (hi:i<4) (hp:Path wt 6 i) (hr:∀u W,Below w1.heap.size w1 W→(∀j,wt i j=true→j<6→((T2 w1 B0 B1 x0 x2).getD j kany).P (u j) W)→∀K:Act→World→Prop,Shut (∀v w',Below W.heap.size W w'→((T2 w1 B0 B1 x0 x2).getD i kany).P v w'→K ((⟨fr u,df⟩:Act).put o.dst v) w')→Oper.wp Tryz.prog o ⟨fr u,df⟩ W K Q) (hg:o.guard=none:=by rfl):
  StepAt Tryz.prog ops wt Q fr df (GT 6 (T2 w1 B0 B1 x0 x2)) (J2 w1 B0 B1) i o:=by
 intro L u W hcl hJ hG hL hdep K hK
 rw [if_pos (by simp [Region.wanted,hg])]
 have hn:=notL hcl hp hL
 refine hr u W (hJ.old hn) (fun j hw hj=>(hG j (hdep j hw)).soft hj hn) K (fun v w' hb hv=> ?_)
 refine hK.out _ w' ⟨fun h=>Below.call (hJ.old hn) hb,fun h a4 a5=> ?_,fun h=> ?_,fun h=> ?_⟩ (fun k hk hki hwk h=>GT.keep hki hb h) (GT.here hv)
 ·rw [putL_ne (by omega)] at a4 a5
  rw [putV_ne (by omega),putV_ne (by omega)]
  exact hJ.ne hn a4 a5
 ·rw [putL_ne (by omega),hn] at h;cases h
 ·rw [putL_ne (by omega),hn] at h;cases h
theorem k2P {x:Value} (hi:i<4) (hp:Path wt 6 i) (hT:(T2 w1 B0 B1 x0 x2).getD i kany=knw x) (hr:∀u W,Below w1.heap.size w1 W→(execOp (⟨fr u,df⟩:Act).eval o).run Tryz.prog W= .ok (.value x) W) (hg:o.guard=none:=by rfl):
  StepAt Tryz.prog ops wt Q fr df (GT 6 (T2 w1 B0 B1 x0 x2)) (J2 w1 B0 B1) i o:=
 k2C hi hp (fun u W hb hu K hK=>by
  unfold Oper.wp
  rw [hr u W hb]
  exact hK.out x W (Below.refl _ _) (by rw [hT];rfl)) hg
theorem k2A (hi:i=4∨i=5) (hp:Path wt 6 i) (hr:∀u W,(execOp (⟨fr u,df⟩:Act).eval o).run Tryz.prog W= .ok (.value (.pointer (some ⟨W.heap.size,0,none⟩))) (W.alloc (.cells bn0 32))) (hg:o.guard=none:=by rfl):
  StepAt Tryz.prog ops wt Q fr df (GT 6 (T2 w1 B0 B1 x0 x2)) (J2 w1 B0 B1) i o:=by
 intro L u W hcl hJ hG hL hdep K hK
 rw [if_pos (by simp [Region.wanted,hg])]
 have hn:=notL hcl hp hL
 have hb:Below W.heap.size W (W.alloc (.cells bn0 32)):=(Below.refl _ _).alloc (Nat.le_refl _) _
 have hv:((T2 w1 B0 B1 x0 x2).getD i kany).P (.pointer (some ⟨W.heap.size,0,none⟩)) (W.alloc (.cells bn0 32)):=by
  rcases hi with rfl|rfl<;>exact ⟨_,rfl,(hJ.old hn).size,Blk.new W bn0 32⟩
 have hlt:∀j,j=4∨j=5→L j=true→∃b,u j= .pointer (some ⟨b,0,none⟩)∧b<W.heap.size:=fun j hj hl=>by
  have:=(hG j hl).soft (by omega) hn
  rcases hj with rfl|rfl
  ·obtain ⟨b,e,_,h⟩:=this;exact ⟨b,e,h.lt⟩
  ·obtain ⟨b,e,_,h⟩:=this;exact ⟨b,e,h.lt⟩
 unfold Oper.wp
 rw [hr u W]
 refine hK.out _ _ ⟨fun h=>Below.call (hJ.old hn) hb,fun h a4 a5=> ?_,fun h=> ?_,fun h=> ?_⟩ (fun k hk hki hwk h=>GT.keep hki hb h) (GT.here hv)
 ·rcases hi with rfl|rfl
  ·rw [putL_ne (by omega)] at a5
   rw [putV_same,putV_ne (by omega)]
   obtain ⟨b,e,h1⟩:=hlt 5 (.inr rfl) a5
   rw [e]
   intro e2
   injection e2 with e2;injection e2 with e2;injection e2 with e2
   omega
  ·rw [putL_ne (by omega)] at a4
   rw [putV_same,putV_ne (by omega)]
   obtain ⟨b,e,h1⟩:=hlt 4 (.inl rfl) a4
   rw [e]
   intro e2
   injection e2 with e2;injection e2 with e2;injection e2 with e2
   omega
 ·rw [putL_ne (by omega),hn] at h;cases h
 ·rw [putL_ne (by omega),hn] at h;cases h
theorem k2S {x y:Operand} (ho:o.op= .store 32 x y) (hd:o.dst=none) (hp:∀j,j<6→Path wt 6 j) (h7:wt 7 6=true) (hx:∀u,(⟨fr u,df⟩:Act).eval x=u 4) (hy:∀u,(⟨fr u,df⟩:Act).eval y=u 1) (hg:o.guard=none:=by rfl):
  StepAt Tryz.prog ops wt Q fr df (GT 6 (T2 w1 B0 B1 x0 x2)) (J2 w1 B0 B1) 6 o:=by
 intro L u W hcl hJ hG hL hdep K hK
 rw [if_pos (by simp [Region.wanted,hg])]
 have hs:∀j,j<6→L j=true:=fun j hj=>(hp j hj).first hcl hdep
 have n7:L 7=false:=by
  cases h:L 7 with
  |false=>rfl
  |true=>rw [hcl 7 6 h h7] at hL;cases hL
 obtain ⟨b4,e4,h4,k4⟩:=(hG 4 (hs 4 (by omega))).soft (by omega) hL
 obtain ⟨b5,e5,h5,k5⟩:=(hG 5 (hs 5 (by omega))).soft (by omega) hL
 obtain ⟨cs,e1,k1⟩:=(hG 1 (hs 1 (by omega))).soft (by omega) hL
 obtain ⟨ds,e3,k3⟩:=(hG 3 (hs 3 (by omega))).soft (by omega) hL
 have hne:b4≠b5:=fun e=>hJ.ne hL (hs 4 (by omega)) (hs 5 (by omega)) (by rw [e4,e5,e])
 have hl:=bn_len k1
 refine wp_store_row 32 x y ho b4 cs.toArray ((hx u).trans e4) ((hy u).trans e1) 32 bn0 k4 (by rw [info32];simp [hl]) (by simp [hl]) (bn_one k1) ?_
 refine hK.out undef _ ⟨fun h=> ?_,fun h=> ?_,fun _ h=> ?_,fun _ h=> ?_⟩ (fun k hk hki hwk h=>⟨fun _ hl=> ?_,fun hkn x e=>by rw [putV_ne hki];exact h.val hkn x e⟩) ⟨fun h=>absurd h (Nat.lt_irrefl _),fun h=>absurd h (Nat.lt_irrefl _)⟩
 ·rw [putL_same] at h;cases h
 ·rw [putL_same] at h;cases h
 ·refine ⟨below_setRow (hJ.old hL) h4 _,b4,b5,cs,?_,?_,hne,h4,h5,setRow_blk k4,(setRow_other W b4 b5 _ (Ne.symm hne)).trans k5,k1.put k4 cs,ds,?_,k3.put k4 cs⟩
  ·rw [putV_ne (by omega)];exact e4
  ·rw [putV_ne (by omega)];exact e5
  ·rw [putV_ne (by omega)];exact e3
 ·rw [putL_ne (by omega),n7] at h;cases h
 ·rw [putL_same] at hl;cases hl
theorem k2Z {x y:Operand} (ho:o.op= .store 32 x y) (hd:o.dst=none) (h6:wt 7 6=true) (hx:∀u,(⟨fr u,df⟩:Act).eval x=u 5) (hy:∀u,(⟨fr u,df⟩:Act).eval y=u 3) (hg:o.guard=none:=by rfl):
  StepAt Tryz.prog ops wt Q fr df (GT 6 (T2 w1 B0 B1 x0 x2)) (J2 w1 B0 B1) 7 o:=by
 intro L u W hcl hJ hG hL hdep K hK
 rw [if_pos (by simp [Region.wanted,hg])]
 have l6:=hdep 6 h6
 obtain ⟨hbw,b4,b5,cs,e4,e5,hne,h4,h5,k4,k5,k1,ds,e3,k3⟩:=hJ.mid l6 hL
 have hl:=bn_len k3
 refine wp_store_row 32 x y ho b5 ds.toArray ((hx u).trans e5) ((hy u).trans e3) 32 bn0 k5 (by rw [info32];simp [hl]) (by simp [hl]) (bn_one k3) ?_
 refine hK.out undef _ ⟨fun h=> ?_,fun h=> ?_,fun _ h=> ?_,fun _ _=> ?_⟩ (fun k hk hki hwk h=>⟨fun hk hl=> ?_,fun hkn x e=>by rw [putV_ne hki];exact h.val hkn x e⟩) ⟨fun h=>absurd h (by omega),fun h=>absurd h (by omega)⟩
 ·rw [putL_ne (by omega),l6] at h;cases h
 ·rw [putL_ne (by omega),l6] at h;cases h
 ·rw [putL_same] at h;cases h
 ·refine ⟨below_setRow hbw h5 _,b4,b5,cs,ds,?_,?_,hne,h4,h5,(setRow_other W b5 b4 _ hne).trans k4,setRow_blk k5,?_,?_⟩
  ·rw [putV_ne (by omega)];exact e4
  ·rw [putV_ne (by omega)];exact e5
  ·exact (k1.put k5 ds).later fun _ _ h=>⟨rfl,h.1.1,h.1.2,h.2⟩
  ·exact (k3.put k5 ds).later fun _ _ h=>⟨rfl,h.1.1,h.1.2,h.2⟩
 ·rw [putL_ne (by omega),l6] at hl;cases hl
end
section
variable {F:List Value} {fr:(Nat→Value)→Array Value} {df:List Deferred} {ops:Array Oper} {id:Nat} {Q:Exit→Act→World→Prop} {w:World}
theorem rgTwo (p:List (Nat×Nat)) (B0 B1:Bn) (x0 x2:Value)
  (hsteps:AllSteps Tryz.prog ops (waitsOn .any ops) Q fr df (GT 6 (T2 w B0 B1 x0 x2)) (J2 w B0 B1) 0 ops.toList)
  (hdone:∀u W,Below w.heap.size w W→P2 w.heap.size B0 B1 (u 4) (u 5) W→Q .normal ⟨fr u,df⟩ W)
  (hF:∀u,(mrg F p u).toArray=fr u:=by intro u;dsimp only [mrg];try exact rfl)
  (hc:okP p ops=true:=by kernel_rfl) (hn:ops.size=8:=by kernel_rfl) (hm:Tryz.prog.follows .mixedOrders=true:=by kernel_rfl) (he:earlier .any ops=true:=by kernel_rfl):(Code.region id ops true).wp Tryz.prog Q ⟨F.toArray,df⟩ w:=by
 obtain ⟨u0,hu⟩:=mrg_self p F (by simp only [okP,Bool.and_eq_true] at hc;exact hc.1)
 exact wp_region_mid (a:=⟨F.toArray,df⟩) fr (GT 6 (T2 w B0 B1 x0 x2)) (J2 w B0 B1) u0 hm he (okP_put hc hF) (by rw [←hF,hu]) ⟨fun _=>(Below.refl _ _).drew,fun _ h=>(by cases h),fun h=>(by cases h),fun h=>(by cases h)⟩ soft_GT (fun _=>hsteps)
  (fun L u W hall hJ hG=>by
   obtain ⟨h1,h2⟩:=hJ.done (hall 6 (by omega)) (hall 7 (by omega))
   exact hdone u W h1 h2)
end
end Go.Proofs.YtknlbpjcjdenbaaGreat
namespace Go.Proofs.YtknlbpjcjdenbaaGreat
open Go Go.RowKit
set_option maxRecDepth 10000
set_option linter.unusedVariables false
theorem OPSm:OpsOk TYQ (ctOf []):=opsOk TYQok (ctOk fun p hp=>by cases hp)
theorem noD {p:Prop} [Decidable p] {q:Prop} (h:decide p=false) (hp:p:=by rfl):q:=absurd hp (of_decide_eq_false h)
theorem noB {α:Type} [BEq α] [ReflBEq α] {x:α} {q:Prop} (h:(x ==x)=false):q:=by simp at h
set_option maxHeartbeats 8000000 in
theorem vcSame (B:Bn):vc TYQ (ctOf []) Tryz.f15.ntmps (bodyOf Tryz.f15) ⟨mkSl 0 [B.av,B.av],[],2000⟩ (retR TYQ Tryz.f15.ntmps [.tmp 4] [.one (.ob .bool true)] []):=by
 refine ⟨fun h0=> ?_,fun h=>noD h⟩
 refine ⟨fun h1=> ?_,fun h=>noB h⟩
 refine ⟨fun h2=> ?_,fun h=>noB h⟩
 refine ⟨fun h3=> ?_,fun h=>noB h⟩
 refine ⟨fun h4=> ?_,fun h=>noB h⟩
 refine ⟨fun h5=> ?_,fun h=>noD h⟩
 refine ⟨fun h6=> ?_,fun h=>noB h⟩
 refine ⟨fun h7=> ?_,fun h=>noD h⟩
 refine ⟨fun h8=> ?_,fun h=>noB h⟩
 refine ⟨fun h9=> ?_,fun h=>noB h⟩
 refine ⟨h0,h1,h2,h3,h4,h5,h6,h7,h8,h9,?_,trivial⟩
 show [true]= [_]
 simp
def gSame:GF:=fun l=>match l with
 | [.agg [.ro .u8 a,.ro .u8 b,.ro .u8 c,.ro .u8 d,.ob .int e,.ro .u8 p,.ob .int q,.ro .u8 h,.ro .u8 i,.ob .bool j,.ob .int k],.agg [.ro .u8 a1,.ro .u8 b1,.ro .u8 c1,.ro .u8 d1,.ob .int e1,.ro .u8 p1,.ob .int q1,.ro .u8 h1,.ro .u8 i1,.ob .bool j1,.ob .int k1]]=>some ⟨[.one (.ob .bool true)],[],some ((⟨a,b,c,d,e,p,q,h,i,j,k⟩:Bn)=⟨a1,b1,c1,d1,e1,p1,q1,h1,i1,j1,k1⟩)⟩
 |_=>none
theorem same_sound:CSound 15 (cfA gSame):=cfR_sound TYQok OPSm Tryz.func15 (by kernel_rfl) rfl (rs:= [.tmp 4]) Tryz.results15 fun l g h hp=>by
 unfold gSame at h
 split at h
 ·cases h;exact ⟨Nat.le_of_ble_eq_true rfl,rfl,rfl,rfl,by cases hp;exact vcSame ⟨_,_,_,_,_,_,_,_,_,_,_⟩⟩
 ·cases h
def GWw (T:List WP) (i:Nat) (_L:Nat→Bool) (u:Nat→Value) (W:World):Prop:=(T.getD i kany).P (u i) W
def JWw (w1:World) (_L:Nat→Bool) (_u:Nat→Value) (W:World):Prop:=Below w1.heap.size w1 W
section
variable {w1:World} {T:List WP} {ops:Array Oper} {wt:Nat→Nat→Bool} {Q:Exit→Act→World→Prop} {fr:(Nat→Value)→Array Value} {df:List Deferred} {i:Nat} {o:Oper}
theorem soft_GWw:Soft wt (GWw T):=⟨fun _ _ _ _ _ _ hki _ h=>by unfold GWw at *;rw [putV_ne hki];exact h,fun _ _ _ _ _ hb h=>(T.getD _ kany).st _ _ _ h hb⟩
theorem kwC (hr:∀u W,Below w1.heap.size w1 W→(∀j,wt i j=true→(T.getD j kany).P (u j) W)→∀K:Act→World→Prop,Shut (∀v w',Below W.heap.size W w'→(T.getD i kany).P v w'→K ((⟨fr u,df⟩:Act).put o.dst v) w')→Oper.wp Tryz.prog o ⟨fr u,df⟩ W K Q) (hg:o.guard=none:=by rfl):
  StepAt Tryz.prog ops wt Q fr df (GWw T) (JWw w1) i o:=by
 intro L u W hcl hJ hG hL hdep K hK
 rw [if_pos (by simp [Region.wanted,hg])]
 refine hr u W hJ (fun j hw=>hG j (hdep j hw)) K (fun v w' hb hv=> ?_)
 exact hK.out _ w' (Below.call hJ hb) (fun k hk hki hwk h=>by unfold GWw at *;rw [putV_ne hki];exact (T.getD k kany).st _ _ _ h hb) (by unfold GWw;rw [putV_same];exact hv)
theorem kwM (hr:∀u W,Below w1.heap.size w1 W→(∀j,wt i j=true→(T.getD j kany).P (u j) W)→∃v W',(execOp (⟨fr u,df⟩:Act).eval o).run Tryz.prog W= .ok (.value v) W'∧(T.getD i kany).P v W'∧Below W.heap.size W W') (hg:o.guard=none:=by rfl):
  StepAt Tryz.prog ops wt Q fr df (GWw T) (JWw w1) i o:=
 kwC (fun u W hb hu K hK=>by
  obtain ⟨v,W',hrun,hv,hb'⟩:=hr u W hb hu
  unfold Oper.wp
  rw [hrun]
  exact hK.out v W' hb' hv) hg
theorem kwP {x:Value} (hT:T.getD i kany=knw x) (hr:∀u W,Below w1.heap.size w1 W→(∀j,wt i j=true→(T.getD j kany).P (u j) W)→(execOp (⟨fr u,df⟩:Act).eval o).run Tryz.prog W= .ok (.value x) W) (hg:o.guard=none:=by rfl):
  StepAt Tryz.prog ops wt Q fr df (GWw T) (JWw w1) i o:=
 kwM (fun u W hb hu=>⟨x,W,hr u W hb hu,by rw [hT];rfl,Below.refl _ _⟩) hg
end
section
variable {F:List Value} {fr:(Nat→Value)→Array Value} {df:List Deferred} {ops:Array Oper} {id:Nat} {Q:Exit→Act→World→Prop} {w:World}
theorem rgW (n:Nat) (p:List (Nat×Nat)) (T:List WP)
  (hsteps:AllSteps Tryz.prog ops (waitsOn .any ops) Q fr df (GWw T) (JWw w) 0 ops.toList)
  (hdone:∀u W,Below w.heap.size w W→(∀k,k<n→(T.getD k kany).P (u k) W)→Q .normal ⟨fr u,df⟩ W)
  (hF:∀u,(mrg F p u).toArray=fr u:=by intro u;dsimp only [mrg];try exact rfl)
  (hc:okP p ops=true:=by kernel_rfl) (hn:ops.size=n:=by kernel_rfl) (hm:Tryz.prog.follows .mixedOrders=true:=by kernel_rfl) (he:earlier .any ops=true:=by kernel_rfl):(Code.region id ops true).wp Tryz.prog Q ⟨F.toArray,df⟩ w:=by
 obtain ⟨u0,hu⟩:=mrg_self p F (by simp only [okP,Bool.and_eq_true] at hc;exact hc.1)
 exact wp_region_mid (a:=⟨F.toArray,df⟩) fr (GWw T) (JWw w) u0 hm he (okP_put hc hF) (by rw [←hF,hu]) (Below.refl _ _).drew soft_GWw (fun _=>hsteps)
  (fun L u W hall hJ hG=>hdone u W hJ (fun k hk=>hG k (by omega)))
end
end Go.Proofs.YtknlbpjcjdenbaaGreat
namespace Go.Proofs.YtknlbpjcjdenbaaGreat
open Go Go.RowKit Go.Maps
set_option linter.unusedVariables false
theorem bn_sv {A:Nat→Prop} {w:World} {B:Bn} {cs:List Value} (h:BnV A w B (.agg cs.toArray)):∃y,cs[0]?=some y∧RoH A w .u8 B.sign y∧cs[10]?=some (.int .i64 B.version):=by
 obtain ⟨v0,v1,v2,v3,v5,v7,v8,e,r0,_⟩:=bn_cells h
 obtain rfl:cs= [v0,v1,v2,v3,.int .i64 B.onceId,v5,.int .i64 B.kemId,v7,v8,.bool B.last,.int .i64 B.version]:=congrArg Array.toList (by injection e)
 exact ⟨v0,rfl,r0,rfl⟩
theorem ent_first {cs:List Value} {so:Value} {mo mk k:Nat} (hl:cs.length=11) (hk:k<11):(ent3 cs so mo mk)[k]?=cs[k]?:=List.getElem?_append_left (by omega)
theorem there_first {w:World} {b mo mk:Nat} {cs ys:List Value} {so:Value} (h:Blk w b (ent3 cs so mo mk) 68) (hl:cs.length=11) (hy:ys.length=11):w.there b 0 ys.toArray.size:=fun j hj=>by
 have hj:j<11:=by simpa [hy] using hj
 rw [Nat.zero_add]
 refine ⟨?_,h.frozen j⟩
 rw [h.cell,ent_first hl hj,List.getElem?_eq_getElem (by omega)];rfl
def stayB (base B:Bn):Bool:=decide (B.medium=base.medium)&&decide (B.version=base.version)
set_option maxHeartbeats 8000000 in
theorem reg_old (s:ByteArray) (hm:s.size≤1000) (hnb:nameB s=true) {w:World} {A:Nat→Prop} {T:Nat→Nat} {t N g mb m b mo mk:Nat} {D Do Dk:DataW Value} {e:En} {cs0 xs cs:List Value} {so:Value} {B:Bn} (hE:Ent w g mb m D) (hp:entP D s (some ⟨b,0,none⟩)) (hX:EnX w T t N b e cs0 so xs mo mk Do Dk) (ht:0<t) (hTg:¬mine T t g) (hTm:¬mine T t mb)
  (hB:BnV A w B (.agg cs.toArray)) (hAm:∀x,A x→¬mine T t x) (h1:B.onceId=0) (h2:B.kemId=0) (h3:verB B 1=0) (hs:B.fine)
  (hdel:∀(W:World) (pb:Nat),Fr (mine T t) w W→w.heap.size≤pb→Blk W pb cs 32→BnV A W B (.agg cs.toArray)→W.ownsRow 0 32 11 so e.once.length xs→RowsB (fun x=>T x=0) W xs e.once→Calls Tryz.prog 28 #[so,.func (.func 29) #[] #[.pointer (some ⟨pb,0,none⟩)]] W fun r w'=>∃so' xs',r= .returned so'∧w'.ownsRow 0 32 11 so' (e.once.filter (stayB B)).length xs'∧RowsB (fun x=>T x=0∧x<w.heap.size) w' xs' (e.once.filter (stayB B))∧Fr (fun x=>so.ownBlock=some x) W w'∧∀x,so'.ownBlock=some x→so.ownBlock=some x):
  Calls Tryz.prog 10 #[.pointer (some ⟨g,0,none⟩),.string s,.agg cs.toArray] w fun r w'=>(e.base.sign≠B.sign→r= .returned (.int .i64 3)∧Below w.heap.size w w')∧(e.base.sign=B.sign→B.version<e.base.version→r= .returned (.int .i64 4)∧Below w.heap.size w w')∧
   (e.base.sign=B.sign→¬B.version<e.base.version→r= .returned (.int .i64 0)∧∃T',(∀x,x<w.heap.size→T' x=T x)∧EnH w' T' t N b ⟨B,e.once.filter (stayB B),e.onces,e.kems⟩∧Fr (mine T t) w w'∧∀x,w'.heap.size≤x→¬mine T' t x):=by
 have hlen:=bn_len hB
 have hl0:=bn_len hX.base
 have hlk1:∀W,Below w.heap.size w W→(Instr.lookup 58 (.map (some mb)) (.string s) false).run Tryz.prog W= .ok (.pointer (some ⟨b,0,none⟩)) W:=fun W hb=>ent_look (ownsMap_to hE.map (hb.block mb hE.map.lt) (Nat.le_refl _)) hm hp
 have HLK:=Lib.hid hlk1
 have HBV:=Lib.hid hB
 have HM:=Lib.hid hm
 have HNB:=Lib.hid hnb
 have HE:=Lib.hid hE
 have HX:=Lib.hid hX
 have HT:=Lib.hid ht
 have HTG:=Lib.hid hTg
 have HTM:=Lib.hid hTm
 have HAM:=Lib.hid hAm
 have HV:=Lib.hid h3
 have HS:=Lib.hid hs
 have HLEN:=Lib.hid hlen
 have HL0:=Lib.hid hl0
 have HDEL:=Lib.hid hdel
 obtain ⟨wa,hwa⟩:∃wa,wa=w.alloc (.cells cs.toArray 32):=⟨_,rfl⟩
 have hba:Below w.heap.size w wa:=by rw [hwa];exact Below.alloc' (Below.refl _ _) _
 have hPB:Blk wa w.heap.size cs 32:=by rw [hwa];exact Blk.new w _ _
 obtain ⟨hc4,hc6⟩:=bn_ids hB hPB
 rw [h1] at hc4
 rw [h2] at hc6
 have HPB:=Lib.hid hPB
 have HBA:=Lib.hid hba
 have hrg:=hPB.rng
 obtain ⟨y0,hy0,hry,hy10⟩:=bn_sv hB
 obtain ⟨z0,hz0,hrz,hz10⟩:=bn_sv hX.base
 have HY0:=Lib.hid hy0
 have HY10:=Lib.hid hy10
 have HZ0:=Lib.hid (show (ent3 cs0 so mo mk)[0]?=some z0 from (ent_first hl0 (by decide)).trans hz0)
 have HZ10:=Lib.hid (show (ent3 cs0 so mo mk)[10]?=some (.int .i64 e.base.version) from (ent_first hl0 (by decide)).trans hz10)
 have HRY0:=Lib.hid hry
 have HRZ0:=Lib.hid hrz
 clear hlk1 hm hnb hE hp hX ht hTg hTm hB hAm h1 h2 h3 hs hdel hlen hl0 hba hPB hy0 hry hy10 hz0 hrz hz10
 go_enter Tryz.func10,Tryz.ntmps10
 go_upto_region 1 with fail
 rw [←hwa]
 clear hwa
 go_upto_region 4 with (first|(go_at_call 20;go_must (refine (sname_any s HM.out _).mono ?_;rintro r w1 ⟨rfl,rfl⟩;rw [HNB.out]))|(refine wpList_load_mid rfl 32 (.tmp 5) rfl w.heap.size 0 rfl cs _ hrg Tryz.underlying32 rfl (by rw [info32,HLEN.out]) ?_)|(go_at_call 25;go_must (refine (ver_call (HBV.out.below HBA.out) 1).mono ?_;rintro r w1 ⟨rfl,hb1⟩;rw [HV.out];have HB1:=Lib.hid hb1;clear hb1)))
 have hbw:Below w.heap.size w w1:=HBA.out.trans (HB1.out.mono HBA.out.size)
 have hcg:=(HE.out.top.below' hbw).cell 0
 have hlk:=HLK.out w1 hbw
 obtain ⟨pb,hpb⟩:∃pb,pb=w.heap.size:=⟨_,rfl⟩
 have HPBE:=Lib.hid hpb
 have HPB:Hid (Blk w1 pb cs 32):=Lib.hid (by rw [hpb];exact HPB.out.below' HB1.out)
 have HXB:Hid (Blk w1 b (ent3 cs0 so mo mk) 68):=Lib.hid (HX.out.blk.below' hbw)
 have HBW:=Lib.hid hbw
 have HRZ:Hid (∀W,Below w1.heap.size w1 W→RoH (fun x=>T x=0) W .u8 e.base.sign z0):=Lib.hid fun W hb=>RoH.later (η:=E0) (η':=E0) ⟨fun _ _ h=>h,fun x hx ha=>⟨(hbw.trans (hb.mono hbw.size)).block x hx,ha⟩⟩ HRZ0.out
 have HRY:Hid (∀W,Below w1.heap.size w1 W→RoH A W .u8 B.sign y0):=Lib.hid fun W hb=>RoH.later (η:=E0) (η':=E0) ⟨fun _ _ h=>h,fun x hx ha=>⟨(hbw.trans (hb.mono hbw.size)).block x hx,ha⟩⟩ HRY0.out
 rw [←hpb]
 clear hpb hbw hc4 hc6 hrg
 go_upto_region 10 with fail
 refine rgW 10 [(37,9),(0,0),(0,1),(0,2),(0,3),(0,4),(0,5),(0,6),(0,7),(0,8)] [knw (.pointer (some ⟨b,0,none⟩)),knw (.pointer (some ⟨b,0,none⟩)),knw (.pointer (some ⟨b,0,none⟩)),knw (.pointer (some ⟨b,0,none⟩)),knw (z0),knw (.pointer (some ⟨pb,0,none⟩)),knw (y0),knw (.bool (decide (e.base.sign=B.sign))),knw (.bool (!decide (e.base.sign=B.sign))),knw (.bool (!decide (e.base.sign=B.sign)))] ?_ (fun u6 W6 hb6 hv=> ?_)
 ·refine ⟨?_,?_,?_,?_,?_,?_,?_,?_,?_,?_,trivial⟩
  ·refine kwP (by rfl) (fun u W hb hu=> ?_)
   go_simp
  ·refine kwP (by rfl) (fun u W hb hu=> ?_)
   have e0:u 0= .pointer (some ⟨b,0,none⟩):=hu 0 (by kernel_rfl)
   go_simp
  ·refine kwP (by rfl) (fun u W hb hu=> ?_)
   have e1:u 1= .pointer (some ⟨b,0,none⟩):=hu 1 (by kernel_rfl)
   go_simp
  ·refine kwP (by rfl) (fun u W hb hu=> ?_)
   have e2:u 2= .pointer (some ⟨b,0,none⟩):=hu 2 (by kernel_rfl)
   go_simp
  ·refine kwP (by rfl) (fun u W hb hu=> ?_)
   have e3:u 3= .pointer (some ⟨b,0,none⟩):=hu 3 (by kernel_rfl)
   have hcx:W.cell? ⟨b,0,none⟩=some z0:=((HXB.out.below' hb).cell 0).trans HZ0.out
   go_simp
  ·refine kwP (by rfl) (fun u W hb hu=> ?_)
   go_simp
  ·refine kwP (by rfl) (fun u W hb hu=> ?_)
   have e5:u 5= .pointer (some ⟨pb,0,none⟩):=hu 5 (by kernel_rfl)
   have hcx:W.cell? ⟨pb,0,none⟩=some y0:=((HPB.out.below' hb).cell 0).trans HY0.out
   go_simp
  ·refine kwC (fun u W hb hu K hK=> ?_)
   have e4:u 4=z0:=hu 4 (by kernel_rfl)
   have e6:u 6=y0:=hu 6 (by kernel_rfl)
   go_simp
   go_at_call 26
   refine (equal_call (HRZ.out W hb) (HRY.out W hb)).mono ?_
   rintro r w6 ⟨rfl,hb6⟩
   have hk9:=hK.out _ w6 hb6 rfl
   first |exact hk9|(simp only [e4,e6] at hk9;exact hk9)
  ·refine kwP (by rfl) (fun u W hb hu=> ?_)
   have e7:u 7= .bool (decide (e.base.sign=B.sign)):=hu 7 (by kernel_rfl)
   go_simp
  ·refine kwP (by rfl) (fun u W hb hu=> ?_)
   have e7:u 7= .bool (decide (e.base.sign=B.sign)):=hu 7 (by kernel_rfl)
   have e8:u 8= .bool (!decide (e.base.sign=B.sign)):=hu 8 (by kernel_rfl)
   go_simp
 have e9:u6 9= .bool (!decide (e.base.sign=B.sign)):=hv 9 (by omega)
 have HB6:=Lib.hid hb6
 have HPB2:=Lib.hid (HPB.out.below' hb6)
 have HXB2:=Lib.hid (HXB.out.below' hb6)
 clear hb6 hv hcg hlk
 by_cases hsg:e.base.sign=B.sign
 ·have d1:(!decide (e.base.sign=B.sign))=false:=by rw [decide_eq_true hsg];rfl
  rw [d1] at e9
  rw [e9]
  have HSG:=Lib.hid hsg
  clear hsg d1
  go_upto_region 12 with fail
  refine rgW 9 [(47,8),(0,0),(0,1),(0,2),(0,3),(0,4),(0,5),(0,6),(0,7)] [knw (.pointer (some ⟨pb,10,none⟩)),knw (.int .i64 B.version),knw (.pointer (some ⟨b,0,none⟩)),knw (.pointer (some ⟨b,0,none⟩)),knw (.pointer (some ⟨b,0,none⟩)),knw (.pointer (some ⟨b,10,none⟩)),knw (.int .i64 e.base.version),knw (.bool (decide (B.version<e.base.version))),knw (.bool (decide (B.version<e.base.version)))] ?_ (fun u7 W7 hb7 hv7=> ?_)
  ·refine ⟨?_,?_,?_,?_,?_,?_,?_,?_,?_,trivial⟩
   ·refine kwP (by rfl) (fun u W hb hu=> ?_)
    go_simp
   ·refine kwP (by rfl) (fun u W hb hu=> ?_)
    have e0:u 0= .pointer (some ⟨pb,10,none⟩):=hu 0 (by kernel_rfl)
    have hcx:W.cell? ⟨pb,10,none⟩=some (.int .i64 B.version):=((HPB2.out.below' hb).cell 10).trans HY10.out
    go_simp
   ·refine kwP (by rfl) (fun u W hb hu=> ?_)
    go_simp
   ·refine kwP (by rfl) (fun u W hb hu=> ?_)
    have e2:u 2= .pointer (some ⟨b,0,none⟩):=hu 2 (by kernel_rfl)
    go_simp
   ·refine kwP (by rfl) (fun u W hb hu=> ?_)
    have e3:u 3= .pointer (some ⟨b,0,none⟩):=hu 3 (by kernel_rfl)
    go_simp
   ·refine kwP (by rfl) (fun u W hb hu=> ?_)
    have e4:u 4= .pointer (some ⟨b,0,none⟩):=hu 4 (by kernel_rfl)
    go_simp
   ·refine kwP (by rfl) (fun u W hb hu=> ?_)
    have e5:u 5= .pointer (some ⟨b,10,none⟩):=hu 5 (by kernel_rfl)
    have hcx:W.cell? ⟨b,10,none⟩=some (.int .i64 e.base.version):=((HXB2.out.below' hb).cell 10).trans HZ10.out
    go_simp
   ·refine kwP (by rfl) (fun u W hb hu=> ?_)
    have e1:u 1= .int .i64 B.version:=hu 1 (by kernel_rfl)
    have e6:u 6= .int .i64 e.base.version:=hu 6 (by kernel_rfl)
    go_simp
   ·refine kwP (by rfl) (fun u W hb hu=> ?_)
    have e7:u 7= .bool (decide (B.version<e.base.version)):=hu 7 (by kernel_rfl)
    go_simp
  have e8:u7 8= .bool (decide (B.version<e.base.version)):=hv7 8 (by omega)
  have HB7:=Lib.hid (Below.call (Below.call HBW.out HB6.out) hb7)
  have HPB3:=Lib.hid (HPB2.out.below' hb7)
  have HXB3:=Lib.hid (HXB2.out.below' hb7)
  clear hb7 hv7
  by_cases hvv:B.version<e.base.version
  ·rw [decide_eq_true hvv] at e8
   rw [e8]
   have HVV:=Lib.hid hvv
   clear hvv
   go_wp2
   go_ret
   exact ⟨fun h=>absurd HSG.out h,fun _ _=>⟨rfl,HB7.out⟩,fun _ h=>absurd HVV.out (by omega)⟩
  ·rw [decide_eq_false hvv] at e8
   rw [e8]
   have HVV:=Lib.hid hvv
   clear hvv
   have hrp:=HPB3.out.rng
   go_upto_region 14 with fail
   go_upto_region 15 with (first|(refine wpList_load_mid rfl 32 (.tmp 5) rfl pb 0 rfl cs _ hrp Tryz.underlying32 rfl (by rw [info32,HLEN.out]) ?_)|(go_at_call 27;go_must (refine (own_call (HBV.out.below HB7.out) HS.out.1).mono ?_;rintro r w8 ⟨v8,rfl,hb8,hz8⟩;obtain ⟨ys,rfl⟩:∃ys:List Value,v8= .agg ys.toArray:=(by obtain ⟨y,e,_⟩:=hz8;exact ⟨y,e⟩);have hl8:=bn_len hz8;have hi8:(Tryz.prog.info? 32).map (·.size)=some ys.toArray.size:=(by rw [info32];simp [hl8]);have h81:=bn_one hz8;have HX8:=Lib.hid (HXB3.out.below' hb8);have ht8:=there_first HX8.out HL0.out hl8;have HZ8:=Lib.hid hz8;have HB8:=Lib.hid hb8;clear hz8 hb8))|(refine wpList_store_mid rfl 32 _ _ rfl b 0 ys.toArray rfl rfl ht8 hi8 h81 ?_))
   have hX:=HX.out
   have htt:=HT.out
   have hmb:mine T t b:=by unfold mine;rw [hX.tb];omega
   have hsob:so.ownBlock≠some b:=fun h=>by have h1:=hX.tq b h;rw [hX.tb] at h1;omega
   have hbl:=hX.lt
   obtain ⟨w9,hw9⟩:∃w9,w9=w8.setCells b 0 ys.toArray.toList:=⟨_,rfl⟩
   have hX9:Blk w9 b (ent3 ys so mo mk) 68:=by
    have h1:=setCells_blk (ds:=ys) (o:=0) HX8.out (by rw [List.length_append,HL0.out,hl8];simp)
    rw [hw9]
    rw [List.take_zero,List.nil_append,Nat.zero_add,hl8,←HL0.out,List.drop_left] at h1
    exact h1
   have hf8:Fr (fun _=>False) w w8:=(Fr.of_below HB7.out).call HB8.out
   have hf9:Fr (fun x=>x=b) w w9:=by rw [hw9];exact Fr.setCells (F:=fun x=>x=b) (hf8.mono fun _ h=>h.elim) (.inl rfl)
   have hf89:Fr (fun x=>x=b) w8 w9:=by rw [hw9];exact Fr.setCells (F:=fun x=>x=b) (Fr.refl _ _) (.inl rfl)
   have hpbn:pb≠b:=by have:=HPBE.out;omega
   have hc11:=hX9.cell11 hl8
   have HD:=HDEL.out w9 pb (hf9.mono fun x hx=> .inl (by have hx:x=b:=hx;rw [hx];exact hmb)) (Nat.le_of_eq HPBE.out.symm) (hf89.blk (HPB3.out.below' HB8.out) hpbn) (HBV.out.later fun x hx ha=>⟨hf9.block x hx fun h=>HAM.out x ha (by have h:x=b:=h;rw [h];exact hmb),ha⟩) (ownsRow_to hX.row fun x hx=>hf9.block x (hX.row.lt x hx).2 fun h=>hsob (by have h:x=b:=h;rw [←h];exact hx)) (hX.rows.later fun x hx ha=>⟨hf9.block x hx fun h=>by have h:x=b:=h;rw [h,hX.tb] at ha;omega,ha⟩)
   have HDL:=Lib.hid HD
   have HX9:=Lib.hid hX9
   have HF9:=Lib.hid hf9
   have HF89:=Lib.hid hf89
   have HSOB:=Lib.hid hsob
   rw [←hw9]
   clear hX htt hmb hsob hbl hw9 hX9 hf8 hf9 hf89 hpbn HD hi8 h81 ht8 hrp HDEL
   go_upto_region 16 with (go_at_call 28;go_must (refine HDL.out.mono ?_;rintro r w10 ⟨so',xs',rfl,ho10,hr10,hf10,hs10⟩;obtain ⟨a',n',c',rfl⟩:=own_one8 ho10;have hX10:=hf10.blk HX9.out HSOB.out;have hc10:=hX10.cell11 hl8;have hz10:=hX10.frozen 11;have HO10:=Lib.hid ho10;have HR10:=Lib.hid hr10;have HF10:=Lib.hid hf10;have HS10:=Lib.hid hs10;have HX10:=Lib.hid hX10;clear ho10 hr10 hf10 hs10 hX10))
   go_wp2
   go_ret
   have hX:=HX.out
   have htt:=HT.out
   refine ⟨fun h=>absurd HSG.out h,fun _ h=>absurd h (Int.not_lt.2 HVV.out),fun _ _=>⟨rfl,fresh0 w T,fun x hx=>if_pos hx,?_⟩⟩
   obtain ⟨w11,hw11⟩:∃w11,w11=w10.setCell ⟨b,11,none⟩ (.slice a' n' c'):=⟨_,rfl⟩
   have hX11:Blk w11 b (ent3 ys (.slice a' n' c') mo mk) 68:=by rw [hw11];exact HX10.out.set11 hl8
   have hn11:∀x,x≠b→w11.heap[x]?=w10.heap[x]?:=fun x hn=>by rw [hw11];exact Below.heap_setCell w10 ⟨b,11,none⟩ _ x hn
   have hfa:Fr (fun x=>so.ownBlock=some x∨x=b) w w11:=by
    rw [hw11]
    exact Fr.setCell (F:=fun x=>so.ownBlock=some x∨x=b) ((HF9.out.mono fun x hx=> .inl (.inr hx)).trans HF10.out fun x hx=> .inl (.inl hx)) (.inl (.inr rfl)) _
   have hm:∀x,(so.ownBlock=some x∨x=b)→mine T t x:=fun x hx=>by
    unfold mine
    rcases hx with h|rfl
    ·rw [hX.tq x h];omega
    ·rw [hX.tb];omega
   rw [←hw11]
   refine ⟨⟨ys,_,xs',mo,mk,Do,Dk,⟨hX11,?_,?_,?_,?_,?_,hX.fo,hX.fk,?_,?_,?_,?_,HS.out,fun B' hB'=>hX.sl B' (List.mem_filter.1 hB').1⟩⟩,hfa.mono fun x hx=> .inl (hm x hx),fun x hx h=> ?_⟩
   ·have hw7:w.heap.size≤W7.heap.size:=HB7.out.size
    exact HZ8.out.later fun x hx ha=>by
     have ha:W7.heap.size≤x:=ha
     have hxb:x≠b:=fun h=>by have:=hX.lt;omega
     refine ⟨(hn11 x hxb).trans ((HF10.out.block x (Nat.lt_of_lt_of_le hx HF89.out.size) fun h=>by have:=(hX.row.lt x h).2;omega).trans (HF89.out.block x hx hxb)),?_⟩
     rw [fresh0,if_neg (by omega)]
   ·exact ownsRow_to HO10.out fun x hx=>hn11 x fun h=>HSOB.out (by rw [←h];exact HS10.out x hx)
   ·exact HR10.out.later fun x hx ha=>⟨hn11 x fun h=>by have h0:=ha.1;rw [h,hX.tb] at h0;omega,by rw [fresh0,if_pos ha.2];exact ha.1⟩
   ·exact ownsMap_to hX.om (hfa.block mo hX.om.lt fun h=>by
     rcases h with h|h
     ·have h1:=hX.tq mo h;rw [hX.tmo] at h1;omega
     ·have h1:=hX.tb;rw [←h,hX.tmo] at h1;omega) (Nat.le_refl _)
   ·exact ownsMap_to hX.km (hfa.block mk hX.km.lt fun h=>by
     rcases h with h|h
     ·have h1:=hX.tq mk h;rw [hX.tmk] at h1;omega
     ·have h1:=hX.tb;rw [←h,hX.tmk] at h1;omega) (Nat.le_refl _)
   ·rw [fresh0,if_pos hX.lt];exact hX.tb
   ·intro x hx
    have h1:=HS10.out x hx
    rw [fresh0,if_pos (hX.row.lt x h1).2]
    exact hX.tq x h1
   ·rw [fresh0,if_pos hX.om.lt];exact hX.tmo
   ·rw [fresh0,if_pos hX.km.lt];exact hX.tmk
   ·have h1:=h.1
    rw [fresh0,if_neg (by have:=hfa.size;omega)] at h1
    omega
 ·have d1:(!decide (e.base.sign=B.sign))=true:=by rw [decide_eq_false hsg];rfl
  rw [d1] at e9
  rw [e9]
  have HSG:=Lib.hid hsg
  have HB7:=Lib.hid (Below.call HBW.out HB6.out)
  clear hsg d1
  go_wp2
  go_ret
  exact ⟨fun _=>⟨rfl,HB7.out⟩,fun h=>absurd h HSG.out,fun h=>absurd h HSG.out⟩
set_option linter.unusedVariables false
theorem idx_nil (fv:Value) (w:World):Calls Tryz.prog 51 #[.slice none 0 0,fv] w fun r w'=>r= .returned (.int .i64 (-1))∧w=w':=by
 go_enter Tryz.func51,Tryz.ntmps51
 go_wp2
 go_loopw [8] (fun i wr=>i= .int .i64 0∧w=wr) (fun _ _=>0)
 case atStart=>exact ⟨rfl,rfl⟩
 case round=>
  obtain ⟨rfl,rfl⟩:=hrel
  go_wp2
  go_ret
  exact ⟨rfl,rfl⟩
theorem delf_nil (fv:Value) (w:World):Calls Tryz.prog 28 #[.slice none 0 0,fv] w fun r w'=>r= .returned (.slice none 0 0)∧w=w':=by
 go_enter Tryz.func28,Tryz.ntmps28
 go_wp2_with (go_at_call 51;go_must (refine (idx_nil _ _).mono ?_;rintro r w1 ⟨rfl,rfl⟩))
 go_ret
 exact ⟨rfl,rfl⟩
def Srv0 (w:World) (g:Nat) (s:ByteArray) (T:Nat→Nat) (N:Nat) (e:En):Prop:=∃mb m D b,Ent w g mb m D∧entP D s (some ⟨b,0,none⟩)∧(∃cs mo mk Do Dk,EnX w T 4 N b e cs (.slice none 0 0) [] mo mk Do Dk)∧¬mine T 4 g∧¬mine T 4 mb∧∀x,w.heap.size≤x→¬mine T 4 x
theorem Srv0.srv {w:World} {g N:Nat} {s:ByteArray} {T:Nat→Nat} {e:En} (h:Srv0 w g s T N e):Srv w g s T N e:=by
 obtain ⟨mb,m,D,b,h1,h2,⟨cs,mo,mk,Do,Dk,h3⟩,h4⟩:=h
 exact ⟨mb,m,D,b,h1,h2,⟨cs,_,_,mo,mk,Do,Dk,h3⟩,h4⟩
theorem Srv0.below {w w':World} {g N:Nat} {s:ByteArray} {T:Nat→Nat} {e:En} (h:Srv0 w g s T N e) (hb:Below w.heap.size w w'):Srv0 w' g s T N e:=by
 obtain ⟨mb,m,D,b,h1,h2,⟨cs,mo,mk,Do,Dk,h3⟩,h4,h5,h6⟩:=h
 exact ⟨mb,m,D,b,⟨h1.top.below' hb,ownsMap_to h1.map (hb.block mb h1.map.lt) (Nat.le_refl _)⟩,h2,⟨cs,mo,mk,Do,Dk,h3.later (F:=fun _=>False) (Fr.of_below hb) (fun _ _=>rfl) (fun _ h=>h.elim) (Nat.le_refl _) (by decide)⟩,h4,h5,fun x hx=>h6 x (Nat.le_trans hb.size hx)⟩
open Classical in
theorem srv_reg0 (s:ByteArray) (hm:s.size≤1000) (hb:nameB s=true) {w:World} {A:Nat→Prop} {g:Nat} {B:Bn} {cs:List Value} (hg:Blk w g [.map none] 60) (hB:BnV A w B (.agg cs.toArray)) (h1:B.onceId=0) (h2:B.kemId=0) (h3:verB B 1=0) (hs:B.fine) (hAg:¬A g):
  Calls Tryz.prog 10 #[.pointer (some ⟨g,0,none⟩),.string s,.agg cs.toArray] w fun r w'=>r= .returned (.int .i64 0)∧∃T,Srv0 w' g s T 1 ⟨B,[],fun _=>0,fun _=>0⟩∧(∀x,x<w.heap.size→¬mine T 4 x)∧Fr (fun x=>x=g) w w':=by
 refine (reg_zero s hm hb hg hB h1 h2 h3 hs.1 hAg).mono fun r w' ⟨hr,b,ds,mo,mk,mb,S,k1,k2,k3,k4,sb,s1,s2,hne,n1,n2,o1,o2,hS,hmb,hf⟩=>⟨hr,?_⟩
 obtain ⟨T,hT⟩:∃T:Nat→Nat,T=fun x=>if x=b then 4 else if x=mo then 6 else if x=mk then 7 else if S x then 0 else 3:=⟨_,rfl⟩
 have tb:T b=4:=by rw [hT];exact if_pos rfl
 have tmo:T mo=6:=by rw [hT];show (if mo=b then 4 else if mo=mo then 6 else _)=6;rw [if_neg (Ne.symm n1),if_pos rfl]
 have tmk:T mk=7:=by rw [hT];show (if mk=b then 4 else if mk=mo then 6 else if mk=mk then 7 else _)=7;rw [if_neg (Ne.symm n2),if_neg (Ne.symm hne),if_pos rfl]
 have t0:∀x,S x∧x≠mo∧x≠mk∧x≠b→T x=0:=fun x ⟨a1,a2,a3,a4⟩=>by rw [hT];show (if x=b then 4 else if x=mo then 6 else if x=mk then 7 else if S x then 0 else 3)=0;rw [if_neg a4,if_neg a2,if_neg a3,if_pos a1]
 have tn:∀x,x≠b→x≠mo→x≠mk→¬mine T 4 x:=fun x a1 a2 a3 h=>by
  have h4:=h.1
  rw [hT] at h4
  have h4:4≤(if x=b then 4 else if x=mo then 6 else if x=mk then 7 else if S x then 0 else 3):=h4
  rw [if_neg a1,if_neg a2,if_neg a3] at h4
  split at h4<;>omega
 have hlt:∀x,x<w.heap.size→¬mine T 4 x:=fun x hx=>tn x (fun e=>by have:=(hS b sb).1;omega) (fun e=>by have:=(hS mo s1).1;omega) (fun e=>by have:=(hS mk s2).1;omega)
 refine ⟨T,⟨mb,1,_,b,⟨k1,k2⟩,?_,⟨ds,mo,mk,.map [],.map [],?_⟩,hlt g hg.lt,tn mb (fun e=>(hS b sb).2 e.symm) (fun e=>(hS mo s1).2 e.symm) (fun e=>(hS mk s2).2 e.symm),fun x hx=>tn x (fun e=>by have:=k3.lt;omega) (fun e=>by have:=o1.lt;omega) (fun e=>by have:=o2.lt;omega)⟩,hlt,hf⟩
 ·exact Maps.atKey_put_same ⟨[],rfl⟩ (by trivial) _ _
 ·exact ⟨k3,k4.later fun x _ ha=>⟨rfl,t0 x ha⟩,World.ownsRow_nil w' 0 32 11,rfl,ownsMap_to o1 rfl (by decide),ownsMap_to o2 rfl (by decide),fun _ _=>rfl,fun _ _=>rfl,tb,fun q hq=>(by cases hq),tmo,tmk,hs,fun B' h=>(by cases h)⟩
def rcode (P B:Bn):Int:=if P.sign=B.sign then if B.version<P.version then 4 else 0 else 3
def rent (e:En) (B:Bn):En:=if e.base.sign=B.sign then if B.version<e.base.version then e else ⟨B,[],e.onces,e.kems⟩ else e
theorem srv_again (s:ByteArray) (hm:s.size≤1000) (hb:nameB s=true) {w:World} {A:Nat→Prop} {g N:Nat} {T:Nat→Nat} {e:En} {B:Bn} {cs:List Value} (h:Srv0 w g s T N e) (he:e.once= []) (hB:BnV A w B (.agg cs.toArray)) (hAm:∀x,A x→¬mine T 4 x) (h1:B.onceId=0) (h2:B.kemId=0) (h3:verB B 1=0) (hs:B.fine):
  Calls Tryz.prog 10 #[.pointer (some ⟨g,0,none⟩),.string s,.agg cs.toArray] w fun r w'=>r= .returned (.int .i64 (rcode e.base B))∧∃T',(∀x,x<w.heap.size→T' x=T x)∧Srv w' g s T' N (rent e B)∧Fr (mine T 4) w w':=by
 have hS:=h.srv
 obtain ⟨mb,m,D,b,k1,k2,⟨ds,mo,mk,Do,Dk,k3⟩,k4,k5,k6⟩:=h
 refine (reg_old s hm hb k1 k2 k3 (by decide) k4 k5 hB hAm h1 h2 h3 hs fun W pb _ _ _ _ _ _=>(delf_nil _ W).mono fun r w' ⟨hr,hw⟩=> ?_).mono fun r w' ⟨o3,o4,o0⟩=> ?_
 ·subst hw
  rw [he]
  exact ⟨_,[],hr,World.ownsRow_nil W 0 32 11,rfl,Fr.refl _ _,fun x hx=>hx⟩
 ·unfold rcode rent
  by_cases hq:e.base.sign=B.sign
  ·by_cases hv:B.version<e.base.version
   ·rw [if_pos hq,if_pos hv,if_pos hq,if_pos hv]
    obtain ⟨hr,hbl⟩:=o4 hq hv
    exact ⟨hr,T,fun _ _=>rfl,hS.below hbl,Fr.of_below hbl⟩
   ·rw [if_pos hq,if_neg hv,if_pos hq,if_neg hv]
    obtain ⟨hr,T',hT,hX,hf,hx⟩:=o0 hq hv
    rw [he] at hX
    refine ⟨hr,T',hT,⟨mb,m,D,b,⟨hf.blk k1.top k4,ownsMap_to k1.map (hf.block mb k1.map.lt k5) (Nat.le_refl _)⟩,k2,hX,fun k=>k4 ?_,fun k=>k5 ?_,hx⟩,hf⟩
    ·unfold mine at *;rw [hT g k1.top.lt] at k;exact k
    ·unfold mine at *;rw [hT mb k1.map.lt] at k;exact k
  ·rw [if_neg hq,if_neg hq]
   obtain ⟨hr,hbl⟩:=o3 hq
   exact ⟨hr,T,fun _ _=>rfl,hS.below hbl,Fr.of_below hbl⟩
set_option linter.unusedVariables false
theorem same_call {A A':Nat→Prop} {w:World} {B:Bn} {u v:Value} (h:BnV A w B u) (h':BnV A' w B v):Calls Tryz.prog 15 #[u,v] w fun e w'=>e= .returned (.bool true)∧Below w.heap.size w w':=by
 refine (same_sound.call 1000 [B.av,B.av] (fun _=> []) H0 [] ⟨[.one (.ob .bool true)],[],some (B=B),none⟩ _ _ rfl (fun q hq=>by cases hq) rfl E0 w [u,v] (hp0 w) ⟨u,_,rfl,av_top h,v,_,rfl,av_top h',rfl⟩ fun _ _ _=>rfl).mono fun e w' ⟨v',η',he,hr⟩=> ?_
 have ho: [v']= [_]:=hr.out
 cases List.singleton_inj.1 ho
 exact ⟨he,(fw0 hr.fw).1⟩
theorem ex_conv {o:Oper} {a:Act} {w:World} {A:Nat→Prop} {x:Operand} {v:Value} {l:List UInt8} (ho:o.op= .convert 30 9 x) (hx:a.eval x=v) (hv:RoH A w .u8 l v):(execOp a.eval o).run Tryz.prog w= .ok (.value (.string (bs l))) w:=by
 obtain ⟨ad,c,e2,hR⟩:=hv.rdb
 unfold execOp
 simp only [ho,hx,e2]
 rw [Sem.run_bind,conv_any hR]
 rfl
end Go.Proofs.YtknlbpjcjdenbaaGreat
