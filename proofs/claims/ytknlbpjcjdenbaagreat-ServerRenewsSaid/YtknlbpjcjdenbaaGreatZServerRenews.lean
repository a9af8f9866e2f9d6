/- ServerRenews: a bundle of the same kind keeps the one-time bundles, another drops them: for every input. -/
import Derived.Test.YtknlbpjcjdenbaaGreatZSRF
import Derived.Test.YtknlbpjcjdenbaaGreatRows
import Derived.ProofKit
import Derived.ShutString
import Derived.ChangeOld
namespace Go.Proofs.YtknlbpjcjdenbaaGreat
open Go Go.ChangeShapes Go.WideShapes Go.ChangeAt Go.RowKit Go.Maps Go.Sort
set_option linter.unusedVariables false

theorem stay_two_t {n:Int} {B':Bn} (h:B'∈ [aC n 0 1,aC n 0 2]):dO (aC n 0 0) B'=true:=by
 simp only [List.mem_cons,List.not_mem_nil,or_false] at h
 rcases h with rfl|rfl<;>exact F2 _ _ _ _
theorem stay_two_f {n:Int} {B':Bn} (h:B'∈ [aC n 0 1,aC n 0 2]):dO (aC n 1 0) B'=false:=by
 simp only [List.mem_cons,List.not_mem_nil,or_false] at h
 rcases h with rfl|rfl<;>exact AC _ _ _
theorem law_ver (n v:Int):¬(aC n v 0).version<(aC n 0 0).version:=by
 show ¬(1+v%2)<1+(0:Int)%2
 omega
theorem own_alloc {w:World} {b e n:Nat} {v:Value} {xs:List Value} (h:w.ownsRow b e 1 v n xs) (o:Obj):(w.alloc o).ownsRow b e 1 v n xs:=cO h fun q hq=>Below.heap_alloc _ _ q (h.lt q hq).2
theorem own_str1 (w:World) (s:ByteArray):(w.alloc (.cells #[.string s] 9)).ownsRow 0 9 1 (.slice (some ⟨w.heap.size,0,none⟩) 1 1) 1 [encStr s.data.toList]:=
 ⟨rfl,.inr ⟨w.heap.size,1,#[.string s],rfl,Nat.zero_le _,aj.new w #[.string s] 9,Nat.le_refl _,by unfold maxLen;omega,rfl,rfl⟩⟩
set_option maxRecDepth 100000 in
set_option maxHeartbeats 8000000 in
theorem renews_any (hso:∀m,AnyZ.SortsIn Tryz.prog bU Fence.wide m) {n:Int} (f:Bool) (w:World):Calls Tryz.prog 7 #[.int .i64 n,.bool f] w fun e w'=>e= .returned (.bool true)∧Below w.heap.size w w':=by
 have HSO:=Lib.hid hso
 clear hso
 go_enter Tryz.func7,Tryz.ntmps7
 go_upto_region 3 with (go_at_call 9;go_must (refine (yR _).mono ?_;rintro r w1 ⟨rfl,hg1,hb1⟩;have HG1:=Lib.hid hg1;have HB1:=Lib.hid hb1;clear hg1 hb1))
 obtain ⟨g,hg⟩:∃g,g=w.heap.size:=⟨_,rfl⟩
 obtain ⟨p,hp⟩:∃p,p=w1.heap.size:=⟨_,rfl⟩
 have hgp:g<p:=by have:=HG1.out.lt;omega
 refine dt (fun W=>aj W g [.map none] 60∧aj W p (dq bJ n 0) 27∧Below w.heap.size w W) ⟨?_,?_,?_⟩ (fun W0 ⟨hG,hP,hB⟩=> ?_)
 ·rw [hg];exact HG1.out.alloc _
 ·rw [hp];exact aj.new w1 _ _
 ·exact Below.alloc' HB1.out _
 rw [←hg,←hp]
 have hp0:=hP.cell 0;have hp1:=hP.cell 1;have hp2:=hP.cell 2;have hp3:=hP.cell 3;have hp4:=hP.cell 4;have hp5:=hP.cell 5
 have HG:=Lib.hid hG
 have HP:=Lib.hid hP
 have HB:=Lib.hid hB
 have HGP:=Lib.hid hgp
 have HGE:=Lib.hid hg
 have HNB:Hid (bl bJ=true):=Lib.hid (by decide)
 have HSZ:Hid (bJ.size≤1000):=Lib.hid (by decide)
 clear hG hP hB hgp hg hp HG1 HB1
 go_upto_region 5 with (first|(go_at_call 11;go_must (refine (fq bJ n 0 0).mono ?_;rintro r w2 ⟨cs,rfl,hb2,hv2⟩;have HB2:=Lib.hid hb2;have HV2:=Lib.hid hv2;clear hb2 hv2))|(go_at_call 10;go_must (refine (Ht bJ HSZ.out HNB.out (HG.out.below' HB2.out) HV2.out (jE _ _ _) (mn _ _) (gZ _ _ _) (fU _ _ _) (Nat.not_le.2 HG.out.lt)).mono ?_;rintro r w3 ⟨rfl,T,hS3,hK3,hT3,hf3⟩;have HS3:=Lib.hid hS3;have HK3:=Lib.hid hK3;have HT3:=Lib.hid hT3;have HF3:=Lib.hid hf3;clear hS3 hK3 hT3 hf3)))
 have HL3:Hid (Lw w w3 g p bJ n 0 T 1 (e0 n 0)):=Lib.hid ⟨HS3.out,HF3.out.blk (HP.out.below' HB2.out) (fun h=>by have h:p=g:=h;have:=HGP.out;omega),HT3.out p (Nat.lt_of_lt_of_le HP.out.lt HB2.out.size),(Below.call HB.out HB2.out).trans (HF3.out.below (Nat.le_trans HB.out.size HB2.out.size) (fun x hx=>by have h1:x=g:=hx;have:=HGE.out;omega)),fun x hx=>HT3.out x (by have:=HB.out.size;have:=HB2.out.size;omega)⟩
 clear hp0 hp1 hp2 hp3 hp4 hp5
 refine YD 12 6 [(7,10),(0,11),(15,7),(0,0),(0,1),(0,2),(0,3),(0,4),(0,5),(0,6),(0,8),(0,9)] [gn (.pointer (some ⟨g,0,none⟩)),gn (.agg (dq bJ n 0).toArray),(wB w3.heap.size (aC n 0 1)),gn (.agg (dq bJ n 0).toArray),(wB w3.heap.size (aC n 0 2)),(wS w3.heap.size [aC n 0 1,aC n 0 2]),gn (.tuple #[.int .i64 2,.int .i64 0]),gn (.tuple #[.int .i64 2,.int .i64 0]),gn (.int .i64 2),gn (.int .i64 0),gn (.int .i64 2),gn (.int .i64 0)] (fun W=>∃T',Lw w W g p bJ n 0 T' 3 (e2 n 0)∧vH W g T' bJ.data.toList) ?_ (fun u6 W6 hPd hv=> ?_) (by decide)
 ·refine ⟨?_,?_,?_,?_,?_,?_,?_,?_,?_,?_,?_,?_,trivial⟩
  ·refine X2 (.one (by kernel_rfl)) (by rfl) fun u W hb hu=> ?_
   go_simp
  ·refine X2 (.cons (c:=4) (by kernel_rfl) (.cons (c:=2) (by kernel_rfl) (.one (by kernel_rfl)))) (by rfl) fun u W hb hu=> ?_
   exact rW rfl rfl ((HL3.out.stp.below' hb).rng)
  ·refine Xk (.cons (c:=4) (by kernel_rfl) (.one (by kernel_rfl))) fun u W hb hu K hK=> ?_
   have e1:u 1= .agg (dq bJ n 0).toArray:=hu 1 (by kernel_rfl)
   go_simp
   go_at_call 11
   refine (fq bJ n 0 1).mono ?_
   rintro r w6 ⟨cs6,rfl,hb6,hv6⟩
   have hk9:=hK.out _ w6 hb6 ⟨cs6,rfl,hv6.later fun x hx ha=>⟨rfl,Nat.le_trans hb.size ha⟩⟩
   first |exact hk9|(simp only [e1] at hk9;exact hk9)
  ·refine X2 (.cons (c:=4) (by kernel_rfl) (.one (by kernel_rfl))) (by rfl) fun u W hb hu=> ?_
   exact rW rfl rfl ((HL3.out.stp.below' hb).rng)
  ·refine Xk (.one (by kernel_rfl)) fun u W hb hu K hK=> ?_
   have t2:(wB w3.heap.size (aC n 0 1)).P (u 2) W:=hu 2 (by kernel_rfl)
   have e3:u 3= .agg (dq bJ n 0).toArray:=hu 3 (by kernel_rfl)
   go_simp
   go_at_call 11
   refine (fq bJ n 0 2).mono ?_
   rintro r w6 ⟨cs6,rfl,hb6,hv6⟩
   have hk9:=hK.out _ w6 hb6 ⟨cs6,rfl,hv6.later fun x hx ha=>⟨rfl,Nat.le_trans hb.size ha⟩⟩
   first |exact hk9|(simp only [e3] at hk9;exact hk9)
  ·refine Ya (.one (by kernel_rfl)) (fun u W hb hu=> ?_)
   obtain ⟨c0,e0,h0⟩:∃cs:List Value,u 2= .agg cs.toArray∧cJ (fun x=>w3.heap.size≤x) W (aC n 0 1) (.agg cs.toArray):=hu 2 (by kernel_rfl)
   obtain ⟨c1,e1,h1⟩:∃cs:List Value,u 4= .agg cs.toArray∧cJ (fun x=>w3.heap.size≤x) W (aC n 0 2) (.agg cs.toArray):=hu 4 (by kernel_rfl)
   have al:=(Below.refl W.heap.size W).alloc (Nat.le_refl _) (.cells (c0++c1).toArray 32)
   refine ⟨_,_,Ai rfl e0 e1 (aV h0) (aV h1),⟨W.heap.size,c0++c1,rfl,hb.size,aj.new W _ _,?_⟩,al⟩
   have hl:∀ {B:Bn} {c:List Value},cJ (fun x=>w3.heap.size≤x) W B (.agg c.toArray)→cJ (fun x=>w3.heap.size≤x) (W.alloc (.cells (c0++c1).toArray 32)) B (.agg c.toArray):=fun h=>h.below al
   exact Ss (hl h0) (hl h1)
  ·refine YU (by rfl) fun u W hb hu K hK=> ?_
   have e0:u 0= .pointer (some ⟨g,0,none⟩):=hu 0 (by kernel_rfl)
   have t4:(wB w3.heap.size (aC n 0 2)).P (u 4) W:=hu 4 (by kernel_rfl)
   have t5:(wS w3.heap.size [aC n 0 1,aC n 0 2]).P (u 5) W:=hu 5 (by kernel_rfl)
   obtain ⟨q,zs,e9,hq9,hz9,hr9⟩:=t5
   go_simp
   go_at_call 12
   refine (wN bJ HSZ.out HNB.out (A:=fun x=>w3.heap.size≤x) (HL3.out.srv.below hb) HL3.out.srv.new hz9.rng hr9 hq9 (Fj n 0 [1,2]) (by simp)).mono ?_
   rintro r w9 ⟨rfl,T9,hT9,hS9,hf9⟩
   rw [N1 n 0] at hS9 ⊢
   have hk9:=hK.out w9 ⟨T9,((HL3.out.below hb).step hT9 hS9 hf9),(HK3.out.below hb).step hT9 hf9⟩
   first |exact hk9|(simp only [e0,e9] at hk9;exact hk9)
  ·refine Vr (.one (by kernel_rfl)) (by rfl) fun u W hu=> ?_
   have e6:u 6= .tuple #[.int .i64 2,.int .i64 0]:=hu 6 (by kernel_rfl) _ rfl
   go_simp
  ·refine Vr (.cons (c:=7) (by kernel_rfl) (.one (by kernel_rfl))) (by rfl) fun u W hu=> ?_
   have e7:u 7= .tuple #[.int .i64 2,.int .i64 0]:=hu 7 (by kernel_rfl) _ rfl
   go_simp
  ·refine Vr (.cons (c:=7) (by kernel_rfl) (.one (by kernel_rfl))) (by rfl) fun u W hu=> ?_
   have e7:u 7= .tuple #[.int .i64 2,.int .i64 0]:=hu 7 (by kernel_rfl) _ rfl
   go_simp
  ·refine Vr (.one (by kernel_rfl)) (by rfl) fun u W hu=> ?_
   have e0:u 0= .pointer (some ⟨g,0,none⟩):=hu 0 (by kernel_rfl) _ rfl
   have e1:u 1= .agg (dq bJ n 0).toArray:=hu 1 (by kernel_rfl) _ rfl
   have e3:u 3= .agg (dq bJ n 0).toArray:=hu 3 (by kernel_rfl) _ rfl
   have e6:u 6= .tuple #[.int .i64 2,.int .i64 0]:=hu 6 (by kernel_rfl) _ rfl
   have e7:u 7= .tuple #[.int .i64 2,.int .i64 0]:=hu 7 (by kernel_rfl) _ rfl
   have e8:u 8= .int .i64 2:=hu 8 (by kernel_rfl) _ rfl
   go_simp
  ·refine Vr (.one (by kernel_rfl)) (by rfl) fun u W hu=> ?_
   have e0:u 0= .pointer (some ⟨g,0,none⟩):=hu 0 (by kernel_rfl) _ rfl
   have e1:u 1= .agg (dq bJ n 0).toArray:=hu 1 (by kernel_rfl) _ rfl
   have e3:u 3= .agg (dq bJ n 0).toArray:=hu 3 (by kernel_rfl) _ rfl
   have e6:u 6= .tuple #[.int .i64 2,.int .i64 0]:=hu 6 (by kernel_rfl) _ rfl
   have e7:u 7= .tuple #[.int .i64 2,.int .i64 0]:=hu 7 (by kernel_rfl) _ rfl
   have e8:u 8= .int .i64 2:=hu 8 (by kernel_rfl) _ rfl
   have e9:u 9= .int .i64 0:=hu 9 (by kernel_rfl) _ rfl
   have e10:u 10= .int .i64 2:=hu 10 (by kernel_rfl) _ rfl
   go_simp
 obtain ⟨T6,hL6,hK6⟩:=hPd
 have e10:=hv 10 (by omega) _ rfl
 have e11:=hv 11 (by omega) _ rfl
 have HL6:=Lib.hid hL6
 have HK6:=Lib.hid hK6
 have hp0:=hL6.stp.cell 0;have hp1:=hL6.stp.cell 1;have hp2:=hL6.stp.cell 2;have hp3:=hL6.stp.cell 3;have hp4:=hL6.stp.cell 4;have hp5:=hL6.stp.cell 5
 clear hL6 hK6 hv
 go_upto_region 7 with fail
 obtain ⟨p2,hp2e⟩:∃p2,p2=W6.heap.size:=⟨_,rfl⟩
 refine dt (fun W=>aj W p2 (dq bJ n 0) 27∧Below W6.heap.size W6 W) ⟨?_,?_⟩ (fun W7 ⟨hP2,hb7⟩=> ?_)
 ·rw [hp2e];exact aj.new W6 _ _
 ·exact (Below.refl _ _).alloc (Nat.le_refl _) _
 rw [←hp2e]
 have HP2:=Lib.hid hP2
 have HB7:=Lib.hid hb7
 have HPE:=Lib.hid hp2e
 clear hp0 hp1 hp2 hp3 hp4 hp5 hb7 hp2e
 cases f with
 |false=>
  clear hP2
  have HL7:=Lib.hid (HL6.out.below HB7.out)
  have HK7:=Lib.hid (HK6.out.below HB7.out)
  have hrp2:=HP2.out.rng
  have ST:=Lib.hid (fun W:World=>fq (w:=W) bJ n 0 0)
  go_upto_region 12 with (first|(refine wpList_load_mid rfl 27 (.tmp 9) rfl p2 0 rfl (dq bJ n 0) _ hrp2 Tryz.underlying27 rfl qj ?_)|(go_at_call 11;go_must (refine (ST.out _).mono ?_;rintro r w4 ⟨cs4,rfl,hb4,hv4⟩;have HB4:=Lib.hid hb4;have HV4:=Lib.hid hv4;clear hb4 hv4))|(go_at_call 10;go_must (refine (rS bJ HSZ.out HNB.out (eb:=aC n 0 0) (B1:=aC n 0 1) (l:= [aC n 0 2]) (on:=(e2 n 0).onces) (ke:=(e2 n 0).kems) true (HL7.out.below HB4.out).srv (fun B' hB'=>stay_two_t hB') (by simp) (by rfl) (law_ver n 0) HV4.out (fun x hx=>HL7.out.srv.new x hx) (jE _ _ _) (mn _ _) (gZ _ _ _) (fU _ _ _)).mono ?_;rintro r w5 ⟨rfl,T5,hT5,hS5,hf5⟩;have HT5:=Lib.hid hT5;have HS5:=Lib.hid hS5;have HF5:=Lib.hid hf5;clear hT5 hS5 hf5)))
  have HL5:Hid (Lw w w5 g p bJ n 0 T5 3 ⟨aC n 0 0,[aC n 0 1,aC n 0 2],(e2 n 0).onces,(e2 n 0).kems⟩):=Lib.hid ((HL7.out.below HB4.out).step HT5.out HS5.out HF5.out)
  have HK5:=Lib.hid ((HK7.out.below HB4.out).step HT5.out HF5.out)
  clear hrp2
  go_wp2_with (first|(go_at_call 13;go_must (refine (mM bJ HSZ.out HNB.out HL5.out.srv).mono ?_;rintro r w7 ⟨rfl,rfl⟩))|(go_at_call 23;go_must (refine (rI HSO.out HK5.out).mono ?_;rintro r w8 ⟨v8,rfl,hr8,hb8⟩;have HR8:=Lib.hid hr8;have HB8:=Lib.hid hb8;clear hr8 hb8))|(go_at_call 22;go_must (refine (pW (ss:= [bJ.data.toList]) (own_alloc HR8.out _) (own_str1 w8 bJ) (by simp)).mono ?_;rintro r w9 ⟨rfl,hb9⟩;have HB9:=Lib.hid hb9;clear hb9))|(go_at_call 8;go_must (refine (eU _).mono ?_;rintro r wa ⟨rfl,hba⟩;have HBA:=Lib.hid hba;clear hba)))
  go_ret
  exact ⟨rfl,Below.call (Below.call (Below.alloc' (Below.call HL5.out.bel HB8.out) _) HB9.out) HBA.out⟩
 |true=>
  have hc3:=hP2.cell 3
  have hfz:=hP2.frozen 3
  go_upto_region 11 with fail
  refine dt (fun W=>aj W p2 (dq bJ n 1) 27∧Below W6.heap.size W6 W) ⟨?_,?_⟩ (fun W8 ⟨hP3,hb8⟩=> ?_)
  ·exact HP2.out.set 3 (.int .i64 1)
  ·exact ((Fr.of_below HB7.out).setCell (F:=fun x=>x=p2) (.inl rfl) _).below (Nat.le_refl _) fun x hx=>by have h1:x=p2:=hx;rw [h1,HPE.out];exact Nat.le_refl _
  clear HP2 HB7 hc3 hfz hP2
  have HP2:=Lib.hid hP3
  have HL7:=Lib.hid (HL6.out.below hb8)
  have HK7:=Lib.hid (HK6.out.below hb8)
  clear hP3 hb8
  have hrp2:=HP2.out.rng
  have ST:=Lib.hid (fun W:World=>fq (w:=W) bJ n 1 0)
  go_upto_region 12 with (first|(refine wpList_load_mid rfl 27 (.tmp 9) rfl p2 0 rfl (dq bJ n 1) _ hrp2 Tryz.underlying27 rfl qj ?_)|(go_at_call 11;go_must (refine (ST.out _).mono ?_;rintro r w4 ⟨cs4,rfl,hb4,hv4⟩;have HB4:=Lib.hid hb4;have HV4:=Lib.hid hv4;clear hb4 hv4))|(go_at_call 10;go_must (refine (rS bJ HSZ.out HNB.out (eb:=aC n 0 0) (B1:=aC n 0 1) (l:= [aC n 0 2]) (on:=(e2 n 0).onces) (ke:=(e2 n 0).kems) false (HL7.out.below HB4.out).srv (fun B' hB'=>stay_two_f hB') (by simp) (by rfl) (law_ver n 1) HV4.out (fun x hx=>HL7.out.srv.new x hx) (jE _ _ _) (mn _ _) (gZ _ _ _) (fU _ _ _)).mono ?_;rintro r w5 ⟨rfl,T5,hT5,hS5,hf5⟩;have HT5:=Lib.hid hT5;have HS5:=Lib.hid hS5;have HF5:=Lib.hid hf5;clear hT5 hS5 hf5)))
  have HL5:Hid (Lw w w5 g p bJ n 0 T5 3 ⟨aC n 1 0,[],(e2 n 0).onces,(e2 n 0).kems⟩):=Lib.hid ((HL7.out.below HB4.out).step HT5.out HS5.out HF5.out)
  have HK5:=Lib.hid ((HK7.out.below HB4.out).step HT5.out HF5.out)
  clear hrp2
  go_wp2_with (first|(go_at_call 13;go_must (refine (mM bJ HSZ.out HNB.out HL5.out.srv).mono ?_;rintro r w7 ⟨rfl,rfl⟩))|(go_at_call 23;go_must (refine (rI HSO.out HK5.out).mono ?_;rintro r w8 ⟨v8,rfl,hr8,hb8⟩;have HR8:=Lib.hid hr8;have HB8:=Lib.hid hb8;clear hr8 hb8))|(go_at_call 22;go_must (refine (pW (ss:= [bJ.data.toList]) (own_alloc HR8.out _) (own_str1 w8 bJ) (by simp)).mono ?_;rintro r w9 ⟨rfl,hb9⟩;have HB9:=Lib.hid hb9;clear hb9))|(go_at_call 8;go_must (refine (eU _).mono ?_;rintro r wa ⟨rfl,hba⟩;have HBA:=Lib.hid hba;clear hba)))
  go_ret
  exact ⟨rfl,Below.call (Below.call (Below.alloc' (Below.call HL5.out.bel HB8.out) _) HB9.out) HBA.out⟩
theorem serverRenews_any {n:Int} (w:World) (_hn:(Lit.int .i64 n).wf=true) (f:Bool):Calls Tryz.prog 7 #[.int .i64 n,.bool f] w fun e w'=>e= .returned (.bool true)∧Below w.heap.size w w':=renews_any Jt f w
namespace serverRenewsDone
theorem own:ownKnob Tryz.prog.godebug=none:=by kernel_rfl
theorem laidOut:laidOutB Tryz.prog=true:=by kernel_rfl
set_option maxRecDepth 100000 in
theorem lifted (os:Os) (started:os.Started) (H:Type) (enc:TypeId×Value→H):
  ReturnsInHanded {} Tryz.checked os 7 .any (Rows.serverRenewsSpec.pre6 enc Tryz.prog Tryz.f7 Rows.serverRenewsRow.domain false) (Rows.serverRenewsSpec.post enc Tryz.prog Tryz.f7 false true false false):=by
 refine returnsInHanded_of_change (C:=Tryz.checked) own started (by kernel_rfl) Tryz.func7
  (ChangeSpec.witness6 (enc:=enc) (C:=Tryz.checked) false ⟨#[],#[.int .i64 0,.bool false],[]⟩ 8 (by kernel_rfl) (by kernel_rfl) (by kernel_rfl) (by kernel_rfl)) ?_
 intro W base args ds gs before hval0 hW hcnd _
 have hval:∀(j:Nat) t v,Tryz.f7.params[j]?=some t→args[j]?=some v→Value.okWide Tryz.prog W .any base t v:=hval0
 have hW':=hW
 obtain ⟨p,q,hA0,hV,rfl,hfz,hnd⟩:=hW
 have hA:DataW.TrodAll enc Tryz.prog W 0 (fun _=>true) true Tryz.f7.params.toList args.toList ds p:=hA0
 rw [Tryz.params7] at hA hval
 obtain ⟨v0,vs0,d0,ds0,p0,q0,hargs,rfl,rfl,h0,r0⟩:=trodAll_cons hA
 obtain ⟨v1,vs1,d1,ds1,p1,q1,rfl,rfl,rfl,h1,r1⟩:=trodAll_cons r0
 obtain ⟨rfl,rfl,rfl⟩:=trodAll_nil r1
 obtain rfl:args= #[v0,v1]:=by cases args;simp_all
 obtain ⟨rfl,rfl⟩:=trodVars_none hV
 obtain ⟨a0,rfl,rfl,rfl,w0⟩:=open_int Tryz.underlying3 (hval 0 3 v0 rfl rfl) h0
 obtain ⟨a1,rfl,rfl,rfl⟩:=open_bool Tryz.underlying4 (hval 1 4 v1 rfl rfl) h1
 clear hA0 hval0
 refine (serverRenews_any W w0 a1).mono fun e W' ⟨he,bel⟩=> ?_
 subst he
 exact ⟨_,rfl,_,_,_,[],_,[],hW',trodAll_mk1 (shut_bool Tryz.underlying4 _),(trodAll_cons_mk (shut_int Tryz.underlying3 w0) (trodAll_cons_mk (shut_bool Tryz.underlying4 a1) trodAll_mk0)),rfl,bel.frame _,fun h=>by cases h⟩
theorem over:Rows.serverRenewsRow.holds Tryz.pinned (OpenSpec.ofChange Rows.serverRenewsSpec):=
 OpenClaim.holds_of_wide 7 Tryz.f7 rfl rfl rfl rfl rfl rfl rfl ⟨rfl,rfl,rfl,rfl,rfl⟩ rfl rfl rfl rfl rfl (by kernel_rfl) Tryz.func7 (by kernel_rfl)
  (of_decide_eq_true (by kernel_rfl)) (by unfold Func.isWrapper;first |(rw [if_pos (by decide +kernel)];kernel_rfl)|(rw [if_neg (by decide +kernel)];exact ⟨rfl,rfl⟩))
  (fun os started H enc _=>lifted os started H enc)
theorem proved:Rows.ServerRenewsSaid:=over
#print axioms proved
end serverRenewsDone

end Go.Proofs.YtknlbpjcjdenbaaGreat
