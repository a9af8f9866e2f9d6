/- ServerNothing: servers without names, and one that takes twenty: for every input. -/
import Derived.Test.YtknlbpjcjdenbaaGreatZSRF
import Derived.Test.YtknlbpjcjdenbaaGreatRows
import Derived.ProofKit
import Derived.ShutString
import Derived.ChangeOld
import Derived.ChangeMaps5
namespace Go.Proofs.YtknlbpjcjdenbaaGreat
open Go Go.ChangeShapes Go.WideShapes Go.ChangeAt Go.RowKit Go.Maps Go.Sort
open Go.ChangeMaps (open_string shut_string)
set_option linter.unusedVariables false

theorem ro_byte (w:World) (c:UInt8) (E:Nat):dU (fun _=>True) (w.alloc (.cells #[.int .u8 (c.toNat:Int)] E)) .u8 [c] (.slice (some ⟨w.heap.size,0,none⟩) 1 1):=
 ⟨_,1,rfl,Nat.le_refl _,by unfold maxLen;omega,fun h=>(by cases h),fun _=>⟨w.heap.size,0,[.int .u8 (c.toNat:Int)],rfl,trivial,bj.single (R:=Kd.u8.rp) rfl,(aj.new w #[.int .u8 (c.toNat:Int)] E).rng⟩⟩
theorem ro_char (w:World) {k:Nat} (hk:k<64) (E:Nat):dU (fun _=>True) (w.alloc (.cells #[.int .u8 (97+(k:Int))] E)) .u8 [UInt8.ofNat (97+k)] (.slice (some ⟨w.heap.size,0,none⟩) 1 1):=by
 have h:=ro_byte w (UInt8.ofNat (97+k)) E
 rw [show ((UInt8.ofNat (97+k)).toNat:Int)=97+(k:Int) by rw [UInt8.toNat_ofNat'];omega] at h
 exact h
abbrev nmNo:ByteArray:=⟨#[]⟩
theorem nm_cat (k:Nat):(⟨#[110]⟩:ByteArray)++bs [UInt8.ofNat (97+k)]=LH k:=by
 rfl
theorem nm_cat2 (k:Nat):(⟨#[110]⟩:ByteArray)++bs [97+UInt8.ofNat k]=LH k:=by
 rw [show (97:UInt8)+UInt8.ofNat k=UInt8.ofNat (97+k) from (UInt8.ofNat_add 97 k).symm]
 exact nm_cat k
set_option maxRecDepth 100000 in
set_option maxHeartbeats 8000000 in
theorem nothing_small (hso:∀m,AnyZ.SortsIn Tryz.prog bU Fence.wide m) {s:ByteArray} {L:Nat} (N:Nat) (hL:L=s.size) (hL5:L≤50) (hN:N≤22) (w:World):Calls Tryz.prog 6 #[.string s,.int .i64 (N:Int)] w fun e w'=>e= .returned (.bool true)∧Below w.heap.size w w':=by
 have HSO:=Lib.hid hso
 have hs0:(s.size:Int)=L:=by omega
 have hl1:¬50<(L:Int):=by omega
 have hn1:¬(N:Int)<0:=by omega
 have hn2:¬22<(N:Int):=by omega
 have HM:Hid (s.size≤1000):=Lib.hid (by omega)
 have HN:=Lib.hid hN
 have st0:=fun W:World=>fq (w:=W) nmNo 1 0 0
 obtain ⟨B0,hB0⟩:∃B,B=aC 1 0 0:=⟨_,rfl⟩
 rw [←hB0] at st0
 have F0:Hid (B0.onceId=0∧B0.kemId=0∧aX B0 1=0∧B0.fine):=Lib.hid (by rw [hB0];exact ⟨jE _ _ _,mn _ _,gZ _ _ _,fU _ _ _⟩)
 have ST0:=Lib.hid st0
 clear hso hL hL5 hN st0 hB0
 go_enter Tryz.func6,Tryz.ntmps6
 go_upto_region 6 with fail
 obtain ⟨g,hg⟩:∃g,g=w.heap.size:=⟨_,rfl⟩
 refine dt (fun W=>aj W g [.map none] 60∧Below w.heap.size w W) ⟨?_,?_⟩ (fun W0 ⟨hG,hB⟩=> ?_)
 ·rw [hg];exact aj.new w _ _
 ·exact (Below.refl _ _).alloc (Nat.le_refl _) _
 rw [←hg]
 have HG:=Lib.hid hG
 have HB:=Lib.hid hB
 have HGE:=Lib.hid hg
 clear hG hB hg
 cases hnb:bl s with
 |true=>
  have hno:LO s=7:=by unfold LO;rw [hnb];rfl
  have HNO:=Lib.hid hno
  have HNB:=Lib.hid hnb
  clear hno hnb
  go_upto_region 9 with (first|(go_at_call 21;go_must (refine (rU s HM.out _).mono ?_;rintro r w1 ⟨rfl,rfl⟩;rw [HNB.out]))|(go_at_call 14;go_must (refine (jT s HM.out (p:=none) (.inl rfl)).mono ?_;rintro r w2 ⟨z2,rfl,hz2,ho2,hb2⟩;rw [HNO.out];have hi2:(Tryz.prog.info? 32).map (·.size)=some z2.size:=(by rw [aN,hz2]);have hn2b:bP.size=z2.size:=hz2.symm;have HB2:=Lib.hid hb2;clear hb2))|(refine wpList_store_row rfl 32 _ _ rfl w2.heap.size _ rfl rfl 32 bP (aj.new w2 _ _) hi2 hn2b ho2 ?_))
  have hU:Below W0.heap.size W0 ((w2.alloc (.cells bP 32)).setRow w2.heap.size z2):=Below.call HB2.out (below_setRow (Below.alloc' (Below.refl _ _) _) (Nat.le_refl _) _)
  obtain ⟨U,hUe⟩:∃U,U=(w2.alloc (.cells bP 32)).setRow w2.heap.size z2:=⟨_,rfl⟩
  rw [←hUe] at hU ⊢
  have HU:=Lib.hid hU
  clear hU hUe hz2 ho2 hi2 HB2
  go_upto_region 10 with (first|(go_at_call 14;go_must (refine (jT s HM.out (p:=some ⟨g,0,none⟩) (.inr ⟨g,rfl,HG.out.below' HU.out⟩)).mono ?_;rintro r w3 ⟨z3,rfl,hz3,ho3,hb3⟩;rw [HNO.out];have hi3:(Tryz.prog.info? 32).map (·.size)=some z3.size:=(by rw [aN,hz3]);have hn3:bP.size=z3.size:=hz3.symm;have HB3:=Lib.hid hb3;clear hb3))|(refine wpList_store_row rfl 32 _ _ rfl w3.heap.size _ rfl rfl 32 bP (aj.new w3 _ _) hi3 hn3 ho3 ?_))
  have hV:Below W0.heap.size W0 ((w3.alloc (.cells bP 32)).setRow w3.heap.size z3):=Below.call (Below.call HU.out HB3.out) (below_setRow (Below.alloc' (Below.refl _ _) _) (Nat.le_refl _) _)
  obtain ⟨V,hVe⟩:∃V,V=(w3.alloc (.cells bP 32)).setRow w3.heap.size z3:=⟨_,rfl⟩
  rw [←hVe] at hV ⊢
  have HV:=Lib.hid hV
  clear hV hVe hz3 ho3 hi3 hn3 HB3
  go_upto_region 11 with (first|(go_at_call 11;go_must (refine (ST0.out _).mono ?_;rintro r w4 ⟨cs4,rfl,hb4,hv4⟩;have hl4:=aV hv4;have hi4:(Tryz.prog.info? 32).map (·.size)=some cs4.toArray.size:=(by rw [aN];simp [hl4]);have hn4:bP.size=cs4.toArray.size:=(by simp [hl4]);have ho4:=eW hv4;have HB4:=Lib.hid hb4;have HV4:=Lib.hid hv4;clear hb4 hv4))|(refine wpList_store_row rfl 32 _ _ rfl w4.heap.size _ rfl rfl 32 bP (aj.new w4 _ _) hi4 hn4 ho4 ?_))
  obtain ⟨q,hq⟩:∃q,q=w4.heap.size:=⟨_,rfl⟩
  obtain ⟨W5,hW5⟩:∃W5,W5=(w4.alloc (.cells bP 32)).setRow w4.heap.size cs4.toArray:=⟨_,rfl⟩
  have hb5:Below w4.heap.size w4 W5:=by rw [hW5];exact below_setRow (Below.alloc' (Below.refl _ _) _) (Nat.le_refl _) _
  have hQ5:aj W5 q cs4 32:=by rw [hW5,hq];exact cw (aj.new w4 _ _)
  have hV5:cJ (fun x=>V.heap.size≤x∧x<W5.heap.size) W5 B0 (.agg cs4.toArray):=HV4.out.later fun x hx ha=>⟨hb5.block x hx,ha,Nat.lt_of_lt_of_le hx hb5.size⟩
  have hgV:g<V.heap.size:=Nat.lt_of_lt_of_le HG.out.lt HV.out.size
  have hgq:g<q:=by rw [hq];exact Nat.lt_of_lt_of_le hgV HB4.out.size
  have hVW:Below W0.heap.size W0 W5:=Below.call (Below.call HV.out HB4.out) hb5
  have HK0:Hid (nK W5 g 0 W5.heap.size):=Lib.hid (.inl ⟨rfl,HG.out.below' hVW⟩)
  have HQ5:=Lib.hid hQ5
  have HV5:=Lib.hid hV5
  have HGQ:=Lib.hid hgq
  have HGV:=Lib.hid hgV
  have HB5:=Lib.hid (Below.call HB.out hVW)
  rw [←hW5,←hq]
  clear hq hW5 hb5 hQ5 hV5 hgV hgq hVW hi4 hn4 ho4 hl4 HB4 HV4
  go_upto_region 12 with fail
  go_loopw [13] (fun i wr=>∃k:Nat,k≤N∧i= .int .i64 k∧nK wr g k W5.heap.size∧aj wr q cs4 32∧cJ (fun x=>V.heap.size≤x∧x<W5.heap.size) wr B0 (.agg cs4.toArray)∧Below w.heap.size w wr∧W5.heap.size≤wr.heap.size) (fun i _=>N-(intOf i).toNat)
  case atStart=>exact ⟨0,Nat.zero_le _,rfl,HK0.out,HQ5.out,HV5.out,HB5.out,Nat.le_refl _⟩
  case round=>
   obtain ⟨k,hk,rfl,hSk,hQk,hVk,hBk,hhi⟩:=hrel
   by_cases hlt:k<N
   ·have hltz:(k:Int)<(N:Int):=by omega
    have hk22:k<22:=by have:=HN.out;omega
    obtain ⟨W6,hW6⟩:∃W6,W6=wr.alloc (.cells #[.int .u8 (97+(k:Int))] 5):=⟨_,rfl⟩
    have hb6:Below wr.heap.size wr W6:=by rw [hW6];exact (Below.refl _ _).alloc (Nat.le_refl _) _
    have hwrap:IntKind.u8.wrap (97+(k:Int))=97+(k:Int):=by unfold IntKind.wrap;simp [IntKind.bits,IntKind.signed];omega
    have hro:=ro_char wr (k:=k) (by omega) 5
    rw [←hW6] at hro
    have hrq:=(hQk.below' hb6).rng
    have HW6:=Lib.hid hW6
    have hl4:=aV hVk
    have HSK:=Lib.hid (hSk.below hb6)
    have HQK:=Lib.hid (hQk.below' hb6)
    have HVK:=Lib.hid (hVk.below hb6)
    have HBK:=Lib.hid (Below.call hBk hb6)
    have HHI:=Lib.hid (Nat.le_trans hhi hb6.size)
    have HRO:=Lib.hid hro
    have HK:=Lib.hid hlt
    have HL4:=Lib.hid hl4
    clear hSk hQk hVk hBk hhi hro hlt hb6 hk hl4 hW6
    go_upto_region 15 with (first|(rw [←HW6.out];refine iL rfl (Di rfl rfl HRO.out) ?_)|(refine wpList_load_mid rfl 32 (.tmp 12) rfl q 0 rfl cs4 _ hrq Tryz.underlying32 rfl (by rw [aN,HL4.out]) ?_)|(go_at_call 10;go_must (rw [nm_cat2];refine (Qe (by omega) HSK.out HHI.out HVK.out F0.out.1 F0.out.2.1 F0.out.2.2.1 F0.out.2.2.2.1 (fun h=>by have:=HGV.out;omega)).mono ?_;rintro r w7 ⟨rfl,hS7,hf7⟩;have HS7:=Lib.hid hS7;have HF7:=Lib.hid hf7;clear hS7 hf7)))
    have hqh:q<W5.heap.size:=HQ5.out.lt
    have hQ7:aj w7 q cs4 32:=HF7.out.blk HQK.out (fun h=>by rcases h with h|h;exact absurd h (by have:=HGQ.out;omega);omega)
    have hV7:cJ (fun x=>V.heap.size≤x∧x<W5.heap.size) w7 B0 (.agg cs4.toArray):=HVK.out.later fun x hx ha=>⟨HF7.out.block x hx (fun h=>by have h1:=HGV.out;have h2:=ha.1;have h3:=ha.2;rcases h with h|h<;>omega),ha⟩
    have hB7:Below w.heap.size w w7:=HBK.out.trans (HF7.out.below HBK.out.size fun x hx=>by have h1:=HGE.out;have h2:=HB5.out.size;rcases hx with h|h<;>omega)
    have hhi7:W5.heap.size≤w7.heap.size:=Nat.le_trans HHI.out HF7.out.size
    have H7:=Lib.hid (show nK w7 g (k+1) W5.heap.size∧aj w7 q cs4 32∧cJ (fun x=>V.heap.size≤x∧x<W5.heap.size) w7 B0 (.agg cs4.toArray)∧Below w.heap.size w w7∧W5.heap.size≤w7.heap.size from ⟨HS7.out,hQ7,hV7,hB7,hhi7⟩)
    clear hqh hQ7 hV7 hB7 hhi7
    by_cases h20:k<20
    ·have h20z:(k:Int)<20:=by omega
     rw [if_pos h20]
     go_wp2
     have hk1:=HK.out
     refine ⟨?_,?_⟩
     ·exact ⟨k+1,HK.out,by simp,H7.out⟩
     ·show N-(intOf (.int .i64 ((k:Int)+1))).toNat<N-(intOf (.int .i64 (k:Int))).toNat
      simp only [intOf]
      omega
    ·have h20z:¬(k:Int)<20:=by omega
     rw [if_neg h20]
     go_wp2
     have hk1:=HK.out
     refine ⟨?_,?_⟩
     ·exact ⟨k+1,HK.out,by simp,H7.out⟩
     ·show N-(intOf (.int .i64 ((k:Int)+1))).toNat<N-(intOf (.int .i64 (k:Int))).toNat
      simp only [intOf]
      omega
   ·obtain rfl:k=N:=by omega
    have HSK:=Lib.hid hSk
    have HBK:=Lib.hid hBk
    have hmin:((min k 20:Nat):Int)=min (k:Int) 20:=by omega
    clear hSk hQk hVk hBk hhi
    go_wp2_with (first|(go_at_call 23;first |(with_reducible refine (sF _).mono ?_;rintro r w7 ⟨rfl,rfl⟩)|(go_must (refine (DE HSO.out HSK.out).mono ?_;rintro r w8 ⟨a8,c8,rfl,hb8⟩;have HB8:=Lib.hid hb8;clear hb8)))|(go_at_call 13;go_must (refine (xV s HM.out (p:=none) (.inl rfl)).mono ?_;rintro r w7 ⟨rfl,rfl⟩))|(go_at_call 8;go_must (refine (eU _).mono ?_;rintro r wa ⟨rfl,hba⟩;have HBA:=Lib.hid hba;clear hba)))
    all_goals (go_ret;exact ⟨rfl,Below.call (Below.call HBK.out HB8.out) HBA.out⟩)
 |false=>
  have hno:LO s=1:=by unfold LO;rw [hnb];rfl
  have HNO:=Lib.hid hno
  have HNB:=Lib.hid hnb
  clear hno hnb
  go_upto_region 9 with (first|(go_at_call 21;go_must (refine (rU s HM.out _).mono ?_;rintro r w1 ⟨rfl,rfl⟩;rw [HNB.out]))|(go_at_call 14;go_must (refine (jT s HM.out (p:=none) (.inl rfl)).mono ?_;rintro r w2 ⟨z2,rfl,hz2,ho2,hb2⟩;rw [HNO.out];have hi2:(Tryz.prog.info? 32).map (·.size)=some z2.size:=(by rw [aN,hz2]);have hn2b:bP.size=z2.size:=hz2.symm;have HB2:=Lib.hid hb2;clear hb2))|(refine wpList_store_row rfl 32 _ _ rfl w2.heap.size _ rfl rfl 32 bP (aj.new w2 _ _) hi2 hn2b ho2 ?_))
  have hU:Below W0.heap.size W0 ((w2.alloc (.cells bP 32)).setRow w2.heap.size z2):=Below.call HB2.out (below_setRow (Below.alloc' (Below.refl _ _) _) (Nat.le_refl _) _)
  obtain ⟨U,hUe⟩:∃U,U=(w2.alloc (.cells bP 32)).setRow w2.heap.size z2:=⟨_,rfl⟩
  rw [←hUe] at hU ⊢
  have HU:=Lib.hid hU
  clear hU hUe hz2 ho2 hi2 HB2
  go_upto_region 10 with (first|(go_at_call 14;go_must (refine (jT s HM.out (p:=some ⟨g,0,none⟩) (.inr ⟨g,rfl,HG.out.below' HU.out⟩)).mono ?_;rintro r w3 ⟨z3,rfl,hz3,ho3,hb3⟩;rw [HNO.out];have hi3:(Tryz.prog.info? 32).map (·.size)=some z3.size:=(by rw [aN,hz3]);have hn3:bP.size=z3.size:=hz3.symm;have HB3:=Lib.hid hb3;clear hb3))|(refine wpList_store_row rfl 32 _ _ rfl w3.heap.size _ rfl rfl 32 bP (aj.new w3 _ _) hi3 hn3 ho3 ?_))
  have hV:Below W0.heap.size W0 ((w3.alloc (.cells bP 32)).setRow w3.heap.size z3):=Below.call (Below.call HU.out HB3.out) (below_setRow (Below.alloc' (Below.refl _ _) _) (Nat.le_refl _) _)
  obtain ⟨V,hVe⟩:∃V,V=(w3.alloc (.cells bP 32)).setRow w3.heap.size z3:=⟨_,rfl⟩
  rw [←hVe] at hV ⊢
  have HV:=Lib.hid hV
  clear hV hVe hz3 ho3 hi3 hn3 HB3
  go_upto_region 11 with (first|(go_at_call 11;go_must (refine (ST0.out _).mono ?_;rintro r w4 ⟨cs4,rfl,hb4,hv4⟩;have hl4:=aV hv4;have hi4:(Tryz.prog.info? 32).map (·.size)=some cs4.toArray.size:=(by rw [aN];simp [hl4]);have hn4:bP.size=cs4.toArray.size:=(by simp [hl4]);have ho4:=eW hv4;have HB4:=Lib.hid hb4;have HV4:=Lib.hid hv4;clear hb4 hv4))|(refine wpList_store_row rfl 32 _ _ rfl w4.heap.size _ rfl rfl 32 bP (aj.new w4 _ _) hi4 hn4 ho4 ?_))
  obtain ⟨q,hq⟩:∃q,q=w4.heap.size:=⟨_,rfl⟩
  obtain ⟨W5,hW5⟩:∃W5,W5=(w4.alloc (.cells bP 32)).setRow w4.heap.size cs4.toArray:=⟨_,rfl⟩
  have hb5:Below w4.heap.size w4 W5:=by rw [hW5];exact below_setRow (Below.alloc' (Below.refl _ _) _) (Nat.le_refl _) _
  have hQ5:aj W5 q cs4 32:=by rw [hW5,hq];exact cw (aj.new w4 _ _)
  have hV5:cJ (fun x=>V.heap.size≤x∧x<W5.heap.size) W5 B0 (.agg cs4.toArray):=HV4.out.later fun x hx ha=>⟨hb5.block x hx,ha,Nat.lt_of_lt_of_le hx hb5.size⟩
  have hgV:g<V.heap.size:=Nat.lt_of_lt_of_le HG.out.lt HV.out.size
  have hgq:g<q:=by rw [hq];exact Nat.lt_of_lt_of_le hgV HB4.out.size
  have hVW:Below W0.heap.size W0 W5:=Below.call (Below.call HV.out HB4.out) hb5
  have HK0:Hid (nK W5 g 0 W5.heap.size):=Lib.hid (.inl ⟨rfl,HG.out.below' hVW⟩)
  have HQ5:=Lib.hid hQ5
  have HV5:=Lib.hid hV5
  have HGQ:=Lib.hid hgq
  have HGV:=Lib.hid hgV
  have HB5:=Lib.hid (Below.call HB.out hVW)
  rw [←hW5,←hq]
  clear hq hW5 hb5 hQ5 hV5 hgV hgq hVW hi4 hn4 ho4 hl4 HB4 HV4
  go_upto_region 12 with fail
  go_loopw [13] (fun i wr=>∃k:Nat,k≤N∧i= .int .i64 k∧nK wr g k W5.heap.size∧aj wr q cs4 32∧cJ (fun x=>V.heap.size≤x∧x<W5.heap.size) wr B0 (.agg cs4.toArray)∧Below w.heap.size w wr∧W5.heap.size≤wr.heap.size) (fun i _=>N-(intOf i).toNat)
  case atStart=>exact ⟨0,Nat.zero_le _,rfl,HK0.out,HQ5.out,HV5.out,HB5.out,Nat.le_refl _⟩
  case round=>
   obtain ⟨k,hk,rfl,hSk,hQk,hVk,hBk,hhi⟩:=hrel
   by_cases hlt:k<N
   ·have hltz:(k:Int)<(N:Int):=by omega
    have hk22:k<22:=by have:=HN.out;omega
    obtain ⟨W6,hW6⟩:∃W6,W6=wr.alloc (.cells #[.int .u8 (97+(k:Int))] 5):=⟨_,rfl⟩
    have hb6:Below wr.heap.size wr W6:=by rw [hW6];exact (Below.refl _ _).alloc (Nat.le_refl _) _
    have hwrap:IntKind.u8.wrap (97+(k:Int))=97+(k:Int):=by unfold IntKind.wrap;simp [IntKind.bits,IntKind.signed];omega
    have hro:=ro_char wr (k:=k) (by omega) 5
    rw [←hW6] at hro
    have hrq:=(hQk.below' hb6).rng
    have HW6:=Lib.hid hW6
    have hl4:=aV hVk
    have HSK:=Lib.hid (hSk.below hb6)
    have HQK:=Lib.hid (hQk.below' hb6)
    have HVK:=Lib.hid (hVk.below hb6)
    have HBK:=Lib.hid (Below.call hBk hb6)
    have HHI:=Lib.hid (Nat.le_trans hhi hb6.size)
    have HRO:=Lib.hid hro
    have HK:=Lib.hid hlt
    have HL4:=Lib.hid hl4
    clear hSk hQk hVk hBk hhi hro hlt hb6 hk hl4 hW6
    go_upto_region 15 with (first|(rw [←HW6.out];refine iL rfl (Di rfl rfl HRO.out) ?_)|(refine wpList_load_mid rfl 32 (.tmp 12) rfl q 0 rfl cs4 _ hrq Tryz.underlying32 rfl (by rw [aN,HL4.out]) ?_)|(go_at_call 10;go_must (rw [nm_cat2];refine (Qe (by omega) HSK.out HHI.out HVK.out F0.out.1 F0.out.2.1 F0.out.2.2.1 F0.out.2.2.2.1 (fun h=>by have:=HGV.out;omega)).mono ?_;rintro r w7 ⟨rfl,hS7,hf7⟩;have HS7:=Lib.hid hS7;have HF7:=Lib.hid hf7;clear hS7 hf7)))
    have hqh:q<W5.heap.size:=HQ5.out.lt
    have hQ7:aj w7 q cs4 32:=HF7.out.blk HQK.out (fun h=>by rcases h with h|h;exact absurd h (by have:=HGQ.out;omega);omega)
    have hV7:cJ (fun x=>V.heap.size≤x∧x<W5.heap.size) w7 B0 (.agg cs4.toArray):=HVK.out.later fun x hx ha=>⟨HF7.out.block x hx (fun h=>by have h1:=HGV.out;have h2:=ha.1;have h3:=ha.2;rcases h with h|h<;>omega),ha⟩
    have hB7:Below w.heap.size w w7:=HBK.out.trans (HF7.out.below HBK.out.size fun x hx=>by have h1:=HGE.out;have h2:=HB5.out.size;rcases hx with h|h<;>omega)
    have hhi7:W5.heap.size≤w7.heap.size:=Nat.le_trans HHI.out HF7.out.size
    have H7:=Lib.hid (show nK w7 g (k+1) W5.heap.size∧aj w7 q cs4 32∧cJ (fun x=>V.heap.size≤x∧x<W5.heap.size) w7 B0 (.agg cs4.toArray)∧Below w.heap.size w w7∧W5.heap.size≤w7.heap.size from ⟨HS7.out,hQ7,hV7,hB7,hhi7⟩)
    clear hqh hQ7 hV7 hB7 hhi7
    by_cases h20:k<20
    ·have h20z:(k:Int)<20:=by omega
     rw [if_pos h20]
     go_wp2
     have hk1:=HK.out
     refine ⟨?_,?_⟩
     ·exact ⟨k+1,HK.out,by simp,H7.out⟩
     ·show N-(intOf (.int .i64 ((k:Int)+1))).toNat<N-(intOf (.int .i64 (k:Int))).toNat
      simp only [intOf]
      omega
    ·have h20z:¬(k:Int)<20:=by omega
     rw [if_neg h20]
     go_wp2
     have hk1:=HK.out
     refine ⟨?_,?_⟩
     ·exact ⟨k+1,HK.out,by simp,H7.out⟩
     ·show N-(intOf (.int .i64 ((k:Int)+1))).toNat<N-(intOf (.int .i64 (k:Int))).toNat
      simp only [intOf]
      omega
   ·obtain rfl:k=N:=by omega
    have HSK:=Lib.hid hSk
    have HBK:=Lib.hid hBk
    have hmin:((min k 20:Nat):Int)=min (k:Int) 20:=by omega
    clear hSk hQk hVk hBk hhi
    go_wp2_with (first|(go_at_call 23;first |(with_reducible refine (sF _).mono ?_;rintro r w7 ⟨rfl,rfl⟩)|(go_must (refine (DE HSO.out HSK.out).mono ?_;rintro r w8 ⟨a8,c8,rfl,hb8⟩;have HB8:=Lib.hid hb8;clear hb8)))|(go_at_call 13;go_must (refine (xV s HM.out (p:=none) (.inl rfl)).mono ?_;rintro r w7 ⟨rfl,rfl⟩))|(go_at_call 8;go_must (refine (eU _).mono ?_;rintro r wa ⟨rfl,hba⟩;have HBA:=Lib.hid hba;clear hba)))
    all_goals (go_ret;exact ⟨rfl,Below.call (Below.call HBK.out HB8.out) HBA.out⟩)
set_option maxRecDepth 100000 in
set_option maxHeartbeats 2000000 in
theorem nothing_big {s:ByteArray} {n:Int} {L:Nat} (hL:L=s.size) (w:World) (h:50<L∨n<0∨22<n):Calls Tryz.prog 6 #[.string s,.int .i64 n] w fun e w'=>e= .returned (.bool true)∧Below w.heap.size w w':=by
 have hs0:(s.size:Int)=L:=by omega
 clear hL
 by_cases h1:50<(L:Int)
 ·clear h
  go_enter Tryz.func6,Tryz.ntmps6
  go_wp2_with (go_at_call 8;go_must (refine (eU _).mono ?_;rintro r w1 ⟨rfl,hb⟩))
  go_ret
  exact ⟨rfl,hb⟩
 ·by_cases h2:n<0
  ·clear h
   go_enter Tryz.func6,Tryz.ntmps6
   go_wp2_with (go_at_call 8;go_must (refine (eU _).mono ?_;rintro r w1 ⟨rfl,hb⟩))
   go_ret
   exact ⟨rfl,hb⟩
  ·have h3:22<n:=by omega
   clear h
   go_enter Tryz.func6,Tryz.ntmps6
   go_wp2_with (go_at_call 8;go_must (refine (eU _).mono ?_;rintro r w1 ⟨rfl,hb⟩))
   go_ret
   exact ⟨rfl,hb⟩
theorem nothing_any (hso:∀m,AnyZ.SortsIn Tryz.prog bU Fence.wide m) {s:ByteArray} {n:Int} (w:World):Calls Tryz.prog 6 #[.string s,.int .i64 n] w fun e w'=>e= .returned (.bool true)∧Below w.heap.size w w':=by
 by_cases h:50<s.size∨n<0∨22<n
 ·exact nothing_big rfl w h
 ·obtain ⟨N,rfl⟩:∃N:Nat,n=(N:Int):=⟨n.toNat,by omega⟩
  exact nothing_small hso N rfl (by omega) (by omega) w
theorem serverNothing_any {s:ByteArray} {n:Int} (w:World) (_hs:s.size≤maxLen) (_hn:(Lit.int .i64 n).wf=true):Calls Tryz.prog 6 #[.string s,.int .i64 n] w fun e w'=>e= .returned (.bool true)∧Below w.heap.size w w':=nothing_any Jt w
namespace serverNothingDone
theorem own:ownKnob Tryz.prog.godebug=none:=by kernel_rfl
theorem laidOut:laidOutB Tryz.prog=true:=by kernel_rfl
set_option maxRecDepth 100000 in
theorem lifted (os:Os) (started:os.Started) (H:Type) (enc:TypeId×Value→H):
  ReturnsInHanded {} Tryz.checked os 6 .any (Rows.serverNothingSpec.pre6 enc Tryz.prog Tryz.f6 Rows.serverNothingRow.domain false) (Rows.serverNothingSpec.post enc Tryz.prog Tryz.f6 false true false false):=by
 refine returnsInHanded_of_change (C:=Tryz.checked) own started (by kernel_rfl) Tryz.func6
  (ChangeSpec.witness6 (enc:=enc) (C:=Tryz.checked) false ⟨#[],#[.string ⟨#[]⟩,.int .i64 0],[]⟩ 8 (by kernel_rfl) (by kernel_rfl) (by kernel_rfl) (by kernel_rfl)) ?_
 intro W base args ds gs before hval0 hW hcnd _
 have hval:∀(j:Nat) t v,Tryz.f6.params[j]?=some t→args[j]?=some v→Value.okWide Tryz.prog W .any base t v:=hval0
 have hW':=hW
 obtain ⟨p,q,hA0,hV,rfl,hfz,hnd⟩:=hW
 have hA:DataW.TrodAll enc Tryz.prog W 0 (fun _=>true) true Tryz.f6.params.toList args.toList ds p:=hA0
 rw [Tryz.params6] at hA hval
 obtain ⟨v0,vs0,d0,ds0,p0,q0,hargs,rfl,rfl,h0,r0⟩:=trodAll_cons hA
 obtain ⟨v1,vs1,d1,ds1,p1,q1,rfl,rfl,rfl,h1,r1⟩:=trodAll_cons r0
 obtain ⟨rfl,rfl,rfl⟩:=trodAll_nil r1
 obtain rfl:args= #[v0,v1]:=by cases args;simp_all
 obtain ⟨rfl,rfl⟩:=trodVars_none hV
 obtain ⟨a0,rfl,rfl,rfl,w0⟩:=open_string Tryz.underlying9 (hval 0 9 v0 rfl rfl) h0
 obtain ⟨a1,rfl,rfl,rfl,w1⟩:=open_int Tryz.underlying3 (hval 1 3 v1 rfl rfl) h1
 clear hA0 hval0
 refine (serverNothing_any W w0 w1).mono fun e W' ⟨he,bel⟩=> ?_
 subst he
 exact ⟨_,rfl,_,_,_,[],_,[],hW',trodAll_mk1 (shut_bool Tryz.underlying4 _),(trodAll_cons_mk (shut_string Tryz.underlying9 w0) (trodAll_cons_mk (shut_int Tryz.underlying3 w1) trodAll_mk0)),rfl,bel.frame _,fun h=>by cases h⟩
theorem over:Rows.serverNothingRow.holds Tryz.pinned (OpenSpec.ofChange Rows.serverNothingSpec):=
 OpenClaim.holds_of_wide 6 Tryz.f6 rfl rfl rfl rfl rfl rfl rfl ⟨rfl,rfl,rfl,rfl,rfl⟩ rfl rfl rfl rfl rfl (by kernel_rfl) Tryz.func6 (by kernel_rfl)
  (of_decide_eq_true (by kernel_rfl)) (by unfold Func.isWrapper;first |(rw [if_pos (by decide +kernel)];kernel_rfl)|(rw [if_neg (by decide +kernel)];exact ⟨rfl,rfl⟩))
  (fun os started H enc _=>lifted os started H enc)
theorem proved:Rows.ServerNothingSaid:=over
#print axioms proved
end serverNothingDone

end Go.Proofs.YtknlbpjcjdenbaaGreat
