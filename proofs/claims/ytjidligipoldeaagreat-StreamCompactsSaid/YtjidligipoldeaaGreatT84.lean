/-
  Contracts and plain laws of this seat, part 84.
-/
import Derived.Test.YtjidligipoldeaaGreatT77
import Derived.Test.YtjidligipoldeaaGreatT16
import Derived.Test.YtjidligipoldeaaGreatT74
import Derived.Test.YtjidligipoldeaaGreatT83
set_option linter.unusedVariables false
set_option linter.unusedSimpArgs false
set_option maxRecDepth 100000
set_option maxHeartbeats 16000000
namespace Go.Proofs.YtjidligipoldeaaGreat
open Go.RowKit Go
def ofT(k:Nat)(x:Chg):Bool:=decide (x.table=(k:Int))
theorem Ld{k:Nat}{l:List Chg}{i:Nat}(hi:i<l.length):(l.take (i+1)).filter (ofT k)=(l.take i).filter (ofT k)++(if l[i].table=(k:Int) then [l[i]] else []):=by
 rw[List.take_succ_eq_append_getElem hi,List.filter_append]
 congr 1
 unfold ofT
 by_cases h:l[i].table=(k:Int)
 ·rw[if_pos h,List.filter_cons_of_pos (by simpa using h)]
  rfl
 ·rw[if_neg h,List.filter_cons_of_neg (by simpa using h)]
  rfl
theorem xZ(A:Option Addr)(c:Nat)(t:List Int)(w:World)(hl:ag w w.heap.size intCells 1 A t)(hn:t.length*8≤140737488351232):
 Calls Tryz.prog 8 #[.slice A t.length c] w fun e w' =>
  (∃CA cc ts k OA oc l,e=.returned (.tuple #[.agg #[.slice CA ts.length cc,.slice none 0 0,.slice none 0 0,.slice none 0 0,.slice none 0 0,.slice none 0 0,.slice none 0 0,.slice none 0 0],.int .i64 (k:Nat),.slice OA l.length oc])∧aF w' w'.heap.size CA ts∧aM ts∧k<ts.length∧dQ w' w'.heap.size OA l∧bK ts l∧(∀x∈l,x.table=(k:Int))∧l.length≤16 ∧ ∀x∈l,x.row.length≤8)∧Below w.heap.size w w':=by
 obtain⟨ic,hic,lL,lK,lJ⟩:=info_parts l7
 have HL0:=qh hl
 clear hl
 go_enter Tryz.func8,Tryz.ntmps8
 go_upto_region 1 with (fail)
 refine ah (P:=fun u=>Code.wp _ _ _ _ u) (R:=fun u=>Blk u w.heap.size 33 #[.slice none 0 0,.slice none 0 0,.slice none 0 0,.slice none 0 0,.slice none 0 0,.slice none 0 0,.slice none 0 0,.slice none 0 0]∧Below w.heap.size w u) ⟨Blk.new _ _ _,by exact ai⟩ ?_
 rintro w0 ⟨hR0,hb0⟩
 have HR0:=qh hR0
 have Xa:=hR0.lt
 clear hR0
 go_upto_region 2 with (go_at_call 24;(refine(KJ A c t _ (HL0.out.next hb0) hn).mono ?_);rintro e w1 ⟨⟨g,b,rfl,hg1,hb1,hk1⟩,hx1⟩)
 have Ty:Below w.heap.size w w1:=aa hb0 hx1 hb0.size
 have HK1:=qh hk1
 have HR1:=qh (HR0.out.below hx1 Xa)
 have ME:=hk1.ltg
 have hz1:=hx1.size
 have hz0:=hb0.size
 clear hk1 HL0
 go_upto_region 3 with (go_at_call 25;(refine(Cq g b 2 _ HK1.out omA omA).mono ?_);rintro e w2 ⟨CA,cc,ts,rfl,ht2,hu2,XU,hs2,hok2,h02,ZM,hk2,hg2⟩)
 have HK2:=qh hk2
 have HT2:=qh ht2
 have HU:=qh hu2
 have HS:=qh hs2
 have HOK:=qh hok2
 have hz2:=hg2.size
 have hx2:Below w.heap.size w w2:=Below.grown Ty hg2 Ty.size inB
 have HR2:=qh (HR1.out.grown hg2 inA)
 clear hk2 ht2 hu2 XU hs2 hok2 hg2 HK1
 refine ah (P:=fun u=>Code.wp _ _ _ _ u) (R:=fun u=>Blk u w2.heap.size 33 #[.slice CA ts.length cc,.slice none 0 0,.slice none 0 0,.slice none 0 0,.slice none 0 0,.slice none 0 0,.slice none 0 0,.slice none 0 0]∧Below w2.heap.size w2 u) ⟨?_,?_⟩ ?_
 ·exact Blk.new' rfl
 ·exact ai
 rintro W ⟨hC,hbW⟩
 have HC:=qh hC
 have hzC:=hC.lt
 have HKW:=qh (HK2.out.below hbW)
 have hxW:Below w.heap.size w W:=aa hx2 hbW hx2.size
 have HTW:=qh (HT2.out.next hbW)
 have HRW:=qh (HR2.out.below hbW HR2.out.lt)
 have hgW:g<W.heap.size:=HKW.out.ltg
 have hzW:=hbW.size
 obtain⟨p0,p1,p2,p3,p4,p5,p6,p7⟩:=Cat.blk hC
 clear hC HK2 HT2
 go_upto_region 4 with (go_at_call 26;(refine(aK g b ts.length _ HKW.out omA omA).mono ?_);rintro e u0 ⟨k,rfl,hk0,hkk,hgg⟩)
 have hkt:k<ts.length:=by
  rcases hk0 with h|h
  ·omega
  ·omega
 have HG0:=qh hgg
 have HK0:=qh hkk
 have HC0:=qh (HC.out.grown hgg inA)
 have HT0:=qh (HTW.out.grown HU.out ME hgg)
 clear p0 p1 p2 p3 p4 p5 p6 p7 hk0 hkk hgg
 obtain⟨p0,p1,p2,p3,p4,p5,p6,p7⟩:=Cat.blk HC0.out
 go_upto_region 5 with (go_at_call 27;(refine(zi g b w1.heap.size 16 CA cc ts.length ts _ HK0.out ME HT0.out HU.out rfl HS.out HOK.out h02 omA).mono ?_);rintro e u1 ⟨LA,lc,l,rfl,hll,hoc,hk3,hg3,hhi⟩)
 have Y8:=hg3.size
 have Zd:=HG0.out.size
 have HK3:=qh hk3
 have HG3:Hid (W.grownBy u1 (some g)):=qh (au HG0.out hg3)
 have V4:=qh hoc
 have qX:=qh (MB HOK.out hhi omA)
 clear hk3 hg3 hoc hhi p0 p1 p2 p3 p4 p5 p6 p7
 go_upto_if 25 with (go_at_call 26;(refine(aK g b 4 _ HK3.out omA omA).mono ?_);rintro e u2 ⟨r2,rfl,hr2,hk4,hg4⟩)
 have HG4:Hid (W.grownBy u2 (some g)):=qh (au HG3.out hg4)
 have HK4:=qh hk4
 have zO:=qh (V4.out.kept hg4 omA)
 clear hk4 hg4 V4
 go_cut [8] (fun v8 wc =>∃(LA:Option Addr) (lc:Nat) (l:List Chg),v8=.slice LA l.length lc∧l.length≤16∧jM wc W.heap.size LA lc l∧bK ts l∧aP wc g b∧W.grownBy wc (some g))
 case first =>
  by_cases hr0:r2=0
  ·subst hr0
   have HC2:=qh (HC.out.grown HG4.out inA)
   have HT2:=qh (HTW.out.grown HU.out ME HG4.out)
   obtain⟨p0,p1,p2,p3,p4,p5,p6,p7⟩:=Cat.blk HC2.out
   have hz4:=HG4.out.size
   go_wp2_with (go_at_call 28;(refine(EC g b w1.heap.size 16 CA cc ts.length ts _ HK4.out ME HT2.out HU.out rfl HS.out HOK.out h02 omA).mono ?_);rintro e u3 ⟨LB,lb,lB,rfl,hlB,hoB,hk5,hg5,hwi⟩;have HOB:=qh hoB;have HK5:=qh hk5;have HG5:Hid (W.grownBy u3 (some g)):=qh (au HG4.out hg5);have YI:=qh (hwi.Td HOK.out omA);clear hoB hk5 hg5 hwi)
   go_meet
   exact⟨LB,lb,lB,rfl,hlB,⟨HOB.out.own.mono hz4,fun x hx=>(HOB.out.rows x hx).mono hz4,HOB.out.len⟩,YI.out,HK5.out,HG5.out⟩
  ·have mM:((r2:Int) == 0)=false:=by simp;omega
   have Zy:decide ((r2:Int)=0)=false:=by simp;omega
   go_wp2_with fail
   go_meet
   exact⟨LA,lc,l,rfl,hll,⟨zO.out.own.mono omA,fun x hx=>(zO.out.rows x hx).mono omA,zO.out.len⟩,qX.out,HK4.out,HG4.out⟩
 case rest =>
  clear HK3 HG3 HG4 HK4 zO qX hll HK0 HC0 HT0
  obtain⟨LA,lc,l,rfl,hll,hoc,Uq,hk4,hg4⟩:=hcut
  have hz4:=hg4.size
  have qX:=qh Uq
  have zO:=qh hoc
  have HC2:=qh (HC.out.grown hg4 inA)
  have HT2:=qh (HTW.out.grown HU.out ME hg4)
  have VU:=qh (HRW.out.grown hg4 inA)
  have hx4:Below w.heap.size w wc:=Below.grown hxW hg4 hxW.size inB
  have HCH:Hid (ag wc wc.heap.size Chg.cells 12 LA l):=qh hoc.read.1
  clear Uq hk4 hoc hg4 HC HTW HKW HRW
  go_upto_region 9 with (fail)
  go_loopw [9,10] (fun v9 v10 wr =>∃(i:Nat) (OA:Option Addr) (oc:Nat) (out:List Chg),i≤l.length∧v10=.int .i64 i∧v9=.slice OA out.length oc∧aj wr wc.heap.size 52 Chg.cells 12 (.slice OA out.length oc) out∧out=(l.take i).filter (ofT k)∧Below wc.heap.size wc wr) (fun _ v10 _=>l.length-(intOf v10).toNat)
  case atStart=>exact⟨0,none,0,[],Nat.zero_le _,rfl,rfl,aj.nil,rfl,Below.refl _ _⟩
  case round =>
   obtain⟨i,OA,oc,out,hi,rfl,rfl,hown,hout,hbr⟩:=hrel
   have HOWN:=qh hown
   have SE:=qh hout
   have hwz:=hbr.size
   have HOL:Hid (out.length≤16):=qh (by rw[hout];exact Nat.le_trans (List.length_filter_le _ _) (by rw[List.length_take];omega))
   clear hown hout
   by_cases hlt:i<l.length
   ·have hlt':decide (i<l.length)=true:=by simpa using hlt
    have kG:decide ((i:Int)<(l.length:Int))=true:=by simp;omega
    have HTK:=qh (Ld (k:=k) hlt)
    obtain⟨b5,o5,rfl,hb5,hc5⟩:=(HCH.out.below hbr).get hlt
    obtain⟨⟨q0,q1,q2,q3⟩,q4,⟨q5,q6,q7⟩,q8,q9,q10,q11⟩:=Chg.mg hc5
    obtain⟨⟨kd,sq,dy,tb,XA,xc,row,key,cl,vl⟩,hx⟩:∃x,l[i]=x:=⟨_,rfl⟩
    rw[hx]at q0 q1 q2 q3 q4 q5 q6 q7 q8 q9 q10 q11 HTK
    simp only at q0 q1 q2 q3 q4 q5 q6 q7 q8 q9 q10 q11 HTK
    clear hx hc5
    by_cases htk:tb=(k:Int)
    ·have ht1:(tb==(k:Int))=true:=by simpa using htk
     have WU:decide (tb=(k:Int))=true:=by simpa using htk
     have HNW:Hid ((l.take (i+1)).filter (ofT k)=out ++ [(⟨kd,sq,dy,tb,XA,xc,row,key,cl,vl⟩:Chg)]):=qh (by rw[HTK.out,if_pos htk,SE.out])
     clear htk
     go_wp2_with (at_builtin;go_must (refine aO _ rfl (.tmp 42) (.tmp 47) 34 rfl 52 ic _ Chg.cells 12 128 Tryz.underlying34 hic lL lK lJ rfl omA eu iI wc.heap.size (.slice OA out.length oc) out rfl (HOWN.out.alloc _) _ _ _ [(⟨kd,sq,dy,tb,XA,xc,row,key,cl,vl⟩:Chg)] rfl rfl (Blk.one (enc:=Chg.cells) (x:=⟨kd,sq,dy,tb,XA,xc,row,key,cl,vl⟩) (Blk.new' rfl) spA) (by have:=HOL.out;simp;omega) (by have:=HOL.out;simp[maxLen];omega) smA ?_);intro v6 w6 hown6 hg6 j4;obtain⟨A6,c6,hv6,_,_⟩:=hown6.form;subst hv6;have HW6:=qh hown6;have HG6:=qh hg6;clear hown6 hg6 j4)
     go_roundw
     case rel=>exact⟨i+1,A6,c6,out ++ [⟨kd,sq,dy,tb,XA,xc,row,key,cl,vl⟩],by omega,by go_num,by simp,by simpa using HW6.out,HNW.out.symm,Below.grown (hbr.alloc hwz _) HG6.out smA (fun q e=>HOWN.out.row q e)⟩
     case measure=>exact meA
    ·have ht1:(tb==(k:Int))=false:=by simpa using htk
     have WU:decide (tb=(k:Int))=false:=by simpa using htk
     have HNW:Hid ((l.take (i+1)).filter (ofT k)=out):=qh (by rw[HTK.out,if_neg htk,List.append_nil,SE.out])
     clear htk
     go_wp2_with fail
     go_roundw
     case rel=>exact⟨i+1,OA,oc,out,by omega,by go_num,rfl,HOWN.out,HNW.out.symm,hbr⟩
     case measure=>exact meA
   ·have hlt':decide (i<l.length)=false:=by simpa using hlt
    have kG:decide ((i:Int)<(l.length:Int))=false:=by simp;omega
    have lN:Hid (out=l.filter (ofT k)):=qh (by rw[SE.out,List.take_of_length_le omA])
    have HCr:=qh (HC2.out.below hbr HC2.out.lt)
    have HRr:=qh (VU.out.below hbr VU.out.lt)
    obtain⟨p0,p1,p2,p3,p4,p5,p6,p7⟩:=Cat.blk HCr.out
    obtain⟨r0,r1,r2,r3,r4,r5,r6,r7⟩:=Cat.blk HRr.out
    have rf:=fun j=>HRr.out.frozen j
    have hrl:=HRr.out.lt
    have hcl:=HCr.out.lt
    have hxr:Below w.heap.size w wr:=aa hx4 hbr hx4.size
    go_wp2_with fail
    generalize hW8:World.setCell _ _ _=W8
    have hg8:wr.grownBy W8 (some w.heap.size):=by
     rw[←hW8]
     iterate 8 (refine yH ?_ _ _)
     exact gL _ _
    have hxe:Below w.heap.size w W8:=Below.grown hxr hg8 hxr.size inB
    have hB:Blk W8 w.heap.size 33 #[.slice CA ts.length cc,.slice none 0 0,.slice none 0 0,.slice none 0 0,.slice none 0 0,.slice none 0 0,.slice none 0 0,.slice none 0 0]:=by
     rw[←hW8]
     have h:=(((((((HRr.out.aH 0 (.slice CA ts.length cc)).aH 1 (.slice none 0 0)).aH 2 (.slice none 0 0)).aH 3 (.slice none 0 0)).aH 4 (.slice none 0 0)).aH 5 (.slice none 0 0)).aH 6 (.slice none 0 0)).aH 7 (.slice none 0 0)
     simpa using h
    clear r0 r1 r2 r3 r4 r5 r6 r7
    obtain⟨r0,r1,r2,r3,r4,r5,r6,r7⟩:=Cat.blk hB
    have hne:∀ {A:Option Addr},(∀a,A=some a→w1.heap.size≤a.block)→∀a,A=some a→some a.block≠some w.heap.size:=fun h a ha e=>by
     have h1:=h a ha
     injection e with e
     omega
    have Vp:jM W8 W.heap.size LA lc l:=⟨(zO.out.own.below hbr nlr).kept hg8 fun q hq e=>by(have h1:=zO.out.own.row q hq);injection e with e;omega,fun x hx=>((zO.out.rows x hx).below hbr nlr).kept hg8 fun q hq e=>by(have h1:=(zO.out.rows x hx).row q hq);injection e with e;omega,zO.out.len⟩
    have X7:=HOWN.out.kept hg8 fun q hq e=>by(have h1:=HOWN.out.row q hq);injection e with e;omega
    have hT8:aF W8 W8.heap.size CA ts:=(HT2.out.next hbr).grown HU.out omA hg8
    refine bodyPost_ret (v:= .tuple #[.agg #[.slice CA ts.length cc,.slice none 0 0,.slice none 0 0,.slice none 0 0,.slice none 0 0,.slice none 0 0,.slice none 0 0,.slice none 0 0],.int .i64 (k:Nat),.slice OA out.length oc]) (by simp[results,Tryz.results8,go_sem,r0,r1,r2,r3,r4,r5,r6,r7]) rfl ⟨⟨CA,cc,ts,k,OA,oc,out,rfl,hT8,HS.out,hkt,⟨dM eu X7,fun x hx =>?_⟩,?_,fun x hx =>?_,HOL.out,fun x hx =>?_⟩,hxe⟩
    ·have hm:x∈l:=by
      rw[lN.out]at hx
      exact(List.mem_filter.1 hx).1
     exact dM bC (Vp.rows x hm)
    ·rw[lN.out]
     exact ES qX.out _
    ·rw[lN.out]at hx
     have h1:=(List.mem_filter.1 hx).2
     unfold ofT at h1
     simpa using h1
    ·have hm:x∈l:=by
      rw[lN.out]at hx
      exact(List.mem_filter.1 hx).1
     exact Vp.len x hm
end Go.Proofs.YtjidligipoldeaaGreat
