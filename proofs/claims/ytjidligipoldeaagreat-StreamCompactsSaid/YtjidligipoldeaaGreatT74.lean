/-
  Contracts and plain laws of this seat, part 74.
-/
import Derived.Test.YtjidligipoldeaaGreatT51
import Derived.Test.YtjidligipoldeaaGreatT71
set_option linter.unusedVariables false
set_option linter.unusedSimpArgs false
set_option maxRecDepth 100000
set_option maxHeartbeats 16000000
namespace Go.Proofs.YtjidligipoldeaaGreat
open Go.RowKit Go
structure mh (ts:List Tab) (i:Nat) (l:List Chg):Prop where
 form:∀x∈l,aV ts x=0
 bd:∀x∈l,x.seq≤(i:Int) ∧ 2*x.day≤(i:Int)
 ord:l.Pairwise (fun a b=>a.seq<b.seq∧a.day≤b.day)
theorem mh.nil(ts:List Tab):mh ts 0 []:=⟨(fun x h=>by cases h),(fun x h=>by cases h),List.Pairwise.nil⟩
theorem mh.skip{ts:List Tab}{i:Nat}{l:List Chg}(h:mh ts i l):mh ts (i+1) l:=⟨h.form,fun x hx=>by have:=h.bd x hx;omega,h.ord⟩
theorem mh.put{ts:List Tab}{i:Nat}{l:List Chg}(h:mh ts i l){x:Chg}(hf:aV ts x=0)(hs:x.seq=(i:Int)+1)(hd:x.day=(i:Int) / 2):mh ts (i+1) (l ++ [x]):=by
 refine⟨fun y hy =>?_,fun y hy =>?_,List.pairwise_append.2 ⟨h.ord,List.pairwise_singleton _ _,fun a ha b hb =>?_⟩⟩
 ·rcases List.mem_append.1 hy with h1|h1
  ·exact h.form y h1
  ·rw[List.mem_singleton.1 h1];exact hf
 ·rcases List.mem_append.1 hy with h1|h1
  ·have:=h.bd y h1;omega
  ·rw[List.mem_singleton.1 h1];omega
 ·rw[List.mem_singleton.1 hb]
  have:=h.bd a ha
  omega
theorem mh.Td{ts:List Tab}{i:Nat}{l:List Chg}(hok:aN ts)(h:mh ts i l)(hl:l.length≤1024):bK ts l:=ib hok hl h.form h.ord
theorem EC(g b B n:Nat)(A:Option Addr)(c m:Nat)(ts:List Tab)(w:World)(hk:aP w g b)(hgB:g<B)(ht:aF w w.heap.size A ts)(hu:gN B A ts)(hm:ts.length=m)(hs:aM ts)(hok:aN ts)(h0:0<ts.length)(hn:n≤1000):
 Calls Tryz.prog 28 #[.pointer (some ⟨g,0,none⟩),.agg #[.slice A m c,.slice none 0 0,.slice none 0 0,.slice none 0 0,.slice none 0 0,.slice none 0 0,.slice none 0 0,.slice none 0 0],.int .i64 n] w fun e w' =>
  ∃A' c' l,e=.returned (.slice A' l.length c')∧l.length≤n∧jM w' w.heap.size A' c' l∧aP w' g b∧w.grownBy w' (some g)∧mh ts n l:=by
 subst hm
 have hgl:=hk.ltg
 have hbl:=hk.lt
 obtain⟨ic,hic,lL,lK,lJ⟩:=info_parts l7
 have HK:=qh hk
 have HT:=qh ht
 have HU:=qh (hu.mono (B':=g+1) hgB)
 have HS:=qh hs
 have HOK:=qh hok
 clear hk ht hu hs hok
 go_enter Tryz.func28,Tryz.ntmps28
 go_upto_region 1 with (fail)
 refine ah (P:=fun u=>Code.wp _ _ _ _ u) (R:=fun u=>Blk u w.heap.size 33 #[.slice A ts.length c,.slice none 0 0,.slice none 0 0,.slice none 0 0,.slice none 0 0,.slice none 0 0,.slice none 0 0,.slice none 0 0]∧Below w.heap.size w u) ⟨?_,?_⟩ ?_
 ·exact Blk.new _ _ _
 ·exact ai
 rintro W ⟨hC,hbW⟩
 have hzW:=hC.lt
 have hS0:aC W g b W:=⟨HK.out.below hbW,aZ _ brf⟩
 have j3:b<W.heap.size:=by omega
 have iZ:g<W.heap.size:=by omega
 have HC:=qh hC
 have HTW:=qh (HT.out.next hbW)
 obtain⟨p0,p1,p2,p3,p4,p5,p6,p7⟩:=Cat.blk hC
 clear hC
 go_wp2_with fail
 (with_reducible refine(xP A c ts.length ts _ HTW.out rfl HS.out HOK.out).mono ?_)
 rintro e w1 ⟨⟨q,rfl,hq,hrt⟩,hb1⟩
 have hS1:=hS0.below hb1
 have NB:=qh hrt
 clear hrt
 clear p0 p1 p2 p3 p4 p5 p6 p7
 go_wp2_with fail
 go_loopw [7,8,9] (fun v7 v8 v9 wr =>∃(i:Nat) (RA:Option Addr) (rc:Nat) (rt:List RTab) (LA:Option Addr) (lc:Nat) (l:List Chg),i≤n∧v9=.int .i64 i∧v7=.slice RA ts.length rc∧rt.length=ts.length∧(∃T B,nI wr g RA rt (.slice LA l.length lc) T B)∧eU ts rt∧v8=.slice LA l.length lc∧jM wr W.heap.size LA lc l∧l.length≤i∧mh ts i l∧aC W g b wr) (fun _ _ v9 _=>n-(intOf v9).toNat)
 case atStart=>exact⟨0,_,_,_,none,0,[],Nat.zero_le _,rfl,rfl,by simp,⟨g+1,_,NB.out,Gr omA _,Nat.le_refl _,Nat.le_refl _,fun q hq=>by simp[Value.ownBlock]at hq⟩,xe ts,rfl,⟨aj.nil,fun x hx=>by simp at hx,fun x hx=>by simp at hx⟩,Nat.zero_le _,mh.nil ts,hS1⟩
 case round =>
  clear hS1 NB hb1 hq
  obtain⟨i,RA,rc,rt,LA,lc,l,hi,rfl,rfl,hrl,⟨T,B0,hwt⟩,hsh,rfl,hoc,hln,hwi,hSr⟩:=hrel
  have HWI:=qh hwi
  clear hwi
  have HRL:=qh hrl
  have HWT:=qh hwt
  have HSH:=qh hsh
  have HOC:=qh hoc
  have HSR:=qh hSr
  have hzr:=hSr.size
  have hgw:w.grownBy W (some g):=aZ _ hbW
  clear hrl hwt hsh hoc
  by_cases h1:i<n
  rotate_left
  ·have h1':decide (i<n)=false:=by simpa using h1
   have h1i:decide ((i:Int)<(n:Int))=false:=by simp;omega
   go_wp2_with fail
   go_ret
   exact⟨LA,lc,l,rfl,by omega,⟨HOC.out.own.mono omA,fun x hx=>(HOC.out.rows x hx).mono omA,HOC.out.len⟩,HSR.out.tape,au hgw HSR.out.grown,by have h:=HWI.out;rwa [show i=n by omega]at h⟩
  have h1':decide (i<n)=true:=by simpa using h1
  have h1i:decide ((i:Int)<(n:Int))=true:=by simp;omega
  have hC0:=HSR.out.blk HC.out omA
  obtain⟨p0,p1,p2,p3,p4,p5,p6,p7⟩:=Cat.blk hC0
  clear hC0
  go_wp2_with fail
  (with_reducible refine(vV g b (g+1) A c ts.length ts RA rc ts.length rt _ _ _ HSR.out.tape (Nat.lt_succ_self g) (HT.out.grown HU.out (Nat.lt_succ_self g) (au hgw HSR.out.grown)) HU.out rfl HS.out HOK.out h0 HWT.out.all.1 HWT.out.all.2 HRL.out HSH.out).mono ?_)
  intro e w3 hch
  obtain⟨⟨kd,sq2,dy2,tb,A0,cp,row,key,cl,vl⟩,he,Mg,MK,Fs,hrow,hk3,hg3⟩:=hch
  have Sv:=qh Mg
  have SL:=qh MK
  clear Mg MK
  rw[show (Chg.cells ⟨kd,sq2,dy2,tb,A0,cp,row,key,cl,vl⟩).toArray=#[.int .i64 kd,.int .i64 sq2,.int .i64 dy2,.int .i64 tb,.slice A0 row.length cp,.int .i64 key.kind,.int .i64 key.num,.string key.text,.int .i64 cl,.int .i64 vl.kind,.int .i64 vl.num,.string vl.text] from rfl]at he
  subst he
  simp only at Fs hrow
  have hS3:=HSR.out.call hk3 hg3
  have HG3:Hid (wr.grownBy w3 (some g)):=qh hg3
  have iV:=qh (hrow.mono (b':=W.heap.size) hzr)
  have HS3:=qh hS3
  have hz3:=hS3.size
  clear p0 p1 p2 p3 p4 p5 p6 p7
  clear hk3 hg3 hrow hS3
  go_upto_region 7 with (fail)
  refine ah (P:=fun u=>Code.wp _ _ _ _ u) (R:=fun u=>Blk u w3.heap.size 52 #[.int .i64 kd,.int .i64 sq2,.int .i64 dy2,.int .i64 tb,.slice A0 row.length cp,.int .i64 key.kind,.int .i64 key.num,.string key.text,.int .i64 cl,.int .i64 vl.kind,.int .i64 vl.num,.string vl.text]∧Below w3.heap.size w3 u) ⟨?_,?_⟩ ?_
  ·exact Blk.new' rfl
  ·exact ai
  rintro w4 ⟨hX4,hb4⟩
  have RV:=hX4.lt
  have hz4:=hb4.size
  have HX4:=qh hX4
  have HS4:=qh (HS3.out.below hb4)
  have hC4:=HS4.out.blk HC.out omA
  obtain⟨p0,p1,p2,p3,p4,p5,p6,p7⟩:=Cat.blk hC4
  obtain⟨⟨q0,q1,q2,q3⟩,q4,⟨q5,q6,q7⟩,q8,q9,q10,q11⟩:=Chg.eF (x:=⟨kd,sq2,dy2,tb,A0,cp,row,key,cl,vl⟩) hX4
  simp only at q0 q1 q2 q3 q4 q5 q6 q7 q8 q9 q10 q11
  have PM:=qh ((HOC.out.kept HG3.out iZ).below hb4)
  have Eo:=qh (iV.out.below hb4 nlr)
  have Ym:=qh ((HWT.out.call HG3.out).below hb4)
  obtain⟨z,hz⟩:∃z,aV ts ⟨kd,sq2,dy2,tb,A0,cp,row,key,cl,vl⟩=z:=⟨_,rfl⟩
  have HZ:=qh hz
  clear hC4 hX4 hz
  go_wp2_with fail
  (with_reducible refine(CE A c ts.length ts kd sq2 dy2 tb A0 cp row key cl vl _ (HT.out.grown HU.out (Nat.lt_succ_self g) (au hgw HS4.out.grown)) rfl HS.out HOK.out (dM bC Eo.out) omA HZ.out).mono ?_)
  rintro e w5 ⟨rfl,hb5⟩
  have hz5:=hb5.size
  have HS5:=qh (HS4.out.below hb5)
  have Cc:=qh (PM.out.below hb5)
  have NC:=qh (Eo.out.below hb5 nlr)
  have VE:=qh (Ym.out.below hb5)
  have hX5:=HX4.out.below hb5 RV
  clear p0 p1 p2 p3 p4 p5 p6 p7
  clear q0 q1 q2 q3 q4 q5 q6 q7 q8 q9 q10 q11
  by_cases hz0:z=0
  rotate_left
  ·have hz0':(z != 0)=true:=by simpa using hz0
   clear hz0 hX5
   go_wp2_with fail
   go_roundw
   case rel=>exact⟨i+1,RA,rc,rt,LA,lc,l,by omega,by go_num,rfl,HRL.out,⟨T,B0,VE.out⟩,HSH.out,rfl,Cc.out,by omega,HWI.out.skip,HS5.out⟩
   case measure=>exact meA
  ·have hz0':(z != 0)=false:=by rw[hz0];rfl
   have HX5:=qh hX5
   have HWN:Hid (mh ts (i+1) (l ++ [(⟨kd,sq2,dy2,tb,A0,cp,row,key,cl,vl⟩:Chg)])):=qh (HWI.out.put (by rw[HZ.out,hz0]) Sv.out SL.out)
   obtain⟨⟨q0,q1,q2,q3⟩,q4,⟨q5,q6,q7⟩,q8,q9,q10,q11⟩:=Chg.eF (x:=⟨kd,sq2,dy2,tb,A0,cp,row,key,cl,vl⟩) hX5
   simp only at q0 q1 q2 q3 q4 q5 q6 q7 q8 q9 q10 q11
   clear hX5 hz0
   go_upto_region 9 with (at_builtin;go_must (refine aO _ rfl (.tmp 30) (.tmp 32) 34 rfl 52 ic _ Chg.cells 12 128 Tryz.underlying34 hic lL lK lJ rfl omA eu iI W.heap.size (.slice LA l.length lc) l rfl (Cc.out.own.alloc _) _ _ _ [(⟨kd,sq2,dy2,tb,A0,cp,row,key,cl,vl⟩:Chg)] rfl rfl (Blk.one (enc:=Chg.cells) (x:=⟨kd,sq2,dy2,tb,A0,cp,row,key,cl,vl⟩) (Blk.new' rfl) spA) smA mxA smA ?_);intro v2 w6 hown6 hg6 j4;obtain⟨LA6,lc6,hv6,_,_⟩:=hown6.form;subst hv6;have PL:=qh ((Cc.out.below (brf.alloc nlr _)).app hg6 hown6 (NC.out.alloc _) Fs);have HS6:=qh ((HS5.out.below (brf.alloc nlr _)).app hg6 Cc.out.own.row j3 iZ);have VD:=qh ((VE.out.below (brf.alloc nlr _)).app hg6 j4);clear hown6)
   clear q0 q1 q2 q3 q4 q5 q6 q7 q8 q9 q10 q11
   have hz6:=HS6.out.size
   have hl6:(l ++ [(⟨kd,sq2,dy2,tb,A0,cp,row,key,cl,vl⟩:Chg)]).length≤i+1:=by simp;omega
   go_wp2_with fail
   (with_reducible refine(aK g b 3 _ HS6.out.tape omA omA).mono ?_)
   rintro e u7 ⟨r7,rfl,hr7,hk7,hg7⟩
   have HS7:=qh (HS6.out.call hk7 hg7)
   have NH:=qh (PL.out.kept hg7 iZ)
   have Yl:=qh (VD.out.call hg7)
   have hC7:=HS7.out.blk HC.out omA
   obtain⟨p0,p1,p2,p3,p4,p5,p6,p7⟩:=Cat.blk hC7
   clear hk7 hg7 hC7 HS6 PL VD
   by_cases hr0:r7=0
   ·have mM:decide ((0:Int)<(r7:Int))=false:=by simp;omega
    have Ml:decide (0<r7)=false:=by simp;omega
    clear hr0
    go_wp2_with fail
    go_roundw
    case rel=>exact⟨i+1,RA,rc,rt,LA6,lc6,l ++ [⟨kd,sq2,dy2,tb,A0,cp,row,key,cl,vl⟩],by omega,by go_num,rfl,HRL.out,⟨T,B0,Yl.out⟩,HSH.out,by simp,NH.out,hl6,HWN.out,HS7.out⟩
    case measure=>exact meA
   ·have mM:decide ((0:Int)<(r7:Int))=true:=by simp;omega
    have Ml:decide (0<r7)=true:=by simp;omega
    clear hr0
    have HL8:Hid (∀x∈l ++ [(⟨kd,sq2,dy2,tb,A0,cp,row,key,cl,vl⟩:Chg)],x.row.length≤1000000):=qh fun x hx=>by have:=NH.out.len x hx;omega
    go_wp2_with fail
    (with_reducible refine(mI A c ts.length ts LA6 lc6 _ (l ++ [⟨kd,sq2,dy2,tb,A0,cp,row,key,cl,vl⟩]) _ (HT.out.grown HU.out (Nat.lt_succ_self g) (au hgw HS7.out.grown)) rfl HS.out HOK.out NH.out.read spA omA HL8.out).mono ?_)
    rintro e u8 ⟨⟨RA8,rc8,rt8,rfl,Qc,TV,TT,TM,_⟩,hb8⟩
    have Yz:=qh Qc
    have Yr:=qh TM
    have Yk:Hid (nI u8 g RA8 rt8 (.slice LA6 (l ++ [(⟨kd,sq2,dy2,tb,A0,cp,row,key,cl,vl⟩:Chg)]).length lc6) u7.heap.size u8.heap.size):=qh ⟨TV,TT,by have:=HS7.out.size;omega,Nat.le_refl _,fun q hq =>.inl (NH.out.own.lt q hq)⟩
    have HS8:=qh (HS7.out.below hb8)
    have YH:=qh (NH.out.below hb8)
    clear p0 p1 p2 p3 p4 p5 p6 p7
    clear TV TT TM Qc
    go_wp2_with fail
    go_roundw
    case rel=>exact⟨i+1,RA8,rc8,rt8,LA6,lc6,l ++ [⟨kd,sq2,dy2,tb,A0,cp,row,key,cl,vl⟩],by omega,by go_num,rfl,Yz.out,⟨_,_,Yk.out⟩,Yr.out,by simp,YH.out,hl6,HWN.out,HS8.out⟩
    case measure=>exact meA
end Go.Proofs.YtjidligipoldeaaGreat
