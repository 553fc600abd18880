/-
  Contracts and plain laws of this seat, part 91.
-/
import Derived.Test.YtjidligipoldeaaGreatT84
import Derived.Test.YtjidligipoldeaaGreatT88
set_option linter.unusedVariables false
set_option linter.unusedSimpArgs false
set_option maxRecDepth 100000
set_option maxHeartbeats 16000000
set_option maxRecDepth 100000
namespace Go.Proofs.YtjidligipoldeaaGreat
open Go.RowKit Go Go.Shelf
theorem hqA{P:Prop}(h:P:=by exact fun c a w h=>nomatch h.1):P:=h
theorem fl{P:Prop}(h:P:=by have h:=HW6.out;rw[show es.length+1=(es.map Ent.chg ++ [(⟨kd,sq,dy,tb,XA,xc,row,key,cl,vl⟩:Chg)]).length by simp]at h;exact h):P:=h
theorem fm{P:Prop}(h:P:=by rw[←hwe];exact Blk.new' hg):P:=h
theorem fp{P:Prop}(h:P:=by rw[←hwe];exact(Blk.new' hg).drew):P:=h
theorem fr{P:Prop}(h:P:=by show wr.heap.size<wq.heap.size;omega):P:=h
theorem fs{P:Prop}(h:P:=by show wr.heap.size<w5.heap.size;omega):P:=h
attribute [local go_sem] Oper.semAt_some
theorem H9(w:World):Calls Tryz.prog 29 #[] w fun e w'=>e=.returned (.agg #[.int .i64 0,.int .i64 0,.slice none 0 0])∧Below w.heap.size w w':=by
 go_enter Tryz.func29,Tryz.ntmps29
 go_wp2_with fail
 have hB:Blk (w.alloc (.cells #[.int .i64 0,.int .i64 0,.slice none 0 0] 39)) w.heap.size 39 #[.int .i64 0,.int .i64 0,.slice none 0 0]:=Blk.new _ _ _
 have h0:=hB.cell 0
 have h1:=hB.cell 1
 have h2:=hB.cell 2
 simp only[gE3]at h0 h1 h2
 refine bodyPost_ret (v:= .agg #[.int .i64 0,.int .i64 0,.slice none 0 0]) (by simp[results,Tryz.results29,go_sem,h0,h1,h2]) rfl ⟨rfl,?_⟩
 exact ai
theorem iO(o a0 a1 a2 a3:Int)(A:Option Addr)(m c:Nat)(a5 a6:Int)(s7:ByteArray)(a8 a9 a10:Int)(s11:ByteArray)(w:World):Calls Tryz.prog 49 #[.agg #[.int .i64 o,.int .i64 a0,.int .i64 a1,.int .i64 a2,.int .i64 a3,.slice A m c,.int .i64 a5,.int .i64 a6,.string s7,.int .i64 a8,.int .i64 a9,.int .i64 a10,.string s11,.slice none 0 0,.slice none 0 0]] w fun e w'=>e=.returned (.bool false)∧Below w.heap.size w w':=by
 go_enter Tryz.func49,Tryz.ntmps49
 go_wp2_with fail
 go_ret
 exact⟨rfl,by exact ai⟩
theorem mH(lo nx:Int)(A:Option Addr)(cap n:Nat)(es:List Ent)(w:World)(hE:di w w.heap.size A es)(hn:es.length=n)(hlen:n≤1000):
 Calls Tryz.prog 70 #[.agg #[.int .i64 lo,.int .i64 nx,.slice A n cap]] w fun e w' =>
  (∃A' c',e=.returned (.slice A' n c')∧aj w' w.heap.size 52 Chg.cells 12 (.slice A' n c') (es.map Ent.chg))∧Below w.heap.size w w':=by
 subst hn
 obtain⟨ic,hic,lL,lK,lJ⟩:=info_parts l7
 have HE:=qh hE
 clear hE
 go_enter Tryz.func70,Tryz.ntmps70
 go_upto_region 1 with (fail)
 refine ah (P:=fun u=>Code.wp _ _ _ _ u) (R:=fun u=>Blk u w.heap.size 39 #[.int .i64 lo,.int .i64 nx,.slice A es.length cap]∧Below w.heap.size w u) ⟨Blk.new _ _ _,by exact ai⟩ ?_
 rintro W ⟨hL,hbW⟩
 have HL:=qh hL
 have hll:=hL.lt
 have hzW:=hbW.size
 clear hL
 go_wp2_with fail
 go_loopw [3,4] (fun v3 v4 wr =>∃(i:Nat) (OA:Option Addr) (oc:Nat),i≤es.length∧v4=.int .i64 i∧v3=.slice OA i oc∧aj wr W.heap.size 52 Chg.cells 12 (.slice OA i oc) ((es.take i).map Ent.chg)∧Below W.heap.size W wr) (fun _ v4 _=>es.length-(intOf v4).toNat)
 case atStart=>exact⟨0,none,0,Nat.zero_le _,rfl,rfl,aj.nil,Below.refl _ _⟩
 case round =>
  obtain⟨i,OA,oc,hi,rfl,rfl,hown,hbr⟩:=hrel
  have HOWN:=qh hown
  have hwz:=hbr.size
  have hxr:Below w.heap.size w wr:=aa hbW hbr hbW.size
  have HLr:=qh (HL.out.below hbr hll)
  have l2:=HLr.out.cell 2
  simp only[gE3]at l2
  clear hown
  by_cases hlt:i<es.length
  ·have hlt':decide (i<es.length)=true:=by simpa using hlt
   have kG:decide ((i:Int)<(es.length:Int))=true:=by simp;omega
   obtain⟨b5,o5,rfl,hb5,hc5⟩:=(HE.out.1.below hxr).get hlt
   have HTK:Hid ((es.take (i+1)).map Ent.chg=(es.take i).map Ent.chg ++ [es[i].chg]):=qh (by rw[List.take_succ_eq_append_getElem hlt,List.map_append];rfl)
   obtain⟨⟨y,⟨kd,sq,dy,tb,XA,xc,row,key,cl,vl⟩⟩,hx⟩:∃x,es[i]=x:=⟨_,rfl⟩
   rw[hx]at hc5 HTK
   obtain⟨c0,⟨c1,c2,c3,c4⟩,c5,⟨c6,c7,c8⟩,c9,⟨c10,c11,c12⟩,c13,c14⟩:=Ent.bZ hc5
   simp only at c0 c1 c2 c3 c4 c5 c6 c7 c8 c9 c10 c11 c12 c13 c14 HTK
   clear hx hc5
   go_upto_region 6 with (go_at_call 49;(with_reducible refine(iO _ _ _ _ _ _ _ _ _ _ _ _ _ _ _ _).mono ?_);rintro e w5 ⟨rfl,U9⟩)
   have HB5:=qh U9
   have hz5:=U9.size
   have XX:b5<wr.heap.size:=by omega
   have hk:∀j u,wr.cell? ⟨b5,j,none⟩=some u→w5.cell? ⟨b5,j,none⟩=some u:=fun j u h=>(HB5.out.cell (p:=⟨b5,j,none⟩) XX).trans h
   replace c1:=hk _ _ c1
   replace c2:=hk _ _ c2
   replace c3:=hk _ _ c3
   replace c4:=hk _ _ c4
   replace c5:=hk _ _ c5
   replace c6:=hk _ _ c6
   replace c7:=hk _ _ c7
   replace c8:=hk _ _ c8
   replace c9:=hk _ _ c9
   replace c10:=hk _ _ c10
   replace c11:=hk _ _ c11
   replace c12:=hk _ _ c12
   clear hk l2 c0 c13 c14
   have l2:=(HLr.out.below HB5.out HLr.out.lt).cell 2
   simp only[gE3]at l2
   have hbz:Below W.heap.size W w5:=aa hbr HB5.out hbr.size
   (replace HOWN:=qh (HOWN.out.below HB5.out nlr))
   have hlen:((es.take i).map Ent.chg).length=i:=by rw[List.length_map,List.length_take];omega
   have HLEN:=qh hlen
   clear hlen
   go_wp2_with (at_builtin;go_must (refine aO _ rfl (.tmp 19) (.tmp 26) 34 rfl 52 ic _ Chg.cells 12 128 Tryz.underlying34 hic lL lK lJ rfl omA eu iI W.heap.size (.slice OA i oc) ((es.take i).map Ent.chg) rfl (HOWN.out.alloc _) _ _ _ [(⟨kd,sq,dy,tb,XA,xc,row,key,cl,vl⟩:Chg)] rfl rfl (Blk.one (enc:=Chg.cells) (x:=⟨kd,sq,dy,tb,XA,xc,row,key,cl,vl⟩) (Blk.new' rfl) spA) (by have:=HLEN.out;simp;omega) (by have:=HLEN.out;simp[maxLen];omega) smA ?_);intro v6 w6 hown6 hg6 j4;obtain⟨A6,c6,hv6,_,_⟩:=hown6.form;subst hv6;have HW6:=qh hown6;have HG6:=qh hg6;clear hown6 hg6 j4)
   go_roundw
   case rel=>exact⟨i+1,A6,c6,by omega,by go_num,by simp,(by have h:=HW6.out;rw[←HTK.out,show ((es.take (i+1)).map Ent.chg).length=i+1 from by rw[List.length_map,List.length_take];omega]at h;exact h),Below.grown (hbz.alloc hbz.size _) HG6.out smA (fun q e=>HOWN.out.row q e)⟩
   case measure=>exact meA
  ·have hlt':decide (i<es.length)=false:=by simpa using hlt
   have kG:decide ((i:Int)<(es.length:Int))=false:=by simp;omega
   have hie:i=es.length:=by omega
   have SC:Hid (aj wr W.heap.size 52 Chg.cells 12 (.slice OA i oc) (es.map Ent.chg)):=qh (by
    have h:=HOWN.out
    rwa [List.take_of_length_le omA]at h)
   have HIE:=qh hie
   clear hie
   go_wp2_with fail
   go_ret
   exact⟨⟨OA,oc,(by rw[HIE.out];rfl),(by have h:=SC.out.mono hzW;rwa [HIE.out]at h)⟩,hxr⟩
end Go.Proofs.YtjidligipoldeaaGreat
set_option maxRecDepth 100000
namespace Go.Proofs.YtjidligipoldeaaGreat
open Go.RowKit Go Go.Shelf
attribute [local go_sem] Oper.semAt_some
theorem l91_2{P:Prop}(h:P:=by
 have hql:=hq.size
 clear c0 c1 c2 c3 c4 c5 c6 c7 c8 c9 c10 c11 c12 c13 c14
 obtain⟨c0,⟨c1,c2,c3,c4⟩,c5,⟨c6,c7,c8⟩,c9,⟨c10,c11,c12⟩,c13,c14⟩:=Ent.bZ (o:= 0) (x:=x) (w:=wq) (b:=wr.heap.size) (fun j v hv=>by rw[Nat.zero_add];refine(hq.cell (p:=⟨wr.heap.size,j,none⟩) hul).trans ?_;rw[HU.out.cell];simpa using hv)
 simp only[Nat.zero_add]at c0 c1 c2 c3 c4 c5 c6 c7 c8 c9 c10 c11 c12 c13 c14
 have hbq:Below wr.heap.size wr wq:=aa hbu hq hbu.size
 have HBQ:=qh hbq
 have hqz:=hbq.size
 clear hbq
 go_wp2_with (first
  | (have fTK:=TK1;clear TK1 fTK;go_at_call 49;(with_reducible refine(iO _ _ _ _ _ _ _ _ _ _ _ _ _ _ _ _).mono ?_);rintro e w5 ⟨rfl,hb5⟩;have hx5:=aa HBQ.out hb5 HBQ.out.size;have hz5:=hb5.size;clear c0 c1 c2 c3 c4 c5 c6 c7 c8 c9 c10 c11 c12 c13 c14;obtain⟨c0,⟨c1,c2,c3,c4⟩,c5,⟨c6,c7,c8⟩,c9,⟨c10,c11,c12⟩,c13,c14⟩:=Ent.bZ (o:= 0) (x:=x) (w:=w5) (b:=wr.heap.size) (fun j v hv=>by rw[Nat.zero_add];refine((hb5.cell (p:=⟨wr.heap.size,j,none⟩) fr).trans ((hq.cell (p:=⟨wr.heap.size,j,none⟩) hul).trans ?_));rw[HU.out.cell];simpa using hv);simp only[Nat.zero_add]at c0 c1 c2 c3 c4 c5 c6 c7 c8 c9 c10 c11 c12 c13 c14)
  | (go_at_call 49;(with_reducible refine(iO _ _ _ _ _ _ _ _ _ _ _ _ _ _ _ _).mono ?_);rintro e w6 ⟨rfl,hb6⟩;have hx6:=aa hx5 hb6 hx5.size;have c4:=(hb6.cell (p:=⟨wr.heap.size,4,none⟩) fs).trans c4;clear c0 c1 c2 c3 c5 c6 c7 c8 c9 c10 c11 c12 c13 c14))
 go_roundw
 case rel=>exact⟨i+1,by omega,by go_num,aa hbr hx6 hwz⟩
 case measure=>exact meA):P:=h
theorem Cy(A:Option Addr)(c m:Nat)(ts:List Tab)(k:Nat)(lo nx:Int)(EA:Option Addr)(ec en:Nat)(es:List Ent)(w:World)(ht:aF w w.heap.size A ts)(hm:ts.length=m)(hs:aM ts)(hE:di w w.heap.size EA es)(hen:es.length=en)(hlo:dF ts k lo nx (es.map Ent.p))(h8:∀x∈es,x.chg.row.length≤8):
 Calls Tryz.prog 48 #[.agg #[.slice A m c,.slice none 0 0,.slice none 0 0,.slice none 0 0,.slice none 0 0,.slice none 0 0,.slice none 0 0,.slice none 0 0],.int .i64 k,.agg #[.int .i64 lo,.int .i64 nx,.slice EA en ec]] w fun e w'=>e=.returned (.bool true)∧Below w.heap.size w w':=by
 subst hm hen
 have h1:=hlo.log.EU
 have h2:=hlo.log.Im
 have h3:=hlo.top
 have hk:=hlo.lt
 have h5:=hlo.len'
 have g1:decide (lo<0)=false:=by simp;omega
 have g2:decide (nx<lo)=false:=by simp;omega
 have g3:decide (1099511627776<nx)=false:=by simp;omega
 have g4:decide (256<es.length)=false:=by simp;omega
 have g4i:decide ((256:Int)<(es.length:Int))=false:=by simp;omega
 have g5:decide ((k:Int)<0)=false:=by simp
 have g6:decide ((ts.length:Int)≤(k:Int))=false:=by simp;omega
 have g6n:decide (ts.length≤k)=false:=by simp;omega
 have HT:=qh ht
 have HS:=qh hs
 have HE:=qh hE
 have HLO:=qh hlo
 have H8:=qh h8
 clear ht hs hE hlo h8
 go_enter Tryz.func48,Tryz.ntmps48
 go_upto_region 1 with (fail)
 refine ah (P:=fun u=>Code.wp _ _ _ _ u) (R:=fun u=>Blk u w.heap.size 33 #[.slice A ts.length c,.slice none 0 0,.slice none 0 0,.slice none 0 0,.slice none 0 0,.slice none 0 0,.slice none 0 0,.slice none 0 0]∧Blk u (w.heap.size+1) 39 #[.int .i64 lo,.int .i64 nx,.slice EA es.length ec]∧Below w.heap.size w u) ⟨?_,?_,?_⟩ ?_
 ·exact(Blk.new _ _ _).alloc _
 ·exact Blk.new' spA
 ·exact ai
 rintro W ⟨hC,hL,hbW⟩
 have HC:=qh hC
 have HL:=qh hL
 have hcl:=hC.lt
 have hll:=hL.lt
 obtain⟨p0,p1,p2,p3,p4,p5,p6,p7⟩:=Cat.blk hC
 clear hC hL
 go_upto_region 4 with (go_at_call 66;(with_reducible refine(jX A c ts.length ts _ (HT.out.next hbW) rfl HS.out (r:=true) (by simp[pb,HLO.out.cat])).mono ?_);rintro e w1 ⟨rfl,hb1⟩;clear p0 p1 p2 p3 p4 p5 p6 p7;obtain⟨p0,p1,p2,p3,p4,p5,p6,p7⟩:=Cat.blk (HC.out.below hb1 hcl);have HL1:=qh (HL.out.below hb1 hll);have l0:=HL1.out.cell 0;have l1:=HL1.out.cell 1;have l2:=HL1.out.cell 2;simp only[gE3]at l0 l1 l2)
 have hx1:Below w.heap.size w w1:=aa hbW hb1 hbW.size
 have HC1:=qh (HC.out.below hb1 hcl)
 have IL:=HC1.out.lt
 have oo:=HL1.out.lt
 clear p0 p1 p2 p3 p4 p5 p6 p7 g5 g6 g6n g1 g2 g3 g4 g4i
 go_loopw [7] (fun vi wr =>∃i:Nat,i≤es.length∧vi=.int .i64 i∧Below w1.heap.size w1 wr) (fun vi _=>es.length-(intOf vi).toNat)
 case atStart=>exact⟨0,Nat.zero_le _,rfl,Below.refl _ _⟩
 case round =>
  obtain⟨i,hi,rfl,hbr⟩:=hrel
  have hwz:=hbr.size
  have hxr:=aa hx1 hbr hx1.size
  clear l0 l1 l2
  have l0:=(HL1.out.below hbr oo).cell 0
  have l1:=(HL1.out.below hbr oo).cell 1
  have l2:=(HL1.out.below hbr oo).cell 2
  simp only[gE3]at l0 l1 l2
  by_cases hlt:i<es.length
  ·have hlt':decide (i<es.length)=true:=by simpa using hlt
   have kG:decide ((i:Int)<(es.length:Int))=true:=by simp;omega
   obtain⟨b5,o5,rfl,hb5,hc5⟩:=(HE.out.1.below hxr).get hlt
   obtain⟨q0,⟨q1,q2,q3,q4⟩,q5,⟨q6,q7,q8⟩,q9,⟨q10,q11,q12⟩,q13,q14⟩:=Ent.bZ hc5
   obtain⟨⟨f0,f1⟩,f2⟩:=HLO.out.off hlt
   have sS:=qh (fun(j:Nat) (hj:j<i)=>HLO.out.asc hlt hj)
   obtain⟨x,hx⟩:∃x,es[i]=x:=⟨_,rfl⟩
   rw[hx]at q0 q1 q2 q3 q4 q5 q6 q7 q8 q9 q10 q11 q12 f0 f1 f2 sS
   clear hx hc5
   have e1:decide (x.off<0)=false:=by simp;omega
   have e2:decide (nx≤x.off)=false:=by simp;omega
   have e3:(x.chg.table != (k:Int))=false:=by rw[f2];simp
   have e3d:decide (x.chg.table=(k:Int))=true:=by rw[f2];simp
   clear f2
   go_upto_region 7 with (fail)
   refine ah (P:=fun u=>Code.wp _ _ _ _ u) (R:=fun u=>Blk u wr.heap.size 56 (Ent.cells x).toArray∧Below wr.heap.size wr u) ⟨Blk.new _ _ _,by exact ai⟩ ?_
   clear q0 q1 q2 q3 q4 q5 q6 q7 q8 q9 q10 q11 q12 q13 q14
   rintro u ⟨hu,hbu⟩
   have hul:=hu.lt
   have HU:=qh hu
   obtain⟨c0,⟨c1,c2,c3,c4⟩,c5,⟨c6,c7,c8⟩,c9,⟨c10,c11,c12⟩,c13,c14⟩:=Ent.bZ (o:= 0) (x:=x) (w:=u) (b:=wr.heap.size) (fun j v hv=>by rw[Nat.zero_add,hu.cell];simpa using hv)
   simp only[Nat.zero_add]at c0 c1 c2 c3 c4 c5 c6 c7 c8 c9 c10 c11 c12 c13 c14
   have l1:=(hbu.cell (p:=⟨w.heap.size+1,1,none⟩) (show w.heap.size+1<wr.heap.size by omega)).trans l1
   have l2:=(hbu.cell (p:=⟨w.heap.size+1,2,none⟩) (show w.heap.size+1<wr.heap.size by omega)).trans l2
   have hk0:=az (w:=u) wr.heap.size hul
   have hk1:=az (w:=u) (w.heap.size+1) omA
   have TK1:True:=trivial
   clear hu
   by_cases h0:0<i
   ·have hkz:decide ((0:Int)<(i:Int))=true:=by simp;omega
    have kZ:decide (0<i)=true:=by simpa using h0
    have oP:i-1<es.length:=by omega
    have nu:decide (i-1<es.length)=true:=by simpa using oP
    have hwrap:IntKind.i64.wrap ((i:Int)-1)=((i-1:Nat):Int):=by rw[show (i:Int)-1=((i-1:Nat):Int) by omega];exact IntWalk.i64_in _ omA
    obtain⟨b3,o3,he3,hb3,hc3⟩:=((HE.out.1.below hxr).below (hbu.mono hxr.size)).get oP
    injection he3 with he3
    injection he3 with he4 he5
    subst he4 he5
    have z0:=hc3 0 _ rfl
    have hz:=sS.out (i-1) omA
    obtain⟨y,hy⟩:∃y,es[i-1].off=y:=⟨_,rfl⟩
    rw[hy]at z0 hz
    simp only[Nat.add_zero]at z0
    have e4:decide (x.off≤y)=false:=by simp;omega
    have hk2:=az (w:=u) b5 omA
    clear hc3 hy h0
    refine af krA krA ?_;(repeat(go_big_quiet_step (fail)));refine wpQuiet_nil ?_;intro wq hq
    clear hk0 hk1 hk2 z0 hkz kZ nu hwrap e4 l0 l1 l2
    exact l91_2
   ·have hkz:decide ((0:Int)<(i:Int))=false:=by simp;omega
    have kZ:decide (0<i)=false:=by simpa using h0
    clear h0
    refine af krA krA ?_;(repeat(go_big_quiet_step (fail)));refine wpQuiet_nil ?_;intro wq hq
    clear hk0 hk1 hkz kZ l0 l1 l2
    exact l91_2
  ·have hlt':decide (i<es.length)=false:=by simpa using hlt
   have kG:decide ((i:Int)<(es.length:Int))=false:=by simp;omega
   have HCr:=qh (HC1.out.below hbr IL)
   have HLr:=qh (HL1.out.below hbr oo)
   have HSS:Hid (∀V,Below wr.heap.size wr V→(V.cell? ⟨w.heap.size,0,none⟩=some (.slice A ts.length c)∧V.cell? ⟨w.heap.size,1,none⟩=some (.slice none 0 0)∧V.cell? ⟨w.heap.size,2,none⟩=some (.slice none 0 0)∧V.cell? ⟨w.heap.size,3,none⟩=some (.slice none 0 0)∧V.cell? ⟨w.heap.size,4,none⟩=some (.slice none 0 0)∧V.cell? ⟨w.heap.size,5,none⟩=some (.slice none 0 0)∧V.cell? ⟨w.heap.size,6,none⟩=some (.slice none 0 0)∧V.cell? ⟨w.heap.size,7,none⟩=some (.slice none 0 0))∧(V.cell? ⟨w.heap.size+1,0,none⟩=some (.int .i64 lo)∧V.cell? ⟨w.heap.size+1,1,none⟩=some (.int .i64 nx)∧V.cell? ⟨w.heap.size+1,2,none⟩=some (.slice EA es.length ec))):=qh (fun V hV=>⟨Cat.blk (HCr.out.below hV HCr.out.lt),⟨(HLr.out.below hV HLr.out.lt).cell 0,(HLr.out.below hV HLr.out.lt).cell 1,(HLr.out.below hV HLr.out.lt).cell 2⟩⟩)
   have hWd:Below wr.heap.size wr wr.drew:=brf.drew
   go_upto_region 11 with (fail)
   refine gX .normal [6,106,107,108,109] (fun f w'=>f 6=.bool true∧Below wr.heap.size wr w') ?_ ?_
   ·refine aJ (S:=fun u=>(u.cell? ⟨w.heap.size,0,none⟩=some (.slice A ts.length c)∧u.cell? ⟨w.heap.size,1,none⟩=some (.slice none 0 0)∧u.cell? ⟨w.heap.size,2,none⟩=some (.slice none 0 0)∧u.cell? ⟨w.heap.size,3,none⟩=some (.slice none 0 0)∧u.cell? ⟨w.heap.size,4,none⟩=some (.slice none 0 0)∧u.cell? ⟨w.heap.size,5,none⟩=some (.slice none 0 0)∧u.cell? ⟨w.heap.size,6,none⟩=some (.slice none 0 0)∧u.cell? ⟨w.heap.size,7,none⟩=some (.slice none 0 0))∧(u.cell? ⟨w.heap.size+1,0,none⟩=some (.int .i64 lo)∧u.cell? ⟨w.heap.size+1,1,none⟩=some (.int .i64 nx)∧u.cell? ⟨w.heap.size+1,2,none⟩=some (.slice EA es.length ec))) [] krA (HSS.out _ hWd) (fun hHeld =>?_)
    refine tkT 0 hHeld ?_ (hQ:=hqA)
    refine tkT 1 hHeld ?_ (hQ:=hqA)
    refine r1T 2 (fun K hK =>?_)
    go_simp
    (go_at_call 70;(with_reducible refine(mH lo nx EA ec es.length es _ (HE.out.next (aa hxr hWd hxr.size)) rfl omA).mono ?_);rintro e v1 ⟨⟨LA,lc,rfl,hown⟩,hn1⟩)
    have hv1:Below wr.heap.size wr v1:=aa hWd hn1 hWd.size
    have HOWN:=qh hown
    clear hown
    go_wp2_with fail
    refine hK.out _ _ _ (HSS.out _ hv1) (fun hHeld =>?_)
    clear hK K
    refine r1T 3 (fun K hK =>?_)
    go_simp
    have hv0:Below w.heap.size w v1:=aa hxr hv1 hxr.size
    have HCI:Hid (dQ v1 v1.heap.size LA (es.map Ent.chg)):=qh ⟨dM eu (by have h:=HOWN.out;rw[show es.length=(es.map Ent.chg).length by simp]at h;exact h),fun x hx=>by
     obtain⟨y,hy,rfl⟩:=List.mem_map.1 hx
     exact(HE.out.next hv0).2 y hy⟩
    have qX:=qh (HLO.out.Te (l:=es.map Ent.chg) rfl)
    (go_at_call 69;(with_reducible refine(kX A c ts.length ts LA lc es.length (es.map Ent.chg) _ (HT.out.next hv0) rfl HS.out HLO.out.cat HCI.out spA omA (fun x hx =>?_) (r:=true) (by simp[pb,qX.out])).mono ?_))
    ·obtain⟨y,hy,rfl⟩:=List.mem_map.1 hx
     exact Nat.le_trans (H8.out y hy) omA
    rintro e v2 ⟨rfl,hn2⟩
    have hv2:Below wr.heap.size wr v2:=aa hv1 hn2 hv1.size
    go_wp2_with fail
    refine hK.out _ _ _ (HSS.out _ hv2) (fun hHeld =>?_)
    clear hK K
    refine tkT 4 hHeld ?_ (hQ:=hqA)
    refine aI krA ?_ _
    clear hHeld
    refine⟨rfl,bD ?_ ?_⟩
    ·kernel_rfl
    exact⟨rfl,rfl,hv2⟩
   rintro f u9 ⟨hf,hu9⟩
   simp only[setL,List.setIfInBounds_toArray,List.set_cons_zero,List.set_cons_succ]
   rw[hf]
   go_wp2_with fail
   go_ret
   exact⟨rfl,aa hxr hu9 hxr.size⟩
end Go.Proofs.YtjidligipoldeaaGreat
set_option maxRecDepth 100000
namespace Go.Proofs.YtjidligipoldeaaGreat
open Go.RowKit Go Go.Shelf
attribute [local go_sem] Oper.semAt_some
theorem xh{c A E:Prop}[Decidable c](hc:c)(h:A):if c then A else E:=by rw[if_pos hc];exact h
theorem l91_0{P:Prop}(h:P:=by
 refine r1T 10 (fun K hK =>?_)
 refine xh krA ?_
 refine cu _ (.tmp 24) (.tmp 26) 34 rfl 52 ic _ Chg.cells 12 128 Tryz.underlying34 hic lL lK lJ rfl omA eu iI w1.heap.size (.slice LA es.length lc) (es.map Ent.chg) rfl HOWN.out _ _ _ [(⟨kd,sq,dy,tb,XA,xc,row,key,cl,vl⟩:Chg)] rfl rfl (Blk.one (enc:=Chg.cells) (x:=⟨kd,sq,dy,tb,XA,xc,row,key,cl,vl⟩) HG.out HG.out.lt) smA mxA (hv2).size ?_
 intro v6 v3 hown6 hg6 j4
 obtain⟨A6,c6,hv6,_,_⟩:=hown6.form
 subst hv6
 have hv3:Below w1.heap.size w1 v3:=Below.grown hv2 hg6 (hv2).size HOWN.out.row
 have HW6:Hid (aj v3 w1.heap.size 52 Chg.cells 12 (.slice A6 (es.length+1) c6) (es.map Ent.chg ++ [(⟨kd,sq,dy,tb,XA,xc,row,key,cl,vl⟩:Chg)])):=qh (by
  have h:=hown6
  rw[show (es.map Ent.chg ++ [(⟨kd,sq,dy,tb,XA,xc,row,key,cl,vl⟩:Chg)]).length=es.length+1 by simp]at h
  exact h)
 have hl6:(es.map Ent.chg ++ [(⟨kd,sq,dy,tb,XA,xc,row,key,cl,vl⟩:Chg)]).length=es.length+1:=by simp
 rw[hl6]
 clear hown6 hg6 j4 hl6
 refine hK.out _ _ _ (HSS.out _ hv3) (fun hHeld =>?_)
 clear hK K
 refine r1T 11 (fun K hK =>?_)
 go_simp
 have hv0:Below w.heap.size w v3:=aa hx1 hv3 hx1.size
 have HCI:Hid (dQ v3 (v3).heap.size A6 (es.map Ent.chg ++ [(⟨kd,sq,dy,tb,XA,xc,row,key,cl,vl⟩:Chg)])):=qh ⟨dM eu fl,fun x hx=>by
  rcases List.mem_append.1 hx with hx|hx
  ·obtain⟨y,hy,rfl⟩:=List.mem_map.1 hx
   exact(HE.out.next hv0).2 y hy
  ·rw[List.mem_singleton.1 hx]
   exact iV.out.next hv0⟩
 (go_at_call 69;(with_reducible refine(kX A c ts.length ts A6 c6 (es.length+1) (es.map Ent.chg ++ [(⟨kd,sq,dy,tb,XA,xc,row,key,cl,vl⟩:Chg)]) _ (HT.out.next hv0) rfl HS.out HLO.out.cat HCI.out spA omA (fun x hx=>HR8.out x hx) (r:=true) (by simp[pb,qX.out])).mono ?_))
 rintro e v4 ⟨rfl,hn2⟩
 have hv4:Below w1.heap.size w1 v4:=aa hv3 hn2 (hv3).size
 go_wp2_with fail
 refine hK.out _ _ _ (HSS.out _ hv4) (fun hHeld =>?_)
 clear hK K
 refine tkT 12 hHeld ?_ (hQ:=hqA)
 refine tkT 13 hHeld ?_ (hQ:=hqA)
 refine aI krA ?_ _
 clear hHeld
 refine⟨rfl,bD ?_ ?_⟩
 ·kernel_rfl
 first|exact⟨rfl,rfl,hv4⟩|exact⟨rfl,rfl,by rw[←HGG.out];exact hv4⟩):P:=h
theorem l91_1{P:Prop}(h:P:=by
 refine r1T 9 (fun K hK =>?_)
 refine cu _ (.tmp 45) (.tmp 50) 37 rfl 56 ie _ Ent.cells 15 184 Tryz.underlying37 hie uA uz uy rfl omA iH jU w2.heap.size (.slice A3 es.length c3) es rfl HW3.out _ _ _ [(⟨nx,⟨kd,sq,dy,tb,XA,xc,row,key,cl,vl⟩⟩:Ent)] rfl rfl (Blk.one (enc:=Ent.cells) (x:=(⟨nx,⟨kd,sq,dy,tb,XA,xc,row,key,cl,vl⟩⟩:Ent)) HG.out HG.out.lt) smA mxA (hvc).size ?_
 intro v9 w9 gH hg9 Dt
 obtain⟨A9,c9,hv9,hc9,_⟩:=gH.form
 subst hv9
 have hv9:Below w2.heap.size w2 w9:=Below.grown hvc hg9 (hvc).size HW3.out.row
 have hl9:(es ++ [(⟨nx,⟨kd,sq,dy,tb,XA,xc,row,key,cl,vl⟩⟩:Ent)]).length=es.length+1:=by simp
 rw[hl9]at gH hc9 ⊢
 have HW9:=qh gH
 clear gH hg9 Dt hl9
 refine hK.out _ _ _ (HSS.out _ hv9) (fun hHeld =>?_)
 clear hK K
 refine tkT 10 hHeld ?_ (hQ:=hqA)
 refine aI krA ?_ _
 clear hHeld
 refine⟨rfl,bD ?_ ?_⟩
 ·kernel_rfl
 refine⟨rfl,?_⟩
 rw[HRS.out]
 exact⟨A9,c9,rfl,hc9,HW9.out,hv9⟩):P:=h
theorem l91_3{P:Prop}(h:P:=by
 refine r1T 3 (fun K hK =>?_)
 refine cu _ (.tmp 42) (.tmp 44) 37 rfl 56 ie _ Ent.cells 15 184 Tryz.underlying37 hie uA uz uy rfl omA iH jU w2.heap.size (.slice (some ⟨g0,0,none⟩) 0 0) ([]:List Ent) rfl (aj.empty HZ0.out Fy) _ _ _ es rfl rfl (HE2.out.next hvb).1 smA mxA (hvb).size ?_
 intro v3 vc hown3 hg3 qR
 rw[List.nil_append]at hown3
 obtain⟨A3,c3,hv3,_,_⟩:=hown3.form
 subst hv3
 have hvc:Below w2.heap.size w2 vc:=Below.grown hvb hg3 (hvb).size (bX Fy)
 have HW3:=qh hown3
 have HA3:=qh hg3
 clear hown3 hg3 qR
 refine hK.out _ _ _ (HSS.out _ hvc) (fun hHeld =>?_)
 clear hK K
 (replace HG:=qh (HG.out.grown HA3.out (fun e=>by first|(have e1:g0=g:=Option.some.inj e;omega)|(have e1:g=g0:=Option.some.inj e;omega))))
 exact l91_1):P:=h
theorem tH(A:Option Addr)(c m:Nat)(ts:List Tab)(k:Nat)(lo nx:Int)(EA:Option Addr)(ec en:Nat)(es:List Ent)(kd sq dy tb:Int)(XA:Option Addr)(xc:Nat)(row:List Val)(key:Val)(cl:Int)(vl:Val)(w:World)(ht:aF w w.heap.size A ts)(hm:ts.length=m)(hs:aM ts)(hE:di w w.heap.size EA es)(hen:es.length=en)(hlo:dF ts k lo nx (es.map Ent.p))(h8:∀x∈es,x.chg.row.length≤8)
 (hx:ag w w.heap.size Val.cells 3 XA row) (hx8:row.length≤8) (htb:tb=(k:Int)) (ho:bK ts ((es.map Ent.p).map Prod.snd ++ [unC ⟨kd,sq,dy,tb,XA,xc,row,key,cl,vl⟩])) (hlt:es.length<256) (hnx:nx<1099511627776):
 Calls Tryz.prog 30 #[.agg #[.slice A m c,.slice none 0 0,.slice none 0 0,.slice none 0 0,.slice none 0 0,.slice none 0 0,.slice none 0 0,.slice none 0 0],.int .i64 k,.agg #[.int .i64 lo,.int .i64 nx,.slice EA en ec],.agg #[.int .i64 kd,.int .i64 sq,.int .i64 dy,.int .i64 tb,.slice XA row.length xc,.int .i64 key.kind,.int .i64 key.num,.string key.text,.int .i64 cl,.int .i64 vl.kind,.int .i64 vl.num,.string vl.text]] w fun e w' =>
  (∃A' c',e=.returned (.tuple #[.agg #[.int .i64 lo,.int .i64 (nx+1),.slice A' (en+1) c'],.int .i64 0])∧aj w' w.heap.size 56 Ent.cells 15 (.slice A' (en+1) c') (es ++ [(⟨nx,⟨kd,sq,dy,tb,XA,xc,row,key,cl,vl⟩⟩:Ent)])∧en+1≤c')∧Below w.heap.size w w':=by
 subst hm hen
 obtain⟨ic,hic,lL,lK,lJ⟩:=info_parts l7
 obtain⟨ie,hie,uA,uz,uy⟩:=info_parts wU
 have hk:=hlo.lt
 have hl0:=hlo.log.EU
 have hln:=hlo.log.Im
 have HT:=qh ht
 have HS:=qh hs
 have HE:=qh hE
 have HLO:=qh hlo
 have H8:=qh h8
 have iV:=qh hx
 have qX:Hid (bK ts (es.map Ent.chg ++ [(⟨kd,sq,dy,tb,XA,xc,row,key,cl,vl⟩:Chg)])):=qh (Bd (by
  rw[List.map_append,List.map_map]
  have h:=ho
  rw[List.map_map]at h
  exact h))
 have HR8:Hid (∀x∈es.map Ent.chg ++ [(⟨kd,sq,dy,tb,XA,xc,row,key,cl,vl⟩:Chg)],x.row.length≤1000000):=qh (fun x hx=>by
  rcases List.mem_append.1 hx with hx|hx
  ·obtain⟨y,hy,rfl⟩:=List.mem_map.1 hx
   exact Nat.le_trans (h8 y hy) omA
  ·rw[List.mem_singleton.1 hx]
   exact Nat.le_trans hx8 omA)
 have HTB:=qh htb
 have t1:(tb != (k:Int))=false:=by rw[htb];simp
 have t1d:decide (tb=(k:Int))=true:=by rw[htb];simp
 have t2:decide (256≤es.length)=false:=by simp;omega
 have t2i:decide ((256:Int)≤(es.length:Int))=false:=by simp;omega
 have t3:decide (1099511627776≤nx)=false:=by simp;omega
 clear ht hs hE hlo h8 hx ho htb
 go_enter Tryz.func30,Tryz.ntmps30
 go_upto_region 1 with (fail)
 obtain⟨z,hz⟩:∃z,w.heap.size=z:=⟨_,rfl⟩
 have HZ:=qh hz
 rw[hz]
 refine ah (P:=fun u=>Code.wp _ _ _ _ u) (R:=fun u=>Blk u z 33 #[.slice A ts.length c,.slice none 0 0,.slice none 0 0,.slice none 0 0,.slice none 0 0,.slice none 0 0,.slice none 0 0,.slice none 0 0]∧Blk u (z+1) 39 #[.int .i64 lo,.int .i64 nx,.slice EA es.length ec]∧Blk u (z+2) 52 #[.int .i64 kd,.int .i64 sq,.int .i64 dy,.int .i64 tb,.slice XA row.length xc,.int .i64 key.kind,.int .i64 key.num,.string key.text,.int .i64 cl,.int .i64 vl.kind,.int .i64 vl.num,.string vl.text]∧Blk u (z+3) 39 #[.int .i64 0,.int .i64 0,.slice none 0 0]∧Below z w u) ⟨?_,?_,?_,?_,?_⟩ ?_
 ·exact(((Blk.new' hz).alloc _).alloc _).alloc _
 ·exact((Blk.new' smA).alloc _).alloc _
 ·exact(Blk.new' smA).alloc _
 ·exact Blk.new' smA
 ·rw[←hz];exact ai
 rintro W ⟨hC,hL,hX,hR,hbW⟩
 have HC:=qh hC
 have HL:=qh hL
 have HX:=qh hX
 have HR:=qh hR
 have hcl:=hC.lt
 have hll:=hL.lt
 have hxl:=hX.lt
 have hrl:=hR.lt
 have hbW0:Below w.heap.size w W:=by rw[HZ.out];exact hbW
 obtain⟨p0,p1,p2,p3,p4,p5,p6,p7⟩:=Cat.blk hC
 have l0:=hL.cell 0
 have l1:=hL.cell 1
 have l2:=hL.cell 2
 simp only[gE3]at l0 l1 l2
 clear hC hL hX hR hz
 go_upto_region 3 with (go_at_call 48;(with_reducible refine(Cy A c ts.length ts k lo nx EA ec es.length es _ (HT.out.next hbW0) rfl HS.out (HE.out.next hbW0) rfl HLO.out H8.out).mono ?_);rintro e w1 ⟨rfl,hb1⟩)
 have hx1:Below w.heap.size w w1:=aa hbW0 hb1 hbW0.size
 have HC1:=qh (HC.out.below hb1 hcl)
 have HL1:=qh (HL.out.below hb1 hll)
 have HX1:=qh (HX.out.below hb1 hxl)
 have HR1:=qh (HR.out.below hb1 hrl)
 have IL:=HC1.out.lt
 have oo:=HL1.out.lt
 have Q7:=HX1.out.lt
 have uC:=HR1.out.lt
 clear p0 p1 p2 p3 p4 p5 p6 p7 l0 l1 l2 HC HL HX HR hcl hll hxl hrl
 have HSS:Hid (∀V,Below w1.heap.size w1 V→(V.cell? ⟨z,0,none⟩=some (.slice A ts.length c)∧V.cell? ⟨z,1,none⟩=some (.slice none 0 0)∧V.cell? ⟨z,2,none⟩=some (.slice none 0 0)∧V.cell? ⟨z,3,none⟩=some (.slice none 0 0)∧V.cell? ⟨z,4,none⟩=some (.slice none 0 0)∧V.cell? ⟨z,5,none⟩=some (.slice none 0 0)∧V.cell? ⟨z,6,none⟩=some (.slice none 0 0)∧V.cell? ⟨z,7,none⟩=some (.slice none 0 0))∧(V.cell? ⟨z+1,0,none⟩=some (.int .i64 lo)∧V.cell? ⟨z+1,1,none⟩=some (.int .i64 nx)∧V.cell? ⟨z+1,2,none⟩=some (.slice EA es.length ec))∧(V.cell? ⟨z+2,0,none⟩=some (.int .i64 kd)∧V.cell? ⟨z+2,1,none⟩=some (.int .i64 sq)∧V.cell? ⟨z+2,2,none⟩=some (.int .i64 dy)∧V.cell? ⟨z+2,3,none⟩=some (.int .i64 tb)∧V.cell? ⟨z+2,4,none⟩=some (.slice XA row.length xc)∧V.cell? ⟨z+2,5,none⟩=some (.int .i64 key.kind)∧V.cell? ⟨z+2,6,none⟩=some (.int .i64 key.num)∧V.cell? ⟨z+2,7,none⟩=some (.string key.text)∧V.cell? ⟨z+2,8,none⟩=some (.int .i64 cl)∧V.cell? ⟨z+2,9,none⟩=some (.int .i64 vl.kind)∧V.cell? ⟨z+2,10,none⟩=some (.int .i64 vl.num)∧V.cell? ⟨z+2,11,none⟩=some (.string vl.text))):=qh (fun V hV=>by
  refine⟨Cat.blk (HC1.out.below hV IL),⟨(HL1.out.below hV oo).cell 0,(HL1.out.below hV oo).cell 1,(HL1.out.below hV oo).cell 2⟩,?_⟩
  have h:=HX1.out.below hV Q7
  exact⟨h.cell 0,h.cell 1,h.cell 2,h.cell 3,h.cell 4,h.cell 5,h.cell 6,h.cell 7,h.cell 8,h.cell 9,h.cell 10,h.cell 11⟩)
 have hWd:Below w1.heap.size w1 w1.drew:=brf.drew
 refine gX .normal [17,18,19,20,21,22,23,24,25,26,27,28,29,30] (fun f w'=>f 30=.bool false∧Below w1.heap.size w1 w') ?_ ?_
 ·refine aJ (S:=fun u=>(u.cell? ⟨z,0,none⟩=some (.slice A ts.length c)∧u.cell? ⟨z,1,none⟩=some (.slice none 0 0)∧u.cell? ⟨z,2,none⟩=some (.slice none 0 0)∧u.cell? ⟨z,3,none⟩=some (.slice none 0 0)∧u.cell? ⟨z,4,none⟩=some (.slice none 0 0)∧u.cell? ⟨z,5,none⟩=some (.slice none 0 0)∧u.cell? ⟨z,6,none⟩=some (.slice none 0 0)∧u.cell? ⟨z,7,none⟩=some (.slice none 0 0))∧(u.cell? ⟨z+1,0,none⟩=some (.int .i64 lo)∧u.cell? ⟨z+1,1,none⟩=some (.int .i64 nx)∧u.cell? ⟨z+1,2,none⟩=some (.slice EA es.length ec))∧(u.cell? ⟨z+2,0,none⟩=some (.int .i64 kd)∧u.cell? ⟨z+2,1,none⟩=some (.int .i64 sq)∧u.cell? ⟨z+2,2,none⟩=some (.int .i64 dy)∧u.cell? ⟨z+2,3,none⟩=some (.int .i64 tb)∧u.cell? ⟨z+2,4,none⟩=some (.slice XA row.length xc)∧u.cell? ⟨z+2,5,none⟩=some (.int .i64 key.kind)∧u.cell? ⟨z+2,6,none⟩=some (.int .i64 key.num)∧u.cell? ⟨z+2,7,none⟩=some (.string key.text)∧u.cell? ⟨z+2,8,none⟩=some (.int .i64 cl)∧u.cell? ⟨z+2,9,none⟩=some (.int .i64 vl.kind)∧u.cell? ⟨z+2,10,none⟩=some (.int .i64 vl.num)∧u.cell? ⟨z+2,11,none⟩=some (.string vl.text))) [] krA (HSS.out _ hWd) (fun hHeld =>?_)
  refine tkT 0 hHeld ?_ (hQ:=hqA)
  refine tkT 1 hHeld ?_ (hQ:=hqA)
  refine tkT 2 hHeld ?_ (hQ:=hqA)
  refine tkT 3 hHeld ?_ (hQ:=hqA)
  refine tkT 4 hHeld ?_ (hQ:=hqA)
  refine tkT 5 hHeld ?_ (hQ:=hqA)
  refine tkT 6 hHeld ?_ (hQ:=hqA)
  refine tkT 8 hHeld ?_ (hQ:=hqA)
  refine r2T 7 9 (fun K hK =>?_) (fun K hK =>?_)
  ·go_simp
   (go_at_call 70;(with_reducible refine(mH lo nx EA ec es.length es _ (HE.out.next (aa hx1 hWd hx1.size)) rfl omA).mono ?_);rintro e v1 ⟨⟨LA,lc,rfl,hown⟩,hn1⟩)
   have hv1:Below w1.heap.size w1 v1:=aa hWd hn1 (hWd).size
   have HOWN:Hid (aj v1 w1.heap.size 52 Chg.cells 12 (.slice LA es.length lc) (es.map Ent.chg)):=qh (hown.mono (hWd).size)
   clear hown
   go_wp2_with fail
   refine hK.out _ _ _ (HSS.out _ hv1) (fun hHeld =>?_)
   clear hK K
   refine r1T 9 (fun K hK =>?_)
   go_simp
   refine hK.out _ _ _ (HSS.out _ (by have:=hv1.size;first|exact hv1.alloc this _|exact ai)) (fun hHeld =>?_)
   clear hK K
   generalize hg:v1.heap.size=g
   generalize hwe:World.alloc v1 _=v2
   have hab:Below v1.heap.size v1 v2:=by rw[←hwe];exact ai
   have hv2:Below w1.heap.size w1 v2:=aa hv1 hab hv1.size
   have HG:Hid (Blk v2 g 52 #[.int .i64 kd,.int .i64 sq,.int .i64 dy,.int .i64 tb,.slice XA row.length xc,.int .i64 key.kind,.int .i64 key.num,.string key.text,.int .i64 cl,.int .i64 vl.kind,.int .i64 vl.num,.string vl.text]):=qh fm
   (replace HOWN:=qh (HOWN.out.below hab nlr))
   clear hwe hg
   exact l91_0
  ·go_simp
   refine hK.out _ _ _ (HSS.out _ ai) (fun hHeld =>?_)
   clear hK K
   generalize hg:w1.heap.size=g
   generalize hwe:World.drew (World.alloc w1 _)=va
   have hva:Below w1.heap.size w1 va:=by rw[←hwe];exact ai
   have HG:Hid (Blk va g 52 #[.int .i64 kd,.int .i64 sq,.int .i64 dy,.int .i64 tb,.slice XA row.length xc,.int .i64 key.kind,.int .i64 key.num,.string key.text,.int .i64 cl,.int .i64 vl.kind,.int .i64 vl.num,.string vl.text]):=qh fp
   have hgl:g<va.heap.size:=HG.out.lt
   have HGG:=qh hg
   clear hwe hg
   refine r1T 7 (fun K hK =>?_)
   go_simp
   (go_at_call 70;(with_reducible refine(mH lo nx EA ec es.length es _ (HE.out.next (aa hx1 hva hx1.size)) rfl omA).mono ?_);rintro e v2 ⟨⟨LA,lc,rfl,hown⟩,hn1⟩)
   have hv2:Below w1.heap.size w1 v2:=aa hva hn1 (hva).size
   have HOWN:Hid (aj v2 w1.heap.size 52 Chg.cells 12 (.slice LA es.length lc) (es.map Ent.chg)):=qh (hown.mono (hva).size)
   clear hown
   go_wp2_with fail
   refine hK.out _ _ _ (HSS.out _ hv2) (fun hHeld =>?_)
   clear hK K
   (replace HG:=qh (HG.out.below hn1 hgl))
   exact l91_0
 rintro f w2 ⟨hf,hb2⟩
 simp only[setL,List.setIfInBounds_toArray,List.set_cons_zero,List.set_cons_succ]
 rw[hf]
 have hx2:Below w.heap.size w w2:=aa hx1 hb2 hx1.size
 have HL2:=qh (HL1.out.below hb2 oo)
 have HX2:=qh (HX1.out.below hb2 Q7)
 have HR2:=qh (HR1.out.below hb2 uC)
 have OJ:=HL2.out.lt
 have WL:=HX2.out.lt
 have hrl2:=HR2.out.lt
 have HE2:=qh (HE.out.next hx2)
 have l0:=HL2.out.cell 0
 have l1:=HL2.out.cell 1
 have l2:=HL2.out.cell 2
 simp only[gE3]at l0 l1 l2
 clear hf HSS HC1 HL1 HX1 HR1 IL oo Q7 uC hb1 hb2
 go_upto_region 7 with (fail)
 clear l0 l1 l2
 have HSS:Hid (∀V,Below w2.heap.size w2 V→(V.cell? ⟨z+1,0,none⟩=some (.int .i64 lo)∧V.cell? ⟨z+1,1,none⟩=some (.int .i64 nx)∧V.cell? ⟨z+1,2,none⟩=some (.slice EA es.length ec))∧(V.cell? ⟨z+2,0,none⟩=some (.int .i64 kd)∧V.cell? ⟨z+2,1,none⟩=some (.int .i64 sq)∧V.cell? ⟨z+2,2,none⟩=some (.int .i64 dy)∧V.cell? ⟨z+2,3,none⟩=some (.int .i64 tb)∧V.cell? ⟨z+2,4,none⟩=some (.slice XA row.length xc)∧V.cell? ⟨z+2,5,none⟩=some (.int .i64 key.kind)∧V.cell? ⟨z+2,6,none⟩=some (.int .i64 key.num)∧V.cell? ⟨z+2,7,none⟩=some (.string key.text)∧V.cell? ⟨z+2,8,none⟩=some (.int .i64 cl)∧V.cell? ⟨z+2,9,none⟩=some (.int .i64 vl.kind)∧V.cell? ⟨z+2,10,none⟩=some (.int .i64 vl.num)∧V.cell? ⟨z+2,11,none⟩=some (.string vl.text))):=qh (fun V hV=>by
  refine⟨⟨(HL2.out.below hV OJ).cell 0,(HL2.out.below hV OJ).cell 1,(HL2.out.below hV OJ).cell 2⟩,?_⟩
  have h:=HX2.out.below hV WL
  exact⟨h.cell 0,h.cell 1,h.cell 2,h.cell 3,h.cell 4,h.cell 5,h.cell 6,h.cell 7,h.cell 8,h.cell 9,h.cell 10,h.cell 11⟩)
 have hWd:Below w2.heap.size w2 w2.drew:=brf.drew
 obtain⟨RS,hRS⟩:∃RS:(Nat→Value)→World→Prop,RS=fun f w' =>∃(A':Option Addr) (c':Nat),f 10=.slice A' (es.length+1) c'∧es.length+1≤c'∧aj w' w2.heap.size 56 Ent.cells 15 (.slice A' (es.length+1) c') (es ++ [(⟨nx,⟨kd,sq,dy,tb,XA,xc,row,key,cl,vl⟩⟩:Ent)])∧Below w2.heap.size w2 w':=⟨_,rfl⟩
 have HRS:=qh hRS
 clear hRS
 refine gX .normal [10,42,43,44,45,46,47,48,49,50,51] RS ?_ ?_
 ·refine aJ (S:=fun u=>(u.cell? ⟨z+1,0,none⟩=some (.int .i64 lo)∧u.cell? ⟨z+1,1,none⟩=some (.int .i64 nx)∧u.cell? ⟨z+1,2,none⟩=some (.slice EA es.length ec))∧(u.cell? ⟨z+2,0,none⟩=some (.int .i64 kd)∧u.cell? ⟨z+2,1,none⟩=some (.int .i64 sq)∧u.cell? ⟨z+2,2,none⟩=some (.int .i64 dy)∧u.cell? ⟨z+2,3,none⟩=some (.int .i64 tb)∧u.cell? ⟨z+2,4,none⟩=some (.slice XA row.length xc)∧u.cell? ⟨z+2,5,none⟩=some (.int .i64 key.kind)∧u.cell? ⟨z+2,6,none⟩=some (.int .i64 key.num)∧u.cell? ⟨z+2,7,none⟩=some (.string key.text)∧u.cell? ⟨z+2,8,none⟩=some (.int .i64 cl)∧u.cell? ⟨z+2,9,none⟩=some (.int .i64 vl.kind)∧u.cell? ⟨z+2,10,none⟩=some (.int .i64 vl.num)∧u.cell? ⟨z+2,11,none⟩=some (.string vl.text))) [] krA (HSS.out _ hWd) (fun hHeld =>?_)
  refine tkT 1 hHeld ?_ (hQ:=hqA)
  refine tkT 2 hHeld ?_ (hQ:=hqA)
  refine tkT 4 hHeld ?_ (hQ:=hqA)
  refine tkT 5 hHeld ?_ (hQ:=hqA)
  refine tkT 6 hHeld ?_ (hQ:=hqA)
  refine tkT 7 hHeld ?_ (hQ:=hqA)
  refine r2T 0 8 (fun K hK =>?_) (fun K hK =>?_)
  ·go_simp
   refine hK.out _ _ _ (HSS.out _ ai) (fun hHeld =>?_)
   clear hK K
   generalize hg:w2.heap.size=g0
   generalize hwe:World.drew (World.alloc w2 _)=va
   have hva:Below w2.heap.size w2 va:=by rw[←hwe];exact ai
   have HZ0:Hid (Blk va g0 56 #[]):=qh fp
   have Fy:w2.heap.size≤g0:=Nat.le_of_eq hg
   have UM:g0<va.heap.size:=HZ0.out.lt
   clear hwe hg
   refine r2T 3 8 (fun K hK =>?_) (fun K hK =>?_)
   ·refine cu _ (.tmp 42) (.tmp 44) 37 rfl 56 ie _ Ent.cells 15 184 Tryz.underlying37 hie uA uz uy rfl omA iH jU w2.heap.size (.slice (some ⟨g0,0,none⟩) 0 0) ([]:List Ent) rfl (aj.empty HZ0.out Fy) _ _ _ es rfl rfl (HE2.out.next hva).1 smA mxA (hva).size ?_
    intro v3 vb hown3 hg3 qR
    rw[List.nil_append]at hown3
    obtain⟨A3,c3,hv3,_,_⟩:=hown3.form
    subst hv3
    have hvb:Below w2.heap.size w2 vb:=Below.grown hva hg3 (hva).size (bX Fy)
    have HW3:=qh hown3
    have HA3:=qh hg3
    clear hown3 hg3 qR
    refine hK.out _ _ _ (HSS.out _ hvb) (fun hHeld =>?_)
    clear hK K
    refine r1T 8 (fun K hK =>?_)
    go_simp
    refine hK.out _ _ _ (HSS.out _ (by have:=(hvb).size;first|exact(hvb).alloc this _|exact ai)) (fun hHeld =>?_)
    clear hK K
    generalize hg:(vb).heap.size=g
    generalize hwe:World.alloc (vb) _=vc
    have hab:Below (vb).heap.size (vb) vc:=by rw[←hwe];exact ai
    have hvc:Below w2.heap.size w2 vc:=aa hvb hab (hvb).size
    have HG:Hid (Blk vc g 56 (Ent.cells ⟨nx,⟨kd,sq,dy,tb,XA,xc,row,key,cl,vl⟩⟩).toArray):=qh fm
    have hgn:∀q,q<(vb).heap.size→q<g:=fun q h=>by rw[←hg];exact h
    clear hwe hg
    (replace HW3:=qh (HW3.out.below hab nlr))
    exact l91_1
   ·go_simp
    refine hK.out _ _ _ (HSS.out _ (by have:=(hva).size;first|exact(hva).alloc this _|exact ai)) (fun hHeld =>?_)
    clear hK K
    generalize hg:(va).heap.size=g
    generalize hwe:World.alloc (va) _=vb
    have hab:Below (va).heap.size (va) vb:=by rw[←hwe];exact ai
    have hvb:Below w2.heap.size w2 vb:=aa hva hab (hva).size
    have HG:Hid (Blk vb g 56 (Ent.cells ⟨nx,⟨kd,sq,dy,tb,XA,xc,row,key,cl,vl⟩⟩).toArray):=qh fm
    have hgn:∀q,q<(va).heap.size→q<g:=fun q h=>by rw[←hg];exact h
    clear hwe hg
    (replace HZ0:=qh (HZ0.out.below hab UM))
    have hgb:g<vb.heap.size:=HG.out.lt
    have hgg:=hgn g0 UM
    exact l91_3
  ·go_simp
   refine hK.out _ _ _ (HSS.out _ ai) (fun hHeld =>?_)
   clear hK K
   generalize hg:w2.heap.size=g
   generalize hwe:World.drew (World.alloc w2 _)=va
   have hva:Below w2.heap.size w2 va:=by rw[←hwe];exact ai
   have HG:Hid (Blk va g 56 (Ent.cells ⟨nx,⟨kd,sq,dy,tb,XA,xc,row,key,cl,vl⟩⟩).toArray):=qh fp
   have hgl:g<va.heap.size:=HG.out.lt
   clear hwe hg
   refine r1T 0 (fun K hK =>?_)
   go_simp
   refine hK.out _ _ _ (HSS.out _ (by have:=hva.size;first|exact hva.alloc this _|exact ai)) (fun hHeld =>?_)
   clear hK K
   generalize hg:va.heap.size=g0
   generalize hwe:World.alloc va _=vb
   have hab:Below va.heap.size va vb:=by rw[←hwe];exact ai
   have hvb:Below w2.heap.size w2 vb:=aa hva hab hva.size
   have HZ0:Hid (Blk vb g0 56 #[]):=qh fm
   have Fy:w2.heap.size≤g0:=by rw[←hg];exact hva.size
   (replace HG:=qh (HG.out.below hab hgl))
   have hgg:g<g0:=by rw[←hg];exact hgl
   clear hwe hg
   exact l91_3
 rintro f w3 hf
 rw[HRS.out]at hf
 obtain⟨A9,c9,MH,hc9,hown,hb3⟩:=hf
 simp only[setL,List.setIfInBounds_toArray,List.set_cons_zero,List.set_cons_succ]
 rw[MH]
 have hx3:Below w.heap.size w w3:=aa hx2 hb3 hx2.size
 have HW:=qh hown
 have HL3:=qh (HL2.out.below hb3 OJ)
 have HR3:=qh (HR2.out.below hb3 hrl2)
 have l0:=HL3.out.cell 0
 have l1:=HL3.out.cell 1
 have r0:=HR3.out.cell 0
 have r1:=HR3.out.cell 1
 have r2:=HR3.out.cell 2
 have rf:=fun j=>HR3.out.frozen j
 have hrl3:=HR3.out.lt
 have hwrap:IntKind.i64.wrap (nx+1)=nx+1:=IntWalk.i64_in _ omA
 simp only[gE3]at l0 l1 r0 r1 r2
 clear MH hown HSS HRS
 go_wp2_with fail
 obtain⟨U,hU⟩:∃U,((w3.setCell ⟨z+3,0,none⟩ (.int .i64 lo)).setCell ⟨z+3,1,none⟩ (.int .i64 (nx+1))).setCell ⟨z+3,2,none⟩ (.slice A9 (es.length+1) c9)=U:=⟨_,rfl⟩
 rw[hU]
 have HRU:Hid (Blk U (z+3) 39 #[.int .i64 lo,.int .i64 (nx+1),.slice A9 (es.length+1) c9]):=qh (by
  rw[←hU]
  have h:=((HR3.out.aH 0 (.int .i64 lo)).aH 1 (.int .i64 (nx+1))).aH 2 (.slice A9 (es.length+1) c9)
  simpa using h)
 have HBU:Hid (Below w.heap.size w U):=qh (by
  rw[←hU]
  iterate 3 (refine Below.setCell ?_ (by have:=HZ.out;show w.heap.size≤z+3;omega) _)
  exact hx3)
 have HSL:Hid (aj U w.heap.size 56 Ent.cells 15 (.slice A9 (es.length+1) c9) (es ++ [(⟨nx,⟨kd,sq,dy,tb,XA,xc,row,key,cl,vl⟩⟩:Ent)])):=qh (by
  have h:aj U w2.heap.size 56 Ent.cells 15 (.slice A9 (es.length+1) c9) (es ++ [(⟨nx,⟨kd,sq,dy,tb,XA,xc,row,key,cl,vl⟩⟩:Ent)]):=by
   rw[←hU]
   have n1:=HW.out.aY HR3.out (by decide)
   iterate 3 (refine aj.far ?_ n1 _)
   exact HW.out
  exact h.mono hx2.size)
 clear hU r0 r1 r2
 have r0:=HRU.out.cell 0
 have r1:=HRU.out.cell 1
 have r2:=HRU.out.cell 2
 simp only[gE3]at r0 r1 r2
 exact bodyPost_ret (v:= .tuple #[.agg #[.int .i64 lo,.int .i64 (nx+1),.slice A9 (es.length+1) c9],.int .i64 0]) (by simp[results,Tryz.results30,go_sem,r0,r1,r2]) rfl ⟨⟨A9,c9,rfl,HSL.out,hc9⟩,HBU.out⟩
end Go.Proofs.YtjidligipoldeaaGreat
