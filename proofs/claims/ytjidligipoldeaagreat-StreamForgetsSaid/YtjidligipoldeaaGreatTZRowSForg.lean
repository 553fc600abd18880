/-
  For every list of numbers the law StreamForgets returns true: after Compact to the end, every value in the log is the value of its cell in the table. No condition.
-/
import Derived.Test.YtjidligipoldeaaGreatT93
import Derived.Test.YtjidligipoldeaaGreatT92
import Derived.Test.YtjidligipoldeaaGreatT81
import Derived.Test.YtjidligipoldeaaGreatT90
import Derived.Test.YtjidligipoldeaaGreatRows
import Derived.ProofKit
import Derived.OpenShut
import Derived.ShutString
set_option linter.unusedVariables false
set_option linter.unusedSimpArgs false
set_option maxRecDepth 100000
set_option maxHeartbeats 16000000
set_option maxRecDepth 100000
namespace Go.Proofs.YtjidligipoldeaaGreat
open Go.RowKit Go Go.Shelf
theorem fN{P:Prop}(h:P:=by kernel_rfl):P:=h
theorem fS{P:Prop}(h:P:=by simpa using he):P:=h
theorem fW{P:Prop}(h:P:=by have:=HLN.out.2;omega):P:=h
attribute [local go_sem] Oper.semAt_some
theorem EG(A:Option Addr)(c:Nat)(t:List Int)(w:World)(hl:ag w w.heap.size intCells 1 A t)(hn:t.length*8≤140737488351232):
 Calls Tryz.prog 4 #[.slice A t.length c] w fun e w'=>e=.returned (.bool true)∧Below w.heap.size w w':=by
 have HL0:=qh hl
 clear hl
 go_enter Tryz.func4,Tryz.ntmps4
 by_cases vH:100<t.length
 ·have Dw:decide (100<t.length)=true:=by simpa using vH
  have Dv:decide ((100:Int)<(t.length:Int))=true:=by simp;omega
  go_wp2_with (go_at_call 7;(with_reducible refine(l6 _).mono ?_);rintro e w1 ⟨rfl,hb1⟩)
  go_ret
  exact⟨rfl,hb1⟩
 have Dw:decide (100<t.length)=false:=by simpa using vH
 have Dv:decide ((100:Int)<(t.length:Int))=false:=by simp;omega
 go_upto_region 4 with (go_at_call 8;(with_reducible refine(xZ A c t _ HL0.out hn).mono ?_);rintro e w1 ⟨⟨CA,cc,ts,k,OA,oc,l,rfl,ht,hs,hk,hl,ho,htb,Xn,h8⟩,hb1⟩)
 obtain⟨z,hz⟩:∃z,w1.heap.size=z:=⟨_,rfl⟩
 have HZZ:=qh hz
 rw[hz]
 refine ah (P:=fun u=>Code.wp _ _ _ _ u) (R:=fun u=>Blk u z 33 #[.slice CA ts.length cc,.slice none 0 0,.slice none 0 0,.slice none 0 0,.slice none 0 0,.slice none 0 0,.slice none 0 0,.slice none 0 0]∧Below z w1 u) ⟨?_,?_⟩ ?_
 ·exact Blk.new' hz
 ·rw[←hz];exact ai
 rintro W ⟨hC,hbW⟩
 rw[←HZZ.out]at hbW
 have HT:=qh ht
 have HS:=qh hs
 have HL:=qh hl
 have HO:=qh ho
 have HTB:=qh htb
 have H8:=qh h8
 have HC:=qh hC
 have hcl:=hC.lt
 have hxW:Below w.heap.size w W:=aa hb1 hbW hb1.size
 have HT:Hid (aF W W.heap.size CA ts):=qh (HT.out.next hbW)
 have HL:Hid (dQ W W.heap.size OA l):=qh (HL.out.next hbW)
 clear ht hs hl ho htb h8 hC hz vH Dw Dv HL0
 obtain⟨p0,p1,p2,p3,p4,p5,p6,p7⟩:=Cat.blk HC.out
 go_upto_region 5 with (go_at_call 9;(with_reducible refine(Ag CA cc ts.length ts k OA oc l.length l _ HT.out rfl HS.out hk HL.out rfl (by omega) HO.out HTB.out H8.out).mono ?_);rintro e w2 ⟨⟨EA,ec,rfl,hec,hE⟩,hb2⟩)
 obtain⟨z6,hz6⟩:∃z6,w2.heap.size=z6:=⟨_,rfl⟩
 have HZ6:=qh hz6
 rw[hz6]
 refine ah (P:=fun u=>Code.wp _ _ _ _ u) (R:=fun u=>Blk u z6 39 #[.int .i64 0,.int .i64 (l.length:Int),.slice EA l.length ec]∧Below z6 w2 u) ⟨Blk.new' hz6,by rw[←hz6];exact ai⟩ ?_
 rintro w3 ⟨hG6,hb3⟩
 rw[←HZ6.out]at hb3
 have BH:Below W.heap.size W w3:=aa hb2 hb3 hb2.size
 have hx3:Below w.heap.size w w3:=aa hxW BH hxW.size
 have HG6:=qh hG6
 have HC3:=qh (HC.out.below BH hcl)
 have HT3:=qh (HT.out.next BH)
 have HL3:=qh (HL.out.next BH)
 have HE3:=qh (hE.next hb3)
 have HEL:Hid ((fe l).length=l.length):=qh (nD l)
 have HE8:Hid (∀x∈fe l,x.chg.row.length≤8):=qh (fun x hx=>H8.out x.chg (qb hx))
 have lM:Hid (dF ts k 0 (l.length:Int) ((fe l).map Ent.p)):=qh (by
  rw[lu]
  have h:=ng HO.out HTB.out hk (by omega:l.length≤200) l.length nlr
  rwa [List.take_of_length_le nlr]at h)
 clear p0 p1 p2 p3 p4 p5 p6 p7 hG6 hz6 hE HC HT HL
 obtain⟨p0,p1,p2,p3,p4,p5,p6,p7⟩:=Cat.blk HC3.out
 have g0:=HG6.out.cell 0
 have g1:=HG6.out.cell 1
 have g2:=HG6.out.cell 2
 simp only[gE3]at g0 g1 g2
 have hnn:(0:Int)≤(l.length:Int):=by omega
 go_upto_region 6 with (go_at_call 10;(with_reducible refine(lU CA cc ts.length ts k 0 (l.length:Int) EA ec l.length (fe l) (l.length:Int) _ HT3.out rfl HS.out HE3.out HEL.out hec lM.out HE8.out hnn (Int.le_refl _)).mono ?_);rintro e w4 ⟨⟨KA,kc,ks,rfl,hkm,hko⟩,hb4⟩)
 have hx4:Below w.heap.size w w4:=aa hx3 hb4 hx3.size
 obtain⟨z7,hz7⟩:∃z7,w4.heap.size=z7:=⟨_,rfl⟩
 have HZ7:=qh hz7
 rw[hz7]
 refine ah (P:=fun u=>Code.wp _ _ _ _ u) (R:=fun u=>Blk u z7 39 #[.int .i64 (l.length:Int),.int .i64 (l.length:Int),.slice KA ks.length kc]∧Below z7 w4 u) ⟨Blk.new' hz7,by rw[←hz7];exact ai⟩ ?_
 rintro w5 ⟨hG7,hb5⟩
 rw[←HZ7.out]at hb5
 have oQ:Below w3.heap.size w3 w5:=aa hb4 hb5 hb4.size
 have hx5:Below w.heap.size w w5:=aa hx3 oQ hx3.size
 have HG7:=qh hG7
 have HKM:=qh hkm
 have HK5:Hid (di w5 w5.heap.size KA ks):=qh (hko.read.next hb5)
 have HK8:Hid (∀x∈ks,x.chg.row.length≤8):=qh hko.len
 have HC5:=qh (HC3.out.below oQ HC3.out.lt)
 have HT5:=qh (HT3.out.next oQ)
 have HL5:=qh (HL3.out.next oQ)
 have PN:Hid (dF ts k (l.length:Int) (l.length:Int) (ks.map Ent.p)):=qh (by
  rw[HKM.out]
  exact lM.out.comp hnn (Int.le_refl _))
 clear p0 p1 p2 p3 p4 p5 p6 p7 g0 g1 g2 hG7 hz7 hkm hko HC3 HT3 HL3 HG6 HE3
 obtain⟨p0,p1,p2,p3,p4,p5,p6,p7⟩:=Cat.blk HC5.out
 have g0:=HG7.out.cell 0
 have g1:=HG7.out.cell 1
 have g2:=HG7.out.cell 2
 simp only[gE3]at g0 g1 g2
 go_upto_region 7 with (go_at_call 12;(with_reducible refine(rV CA cc ts.length ts k (l.length:Int) (l.length:Int) KA kc ks.length ks _ HT5.out rfl HS.out HK5.out rfl PN.out HK8.out).mono ?_);rintro e w6 ⟨⟨RA,rc,recs,rfl,hrr,hrp⟩,hb6⟩)
 have hx6:Below w.heap.size w w6:=aa hx5 hb6 hx5.size
 have HRR:=qh hrr
 obtain⟨TY,hfact⟩:=I4 HO.out HTB.out hk (by omega) (by rw[HKM.out,lu]) hrp
 have HRP:=qh TY
 have HF:=qh hfact
 have HKL:Hid (ks.length≤16):=qh (by
  have h:=congrArg List.length HKM.out
  have h2:=vM (l.length:Int) ((fe l).map Ent.p)
  rw[List.length_map,nD]at h2
  rw[List.length_map]at h
  omega)
 have HC6:=qh (HC5.out.below hb6 HC5.out.lt)
 have SI:=qh (HG7.out.below hb6 HG7.out.lt)
 have HT6:=qh (HT5.out.next hb6)
 have HL6:=qh (HL5.out.next hb6)
 have HK6:=qh (HK5.out.next hb6)
 have HRK:Hid ((bM ts l)[k]?=some (dL [] (l.map unC))):=qh (by
  have h:=lM.out.recs (l:=l) (by rw[lu,gQ])
  rwa [lu,gQ]at h)
 have HLN:Hid ((∀r∈recs,r.row.length≤8∧r.row.length≤1000000∧r.seq.length≤1000000)∧recs.length≤64):=qh (by
  have hn8:=(lM.out.cat.ae hk).2
  obtain⟨⟨q,hq⟩,_⟩:=j5 lM.out.cat hk _ [] 0 (Good.nil _ _) (lT lM.out.ord lM.out.tab)
  rw[lu,gQ]at hq
  have h:=hq.ok.len
  rw[←HRP.out,List.length_map]at h
  refine⟨fun r hr =>?_,h⟩
  have h:=uX hk hq HRP.out r hr
  omega)
 clear p0 p1 p2 p3 p4 p5 p6 p7 g0 g1 g2 hrr hrp TY hfact HC5 HG7 HT5 HL5 HK5
 obtain⟨p0,p1,p2,p3,p4,p5,p6,p7⟩:=Cat.blk HC6.out
 have Xo:decide (k<ts.length)=true:=by simpa using hk
 go_upto_region 10 with (first
  | (go_at_call 13;(with_reducible refine(mI CA cc ts.length ts OA oc l.length l _ HT6.out rfl HS.out HO.out.cat HL6.out rfl (by omega) (fun x hx=>Nat.le_trans (H8.out x hx) (by omega))).mono ?_);rintro e w7 ⟨⟨XA,xc,rt,rfl,hrl,hrt,hru,hrs,hpu⟩,hb7⟩;have hkr:k<rt.length:=(by omega);obtain⟨b5,o5,hRA,XY,hc5⟩:=hrt.1.get hkr;have r0:=hc5 0 _ rfl;have hr3:=hrt.2 rt[k] (lgm hkr);have jr:=qh (qp hpu HRK.out hkr);obtain⟨⟨TA,tc,Cn⟩,hy⟩:∃x:RTab,rt[k]=x:=⟨_,rfl⟩;rw[hy]at r0 hr3 jr;simp only[Nat.mul_one,Nat.add_zero,Nat.zero_add]at r0 hr3 jr;have HR3:=qh hr3;subst hRA;clear hc5 hr3 hy hrt hru hrs hpu hrl)
  | (go_at_call 11;(with_reducible refine(lV RA TA rc tc recs.length Cn.length recs Cn _ (HRR.out.next hb7) HR3.out rfl rfl fW (fun x hx=>(HLN.out.1 x hx).2) (HRP.out.trans jr.out.symm)).mono ?_);rintro e w8 ⟨rfl,hb8⟩))
 have O1:Below w6.heap.size w6 w8:=aa hb7 hb8 hb7.size
 have hx8:Below w.heap.size w w8:=aa hx6 O1 hx6.size
 have HG8:=qh (SI.out.below O1 SI.out.lt)
 have V7:=qh (HK6.out.next O1)
 have HR8:=qh (HRR.out.next O1)
 have XF:=HG8.out.lt
 clear p0 p1 p2 p3 p4 p5 p6 p7 r0 HC6 SI HT6 HL6 HK6 HRR jr HR3 HRK PN lM HE8 HEL HKM HRP
 go_loopw [10] (fun vi wr =>∃i:Nat,i≤ks.length∧vi=.int .i64 i∧Below w8.heap.size w8 wr) (fun vi _=>ks.length-(intOf vi).toNat)
 case atStart=>exact⟨0,Nat.zero_le _,rfl,Below.refl _ _⟩
 case round =>
  obtain⟨wo,rfl⟩:∃wo,wo=wr:=⟨_,rfl⟩
  obtain⟨i,hi,rfl,hbr⟩:=hrel
  have hwz:=hbr.size
  have hxr:Below w.heap.size w wo:=aa hx8 hbr hx8.size
  have g2:=(HG8.out.below hbr XF).cell 2
  simp only[gE3]at g2
  by_cases hlt:i<ks.length
  ·have hlt':decide (i<ks.length)=true:=by simpa using hlt
   have kG:decide ((i:Int)<(ks.length:Int))=true:=by simp;omega
   have hki:ks.length≤16:=HKL.out
   obtain⟨p,hp,hfd,Rb,hlen,hins,hcell⟩:=HF.out ks[i] (lgm hlt)
   have hrow:=V7.out.2 ks[i] (lgm hlt)
   have hr8:=HK8.out ks[i] (lgm hlt)
   obtain⟨b7,o7,rfl,hb7,hc7⟩:=HR8.out.1.get hp
   have d0:=hc7 0 _ rfl
   have GN:=(HR8.out.2 recs[p] (lgm hp)).1
   obtain⟨b5,o5,rfl,hb5,hc5⟩:=(V7.out.1.below hbr).get hlt
   obtain⟨⟨y,⟨kd,sq,dy,tb,XA,xc,row,key,cl,vl⟩⟩,hx⟩:∃x,ks[i]=x:=⟨_,rfl⟩
   rw[hx]at hc5 hfd Rb hlen hins hcell hrow hr8
   obtain⟨⟨QA,qc,fM,QS,qs,su,qd⟩,hqr⟩:∃x:Rcd,recs[p]=x:=⟨_,rfl⟩
   rw[hqr]at d0 GN hlen
   have P6:kd=2→∃j:Nat,cl=(j:Int) ∧ ∃hj:j<fM.length,fM[j]=vl:=fun h=>by
    have h1:=Rb h
    rw[hqr]at h1
    exact h1
   have hcell2:∀j (hj:j<row.length) (hj2:j<fM.length),row[j]=fM[j]∨row[j]=dS:=fun j hj hj2=>by
    have h1:=hcell j hj
    rw[hqr]at h1
    exact h1 hj2
   have Yn:=qh P6
   have NM:=qh hcell2
   have YO:Hid (kd=1→0<row.length):=qh hins
   have HFD:=qh hfd
   simp only at hrow GN
   have iV:=qh hrow
   have Hf:=qh GN
   obtain⟨c0,⟨c1,c2,c3,c4⟩,c5,⟨c6,c7,c8⟩,c9,⟨c10,c11,c12⟩,c13,c14⟩:=Ent.bZ hc5
   simp only at c0 c1 c2 c3 c4 c5 c6 c7 c8 c9 c10 c11 c12 c13 c14 hlen hr8 d0
   have HD0:Hid (w8.cell? ⟨b7,o7+p*3,none⟩=some (.slice QA fM.length qc)):=qh d0
   clear hc5 hc7 hx hqr hfd Rb P6 hcell hcell2 hins hrow GN d0
   go_upto_region 14 with (fail)
   refine ah (P:=fun u=>Code.wp _ _ _ _ u) (R:=fun u=>Blk u wo.heap.size 52 #[.int .i64 kd,.int .i64 sq,.int .i64 dy,.int .i64 tb,.slice XA row.length xc,.int .i64 key.kind,.int .i64 key.num,.string key.text,.int .i64 cl,.int .i64 vl.kind,.int .i64 vl.num,.string vl.text]∧Blk u (wo.heap.size+1) 50 #[.int .i64 key.kind,.int .i64 key.num,.string key.text]∧Below wo.heap.size wo u) ⟨?_,?_,?_⟩ ?_
   ·exact(Blk.new _ _ _).alloc _
   ·exact Blk.new' (by simp)
   ·exact ai
   rintro u ⟨hX,hKY,hbu⟩
   have MM:Below w8.heap.size w8 u:=aa hbr hbu hwz
   have HX:=qh hX
   have HKY:=qh hKY
   have hxl:=hX.lt
   have hkl:=hKY.lt
   clear hX hKY c0 c1 c2 c3 c4 c5 c6 c7 c8 c9 c10 c11 c12 c13 c14 g2
   by_cases h1:kd=1
   ·have h1d:decide (kd=1)=true:=by simpa using h1
    have h1b:(kd == 1)=true:=by simpa using h1
    have hr0:0<row.length:=YO.out h1
    have mM:decide (0<row.length)=true:=by simpa using hr0
    obtain⟨b6,o6,hXA,hb6,hc6⟩:=(iV.out.below MM).get hr0
    have c0:=HX.out.cell 0
    have c4:=HX.out.cell 4
    have k0:=HKY.out.cell 0
    have k1:=HKY.out.cell 1
    have k2:=HKY.out.cell 2
    have kf:=fun j=>HKY.out.frozen j
    simp only[gE3]at c0 c4 k0 k1 k2
    rw[hXA]at c4
    obtain⟨v0,v1,v2⟩:=Val.cells3 hc6
    obtain⟨kv,hkv⟩:∃kv,row[0]=kv:=⟨_,rfl⟩
    rw[hkv]at v0 v1 v2
    simp only[Nat.zero_mul,Nat.add_zero]at v0 v1 v2
    have HFK:Hid (gm recs kv=(p:Int)):=qh (by
     have h:=HFD.out
     unfold keyOf at h
     rw[if_pos h1b]at h
     have e:row.headD ⟨0,0,⟨#[]⟩⟩=kv:=by
      rw[←hkv]
      cases row with
      | nil=>simp at hr0
      | cons x xs=>rfl
     rw[e]at h
     exact h)
    clear hc6 hkv
    go_upto_region 16 with (fail)
    obtain⟨U,hU⟩:∃U,((u.setCell ⟨wo.heap.size+1,0,none⟩ (.int .i64 kv.kind)).setCell ⟨wo.heap.size+1,1,none⟩ (.int .i64 kv.num)).setCell ⟨wo.heap.size+1,2,none⟩ (.string kv.text)=U:=⟨_,rfl⟩
    rw[hU]
    have SH:Hid (Blk U (wo.heap.size+1) 50 #[.int .i64 kv.kind,.int .i64 kv.num,.string kv.text]):=qh (by
     rw[←hU]
     have h:=((HKY.out.aH 0 (.int .i64 kv.kind)).aH 1 (.int .i64 kv.num)).aH 2 (.string kv.text)
     simpa using h)
    have HXU:Hid (Blk U wo.heap.size 52 #[.int .i64 kd,.int .i64 sq,.int .i64 dy,.int .i64 tb,.slice XA row.length xc,.int .i64 key.kind,.int .i64 key.num,.string key.text,.int .i64 cl,.int .i64 vl.kind,.int .i64 vl.num,.string vl.text]):=qh (by
     rw[←hU]
     iterate 3 (refine Blk.far ?_ (show wo.heap.size≠wo.heap.size+1 by omega) _)
     exact HX.out)
    have hbU:Below w8.heap.size w8 U:=by
     rw[←hU]
     iterate 3 (refine Below.setCell ?_ (show w8.heap.size≤wo.heap.size+1 by omega) _)
     exact MM
    clear hU c0 c4 k0 k1 k2 kf v0 v1 v2
    obtain⟨k0,k1,k2⟩:=Az SH.out
    go_upto_region 17 with (go_at_call 15;(with_reducible refine(gJ (some ⟨b7,o7,none⟩) rc recs.length recs kv _ (HR8.out.next hbU) rfl fW (fun x hx=>(HLN.out.1 x hx).2.1) HFK.out).mono ?_);rintro e v ⟨rfl,hbv⟩)
    have hv8:Below w8.heap.size w8 v:=aa hbU hbv (hbU).size
    have WQ:=hv8.size
    have XP:=hbv.size
    have HXv:=qh (HXU.out.below hbv HXU.out.lt)
    have Q5:=HXv.out.lt
    have c0:=HXv.out.cell 0
    have c8:=HXv.out.cell 8
    have c9:=HXv.out.cell 9
    have c10:=HXv.out.cell 10
    have c11:=HXv.out.cell 11
    simp only[gE3]at c0 c8 c9 c10 c11
    have hkx:=az (w:=v) wo.heap.size Q5
    have hpd:decide (p<recs.length)=true:=by simpa using hp
    have hpn:decide ((p:Int)<0)=false:=by simp
    clear k0 k1 k2
    have h2d:decide (kd=2)=false:=by simp;omega
    have h2b:(kd == 2)=false:=by simp;omega
    refine af fN fN ?_;(repeat(go_big_quiet_step (fail)));refine wpQuiet_nil ?_;intro wq hq
    clear hkx c0 c8 c9 c10 c11
    have hq8:Below w8.heap.size w8 wq:=aa hv8 hq hv8.size
    have hqv:=hq.size
    have HXq:=qh (HXv.out.below hq HXv.out.lt)
    have Fj:=HXq.out.lt
    go_upto_region 20 with (fail)
    go_loopw [14] (fun vj wr =>∃j:Nat,j≤row.length∧vj=.int .i64 j∧Below wq.heap.size wq wr) (fun vj _=>row.length-(intOf vj).toNat)
    case atStart=>exact⟨0,Nat.zero_le _,rfl,Below.refl _ _⟩
    case round =>
     obtain⟨j,hj,rfl,hbi⟩:=hrel
     have hiz:=hbi.size
     have hi8:Below w8.heap.size w8 wr:=aa hq8 hbi hq8.size
     have UI:=hi8.size
     have c4:=(HXq.out.below hbi Fj).cell 4
     simp only[gE3]at c4
     by_cases hjl:j<row.length
     ·have uD:decide (j<row.length)=true:=by simpa using hjl
      have zH:decide ((j:Int)<(row.length:Int))=true:=by simp;omega
      have hjq:j<fM.length:=by omega
      have UH:decide (j<fM.length)=true:=by simpa using hjq
      obtain⟨b6,o6,hXA,hb6,hc6⟩:=(iV.out.below hi8).get hjl
      rw[hXA]at c4
      obtain⟨b9,o9,hQA,hb9,hc9⟩:=(Hf.out.below hi8).get hjq
      have d0:=(hi8.cell (p:=⟨b7,_,none⟩) hb7).trans HD0.out
      rw[hQA]at d0
      obtain⟨a0,a1,a2⟩:=Val.cells3 hc6
      obtain⟨e0,e1,e2⟩:=Val.cells3 hc9
      have hkx:=az (w:=wr) wo.heap.size (by omega)
      have hk7:=az (w:=wr) b7 (by omega)
      have hk6:=az (w:=wr) b6 (by omega)
      have hk9:=az (w:=wr) b9 (by omega)
      clear hc6 hc9
      by_cases he:row[j]=fM[j]
      ·have heq:=bu (x:=row[j]) (y:=fM[j]) (b:=true) fS
       clear he
       go_upto_region 22 with (fail)
       refine af fN fN ?_;(repeat(go_big_quiet_step (fail)));refine wpQuiet_nil ?_;intro wq2 hq2
       clear hkx hk7 hk6 hk9 a0 a1 a2 e0 e1 e2 d0 c4 heq
       go_wp2_with fail
       go_roundw
       case rel=>exact⟨j+1,by omega,by go_num,aa hbi hq2 hiz⟩
       case measure=>exact meA
      ·have hz:row[j]=dS:=(NM.out j hjl hjq).resolve_left he
       have heq:=bu (x:=row[j]) (y:=fM[j]) (b:=false) fS
       have heq2:=bu (x:=row[j]) (y:=dS) (b:=true) (by simpa using hz)
       simp only[dS]at heq2
       clear he hz
       go_upto_region 22 with (fail)
       refine af fN fN ?_;(repeat(go_big_quiet_step (fail)));refine wpQuiet_nil ?_;intro wq2 hq2
       clear hkx hk7 hk6 hk9 a0 a1 a2 e0 e1 e2 d0 c4 heq heq2
       go_wp2_with fail
       go_roundw
       case rel=>exact⟨j+1,by omega,by go_num,aa hbi hq2 hiz⟩
       case measure=>exact meA
     ·have uD:decide (j<row.length)=false:=by simpa using hjl
      have zH:decide ((j:Int)<(row.length:Int))=false:=by simp;omega
      go_wp2_with fail
      go_roundw
      case rel=>exact⟨i+1,by omega,by go_num,hi8⟩
      case measure=>exact meA
   ·have h1d:decide (kd=1)=false:=by simpa using h1
    have h1b:(kd == 1)=false:=by simpa using h1
    have c0:=HX.out.cell 0
    simp only[gE3]at c0
    have HFK:Hid (gm recs key=(p:Int)):=qh (by
     have h:=HFD.out
     unfold keyOf at h
     rw[if_neg (by simpa using h1)]at h
     exact h)
    go_upto_region 16 with (fail)
    clear c0
    have SH:=HKY
    have HXU:=HX
    obtain⟨k0,k1,k2⟩:=Az SH.out
    go_upto_region 17 with (go_at_call 15;(with_reducible refine(gJ (some ⟨b7,o7,none⟩) rc recs.length recs key _ (HR8.out.next MM) rfl fW (fun x hx=>(HLN.out.1 x hx).2.1) HFK.out).mono ?_);rintro e v ⟨rfl,hbv⟩)
    have hv8:Below w8.heap.size w8 v:=aa MM hbv (MM).size
    have WQ:=hv8.size
    have XP:=hbv.size
    have HXv:=qh (HXU.out.below hbv HXU.out.lt)
    have Q5:=HXv.out.lt
    have c0:=HXv.out.cell 0
    have c8:=HXv.out.cell 8
    have c9:=HXv.out.cell 9
    have c10:=HXv.out.cell 10
    have c11:=HXv.out.cell 11
    simp only[gE3]at c0 c8 c9 c10 c11
    have hkx:=az (w:=v) wo.heap.size Q5
    have hpd:decide (p<recs.length)=true:=by simpa using hp
    have hpn:decide ((p:Int)<0)=false:=by simp
    clear k0 k1 k2
    by_cases h2:kd=2
    ·have h2d:decide (kd=2)=true:=by simpa using h2
     have h2b:(kd == 2)=true:=by simpa using h2
     obtain⟨j2,hcl,hj2,hjv⟩:=Yn.out h2
     subst hcl
     have ZT:decide (j2<fM.length)=true:=by simpa using hj2
     obtain⟨b9,o9,hQA,hb9,hc9⟩:=(Hf.out.below hv8).get hj2
     have d0:=(hv8.cell (p:=⟨b7,_,none⟩) hb7).trans HD0.out
     rw[hQA]at d0
     obtain⟨e0,e1,e2⟩:=Val.cells3 hc9
     rw[hjv]at e0 e1 e2
     have heq:=bu (x:=vl) (y:=vl) (b:=true) (by simp)
     have hk7:=az (w:=v) b7 (by omega)
     have hk9:=az (w:=v) b9 (by omega)
     clear hc9 hjv
     refine af fN fN ?_;(repeat(go_big_quiet_step (fail)));refine wpQuiet_nil ?_;intro wq hq
     clear hkx hk7 hk9 e0 e1 e2 d0 c0 c8 c9 c10 c11 heq
     have hq8:Below w8.heap.size w8 wq:=aa hv8 hq hv8.size
     have hqv:=hq.size
     have HXq:=qh (HXv.out.below hq HXv.out.lt)
     have Fj:=HXq.out.lt
     go_upto_region 20 with (fail)
     go_loopw [14] (fun vj wr =>∃j:Nat,j≤row.length∧vj=.int .i64 j∧Below wq.heap.size wq wr) (fun vj _=>row.length-(intOf vj).toNat)
     case atStart=>exact⟨0,Nat.zero_le _,rfl,Below.refl _ _⟩
     case round =>
      obtain⟨j,hj,rfl,hbi⟩:=hrel
      have hiz:=hbi.size
      have hi8:Below w8.heap.size w8 wr:=aa hq8 hbi hq8.size
      have UI:=hi8.size
      have c4:=(HXq.out.below hbi Fj).cell 4
      simp only[gE3]at c4
      by_cases hjl:j<row.length
      ·have uD:decide (j<row.length)=true:=by simpa using hjl
       have zH:decide ((j:Int)<(row.length:Int))=true:=by simp;omega
       have hjq:j<fM.length:=by omega
       have UH:decide (j<fM.length)=true:=by simpa using hjq
       obtain⟨b6,o6,hXA,hb6,hc6⟩:=(iV.out.below hi8).get hjl
       rw[hXA]at c4
       obtain⟨b9,o9,hQA,hb9,hc9⟩:=(Hf.out.below hi8).get hjq
       have d0:=(hi8.cell (p:=⟨b7,_,none⟩) hb7).trans HD0.out
       rw[hQA]at d0
       obtain⟨a0,a1,a2⟩:=Val.cells3 hc6
       obtain⟨e0,e1,e2⟩:=Val.cells3 hc9
       have hkx:=az (w:=wr) wo.heap.size (by omega)
       have hk7:=az (w:=wr) b7 (by omega)
       have hk6:=az (w:=wr) b6 (by omega)
       have hk9:=az (w:=wr) b9 (by omega)
       clear hc6 hc9
       by_cases he:row[j]=fM[j]
       ·have heq:=bu (x:=row[j]) (y:=fM[j]) (b:=true) fS
        clear he
        go_upto_region 22 with (fail)
        refine af fN fN ?_;(repeat(go_big_quiet_step (fail)));refine wpQuiet_nil ?_;intro wq2 hq2
        clear hkx hk7 hk6 hk9 a0 a1 a2 e0 e1 e2 d0 c4 heq
        go_wp2_with fail
        go_roundw
        case rel=>exact⟨j+1,by omega,by go_num,aa hbi hq2 hiz⟩
        case measure=>exact meA
       ·have hz:row[j]=dS:=(NM.out j hjl hjq).resolve_left he
        have heq:=bu (x:=row[j]) (y:=fM[j]) (b:=false) fS
        have heq2:=bu (x:=row[j]) (y:=dS) (b:=true) (by simpa using hz)
        simp only[dS]at heq2
        clear he hz
        go_upto_region 22 with (fail)
        refine af fN fN ?_;(repeat(go_big_quiet_step (fail)));refine wpQuiet_nil ?_;intro wq2 hq2
        clear hkx hk7 hk6 hk9 a0 a1 a2 e0 e1 e2 d0 c4 heq heq2
        go_wp2_with fail
        go_roundw
        case rel=>exact⟨j+1,by omega,by go_num,aa hbi hq2 hiz⟩
        case measure=>exact meA
      ·have uD:decide (j<row.length)=false:=by simpa using hjl
       have zH:decide ((j:Int)<(row.length:Int))=false:=by simp;omega
       go_wp2_with fail
       go_roundw
       case rel=>exact⟨i+1,by omega,by go_num,hi8⟩
       case measure=>exact meA
    ·have h2d:decide (kd=2)=false:=by simpa using h2
     have h2b:(kd == 2)=false:=by simpa using h2
     refine af fN fN ?_;(repeat(go_big_quiet_step (fail)));refine wpQuiet_nil ?_;intro wq hq
     clear hkx c0 c8 c9 c10 c11
     have hq8:Below w8.heap.size w8 wq:=aa hv8 hq hv8.size
     have hqv:=hq.size
     have HXq:=qh (HXv.out.below hq HXv.out.lt)
     have Fj:=HXq.out.lt
     go_upto_region 20 with (fail)
     go_loopw [14] (fun vj wr =>∃j:Nat,j≤row.length∧vj=.int .i64 j∧Below wq.heap.size wq wr) (fun vj _=>row.length-(intOf vj).toNat)
     case atStart=>exact⟨0,Nat.zero_le _,rfl,Below.refl _ _⟩
     case round =>
      obtain⟨j,hj,rfl,hbi⟩:=hrel
      have hiz:=hbi.size
      have hi8:Below w8.heap.size w8 wr:=aa hq8 hbi hq8.size
      have UI:=hi8.size
      have c4:=(HXq.out.below hbi Fj).cell 4
      simp only[gE3]at c4
      by_cases hjl:j<row.length
      ·have uD:decide (j<row.length)=true:=by simpa using hjl
       have zH:decide ((j:Int)<(row.length:Int))=true:=by simp;omega
       have hjq:j<fM.length:=by omega
       have UH:decide (j<fM.length)=true:=by simpa using hjq
       obtain⟨b6,o6,hXA,hb6,hc6⟩:=(iV.out.below hi8).get hjl
       rw[hXA]at c4
       obtain⟨b9,o9,hQA,hb9,hc9⟩:=(Hf.out.below hi8).get hjq
       have d0:=(hi8.cell (p:=⟨b7,_,none⟩) hb7).trans HD0.out
       rw[hQA]at d0
       obtain⟨a0,a1,a2⟩:=Val.cells3 hc6
       obtain⟨e0,e1,e2⟩:=Val.cells3 hc9
       have hkx:=az (w:=wr) wo.heap.size (by omega)
       have hk7:=az (w:=wr) b7 (by omega)
       have hk6:=az (w:=wr) b6 (by omega)
       have hk9:=az (w:=wr) b9 (by omega)
       clear hc6 hc9
       by_cases he:row[j]=fM[j]
       ·have heq:=bu (x:=row[j]) (y:=fM[j]) (b:=true) fS
        clear he
        go_upto_region 22 with (fail)
        refine af fN fN ?_;(repeat(go_big_quiet_step (fail)));refine wpQuiet_nil ?_;intro wq2 hq2
        clear hkx hk7 hk6 hk9 a0 a1 a2 e0 e1 e2 d0 c4 heq
        go_wp2_with fail
        go_roundw
        case rel=>exact⟨j+1,by omega,by go_num,aa hbi hq2 hiz⟩
        case measure=>exact meA
       ·have hz:row[j]=dS:=(NM.out j hjl hjq).resolve_left he
        have heq:=bu (x:=row[j]) (y:=fM[j]) (b:=false) fS
        have heq2:=bu (x:=row[j]) (y:=dS) (b:=true) (by simpa using hz)
        simp only[dS]at heq2
        clear he hz
        go_upto_region 22 with (fail)
        refine af fN fN ?_;(repeat(go_big_quiet_step (fail)));refine wpQuiet_nil ?_;intro wq2 hq2
        clear hkx hk7 hk6 hk9 a0 a1 a2 e0 e1 e2 d0 c4 heq heq2
        go_wp2_with fail
        go_roundw
        case rel=>exact⟨j+1,by omega,by go_num,aa hbi hq2 hiz⟩
        case measure=>exact meA
      ·have uD:decide (j<row.length)=false:=by simpa using hjl
       have zH:decide ((j:Int)<(row.length:Int))=false:=by simp;omega
       go_wp2_with fail
       go_roundw
       case rel=>exact⟨i+1,by omega,by go_num,hi8⟩
       case measure=>exact meA
  ·have hlt':decide (i<ks.length)=false:=by simpa using hlt
   have kG:decide ((i:Int)<(ks.length:Int))=false:=by simp;omega
   go_wp2_with (go_at_call 7;(with_reducible refine(l6 _).mono ?_);rintro e w9 ⟨rfl,hb9⟩)
   go_ret
   exact⟨rfl,aa hxr hb9 hxr.size⟩
end Go.Proofs.YtjidligipoldeaaGreat
namespace Go.Proofs.YtjidligipoldeaaGreat.streamForgets
open Go.ChangeShapes Go.WideShapes Go.ChangeAt Go.RowKit
theorem own:ownKnob Tryz.prog.godebug=none:=by kernel_rfl
theorem laidOut:laidOutB Tryz.prog=true:=by kernel_rfl
theorem bytesInt:Tryz.prog.bytesOf 3=8:=by kernel_rfl
theorem lifted(os:Os)(started:os.Started)(H:Type)(enc:TypeId × Value→H):
 ReturnsInHanded {} Tryz.checked os 4 .any (Rows.streamForgetsSpec.pre6 enc Tryz.prog Tryz.f4 Rows.streamForgetsRow.domain false) (Rows.streamForgetsSpec.post enc Tryz.prog Tryz.f4 false true false false):=by
 refine returnsInHanded_of_change_sized (C:=Tryz.checked) own started fN Tryz.func4
  (ChangeSpec.witness6 (enc:=enc) (C:=Tryz.checked) false ⟨#[],#[.slice none 0 0],[]⟩ 8 fN fN fN fN) ?_
 intro W base args ds gs before hval0 hW hcnd hsz0 _
 have hval:∀(j:Nat) t v,Tryz.f4.params[j]?=some t→args[j]?=some v→Value.okWide Tryz.prog W .any base t v:=hval0
 have hsz:(DataW.weightsEach Tryz.prog (Tryz.f4.params.toList++Rows.streamForgetsSpec.plain.varTypes Tryz.prog) (ds++gs)).all (· ≤ reachBytes)=true:=hsz0
 have hW':=hW
 obtain⟨p,q,hA0,hV,rfl,hfz,hnd⟩:=hW
 have hA:DataW.TrodAll enc Tryz.prog W 0 (fun _=>true) true Tryz.f4.params.toList args.toList ds p:=hA0
 rw[Tryz.params4]at hA hval hsz
 obtain⟨v0,vs0,d0,ds0,p0,q0,hargs,rfl,rfl,h0,r0⟩:=trodAll_cons hA
 obtain⟨rfl,rfl,rfl⟩:=trodAll_nil r0
 obtain rfl:args=#[v0]:=by cases args;simp_all
 obtain⟨rfl,rfl⟩:=trodVars_none hV
 obtain⟨a0,Lx,cap0,rfl⟩:=okWide_slice Tryz.underlying22 (hval 0 22 v0 rfl rfl)
 have k0:=h0
 have lt0:∀x∈p0,x.block<W.heap.size:=by obtain⟨m,hm⟩:=k0;exact DataW.trod_lt m _ _ _ hm
 obtain⟨t,htl,hts,ht8⟩:∃t:List Int,t.length=Lx∧ag W W.heap.size intCells 1 a0 t∧t.length*8≤140737488351232:=by
  obtain⟨fuel,hf⟩:=h0
  rcases open_ints Tryz.underlying22 Tryz.underlying3 fN hf with ⟨hcs,_⟩|⟨x,l,c,zs,hcs,_,hl,hm,hz,hx,hcell,hwz⟩
  ·simp[Value.cells]at hcs
   obtain⟨rfl,rfl,rfl⟩:=hcs
   exact⟨[],rfl,ag.nil,by simp⟩
  ·simp[Value.cells]at hcs
   obtain⟨rfl,rfl,rfl⟩:=hcs
   simp only[Prod.mk.injEq]at hx
   obtain⟨rfl,_⟩:=hx
   have hs:=sized_slice hsz (j:= 0) (t:= 22) (e:= 3) rfl rfl Tryz.underlying22
   rw[bytesInt]at hs
   simp only[lits,List.length_map,List.length_take,List.length_drop,reachBytes]at hs
   have hzl:zs.length=cap0:=by simpa using hz
   refine⟨zs.take Lx,by simp;omega,fun h =>?_,by simp;omega⟩
   have h1:0<zs.length:=by simp at h;omega
   obtain⟨xb,xo,xs⟩:=x
   have hc0:=hcell 0 h1
   have hsp:xs=none:=by
    cases xs with
    | none=>rfl
    | some y =>
      simp only[Addr.add,World.cell?,Option.isSome_some,if_true]at hc0
      split at hc0<;>simp at hc0
   subst hsp
   have hlt:xb<W.heap.size:=by
    rcases Nat.lt_or_ge xb W.heap.size with h|h
    ·exact h
    ·simp[Addr.add,World.cell?,Array.getElem?_eq_none h]at hc0
   refine⟨xb,xo,rfl,hlt,fun i hi j u hu =>?_⟩
   have hj:j=0:=by have:=(List.getElem?_eq_some_iff.1 hu).1;simp[intCells]at this;omega
   subst hj
   have hil:i<zs.length:=by simp at hi;omega
   have:=hcell i hil
   simp only[intCells,List.getElem?_cons_zero,Option.some.injEq]at hu
   subst hu
   rw[List.getElem_take]
   rw[List.getD_eq_getElem?_getD,List.getElem?_eq_getElem hil]at this
   unfold Addr.add at this
   split at this
   ·rename_i h0;subst h0;simpa using this
   ·simpa using this
 clear hA0 hval0
 subst htl
 refine(EG a0 cap0 t W hts ht8).mono fun e W' ⟨he,bel⟩ =>?_
 subst he
 exact⟨_,rfl,_,_,_,[],_,[],hW',trodAll_mk1 (shut_bool Tryz.underlying4 _),(trodAll_cons_mk (Below.trod laidOut fN (of_decide_eq_true fN) k0 bel lt0) trodAll_mk0),rfl,bel.frame _,fun h=>by cases h⟩
theorem facts:joinedFacts Tryz.pinned.checked.prog 4 Tryz.f4 Rows.streamForgetsSpec Rows.streamForgetsRow=true:=by
 unfold joinedFacts
 repeat' (with_reducible refine(Bool.and_eq_true _ _).mpr ⟨?_,?_⟩)
 all_goals(as_aux_lemma=>kernel_rfl)
theorem over:Rows.streamForgetsRow.holds Tryz.pinned (OpenSpec.ofChange Rows.streamForgetsSpec):=
 OpenClaim.holds_of_wide 4 Tryz.f4 rfl rfl rfl rfl rfl rfl rfl ⟨rfl,rfl,rfl,rfl,rfl⟩ rfl rfl rfl rfl rfl fN Tryz.func4 facts
  (of_decide_eq_true fN) (by unfold Func.isWrapper;first|(rw[if_pos (by decide +kernel)];kernel_rfl)|(rw[if_neg (by decide +kernel)];exact⟨rfl,rfl⟩))
  (fun os started H enc _=>lifted os started H enc)
theorem proved:Rows.StreamForgetsSaid:=over
#print axioms proved
end Go.Proofs.YtjidligipoldeaaGreat.streamForgets
