/-
  For every list of numbers the law RetentionEnds returns true: the deletions of expired records are accepted, afterwards nothing expires on the same day, and all other records stay as they are. No condition.
-/
import Derived.Test.YtkiglflbngfelaaGreatQ23
import Derived.Test.YtkiglflbngfelaaGreatQ15
import Derived.Test.YtkiglflbngfelaaGreatQ10
import Derived.Test.YtkiglflbngfelaaGreatQ25
import Derived.Test.YtkiglflbngfelaaGreatQ31
import Derived.Test.YtkiglflbngfelaaGreatQ26
import Derived.Test.YtkiglflbngfelaaGreatQ27
import Derived.Test.YtkiglflbngfelaaGreatQ2
import Derived.Test.YtkiglflbngfelaaGreatRows
import Derived.WalkKit
import Derived.ProofKit
import Derived.OpenShut
import Derived.ShutString
import Derived.ChangeOld
import Derived.Below
import Derived.SizedLaws
set_option linter.unusedVariables false
set_option linter.unusedSimpArgs false
set_option maxRecDepth 100000
set_option maxHeartbeats 16000000
namespace Go.Proofs.YtkiglflbngfelaaGreat
open Go.RowKit Go
theorem BB (A:Option Addr) (c:Nat) (t:List Int) (w:World) (hl:ag w w.heap.size intCells 1 A t) (hn:t.length * 8 ≤ 140737488351232) :
 Calls Tryz.prog 7 #[.slice A t.length c] w fun e w'=>e = .returned (.bool true)∧Below w.heap.size w w':=by
 have HL0:=qh hl
 clear hl
 go_enter Tryz.func7,Tryz.ntmps7
 go_wp2_with fail
 refine (Ky A c t _ HL0.out hn).mono ?_
 rintro e w1 ⟨⟨g,b,rfl,hg1,hb1,hk1⟩,hx1⟩
 have HK1:=qh hk1
 have QR:=hk1.ltg
 clear hk1 HL0
 go_wp2_with fail
 refine (Dn g b 3 _ HK1.out (by omega) (by omega)).mono ?_
 rintro e w2 ⟨CA,cc,ts,rfl,ht2,hu2,UC,hs2,hok2,h02,YK,hk2,hg2⟩
 have HK2:=qh hk2
 have HT2:=qh ht2
 have HU:=qh hu2
 have HS:=qh hs2
 have HOK:=qh hok2
 have hx2:Below w.heap.size w w2:=Below.grown hx1 hg2 hx1.size (fun q e=>by injection e with e;omega)
 have hz2:=hg2.size
 clear hk2 ht2 hu2 UC hs2 hok2 hg2 HK1
 go_upto_region 3 with (fail)
 refine ah (P:=fun u=>Code.wp _ _ _ _ u) (R:=fun u=>Blk u w2.heap.size 34 #[.slice CA ts.length cc, .slice none 0 0, .slice none 0 0, .slice none 0 0, .slice none 0 0, .slice none 0 0, .slice none 0 0, .slice none 0 0]∧Below w2.heap.size w2 u) ⟨?_,?_⟩ ?_
 ·exact Blk.new' rfl
 ·exact au
 rintro W ⟨hC,hbW⟩
 have HC:=qh hC
 have hzC:=hC.lt
 have HKW:=qh (HK2.out.below hbW)
 have hxW:Below w.heap.size w W:=aa hx2 hbW hx2.size
 have HTW:=qh (HT2.out.next hbW)
 obtain ⟨p0,p1,p2,p3,p4,p5,p6,p7⟩:=Cat.blk hC
 clear hC HK2 HT2
 go_wp2_with fail
 refine (zu g b w1.heap.size 8 CA cc ts.length ts W HKW.out QR HTW.out HU.out rfl HS.out HOK.out h02 (by omega)).mono ?_
 rintro e u1 ⟨LA,lc,l,rfl,hll,hoc,hk3,hg3,PD⟩
 have PQ:=qh PD
 have X9:=hg3.size
 have hC1:=HC.out.grown hg3 (fun e=>by injection e with e;omega)
 have hT1:=HTW.out.grown HU.out QR hg3
 have hx3:Below w.heap.size w u1:=Below.grown hxW hg3 hxW.size (fun q e=>by injection e with e;omega)
 have HC1:=qh hC1
 have HT1:=qh hT1
 have HK3:=qh hk3
 have HOC:=qh hoc
 have hdr:Below u1.heap.size u1 u1.drew:=brf.drew
 have HLR:=qh hoc.read
 clear p0 p1 p2 p3 p4 p5 p6 p7 hC1 hT1 hk3 hoc HKW HTW HC hbW PD
 go_upto_region 4 with (fail)
 refine wp_region_held_drew (S:=fun u=>u.cell? ⟨w2.heap.size,0,none⟩=some (.slice CA ts.length cc)∧u.cell? ⟨w2.heap.size,1,none⟩=some (.slice none 0 0)∧u.cell? ⟨w2.heap.size,2,none⟩=some (.slice none 0 0)∧u.cell? ⟨w2.heap.size,3,none⟩=some (.slice none 0 0)∧u.cell? ⟨w2.heap.size,4,none⟩=some (.slice none 0 0)∧u.cell? ⟨w2.heap.size,5,none⟩=some (.slice none 0 0)∧u.cell? ⟨w2.heap.size,6,none⟩=some (.slice none 0 0)∧u.cell? ⟨w2.heap.size,7,none⟩=some (.slice none 0 0)) (by kernel_rfl) (Cat.blk HC1.out) (fun hHeld => ?_)
 refine tkH 0 hHeld ?_
 refine tkH 1 hHeld ?_
 refine tkH 3 hHeld ?_
 refine tkH 4 hHeld ?_
 refine wpAnyH_ready (rs := [2]) (by kernel_rfl) (by simp) ?_
 refine AllReadyH.cons rfl (fun K hK => ?_) AllReadyH.nil
 go_simp
 (go_at_call 15;(with_reducible refine (BD CA cc ts.length ts LA lc l.length l _ (HT1.out.next hdr) rfl HS.out HOK.out (HLR.out.next hdr) rfl (by omega) (fun x hx=>Nat.le_trans (HOC.out.len x hx) (by omega))).mono ?_))
 rintro e u2 ⟨⟨RA,rc,rt,rfl,hrl,hrt,hru,hsh,hpu⟩,hb2⟩
 have zS:Below u1.heap.size u1 u2:=hdr.trans hb2
 have hz2':=zS.size
 have hC2:=HC1.out.below zS HC1.out.lt
 have HRT:=qh hrt
 have HRU:Hid (RUp u1.heap.size RA rt):=qh hru
 have HRL:=qh hrl
 have HSR:=qh (hsh.sD HOK.out)
 have HPU:=qh hpu
 clear hrt hru hsh hb2 hrl hpu
 go_wp2_with fail
 refine hK.out _ _ (Cat.blk hC2) (fun hHeld => ?_)
 clear hK K
 (try simp only [Act.put,gP6])
 refine wpAnyH_ready (rs := [5]) (by kernel_rfl) (by simp) ?_
 refine AllReadyH.cons rfl (fun K hK => ?_) AllReadyH.nil
 go_simp
 (go_at_call 25;(with_reducible refine (xN CA cc ts.length ts LA lc l.length l _ (HT1.out.next zS) rfl HS.out HOK.out (by omega) (HLR.out.next zS) rfl (by omega) HOC.out.len).mono ?_))
 rintro e u3 ⟨⟨OA,oc,o,rfl,ho⟩,hb3⟩
 have LD:Below u1.heap.size u1 u3:=aa zS hb3 hz2'
 have Ye:=LD.size
 have hC3:=HC1.out.below LD HC1.out.lt
 have HC3:=qh hC3
 have Vk:=qh (HRT.out.next hb3)
 have HO3:=qh (ho.lift hz2')
 have HT3:=qh (HT1.out.next LD)
 have VE:=qh (HK3.out.below LD)
 have hol:o.length ≤ 1000:=by have:=ho.len;omega
 have hx4:Below w.heap.size w u3:=aa hx3 LD hx3.size
 have mU:Hid (∀ x∈o,1≤x.record∧x.record ≤ 1073741824):=qh fun x hx=>(ho.each x hx).2.2
 clear ho hb3 hC2
 go_wp2_with fail
 refine hK.out _ _ (Cat.blk hC3) (fun hHeld => ?_)
 clear hK K
 (try simp only [Act.put,gP6])
 refine tkH 6 hHeld ?_
 refine tkH 7 hHeld ?_
 refine wpAnyH_done (by kernel_rfl) ?_ _
 clear hHeld hC3 HC1 HRT HT1 HK3 HOC HLR
 have hgu:g<u1.heap.size:=by omega
 go_wp2_with fail
 refine (aL g b 70 u3 VE.out (by omega) (by omega)).mono ?_
 rintro e u4 ⟨d,rfl,hnd,hk4,hg4⟩
 have YV:d ≤ 1000:=by have:=hnd;unfold GM at this;omega
 have hz4:=hg4.size
 have HC4:=qh (HC3.out.grown hg4 (fun e=>by injection e with e;omega))
 have HT4:=qh (HT3.out.grown HU.out QR hg4)
 have GR:=qh (Vk.out.grown HRU.out hgu hg4)
 have HO4:=qh ((HO3.out.kept hg4 hgu).read.1)
 have hx5:Below w.heap.size w u4:=Below.grown hx4 hg4 hx4.size (fun q e=>by injection e with e;omega)
 have CF:Hid (aO ts rt):=qh (Ou HOK.out HPU.out PQ.out)
 have HBD:Hid (∀ x∈l,x.seq ≤ 48):=qh fun x hx=>by have:=(PQ.out.2.1 x hx).1;omega
 clear hnd hk4 HC3 HT3 Vk HO3 VE
 obtain ⟨p0,p1,p2,p3,p4,p5,p6,p7⟩:=Cat.blk HC4.out
 go_upto_region 7 with (go_at_call 27;(with_reducible refine (iB CA cc ts.length ts RA rc ts.length rt OA oc o.length o d _ HT4.out rfl HS.out HOK.out GR.out HRL.out HSR.out HO4.out rfl (by omega) mU.out).mono ?_);rintro e u5 ⟨⟨EA,ec,gone,rfl,hs1,_,hp1,_⟩,hb5⟩)
 have HGI:=qh (Hw CF.out HPU.out HBD.out hp1)
 have WN:gone.length ≤ 1000000:=by have:=HGI.out.2;omega
 have HP1:=qh hp1
 have HS5:=qh hs1
 have hC5:=HC4.out.below hb5 HC4.out.lt
 have HT5:=qh (HT4.out.next hb5)
 have O4:=qh (GR.out.next hb5)
 have HC5:=qh hC5
 clear p0 p1 p2 p3 p4 p5 p6 p7 hs1 hp1
 obtain ⟨p0,p1,p2,p3,p4,p5,p6,p7⟩:=Cat.blk hC5
 clear hC5
 go_upto_region 8 with (go_at_call 28;(with_reducible refine (zy CA cc ts.length ts RA rc ts.length rt EA ec gone.length gone 200 d _ HT5.out rfl HS.out HOK.out O4.out HRL.out HSR.out HS5.out rfl WN HGI.out.1).mono ?_);rintro e u6 ⟨⟨DA,dc,dl,rfl,hs2,hdel⟩,hb6⟩)
 obtain ⟨L,rfl,Mv,hstep,hend⟩:=MH CF.out HPU.out HBD.out HP1.out (by omega) hdel
 have QX:=EI rt 200 d L
 have uI:=qh hstep
 have Pg:=qh hend
 have HS6:=qh hs2
 have hy6:Below u4.heap.size u4 u6:=aa hb5 hb6 hb5.size
 have hz6:=hy6.size
 have HC6:=qh (HC4.out.below hy6 HC4.out.lt)
 have HT6:=qh (HT4.out.next hy6)
 have O3:=qh (GR.out.next hy6)
 have HO6:=qh (HO4.out.next hy6)
 have HG6:=qh (HS5.out.next hb6)
 have hx6:Below w.heap.size w u6:=aa hx5 hy6 hx5.size
 clear p0 p1 p2 p3 p4 p5 p6 p7 hs2 hdel hstep hend hb5 hb6 HC5 HT5 O4 HS5 HC4 HT4 GR HO4
 rw [QX]
 have hLl:L.length ≤ 512:=by have:=HGI.out.2;omega
 have HLG:=qh Mv
 have HDL:=qh QX
 rw [← Mv]
 clear QX Mv
 go_upto_region 12 with (fail)
 go_loopw [11,12] (fun vy vi wr => ∃ (i:Nat) (YA:Option Addr) (yc:Nat) (rt':List RTab),i≤L.length∧vi = .int .i64 i∧vy = .slice YA ts.length yc∧rt'.length=ts.length∧aP wr wr.heap.size YA rt'∧rt'.map ax=fu (rt.map ax) (L.take i)∧Below u6.heap.size u6 wr) (fun _ vi _=>L.length - (intOf vi).toNat)
 case atStart=>exact ⟨0,RA,rc,rt,Nat.zero_le _,rfl,rfl,HRL.out,O3.out,by rw [List.take_zero,MK],Below.refl _ _⟩
 case round =>
  obtain ⟨i,YA,yc,rt',hi,rfl,rfl,hyl,hyr,hyp,hbr⟩:=hrel
  have hwz:=hbr.size
  have hxr:=aa hx6 hbr hx6.size
  have HYL:=qh hyl
  have HYR:=qh hyr
  have HYP:=qh hyp
  have hC:=HC6.out.below hbr HC6.out.lt
  have HCr:=qh hC
  obtain ⟨p0,p1,p2,p3,p4,p5,p6,p7⟩:=Cat.blk hC
  have HTr:=qh (HT6.out.next hbr)
  clear hC hyl hyr hyp
  by_cases hlt:i<L.length
  ·have hlt2:i<(rq rt 200 d L).length:=by rw [HDL.out];exact hlt
   obtain ⟨b5,o5,rfl,hb5,hc5⟩:=(HS6.out.below hbr).get hlt2
   obtain ⟨⟨q0,q1,q2,q3⟩,q4,⟨q5,q6,q7⟩,q8,q9,q10,q11⟩:=Chg.uE hc5
   have hde:(rq rt 200 d L)[i]=yT rt 200 d i L[i]:=List.getElem_mapIdx ..
   obtain ⟨hck,hpf⟩:=uI.out i hlt rt' HYP.out
   rw [hde] at q0 q1 q2 q3 q4 q5 q6 q7 q8 q9 q10 q11
   unfold yT at q0 q1 q2 q3 q4 q5 q6 q7 q8 q9 q10 q11 hck hpf
   obtain ⟨ky,hky⟩ : ∃ x,keyS rt L[i]=x:=⟨_,rfl⟩
   obtain ⟨tb,htb⟩ : ∃ x,L[i].tab=x:=⟨_,rfl⟩
   obtain ⟨sq,hsq⟩ : ∃ x:Int,200+(i:Int)=x:=⟨_,rfl⟩
   rw [hky,htb,hsq] at hck hpf
   simp only [hky,htb,hsq,List.length_nil] at q0 q1 q2 q3 q4 q5 q6 q7 q8 q9 q10 q11
   have Pt:fV rt':=((jK hck).1.shape).sD HOK.out
   have hap:=fun (u:World) (hu:Below wr.heap.size wr u)=>IW CA cc ts.length ts YA yc ts.length rt' 3 sq d tb none 0 [] ky 0 ⟨0,0,⟨#[]⟩⟩ u (HTr.out.next hu) rfl HS.out HOK.out (HYR.out.next hu) HYL.out Pt ag.nil (by simp) hck
   simp only [List.length_nil] at hap
   have HAP:=qh hap
   have HPF:=qh hpf
   have Uj:decide (i<L.length)=true:=by simpa using hlt
   have hdr:Below wr.heap.size wr wr.drew:=brf.drew
   clear hc5 hde hck hpf hky htb hsq Pt hap
   go_upto_region 14 with (fail)
   refine wp_region_held_drew (S:=fun u=>(u.cell? ⟨w2.heap.size,0,none⟩=some (.slice CA ts.length cc)∧u.cell? ⟨w2.heap.size,1,none⟩=some (.slice none 0 0)∧u.cell? ⟨w2.heap.size,2,none⟩=some (.slice none 0 0)∧u.cell? ⟨w2.heap.size,3,none⟩=some (.slice none 0 0)∧u.cell? ⟨w2.heap.size,4,none⟩=some (.slice none 0 0)∧u.cell? ⟨w2.heap.size,5,none⟩=some (.slice none 0 0)∧u.cell? ⟨w2.heap.size,6,none⟩=some (.slice none 0 0)∧u.cell? ⟨w2.heap.size,7,none⟩=some (.slice none 0 0))∧(u.cell? ⟨b5,o5+i * 12,none⟩=some (.int .i64 3)∧u.cell? ⟨b5,o5+i * 12 + 1,none⟩=some (.int .i64 sq)∧u.cell? ⟨b5,o5+i * 12 + 2,none⟩=some (.int .i64 d)∧u.cell? ⟨b5,o5+i * 12 + 3,none⟩=some (.int .i64 tb)∧u.cell? ⟨b5,o5+i * 12 + 4,none⟩=some (.slice none 0 0)∧u.cell? ⟨b5,o5+i * 12 + 5,none⟩=some (.int .i64 ky.kind)∧u.cell? ⟨b5,o5+i * 12 + 6,none⟩=some (.int .i64 ky.num)∧u.cell? ⟨b5,o5+i * 12 + 7,none⟩=some (.string ky.text)∧u.cell? ⟨b5,o5+i * 12 + 8,none⟩=some (.int .i64 0)∧u.cell? ⟨b5,o5+i * 12 + 9,none⟩=some (.int .i64 0)∧u.cell? ⟨b5,o5+i * 12 + 10,none⟩=some (.int .i64 0)∧u.cell? ⟨b5,o5+i * 12 + 11,none⟩=some (.string ⟨#[]⟩))) (by kernel_rfl) ⟨⟨p0,p1,p2,p3,p4,p5,p6,p7⟩,q0,q1,q2,q3,q4,q5,q6,q7,q8,q9,q10,q11⟩ (fun hHeld => ?_)
   refine tkH 0 hHeld ?_
   refine tkH 1 hHeld ?_
   refine tkH 2 hHeld ?_
   refine tkH 3 hHeld ?_
   refine tkH 4 hHeld ?_
   refine tkH 5 hHeld ?_
   refine wpAnyH_ready (rs := [6]) (by kernel_rfl) (by simp) ?_
   refine AllReadyH.cons rfl (fun K hK => ?_) AllReadyH.nil
   go_simp
   (go_at_call 20;(with_reducible refine (HAP.out _ hdr).mono ?_))
   rintro e w9 ⟨⟨A9,c9,m9,rt9,rfl,hz9⟩,hb9⟩
   obtain ⟨rfl,hl9,hr9,_,_,hp9⟩:=hz9 trivial
   have hy9:Below wr.heap.size wr w9:=hdr.trans hb9
   have hbc:w2.heap.size<wr.heap.size:=by have:=HCr.out.lt;omega
   have wQ:b5<wr.heap.size:=by omega
   have HL9:=qh hl9
   have HR9:=qh hr9
   have HP9:Hid (rt9.map ax=fu (rt.map ax) (L.take (i + 1))):=qh (by rw [hp9];exact HPF.out)
   clear hz9 hl9 hr9 hp9 hb9
   go_wp2_with fail
   refine hK.out _ _ ⟨Cat.blk (HCr.out.below hy9 HCr.out.lt),(hy9.cell (p:=⟨b5,_,none⟩) wQ).trans q0,(hy9.cell (p:=⟨b5,_,none⟩) wQ).trans q1,(hy9.cell (p:=⟨b5,_,none⟩) wQ).trans q2,(hy9.cell (p:=⟨b5,_,none⟩) wQ).trans q3,(hy9.cell (p:=⟨b5,_,none⟩) wQ).trans q4,(hy9.cell (p:=⟨b5,_,none⟩) wQ).trans q5,(hy9.cell (p:=⟨b5,_,none⟩) wQ).trans q6,(hy9.cell (p:=⟨b5,_,none⟩) wQ).trans q7,(hy9.cell (p:=⟨b5,_,none⟩) wQ).trans q8,(hy9.cell (p:=⟨b5,_,none⟩) wQ).trans q9,(hy9.cell (p:=⟨b5,_,none⟩) wQ).trans q10,(hy9.cell (p:=⟨b5,_,none⟩) wQ).trans q11⟩ (fun hHeld => ?_)
   clear hK K
   (try simp only [Act.put,gP6])
   refine tkH 7 hHeld ?_
   refine tkH 8 hHeld ?_
   refine tkH 9 hHeld ?_
   refine tkH 10 hHeld ?_
   refine tkH 11 hHeld ?_
   refine wpAnyH_done (by kernel_rfl) ?_ _
   clear hHeld p0 p1 p2 p3 p4 p5 p6 p7 q0 q1 q2 q3 q4 q5 q6 q7 q8 q9 q10 q11
   go_wp2_with fail
   go_roundw
   case rel=>exact ⟨i + 1,A9,c9,rt9,by omega,by go_num,rfl,HL9.out,HR9.out,HP9.out,aa hbr hy9 hwz⟩
   case measure=>exact meA
  ·have hlt':decide (i<L.length)=false:=by simpa using hlt
   have hie:i=L.length:=by omega
   have Qm:rt'.map ax=fu (rt.map ax) L:=by rw [HYP.out,hie,List.take_length]
   obtain ⟨Uo,hcut⟩:=Pg.out rt' Qm
   have Ta:aO ts rt':=POk.back HOK.out (by rw [Qm];exact CF.out.pure.fu L)
   have HYS:Hid (fV rt'):=qh (Ta.shape.sD HOK.out)
   have Pf:=qh Uo
   have XW:=qh hcut
   have HO8:=qh (HO6.out.next hbr)
   have Xv:=qh (O3.out.next hbr)
   have HG8:=qh (HG6.out.next hbr)
   have Wl:rt.length=ts.length:=HRL.out
   clear hie Qm Uo hcut Ta
   go_wp2_with (first
    | (go_at_call 27;(with_reducible refine (iB CA cc ts.length ts YA yc ts.length rt' OA oc o.length o d _ HTr.out rfl HS.out HOK.out HYR.out HYL.out HYS.out HO8.out rfl (by omega) mU.out).mono ?_);rintro e u8 ⟨⟨XA,xc,xl,rfl,_,_,hpx,_⟩,hb8⟩;have Yi:xl.length = 0:=(by rw [hpx.length_eq,Pf.out];rfl);clear hpx;have hx8:=aa hxr hb8 hxr.size;have hz8:=hb8.size;obtain ⟨p0,p1,p2,p3,p4,p5,p6,p7⟩:=Cat.blk (HCr.out.below hb8 HCr.out.lt))
    | (go_at_call 29;(with_reducible refine (zB CA cc ts.length ts RA rc ts.length rt EA ec L.length gone _ (HTr.out.next hb8) rfl HS.out CF.out (Xv.out.next hb8) Wl HSR.out (HG8.out.next hb8) HLG.out.symm (by omega)).mono ?_);rintro e u9 ⟨⟨q9,l9,rfl,hl9,hr9,hp9⟩,hb9⟩;have hx9:=aa hx8 hb9 hx8.size;have HL9:=qh hl9;have HR9:=qh hr9;have HP9:=qh hp9;clear hl9 hr9 hp9)
    | (go_at_call 22;(with_reducible refine (Fv YA _ yc _ ts.length ts.length rt' l9 _ (HYR.out.next (aa hb8 hb9 hz8)) HR9.out HYL.out HL9.out HYS.out (XW.out.trans HP9.out.symm)).mono ?_);rintro e u10 ⟨rfl,uu⟩;have Tf:=aa hx9 uu hx9.size)
    | (go_at_call 30;(with_reducible refine (D8 _).mono ?_);rintro e u11 ⟨rfl,qY⟩;have V7:=aa Tf qY Tf.size))
   go_ret
   exact ⟨rfl,V7⟩
end Go.Proofs.YtkiglflbngfelaaGreat
namespace Go.Proofs.YtkiglflbngfelaaGreat.retentionEnds
open Go.ChangeShapes Go.WideShapes Go.ChangeAt Go.RowKit
theorem own:ownKnob Tryz.prog.godebug=none:=by kernel_rfl
theorem laidOut:laidOutB Tryz.prog=true:=by kernel_rfl
theorem bytesInt:Tryz.prog.bytesOf 3 = 8:=by kernel_rfl
theorem lifted (os:Os) (started:os.Started) (H:Type) (enc:TypeId × Value→H) :
 ReturnsInHanded {} Tryz.checked os 7 .any (Rows.retentionEndsSpec.pre6 enc Tryz.prog Tryz.f7 Rows.retentionEndsRow.domain false) (Rows.retentionEndsSpec.post enc Tryz.prog Tryz.f7 false true false false):=by
 refine returnsInHanded_of_change_sized (C:=Tryz.checked) own started (by kernel_rfl) Tryz.func7
  (ChangeSpec.witness6 (enc:=enc) (C:=Tryz.checked) false ⟨#[],#[.slice none 0 0],[]⟩ 8 (by kernel_rfl) (by kernel_rfl) (by kernel_rfl) (by kernel_rfl)) ?_
 intro W base args ds gs before hval0 hW hcnd hsz0 _
 have hval : ∀ (j:Nat) t v,Tryz.f7.params[j]? = some t→args[j]? = some v→Value.okWide Tryz.prog W .any base t v:=hval0
 have hsz:(DataW.weightsEach Tryz.prog (Tryz.f7.params.toList++Rows.retentionEndsSpec.plain.varTypes Tryz.prog) (ds++gs)).all (· ≤ reachBytes)=true:=hsz0
 have hW':=hW
 obtain ⟨p,q,hA0,hV,rfl,hfz,hnd⟩:=hW
 have hA:DataW.TrodAll enc Tryz.prog W 0 (fun _=>true) true Tryz.f7.params.toList args.toList ds p:=hA0
 rw [Tryz.params7] at hA hval hsz
 obtain ⟨v0,vs0,d0,ds0,p0,q0,hargs,rfl,rfl,h0,r0⟩:=trodAll_cons hA
 obtain ⟨rfl,rfl,rfl⟩:=trodAll_nil r0
 obtain rfl:args = #[v0]:=by cases args;simp_all
 obtain ⟨rfl,rfl⟩:=trodVars_none hV
 obtain ⟨a0,SK,cap0,rfl⟩:=okWide_slice Tryz.underlying22 (hval 0 22 v0 rfl rfl)
 have k0:=h0
 have lt0 : ∀ x∈p0,x.block<W.heap.size:=by obtain ⟨m,hm⟩:=k0;exact DataW.trod_lt m _ _ _ hm
 obtain ⟨t,htl,hts,ht8⟩ : ∃ t:List Int,t.length=SK∧ag W W.heap.size intCells 1 a0 t∧t.length * 8 ≤ 140737488351232:=by
  obtain ⟨fuel,hf⟩:=h0
  rcases open_ints Tryz.underlying22 Tryz.underlying3 (by kernel_rfl) hf with ⟨hcs,_⟩|⟨x,l,c,zs,hcs,_,hl,hm,hz,hx,hcell,hwz⟩
  ·simp [Value.cells] at hcs
   obtain ⟨rfl,rfl,rfl⟩:=hcs
   exact ⟨[],rfl,ag.nil,by simp⟩
  ·simp [Value.cells] at hcs
   obtain ⟨rfl,rfl,rfl⟩:=hcs
   simp only [Prod.mk.injEq] at hx
   obtain ⟨rfl,_⟩:=hx
   have hs:=sized_slice hsz (j := 0) (t := 22) (e := 3) rfl rfl Tryz.underlying22
   rw [bytesInt] at hs
   simp only [lits,List.length_map,List.length_take,List.length_drop,reachBytes] at hs
   have hzl:zs.length=cap0:=by simpa using hz
   refine ⟨zs.take SK,by simp;omega,fun h => ?_,by simp;omega⟩
   have h1 : 0<zs.length:=by simp at h;omega
   obtain ⟨xb,xo,xs⟩:=x
   have hc0:=hcell 0 h1
   have hsp:xs=none:=by
    cases xs with
    | none=>rfl
    | some y =>
      simp only [Addr.add,World.cell?,Option.isSome_some,if_true] at hc0
      split at hc0 <;> simp at hc0
   subst hsp
   have hlt:xb<W.heap.size:=by
    rcases Nat.lt_or_ge xb W.heap.size with h|h
    ·exact h
    ·simp [Addr.add,World.cell?,Array.getElem?_eq_none h] at hc0
   refine ⟨xb,xo,rfl,hlt,fun i hi j u hu => ?_⟩
   have hj:j = 0:=by have:=(List.getElem?_eq_some_iff.1 hu).1;simp [intCells] at this;omega
   subst hj
   have hil:i<zs.length:=by simp at hi;omega
   have:=hcell i hil
   simp only [intCells,List.getElem?_cons_zero,Option.some.injEq] at hu
   subst hu
   rw [List.getElem_take]
   rw [List.getD_eq_getElem?_getD,List.getElem?_eq_getElem hil] at this
   unfold Addr.add at this
   split at this
   ·rename_i h0;subst h0;simpa using this
   ·simpa using this
 clear hA0 hval0
 subst htl
 refine (BB a0 cap0 t W hts ht8).mono fun e W' ⟨he,bel⟩ => ?_
 subst he
 exact ⟨_,rfl,_,_,_,[],_,[],hW',trodAll_mk1 (shut_bool Tryz.underlying4 _),(trodAll_cons_mk (Below.trod laidOut (by kernel_rfl) (of_decide_eq_true (by kernel_rfl)) k0 bel lt0) trodAll_mk0),rfl,bel.frame _,fun h=>by cases h⟩
theorem facts:joinedFacts Tryz.pinned.checked.prog 7 Tryz.f7 Rows.retentionEndsSpec Rows.retentionEndsRow=true:=by
 unfold joinedFacts
 repeat' (with_reducible refine (Bool.and_eq_true _ _).mpr ⟨?_,?_⟩)
 all_goals (as_aux_lemma=>kernel_rfl)
theorem over:Rows.retentionEndsRow.holds Tryz.pinned (OpenSpec.ofChange Rows.retentionEndsSpec) :=
 OpenClaim.holds_of_wide 7 Tryz.f7 rfl rfl rfl rfl rfl rfl rfl ⟨rfl,rfl,rfl,rfl,rfl⟩ rfl rfl rfl rfl rfl (by kernel_rfl) Tryz.func7 facts
  (of_decide_eq_true (by kernel_rfl)) (by unfold Func.isWrapper;first|(rw [if_pos (by decide +kernel)];kernel_rfl)|(rw [if_neg (by decide +kernel)];exact ⟨rfl,rfl⟩))
  (fun os started H enc _=>lifted os started H enc)
theorem proved:Rows.RetentionEndsSaid:=over
#print axioms proved
end Go.Proofs.YtkiglflbngfelaaGreat.retentionEnds
