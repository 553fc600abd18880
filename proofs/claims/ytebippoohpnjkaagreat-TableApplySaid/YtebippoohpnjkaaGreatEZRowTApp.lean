/-
  For every list of numbers the law TableApply returns true: Check and Apply agree with the definitions for built changes, also with one field changed, and for spoilt tables and catalogues. No condition.
-/
import Derived.Test.YtebippoohpnjkaaGreatE37
import Derived.Test.YtebippoohpnjkaaGreatE49
import Derived.Test.YtebippoohpnjkaaGreatE40
import Derived.Test.YtebippoohpnjkaaGreatE44
import Derived.Test.YtebippoohpnjkaaGreatE48
import Derived.Test.YtebippoohpnjkaaGreatRows
import Derived.ProofKit
import Derived.OpenShut
import Derived.ShutString
set_option linter.unusedVariables false
set_option linter.unusedSimpArgs false
set_option maxRecDepth 100000
set_option maxHeartbeats 16000000
namespace Go.Proofs.YtebippoohpnjkaaGreat
open Go.RowKit Go
theorem oJ{u:World}{g:Nat}{kd sq dy tb:Int}{A0:Option Addr}{cp:Nat}{row:List Val}{key:Val}{cl:Int}{vl:Val}(h:Blk u g 64 (Chg.cells ⟨kd,sq,dy,tb,A0,cp,row,key,cl,vl⟩).toArray):(u.cell? ⟨g,0,none⟩=some (.int .i64 kd)∧u.cell? ⟨g,1,none⟩=some (.int .i64 sq)∧u.cell? ⟨g,2,none⟩=some (.int .i64 dy)∧u.cell? ⟨g,3,none⟩=some (.int .i64 tb)∧u.cell? ⟨g,4,none⟩=some (.slice A0 row.length cp)∧u.cell? ⟨g,5,none⟩=some (.int .i64 key.kind)∧u.cell? ⟨g,6,none⟩=some (.int .i64 key.num)∧u.cell? ⟨g,7,none⟩=some (.string key.text)∧u.cell? ⟨g,8,none⟩=some (.int .i64 cl)∧u.cell? ⟨g,9,none⟩=some (.int .i64 vl.kind)∧u.cell? ⟨g,10,none⟩=some (.int .i64 vl.num)∧u.cell? ⟨g,11,none⟩=some (.string vl.text)):=by
 obtain⟨⟨q0,q1,q2,q3⟩,q4,⟨q5,q6,q7⟩,q8,q9,q10,q11⟩:=Chg.blk h
 simp only at q0 q1 q2 q3 q4 q5 q6 q7 q8 q9 q10 q11
 exact⟨q0,q1,q2,q3,q4,q5,q6,q7,q8,q9,q10,q11⟩
theorem ed.Ox{ts:List Tab}{rt:List RTab}(h:ed ts rt)(hok:aX ts):mV rt:=by
 have hl:=h.len
 have hl8:=hok.len
 refine⟨by omega,fun t ht =>?_,fun t ht r hr =>?_,fun t ht r hr =>?_⟩
 all_goals
  obtain⟨i,hi,rfl⟩:=List.getElem_of_mem ht
  have hi':i<ts.length:=by omega
  have h1:=h.tab hi hi'
  have h2:=(hok.af hi').2
 ·omega
 ·have:=(h1.2 r hr).1;omega
 ·have:=(h1.2 r hr).2;omega
theorem FL(A:Option Addr)(c:Nat)(t:List Int)(w:World)(hl:ai w w.heap.size intCells 1 A t)(hn:t.length*8≤140737488351232):
 Calls Tryz.prog 6 #[.slice A t.length c] w fun e w'=>e=.returned (.bool true)∧Below w.heap.size w w':=by
 have HL0:=qh hl
 clear hl
 go_enter Tryz.func6,Tryz.ntmps6
 go_wp2_with fail
 refine(I4 A c t _ HL0.out hn).mono ?_
 rintro e w1 ⟨⟨g,b,rfl,hg1,hb1,hk1⟩,hx1⟩
 have HK1:=qh hk1
 have uH:=hk1.ltg
 clear hk1 HL0
 go_wp2_with fail
 refine(AQ g b 3 _ HK1.out (by omega) (by omega)).mono ?_
 rintro e w2 ⟨CA,cc,ts,rfl,ht2,hu2,Ur,hs2,hok2,h02,VX,hk2,hg2⟩
 have HK2:=qh hk2
 have HT2:=qh ht2
 have HU:=qh hu2
 have HS:=qh hs2
 have HOK:=qh hok2
 have hx2:Below w.heap.size w w2:=Below.grown hx1 hg2 hx1.size inB
 have hz2:=hg2.size
 clear hk2 ht2 hu2 Ur hs2 hok2 hg2 HK1
 go_upto_region 3 with (fail)
 refine aj (P:=fun u=>Code.wp _ _ _ _ u) (R:=fun u=>Blk u w2.heap.size 39 #[.slice CA ts.length cc,.slice none 0 0,.slice none 0 0,.slice none 0 0,.slice none 0 0,.slice none 0 0,.slice none 0 0,.slice none 0 0]∧Below w2.heap.size w2 u) ⟨?_,?_⟩ ?_
 ·exact Blk.new' rfl
 ·exact ak
 rintro W ⟨hC,hbW⟩
 have HC:=qh hC
 have hzC:=hC.lt
 have HKW:=qh (HK2.out.below hbW)
 have hxW:Below w.heap.size w W:=ae hx2 hbW hx2.size
 have HTW:=qh (HT2.out.next hbW)
 clear hC HK2 HT2
 have hdr:Below W.heap.size W W.drew:=brf.drew
 refine wp_region_held_drew (S:=fun u=>u.cell? ⟨w2.heap.size,0,none⟩=some (.slice CA ts.length cc)∧u.cell? ⟨w2.heap.size,1,none⟩=some (.slice none 0 0)∧u.cell? ⟨w2.heap.size,2,none⟩=some (.slice none 0 0)∧u.cell? ⟨w2.heap.size,3,none⟩=some (.slice none 0 0)∧u.cell? ⟨w2.heap.size,4,none⟩=some (.slice none 0 0)∧u.cell? ⟨w2.heap.size,5,none⟩=some (.slice none 0 0)∧u.cell? ⟨w2.heap.size,6,none⟩=some (.slice none 0 0)∧u.cell? ⟨w2.heap.size,7,none⟩=some (.slice none 0 0)) (by kernel_rfl) (Cat.blk HC.out) (fun hHeld =>?_)
 refine tkH 0 hHeld ?_
 refine tkH 1 hHeld ?_
 refine tkH 2 hHeld ?_
 refine wpAnyH_ready (rs:= [3]) (by kernel_rfl) (by simp) ?_
 refine AllReadyH.cons rfl (fun K hK =>?_) AllReadyH.nil
 go_simp
 (go_at_call 12;(refine(xG g b w1.heap.size 8 CA cc ts.length ts _ (HKW.out.below hdr) uH (HTW.out.next hdr) HU.out rfl HS.out HOK.out h02 (by omega)).mono ?_))
 rintro e u1 ⟨LA,lc,l,rfl,hll,hoc,hk3,hg3,NC⟩
 have SY:=qh NC
 have Tu:=hg3.size
 have hzd:=hdr.size
 have hxd:Below w.heap.size w W.drew:=ae hxW hdr hxW.size
 have hC1:=(HC.out.below hdr hzC).grown hg3 inA
 have HC1:=qh hC1
 have HT1:=qh ((HTW.out.next hdr).grown HU.out uH hg3)
 have hx4:Below w.heap.size w u1:=Below.grown hxd hg3 hxd.size inB
 have HK3:=qh hk3
 have HLR:=qh hoc.read
 have hl8:∀x∈l,x.row.length≤1000000:=fun x hx=>Nat.le_trans (hoc.len x hx) (by omega)
 have HL8:=qh hl8
 clear hk3 hoc hg3 HKW HTW HC NC hl8
 go_wp2_with fail
 refine hK.out _ _ (Cat.blk hC1) (fun hHeld =>?_)
 clear hK K
 (try simp only[Act.put,gP6])
 refine wpAnyH_ready (rs:= [4]) (by kernel_rfl) (by simp) ?_
 refine AllReadyH.cons rfl (fun K hK =>?_) AllReadyH.nil
 go_simp
 (go_at_call 20;(with_reducible refine(xJ CA cc ts.length ts LA lc l.length l _ HT1.out rfl HS.out HOK.out HLR.out rfl (by omega) HL8.out).mono ?_))
 rintro e u2 ⟨⟨RA,rc,rt,rfl,hrl,hrt,hru,hsh,hpu⟩,hb2⟩
 have hz4:=hb2.size
 have hC2:=HC1.out.below hb2 HC1.out.lt
 have HC2:=qh hC2
 have HT2:=qh (HT1.out.next hb2)
 have hx5:Below w.heap.size w u2:=ae hx4 hb2 hx4.size
 have HRT:=qh hrt
 have HRL:=qh hrl
 have HSR:=qh (hsh.bH HOK.out)
 have HRU:Hid (RUp u1.heap.size RA rt):=qh hru
 have HSH:=qh hsh
 have PR:=qh (hsh.Ox HOK.out)
 have HK4:=qh (HK3.out.below hb2)
 clear hrt hru hsh hrl hpu HT1 HLR HK3
 go_wp2_with fail
 refine hK.out _ _ (Cat.blk hC2) (fun hHeld =>?_)
 clear hK K
 (try simp only[Act.put,gP6])
 refine tkH 5 hHeld ?_
 refine wpAnyH_done (by kernel_rfl) ?_ _
 clear hHeld hC1 hC2
 have hgu:g<u1.heap.size:=by omega
 have hgu2:g<u2.heap.size:=by omega
 have Ic:Hid (RUp w1.heap.size RA rt):=qh (HRU.out.mono (by omega))
 clear hb2 Tu SY HL8 hdr hzd hxd hxW hx4
 go_wp2_with fail
 go_loopw [6] (fun vi wr =>∃i:Nat,i≤4∧vi=.int .i64 i∧aO wr g b∧u2.grownBy wr (some g)) (fun vi _ =>4-(intOf vi).toNat)
 case atStart=>exact⟨0,by omega,rfl,HK4.out,av _ brf⟩
 case round =>
  obtain⟨i,hi,rfl,hkr,hgr⟩:=hrel
  have hzr:=hgr.size
  have HCr:=qh (HC2.out.grown hgr inA)
  have HTr:=qh (HT2.out.grown HU.out uH hgr)
  have KW:=qh (HRT.out.grown HRU.out hgu hgr)
  have HKr:=qh hkr
  have hxr:Below w.heap.size w wr:=Below.grown hx5 hgr hx5.size inB
  obtain⟨p0,p1,p2,p3,p4,p5,p6,p7⟩:=Cat.blk HCr.out
  clear hkr
  by_cases hlt:i<4
  ·have Mr:decide ((i:Int)<4)=true:=by simp;omega
   go_wp2_with fail
   (with_reducible refine(kS g b w1.heap.size CA cc ts.length ts RA rc ts.length rt (1000+i) 50 _ HKr.out uH HTr.out HU.out rfl HS.out HOK.out h02 KW.out Ic.out HRL.out HSH.out).mono ?_)
   rintro e u3 ⟨⟨kd,sq,dy,tb,A0,cp,row,key,cl,vl⟩,he,hsq,hdy,hr8,how,hk3,hg3⟩
   simp only[Chg.cells]at he
   simp only at hr8 how
   subst he
   have hz3:=hg3.size
   have HC3:=qh (HCr.out.grown hg3 inA)
   have HT3:=qh (HTr.out.grown HU.out uH hg3)
   have Sq:=qh (KW.out.grown HRU.out hgu hg3)
   have HK3:=qh hk3
   have SC:=qh how
   have hx6:Below w.heap.size w u3:=Below.grown hxr hg3 hxr.size inB
   have HG3:=qh (au hgr hg3)
   clear p0 p1 p2 p3 p4 p5 p6 p7 hsq hdy hk3 how hg3 HCr HTr KW HKr
   go_upto_region 8 with (fail)
   refine aj (P:=fun u=>Code.wp _ _ _ _ u) (R:=fun u=>Blk u u3.heap.size 64 (Chg.cells ⟨kd,sq,dy,tb,A0,cp,row,key,cl,vl⟩).toArray∧Below u3.heap.size u3 u) ⟨?_,?_⟩ ?_
   ·exact Blk.new' rfl
   ·exact brf.alloc nlr _
   rintro W2 ⟨hY,hbY⟩
   have HC4:=qh (HC3.out.below hbY HC3.out.lt)
   have HT4:=qh (HT3.out.next hbY)
   have Ie:=qh (Sq.out.next hbY)
   have HKY:=qh (HK3.out.below hbY)
   have PY:=qh (SC.out.below hbY nlr)
   have HG4:=qh (au HG3.out (av _ hbY))
   have hx7:=ae hx6 hbY hx6.size
   have HY:=qh hY
   have hzY:=hY.lt
   have hd4:Below W2.heap.size W2 W2.drew:=brf.drew
   clear hY HC3 HT3 Sq HK3 SC HG3 hbY
   refine wp_region_held_drew (S:=fun u=>(u.cell? ⟨w2.heap.size,0,none⟩=some (.slice CA ts.length cc)∧u.cell? ⟨w2.heap.size,1,none⟩=some (.slice none 0 0)∧u.cell? ⟨w2.heap.size,2,none⟩=some (.slice none 0 0)∧u.cell? ⟨w2.heap.size,3,none⟩=some (.slice none 0 0)∧u.cell? ⟨w2.heap.size,4,none⟩=some (.slice none 0 0)∧u.cell? ⟨w2.heap.size,5,none⟩=some (.slice none 0 0)∧u.cell? ⟨w2.heap.size,6,none⟩=some (.slice none 0 0)∧u.cell? ⟨w2.heap.size,7,none⟩=some (.slice none 0 0))∧(u.cell? ⟨u3.heap.size,0,none⟩=some (.int .i64 kd)∧u.cell? ⟨u3.heap.size,1,none⟩=some (.int .i64 sq)∧u.cell? ⟨u3.heap.size,2,none⟩=some (.int .i64 dy)∧u.cell? ⟨u3.heap.size,3,none⟩=some (.int .i64 tb)∧u.cell? ⟨u3.heap.size,4,none⟩=some (.slice A0 row.length cp)∧u.cell? ⟨u3.heap.size,5,none⟩=some (.int .i64 key.kind)∧u.cell? ⟨u3.heap.size,6,none⟩=some (.int .i64 key.num)∧u.cell? ⟨u3.heap.size,7,none⟩=some (.string key.text)∧u.cell? ⟨u3.heap.size,8,none⟩=some (.int .i64 cl)∧u.cell? ⟨u3.heap.size,9,none⟩=some (.int .i64 vl.kind)∧u.cell? ⟨u3.heap.size,10,none⟩=some (.int .i64 vl.num)∧u.cell? ⟨u3.heap.size,11,none⟩=some (.string vl.text))) (by kernel_rfl) ⟨Cat.blk HC4.out,oJ HY.out⟩ (fun hHeld =>?_)
   refine tkH 0 hHeld ?_
   refine tkH 1 hHeld ?_
   refine tkH 2 hHeld ?_
   refine wpAnyH_ready (rs:= [3]) (by kernel_rfl) (by simp) ?_
   refine AllReadyH.cons rfl (fun K hK =>?_) AllReadyH.nil
   go_simp
   (go_at_call 29;(with_reducible refine(kE CA cc ts.length ts RA rc ts.length rt kd sq dy tb A0 cp row key cl vl _ (HT4.out.next hd4) rfl HS.out HOK.out (Ie.out.next hd4) HRL.out HSR.out ((dX bF PY.out).next hd4) (by omega)).mono ?_))
   rintro e u4 ⟨rfl,hb4⟩
   have hy4:=ae hd4 hb4 hd4.size
   have Vu:=hy4.size
   have HC5:=qh (HC4.out.below hy4 HC4.out.lt)
   have HT5:=qh (HT4.out.next hy4)
   have CG:=qh (Ie.out.next hy4)
   have HK5:=qh (HKY.out.below hy4)
   have M5:=qh (PY.out.below hy4 nlr)
   have HG5:=qh (au HG4.out (av _ hy4))
   have HY5:=qh (HY.out.below hy4 HY.out.lt)
   have hx8:=ae hx7 hy4 hx7.size
   clear hb4 hy4 HC4 HT4 Ie HKY PY HG4 HY hd4
   go_wp2_with fail
   refine hK.out _ _ ⟨Cat.blk HC5.out,oJ HY5.out⟩ (fun hHeld =>?_)
   clear hK K
   (try simp only[Act.put,gP6])
   refine tkH 4 hHeld ?_
   refine tkH 5 hHeld ?_
   refine tkH 6 hHeld ?_
   refine tkH 7 hHeld ?_
   refine tkH 8 hHeld ?_
   refine tkH 9 hHeld ?_
   refine wpAnyH_ready (rs:= [10]) (by kernel_rfl) (by simp) ?_
   refine AllReadyH.cons rfl (fun K hK =>?_) AllReadyH.nil
   go_simp
   (go_at_call 30;(with_reducible refine(rX g b kd sq dy tb A0 cp row.length row key cl vl _ HK5.out (dX bF M5.out) rfl (by omega)).mono ?_))
   rintro e u5 ⟨⟨kd',sq',dy',tb',A',cp',row',key',cl',vl'⟩,he,hr9,how,hk5,hg5⟩
   simp only[Chg.cells]at he
   simp only at hr9 how
   subst he
   have hz5:=hg5.size
   have HC6:=qh (HC5.out.grown hg5 inA)
   have HT6:=qh (HT5.out.grown HU.out uH hg5)
   have EN:=qh (CG.out.grown HRU.out hgu hg5)
   have HK6:=qh hk5
   have K3:=qh how
   have HG6:=qh (au HG5.out hg5)
   have HY6:=qh (HY5.out.grown hg5 inA)
   have hx9:Below w.heap.size w u5:=Below.grown hx8 hg5 hx8.size inB
   clear hk5 how hg5 HC5 HT5 CG HK5 M5 HG5 HY5
   go_wp2_with fail
   refine hK.out _ _ ⟨Cat.blk HC6.out,oJ HY6.out⟩ (fun hHeld =>?_)
   clear hK K
   (try simp only[Act.put,gP6])
   refine wpAnyH_ready (rs:= [11]) (by kernel_rfl) (by simp) ?_
   refine AllReadyH.cons rfl (fun K hK =>?_) AllReadyH.nil
   go_simp
   (go_at_call 29;(with_reducible refine(kE CA cc ts.length ts RA rc ts.length rt kd' sq' dy' tb' A' cp' row' key' cl' vl' _ HT6.out rfl HS.out HOK.out EN.out HRL.out HSR.out (dX bF K3.out) (by omega)).mono ?_))
   rintro e u6 ⟨rfl,hb6⟩
   have HC7:=qh (HC6.out.below hb6 HC6.out.lt)
   have HY7:=qh (HY6.out.below hb6 HY6.out.lt)
   have HK7:=qh (HK6.out.below hb6)
   have HG7:=qh (au HG6.out (av _ hb6))
   clear hb6 HC6 HT6 EN HK6 K3 HG6 HY6
   go_wp2_with fail
   refine hK.out _ _ ⟨Cat.blk HC7.out,oJ HY7.out⟩ (fun hHeld =>?_)
   clear hK K
   (try simp only[Act.put,gP6])
   refine tkH 12 hHeld ?_
   refine tkH 13 hHeld ?_
   refine wpAnyH_done (by kernel_rfl) ?_ _
   clear hHeld HC7 HY7
   go_wp2_with fail
   go_roundw
   case rel=>exact⟨i+1,by omega,by go_num,HK7.out,HG7.out⟩
   case measure=>exact meA
  ·have Mr:decide ((i:Int)<4)=false:=by simp;omega
   go_upto_region 10 with (fail)
   clear p0 p1 p2 p3 p4 p5 p6 p7 Mr
   have hdr:Below wr.heap.size wr wr.drew:=brf.drew
   have Tc:=qh (HCr.out.below hdr HCr.out.lt)
   have Sb:=qh (HTr.out.next hdr)
   have KV:=qh (KW.out.next hdr)
   have SQ:=qh (HKr.out.below hdr)
   have OI:=ae hxr hdr hxr.size
   have hzd:wr.heap.size≤wr.drew.heap.size:=Nat.le_refl _
   refine wp_region_held_drew (S:=fun u=>u.cell? ⟨w2.heap.size,0,none⟩=some (.slice CA ts.length cc)∧u.cell? ⟨w2.heap.size,1,none⟩=some (.slice none 0 0)∧u.cell? ⟨w2.heap.size,2,none⟩=some (.slice none 0 0)∧u.cell? ⟨w2.heap.size,3,none⟩=some (.slice none 0 0)∧u.cell? ⟨w2.heap.size,4,none⟩=some (.slice none 0 0)∧u.cell? ⟨w2.heap.size,5,none⟩=some (.slice none 0 0)∧u.cell? ⟨w2.heap.size,6,none⟩=some (.slice none 0 0)∧u.cell? ⟨w2.heap.size,7,none⟩=some (.slice none 0 0)) (by kernel_rfl) (Cat.blk HCr.out) (fun hHeld =>?_)
   clear HCr HTr KW HKr hxr hdr
   refine tkH 0 hHeld ?_
   refine tkH 1 hHeld ?_
   refine tkH 2 hHeld ?_
   refine tkH 4 hHeld ?_
   refine tkH 5 hHeld ?_
   refine tkH 6 hHeld ?_
   refine wpAnyH_ready (rs:= [3]) (by kernel_rfl) (by simp) ?_
   refine AllReadyH.cons rfl (fun K hK =>?_) AllReadyH.nil
   go_simp
   (go_at_call 22;(with_reducible refine(rW g b RA rc ts.length rt _ SQ.out KV.out HRL.out PR.out).mono ?_))
   rintro e y3 ⟨SA,sc,out,rfl,hout,hso,hk6,hg6,hup⟩
   have hz6:=hg6.size
   have HC5:=qh (Tc.out.grown hg6 inA)
   have HT5:=qh (Sb.out.grown HU.out uH hg6)
   have CG:=qh (KV.out.grown HRU.out hgu hg6)
   have HK5:=qh hk6
   have SF:=qh hout
   have HSO:=qh hso
   have HUP:=qh (hup.mono (show wr.heap.size≤_ from Nat.le_refl _))
   have hgr5:g<wr.heap.size:=by omega
   have hx6:Below w.heap.size w y3:=Below.grown OI hg6 OI.size inB
   clear hk6 hg6 hout hso hup Tc Sb KV SQ OI
   go_wp2_with fail
   refine hK.out _ _ (Cat.blk HC5.out) (fun hHeld =>?_)
   clear hK K
   (try simp only[Act.put,gP6])
   refine wpAnyH_ready (rs:= [7]) (by kernel_rfl) (by simp) ?_
   refine AllReadyH.cons rfl (fun K hK =>?_) AllReadyH.nil
   go_simp
   (with_reducible refine(kS g b w1.heap.size CA cc ts.length ts RA rc ts.length rt 2000 50 _ HK5.out uH HT5.out HU.out rfl HS.out HOK.out h02 CG.out Ic.out HRL.out HSH.out).mono ?_)
   rintro e y4 ⟨⟨kd,sq,dy,tb,A0,cp,row,key,cl,vl⟩,he,hsq,hdy,hr8,how,hk7,hg7⟩
   simp only[Chg.cells]at he
   simp only at hr8 how
   subst he
   have hz7:=hg7.size
   have HC6:=qh (HC5.out.grown hg7 inA)
   have HT6:=qh (HT5.out.grown HU.out uH hg7)
   have EN:=qh (CG.out.grown HRU.out hgu hg7)
   have HK6:=qh hk7
   have NP:=qh (SF.out.grown HUP.out hgr5 hg7)
   have K3:=qh how
   have hx7:Below w.heap.size w y4:=Below.grown hx6 hg7 hx6.size inB
   clear hsq hdy hk7 how hg7 HC5 HT5 CG HK5 SF
   go_wp2_with fail
   refine hK.out _ _ (Cat.blk HC6.out) (fun hHeld =>?_)
   clear hK K
   (try simp only[Act.put,gP6])
   refine wpAnyH_ready (rs:= [8]) (by kernel_rfl) (by simp) ?_
   refine AllReadyH.cons rfl (fun K hK =>?_) AllReadyH.nil
   go_simp
   (go_at_call 29;(with_reducible refine(kE CA cc ts.length ts SA sc out.length out kd sq dy tb A0 cp row key cl vl _ HT6.out rfl HS.out HOK.out NP.out rfl HSO.out (dX bF K3.out) (by omega)).mono ?_))
   rintro e y5 ⟨rfl,hb8⟩
   have hz8:=hb8.size
   have HC7:=qh (HC6.out.below hb8 HC6.out.lt)
   have HT7:=qh (HT6.out.next hb8)
   have M0:=qh (EN.out.next hb8)
   have HK7:=qh (HK6.out.below hb8)
   have hx8:=ae hx7 hb8 hx7.size
   clear hb8 HC6 HT6 EN HK6 K3 NP HSO HUP hz6 hz7
   go_wp2_with fail
   refine hK.out _ _ (Cat.blk HC7.out) (fun hHeld =>?_)
   clear hK K
   (try simp only[Act.put,gP6])
   refine tkH 9 hHeld ?_
   refine tkH 10 hHeld ?_
   refine tkH 11 hHeld ?_
   refine tkH 13 hHeld ?_
   refine tkH 14 hHeld ?_
   refine tkH 15 hHeld ?_
   refine tkH 16 hHeld ?_
   refine wpAnyH_ready (rs:= [12]) (by kernel_rfl) (by simp) ?_
   refine AllReadyH.cons rfl (fun K hK =>?_) AllReadyH.nil
   go_simp
   (go_at_call 13;(with_reducible refine(C9 g b CA cc ts.length ts _ HK7.out HT7.out (HU.out.ne uH) rfl HS.out HOK.out h02).mono ?_))
   rintro e y6 ⟨DA,dc,td,od,rfl,hTd,hNd,hSd,hOd,RV,RO,R3,hk9,hg9⟩
   have hz9:=hg9.size
   have HC8:=qh (HC7.out.grown hg9 inA)
   have HT8:=qh (HT7.out.grown HU.out uH hg9)
   have PT:=qh (M0.out.grown HRU.out hgu hg9)
   have HK8:=qh hk9
   have HTD:=qh hTd
   have HND:=qh hNd
   have HSD:=qh hSd
   have HOD:=qh hOd
   have SG:=qh RV
   have UL:=qh RO
   have Vk:=qh R3
   have hx9:Below w.heap.size w y6:=Below.grown hx8 hg9 hx8.size inB
   clear hk9 hg9 hTd hNd hSd hOd RV RO R3 HC7 HT7 M0 HK7
   go_wp2_with fail
   refine hK.out _ _ (Cat.blk HC8.out) (fun hHeld =>?_)
   clear hK K
   (try simp only[Act.put,gP6])
   refine wpAnyH_ready (rs:= [17]) (by kernel_rfl) (by simp) ?_
   refine AllReadyH.cons rfl (fun K hK =>?_) AllReadyH.nil
   go_simp
   (with_reducible refine(kS g b w1.heap.size CA cc ts.length ts RA rc ts.length rt 2000 50 _ HK8.out uH HT8.out HU.out rfl HS.out HOK.out h02 PT.out Ic.out HRL.out HSH.out).mono ?_)
   rintro e y7 ⟨⟨kd2,sq2,dy2,tb2,A2,cp2,Tk,LX,cl2,vl2⟩,he,hsq,hdy,TK,O4,hk10,nN⟩
   simp only[Chg.cells]at he
   simp only at TK O4
   subst he
   have Me:=nN.size
   have HC9:=qh (HC8.out.grown nN inA)
   have Sn:=qh (PT.out.grown HRU.out hgu nN)
   have Sg:=qh (HTD.out.iM nN HND.out)
   have SI:=qh (HOD.out.iM nN SG.out)
   have SB:=qh O4
   have Qr:Below w.heap.size w y7:=Below.grown hx9 nN hx9.size inB
   clear hsq hdy hk10 O4 nN HC8 HT8 PT HK8 HTD HOD HND SG
   go_wp2_with fail
   refine hK.out _ _ (Cat.blk HC9.out) (fun hHeld =>?_)
   clear hK K
   (try simp only[Act.put,gP6])
   refine wpAnyH_ready (rs:= [18]) (by kernel_rfl) (by simp) ?_
   refine AllReadyH.cons rfl (fun K hK =>?_) AllReadyH.nil
   go_simp
   (go_at_call 29;(with_reducible refine(vY DA dc td od RA rc ts.length rt kd2 sq2 dy2 tb2 A2 cp2 Tk LX cl2 vl2 _ Sg.out HSD.out SI.out UL.out Vk.out Sn.out HRL.out HSR.out (dX bF SB.out) (by omega)).mono ?_))
   rintro e y8 ⟨rfl,qj⟩
   have M9:=qh (HC9.out.below qj HC9.out.lt)
   have Qq:=ae Qr qj Qr.size
   clear qj HC9 Sn Sg SI SB
   go_wp2_with fail
   refine hK.out _ _ (Cat.blk M9.out) (fun hHeld =>?_)
   clear hK K
   (try simp only[Act.put,gP6])
   refine tkH 19 hHeld ?_
   refine tkH 20 hHeld ?_
   refine wpAnyH_ready (rs:= [21]) (by kernel_rfl) (by simp) ?_
   refine AllReadyH.cons rfl (fun K hK =>?_) AllReadyH.nil
   go_simp
   (go_at_call 27;(with_reducible refine(Bu _).mono ?_))
   rintro e y9 ⟨rfl,Ps⟩
   have Tz:=ae Qq Ps Qq.size
   have Te:=qh (M9.out.below Ps M9.out.lt)
   clear Ps M9
   go_wp2_with fail
   refine hK.out _ _ (Cat.blk Te.out) (fun hHeld =>?_)
   clear hK K
   (try simp only[Act.put,gP6])
   refine tkH 22 hHeld ?_
   refine tkH 23 hHeld ?_
   refine wpAnyH_done (by kernel_rfl) ?_ _
   clear hHeld Te
   go_wp2_with fail
   go_ret
   exact⟨rfl,Tz⟩
end Go.Proofs.YtebippoohpnjkaaGreat
namespace Go.Proofs.YtebippoohpnjkaaGreat.tableApply
open Go.ChangeShapes Go.WideShapes Go.ChangeAt Go.RowKit
theorem own:ownKnob Tryz.prog.godebug=none:=by kernel_rfl
theorem laidOut:laidOutB Tryz.prog=true:=by kernel_rfl
theorem bytesInt:Tryz.prog.bytesOf 3=8:=by kernel_rfl
theorem lifted(os:Os)(started:os.Started)(H:Type)(enc:TypeId × Value→H):
 ReturnsInHanded {} Tryz.checked os 6 .any (Rows.tableApplySpec.pre6 enc Tryz.prog Tryz.f6 Rows.tableApplyRow.domain false) (Rows.tableApplySpec.post enc Tryz.prog Tryz.f6 false true false false):=by
 refine returnsInHanded_of_change_sized (C:=Tryz.checked) own started (by kernel_rfl) Tryz.func6
  (ChangeSpec.witness6 (enc:=enc) (C:=Tryz.checked) false ⟨#[],#[.slice none 0 0],[]⟩ 8 (by kernel_rfl) (by kernel_rfl) (by kernel_rfl) (by kernel_rfl)) ?_
 intro W base args ds gs before hval0 hW hcnd hsz0 _
 have hval:∀(j:Nat) t v,Tryz.f6.params[j]?=some t→args[j]?=some v→Value.okWide Tryz.prog W .any base t v:=hval0
 have hsz:(DataW.weightsEach Tryz.prog (Tryz.f6.params.toList++Rows.tableApplySpec.plain.varTypes Tryz.prog) (ds++gs)).all (· ≤ reachBytes)=true:=hsz0
 have hW':=hW
 obtain⟨p,q,hA0,hV,rfl,hfz,hnd⟩:=hW
 have hA:DataW.TrodAll enc Tryz.prog W 0 (fun _=>true) true Tryz.f6.params.toList args.toList ds p:=hA0
 rw[Tryz.params6]at hA hval hsz
 obtain⟨v0,vs0,d0,ds0,p0,q0,hargs,rfl,rfl,h0,r0⟩:=trodAll_cons hA
 obtain⟨rfl,rfl,rfl⟩:=trodAll_nil r0
 obtain rfl:args=#[v0]:=by cases args;simp_all
 obtain⟨rfl,rfl⟩:=trodVars_none hV
 obtain⟨a0,Qk,cap0,rfl⟩:=okWide_slice Tryz.underlying22 (hval 0 22 v0 rfl rfl)
 have k0:=h0
 have lt0:∀x∈p0,x.block<W.heap.size:=by obtain⟨m,hm⟩:=k0;exact DataW.trod_lt m _ _ _ hm
 obtain⟨t,htl,hts,ht8⟩:∃t:List Int,t.length=Qk∧ai W W.heap.size intCells 1 a0 t∧t.length*8≤140737488351232:=by
  obtain⟨fuel,hf⟩:=h0
  rcases open_ints Tryz.underlying22 Tryz.underlying3 (by kernel_rfl) hf with ⟨hcs,_⟩|⟨x,l,c,zs,hcs,_,hl,hm,hz,hx,hcell,hwz⟩
  ·simp[Value.cells]at hcs
   obtain⟨rfl,rfl,rfl⟩:=hcs
   exact⟨[],rfl,ai.nil,by simp⟩
  ·simp[Value.cells]at hcs
   obtain⟨rfl,rfl,rfl⟩:=hcs
   simp only[Prod.mk.injEq]at hx
   obtain⟨rfl,_⟩:=hx
   have hs:=sized_slice hsz (j:= 0) (t:= 22) (e:= 3) rfl rfl Tryz.underlying22
   rw[bytesInt]at hs
   simp only[lits,List.length_map,List.length_take,List.length_drop,reachBytes]at hs
   have hzl:zs.length=cap0:=by simpa using hz
   refine⟨zs.take Qk,by simp;omega,fun h =>?_,by simp;omega⟩
   have h1:0<zs.length:=by simp at h;omega
   obtain⟨xb,xo,xs⟩:=x
   have hc0:=hcell 0 h1
   have hsp:xs=none:=by
    cases xs with
    | none=>rfl
    | some y =>
      simp only[Addr.add,World.cell?,Option.isSome_some,if_true]at hc0
      split at hc0<;>simp at hc0
   subst hsp
   have hlt:xb<W.heap.size:=by
    rcases Nat.lt_or_ge xb W.heap.size with h|h
    ·exact h
    ·simp[Addr.add,World.cell?,Array.getElem?_eq_none h]at hc0
   refine⟨xb,xo,rfl,hlt,fun i hi j u hu =>?_⟩
   have hj:j=0:=by have:=(List.getElem?_eq_some_iff.1 hu).1;simp[intCells]at this;omega
   subst hj
   have hil:i<zs.length:=by simp at hi;omega
   have:=hcell i hil
   simp only[intCells,List.getElem?_cons_zero,Option.some.injEq]at hu
   subst hu
   rw[List.getElem_take]
   rw[List.getD_eq_getElem?_getD,List.getElem?_eq_getElem hil]at this
   unfold Addr.add at this
   split at this
   ·rename_i h0;subst h0;simpa using this
   ·simpa using this
 clear hA0 hval0
 subst htl
 refine(FL a0 cap0 t W hts ht8).mono fun e W' ⟨he,bel⟩ =>?_
 subst he
 exact⟨_,rfl,_,_,_,[],_,[],hW',trodAll_mk1 (shut_bool Tryz.underlying4 _),(trodAll_cons_mk (Below.trod laidOut (by kernel_rfl) (of_decide_eq_true (by kernel_rfl)) k0 bel lt0) trodAll_mk0),rfl,bel.frame _,fun h=>by cases h⟩
theorem facts:joinedFacts Tryz.pinned.checked.prog 6 Tryz.f6 Rows.tableApplySpec Rows.tableApplyRow=true:=by
 unfold joinedFacts
 repeat' (with_reducible refine(Bool.and_eq_true _ _).mpr ⟨?_,?_⟩)
 all_goals(as_aux_lemma=>kernel_rfl)
theorem over:Rows.tableApplyRow.holds Tryz.pinned (OpenSpec.ofChange Rows.tableApplySpec):=
 OpenClaim.holds_of_wide 6 Tryz.f6 rfl rfl rfl rfl rfl rfl rfl ⟨rfl,rfl,rfl,rfl,rfl⟩ rfl rfl rfl rfl rfl (by kernel_rfl) Tryz.func6 facts
  (of_decide_eq_true (by kernel_rfl)) (by unfold Func.isWrapper;first|(rw[if_pos (by decide +kernel)];kernel_rfl)|(rw[if_neg (by decide +kernel)];exact⟨rfl,rfl⟩))
  (fun os started H enc _=>lifted os started H enc)
theorem proved:Rows.TableApplySaid:=over
#print axioms proved
end Go.Proofs.YtebippoohpnjkaaGreat.tableApply
