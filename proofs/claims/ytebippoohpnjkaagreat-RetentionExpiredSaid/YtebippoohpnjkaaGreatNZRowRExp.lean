/-
  For every list of numbers and every day the law RetentionExpired returns true: the expired records of a catalogue agree with the definition, for built and for spoilt catalogues. No condition.
-/
import Derived.Test.YtebippoohpnjkaaGreatN29
import Derived.Test.YtebippoohpnjkaaGreatN21
import Derived.Test.YtebippoohpnjkaaGreatN22
import Derived.Test.YtebippoohpnjkaaGreatN40
import Derived.Test.YtebippoohpnjkaaGreatN44
import Derived.Test.YtebippoohpnjkaaGreatN46
import Derived.Test.YtebippoohpnjkaaGreatRows
import Derived.ProofKit
import Derived.OpenShut
import Derived.ShutString
set_option linter.unusedVariables false
set_option linter.unusedSimpArgs false
set_option maxRecDepth 100000
set_option maxHeartbeats 16000000
namespace Go.Proofs.YtebippoohpnjkaaGreat
open Go.RowKit Go
theorem eu.small{ts:List Tab}{rt:List RTab}(h:eu ts rt)(hok:aY ts):oK rt:=by
 have hl:=h.len
 have hl8:=hok.len
 refine⟨by omega,fun t ht =>?_,fun t ht r hr =>?_,fun t ht r hr =>?_⟩
 all_goals
  obtain⟨i,hi,rfl⟩:=List.getElem_of_mem ht
  have hi':i<ts.length:=by omega
  have h1:=h.tab hi hi'
  have h2:=(hok.af hi').2
 ·omega
 ·have:=(h1.2 r hr).1;omega
 ·have:=(h1.2 r hr).2;omega
theorem Hu(A:Option Addr)(c:Nat)(t:List Int)(day:Int)(w:World)(hl:ah w w.heap.size intCells 1 A t)(hn:t.length*8≤140737488351232):
 Calls Tryz.prog 4 #[.slice A t.length c,.int .i64 day] w fun e w'=>e=.returned (.bool true)∧Below w.heap.size w w':=by
 have HL0:=qh hl
 clear hl
 go_enter Tryz.func4,Tryz.ntmps4
 go_wp2_with fail
 refine(Ju A c t _ HL0.out hn).mono ?_
 rintro e w1 ⟨⟨g,b,rfl,hg1,hb1,hk1⟩,hx1⟩
 have HK1:=qh hk1
 have IC:=hk1.ltg
 clear hk1 HL0
 go_wp2_with fail
 refine(CP g b 3 _ HK1.out (by omega) (by omega)).mono ?_
 rintro e w2 ⟨CA,cc,ts,rfl,ht2,hu2,RB,hs2,hok2,h02,WC,hk2,hg2⟩
 have HK2:=qh hk2
 have HT2:=qh ht2
 have HU:=qh hu2
 have HS:=qh hs2
 have HOK:=qh hok2
 have hx2:Below w.heap.size w w2:=Below.grown hx1 hg2 hx1.size (fun q e=>by injection e with e;omega)
 have hz2:=hg2.size
 clear hk2 ht2 hu2 RB hs2 hok2 hg2 HK1
 go_upto_region 3 with (fail)
 refine au (P:=fun u=>Code.wp _ _ _ _ u) (R:=fun u=>Blk u w2.heap.size 39 #[.slice CA ts.length cc,.slice none 0 0,.slice none 0 0,.slice none 0 0,.slice none 0 0,.slice none 0 0,.slice none 0 0,.slice none 0 0]∧Below w2.heap.size w2 u) ⟨?_,?_⟩ ?_
 ·exact Blk.new' rfl
 ·exact av
 rintro W ⟨hC,hbW⟩
 have HC:=qh hC
 have hzC:=hC.lt
 have HKW:=qh (HK2.out.below hbW)
 have hxW:Below w.heap.size w W:=ae hx2 hbW hx2.size
 have HTW:=qh (HT2.out.next hbW)
 obtain⟨p0,p1,p2,p3,p4,p5,p6,p7⟩:=Cat.blk hC
 clear hC HK2 HT2
 go_wp2_with fail
 refine(AJ g b w1.heap.size 8 CA cc ts.length ts W HKW.out IC HTW.out HU.out rfl HS.out HOK.out h02 (by omega)).mono ?_
 rintro e u1 ⟨LA,lc,l,rfl,hll,hoc,hk3,hg3⟩
 have VL:=hg3.size
 have hC1:=HC.out.grown hg3 (fun e=>by injection e with e;omega)
 have hT1:=HTW.out.grown HU.out IC hg3
 have hx3:Below w.heap.size w u1:=Below.grown hxW hg3 hxW.size (fun q e=>by injection e with e;omega)
 have HC1:=qh hC1
 have HT1:=qh hT1
 have HK3:=qh hk3
 have HOC:=qh hoc
 have hdr:Below u1.heap.size u1 u1.drew:=brf.drew
 have HLR:=qh hoc.read
 clear p0 p1 p2 p3 p4 p5 p6 p7 hC1 hT1 hk3 hoc HKW HTW HC hbW
 go_upto_region 4 with (fail)
 refine wp_region_held_drew (S:=fun u=>u.cell? ⟨w2.heap.size,0,none⟩=some (.slice CA ts.length cc)∧u.cell? ⟨w2.heap.size,1,none⟩=some (.slice none 0 0)∧u.cell? ⟨w2.heap.size,2,none⟩=some (.slice none 0 0)∧u.cell? ⟨w2.heap.size,3,none⟩=some (.slice none 0 0)∧u.cell? ⟨w2.heap.size,4,none⟩=some (.slice none 0 0)∧u.cell? ⟨w2.heap.size,5,none⟩=some (.slice none 0 0)∧u.cell? ⟨w2.heap.size,6,none⟩=some (.slice none 0 0)∧u.cell? ⟨w2.heap.size,7,none⟩=some (.slice none 0 0)) (by kernel_rfl) (Cat.blk HC1.out) (fun hHeld =>?_)
 refine tkH 0 hHeld ?_
 refine tkH 1 hHeld ?_
 refine tkH 3 hHeld ?_
 refine tkH 4 hHeld ?_
 refine wpAnyH_ready (rs:= [2]) (by kernel_rfl) (by simp) ?_
 refine AllReadyH.cons rfl (fun K hK =>?_) AllReadyH.nil
 go_simp
 (go_at_call 20;(with_reducible refine(zi CA cc ts.length ts LA lc l.length l _ (HT1.out.next hdr) rfl HS.out HOK.out (HLR.out.next hdr) rfl (by omega) (fun x hx=>Nat.le_trans (HOC.out.len x hx) (by omega))).mono ?_))
 rintro e u2 ⟨⟨RA,rc,rt,rfl,hrl,hrt,hru,hsh,_⟩,hb2⟩
 have zz:Below u1.heap.size u1 u2:=hdr.trans hb2
 have hz2':=zz.size
 have hC2:=HC1.out.below zz HC1.out.lt
 have HRT:=qh hrt
 have HRU:Hid (RUp u1.heap.size RA rt):=qh hru
 have HRL:=qh hrl
 have HSR:=qh (hsh.bH HOK.out)
 have Px:=qh (hsh.small HOK.out)
 clear hrt hru hsh hb2 hrl
 go_wp2_with fail
 refine hK.out _ _ (Cat.blk hC2) (fun hHeld =>?_)
 clear hK K
 (try simp only[Act.put,gP6])
 refine wpAnyH_ready (rs:= [5]) (by kernel_rfl) (by simp) ?_
 refine AllReadyH.cons rfl (fun K hK =>?_) AllReadyH.nil
 go_simp
 (go_at_call 11;(with_reducible refine(xx CA cc ts.length ts LA lc l.length l _ (HT1.out.next zz) rfl HS.out HOK.out (by omega) (HLR.out.next zz) rfl (by omega) HOC.out.len).mono ?_))
 rintro e u3 ⟨⟨OA,oc,o,rfl,ho⟩,hb3⟩
 have Kh:Below u1.heap.size u1 u3:=ae zz hb3 hz2'
 have TH:=Kh.size
 have hC3:=HC1.out.below Kh HC1.out.lt
 have HC3:=qh hC3
 have Su:=qh (HRT.out.next hb3)
 have HO3:=qh (ho.lift hz2')
 have HT3:=qh (HT1.out.next Kh)
 have Tc:=qh (HK3.out.below Kh)
 have hol:o.length≤1000:=by have:=ho.len;omega
 have hx4:Below w.heap.size w u3:=ae hx3 Kh hx3.size
 have oL:Hid (∀x∈o,0≤x.record∧x.record≤1073741824):=qh fun x hx=>by have:=(ho.each x hx).2.2;omega
 clear ho hb3 hC2
 go_wp2_with fail
 refine hK.out _ _ (Cat.blk hC3) (fun hHeld =>?_)
 clear hK K
 (try simp only[Act.put,gP6])
 refine tkH 6 hHeld ?_
 refine tkH 7 hHeld ?_
 refine wpAnyH_done (by kernel_rfl) ?_ _
 clear hHeld hC3 HC1 HRT HT1 HK3 HOC HLR
 have hgu:g<u1.heap.size:=by omega
 go_wp2_with fail
 refine(aD g b 70 u3 Tc.out (by omega) (by omega)).mono ?_
 rintro e u4 ⟨d,rfl,hnd,hk4,hg4⟩
 have hz4:=hg4.size
 have FB:Below u4.heap.size u4 u4.drew:=brf.drew
 have HC4:=qh ((HC3.out.grown hg4 (fun e=>by injection e with e;omega)).below FB (by have:=HC3.out.lt;omega))
 have HT4:=qh ((HT3.out.grown HU.out IC hg4).next FB)
 have nQ:=qh ((Su.out.grown HRU.out hgu hg4).next FB)
 have HO4:=qh ((HO3.out.kept hg4 hgu).below FB)
 have HK4:=qh (hk4.below FB)
 have hx5:Below w.heap.size w u4.drew:=ae (Below.grown hx4 hg4 hx4.size (fun q e=>by injection e with e;omega)) FB (by have:=hx4.size;omega)
 have zH:u1.heap.size≤u4.drew.heap.size:=by show u1.heap.size≤u4.heap.size;omega
 have hC4:=Cat.blk HC4.out
 clear hnd hk4 HC3 HT3 Su HO3 Tc FB
 go_upto_region 6 with (fail)
 refine wp_region_held_drew (S:=fun u=>u.cell? ⟨w2.heap.size,0,none⟩=some (.slice CA ts.length cc)∧u.cell? ⟨w2.heap.size,1,none⟩=some (.slice none 0 0)∧u.cell? ⟨w2.heap.size,2,none⟩=some (.slice none 0 0)∧u.cell? ⟨w2.heap.size,3,none⟩=some (.slice none 0 0)∧u.cell? ⟨w2.heap.size,4,none⟩=some (.slice none 0 0)∧u.cell? ⟨w2.heap.size,5,none⟩=some (.slice none 0 0)∧u.cell? ⟨w2.heap.size,6,none⟩=some (.slice none 0 0)∧u.cell? ⟨w2.heap.size,7,none⟩=some (.slice none 0 0)) (by kernel_rfl) hC4 (fun hHeld =>?_)
 clear hC4
 refine tkH 0 hHeld ?_
 refine tkH 1 hHeld ?_
 refine tkH 2 hHeld ?_
 refine tkH 3 hHeld ?_
 refine wpAnyH_ready (rs:= [4]) (by kernel_rfl) (by simp) ?_
 refine AllReadyH.cons rfl (fun K hK =>?_) AllReadyH.nil
 go_simp
 (go_at_call 21;(with_reducible refine(iM CA cc ts.length ts RA rc ts.length rt OA oc o.length o d _ HT4.out rfl HS.out nQ.out HRL.out HSR.out HO4.out.read.1 rfl (by omega) oL.out).mono ?_))
 rintro e y1 ⟨rfl,hb5⟩
 have hz5:=hb5.size
 have hC5:=HC4.out.below hb5 HC4.out.lt
 have HC5:=qh hC5
 have HT5:=qh (HT4.out.next hb5)
 have qA:=qh (nQ.out.next hb5)
 have HO5:=qh (HO4.out.below hb5)
 have HK5:=qh (HK4.out.below hb5)
 have hx6:=ae hx5 hb5 hx5.size
 have BN:u1.heap.size≤(y1).heap.size:=by omega
 clear hb5 HC4 HT4 nQ HO4 HK4 hx5 zH
 go_wp2_with fail
 refine hK.out _ _ (Cat.blk hC5) (fun hHeld =>?_)
 clear hK K
 (try simp only[Act.put,gP6])
 have HC4:=HC5
 have HT4:=HT5
 have nQ:=qA
 have HO4:=HO5
 have HK4:=HK5
 have hx5:=hx6
 have zH:=BN
 clear HC5 HT5 qA HO5 HK5 hx6 BN hC5 hz5
 refine tkH 5 hHeld ?_
 refine tkH 6 hHeld ?_
 refine tkH 7 hHeld ?_
 refine tkH 8 hHeld ?_
 refine tkH 9 hHeld ?_
 refine wpAnyH_ready (rs:= [10]) (by kernel_rfl) (by simp) ?_
 refine AllReadyH.cons rfl (fun K hK =>?_) AllReadyH.nil
 go_simp
 (go_at_call 21;(with_reducible refine(iM CA cc ts.length ts RA rc ts.length rt OA oc o.length o day _ HT4.out rfl HS.out nQ.out HRL.out HSR.out HO4.out.read.1 rfl (by omega) oL.out).mono ?_))
 rintro e y2 ⟨rfl,hb5⟩
 have hz5:=hb5.size
 have hC5:=HC4.out.below hb5 HC4.out.lt
 have HC5:=qh hC5
 have HT5:=qh (HT4.out.next hb5)
 have qA:=qh (nQ.out.next hb5)
 have HO5:=qh (HO4.out.below hb5)
 have HK5:=qh (HK4.out.below hb5)
 have hx6:=ae hx5 hb5 hx5.size
 have BN:u1.heap.size≤(y2).heap.size:=by omega
 clear hb5 HC4 HT4 nQ HO4 HK4 hx5 zH
 go_wp2_with fail
 refine hK.out _ _ (Cat.blk hC5) (fun hHeld =>?_)
 clear hK K
 (try simp only[Act.put,gP6])
 have HC4:=HC5
 have HT4:=HT5
 have nQ:=qA
 have HO4:=HO5
 have HK4:=HK5
 have hx5:=hx6
 have zH:=BN
 clear HC5 HT5 qA HO5 HK5 hx6 BN hC5 hz5
 refine tkH 11 hHeld ?_
 refine tkH 12 hHeld ?_
 refine tkH 13 hHeld ?_
 refine tkH 14 hHeld ?_
 refine tkH 15 hHeld ?_
 refine tkH 17 hHeld ?_
 refine tkH 18 hHeld ?_
 refine wpAnyH_ready (rs:= [16]) (by kernel_rfl) (by simp) ?_
 refine AllReadyH.cons rfl (fun K hK =>?_) AllReadyH.nil
 go_simp
 (go_at_call 22;(with_reducible refine(uK g b RA rc ts.length rt _ HK4.out nQ.out HRL.out Px.out).mono ?_))
 rintro e y3 ⟨SA,sc,out,rfl,hout,hso,hk6,hg6⟩
 have hz6:=hg6.size
 have hC5:=HC4.out.grown hg6 (fun e=>by injection e with e;omega)
 have HC5:=qh hC5
 have HT5:=qh (HT4.out.grown HU.out IC hg6)
 have qA:=qh (nQ.out.grown HRU.out hgu hg6)
 have HO5:=qh (HO4.out.kept hg6 hgu)
 have HK5:=qh hk6
 have SK:=qh hout
 have HSO:=qh hso
 have hx6:Below w.heap.size w y3:=Below.grown hx5 hg6 hx5.size (fun q e=>by injection e with e;omega)
 have BN:u1.heap.size≤y3.heap.size:=by omega
 clear hk6 hg6 hout hso HC4 HT4 nQ HO4 HK4 hx5 zH
 go_wp2_with fail
 refine hK.out _ _ (Cat.blk hC5) (fun hHeld =>?_)
 clear hK K
 (try simp only[Act.put,gP6])
 refine wpAnyH_ready (rs:= [19]) (by kernel_rfl) (by simp) ?_
 refine AllReadyH.cons rfl (fun K hK =>?_) AllReadyH.nil
 go_simp
 (go_at_call 21;(with_reducible refine(iM CA cc ts.length ts SA sc out.length out OA oc o.length o d _ HT5.out rfl HS.out SK.out rfl HSO.out HO5.out.read.1 rfl (by omega) oL.out).mono ?_))
 rintro e y4 ⟨rfl,hb5⟩
 have hz7:=hb5.size
 have hC4:=HC5.out.below hb5 HC5.out.lt
 have HC4:=qh hC4
 have HT4:=qh (HT5.out.next hb5)
 have nQ:=qh (qA.out.next hb5)
 have HO4:=qh (HO5.out.below hb5)
 have HK4:=qh (HK5.out.below hb5)
 have hx5:=ae hx6 hb5 hx6.size
 have zH:u1.heap.size≤y4.heap.size:=by omega
 clear hb5 HC5 HT5 qA HO5 HK5 hx6 BN hC5 SK HSO hz6 hz7
 go_wp2_with fail
 refine hK.out _ _ (Cat.blk hC4) (fun hHeld =>?_)
 clear hK K
 (try simp only[Act.put,gP6])
 refine tkH 20 hHeld ?_
 refine tkH 21 hHeld ?_
 refine tkH 22 hHeld ?_
 refine tkH 23 hHeld ?_
 refine tkH 24 hHeld ?_
 refine tkH 25 hHeld ?_
 refine tkH 27 hHeld ?_
 refine wpAnyH_ready (rs:= [26]) (by kernel_rfl) (by simp) ?_
 refine AllReadyH.cons rfl (fun K hK =>?_) AllReadyH.nil
 go_simp
 clear hC4
 (go_at_call 10;(with_reducible refine(wC g b u1.heap.size _ OA oc o.length o _ HK4.out HO4.out hgu zH rfl (by omega)).mono ?_))
 rintro e y5 ⟨PA,pc,po,rfl,hpo,hpl,hk6,hg6⟩
 have hz6:=hg6.size
 have hC5:=HC4.out.grown hg6 (fun e=>by injection e with e;omega)
 have HC5:=qh hC5
 have HT5:=qh (HT4.out.grown HU.out IC hg6)
 have qA:=qh (nQ.out.grown HRU.out hgu hg6)
 have HO5:=qh (HO4.out.kept hg6 hgu)
 have HK5:=qh hk6
 have HPO:=qh hpo.read.1
 have HPR:Hid (∀x∈po,0≤x.record∧x.record≤1073741824):=qh fun x hx=>(hpo.each x hx).2
 have hx6:Below w.heap.size w y5:=Below.grown hx5 hg6 hx5.size (fun q e=>by injection e with e;omega)
 have BN:u1.heap.size≤y5.heap.size:=by omega
 have TU:po.length≤1000000:=by omega
 clear hk6 hg6 hpo HC4 HT4 nQ HO4 HK4 hx5 zH
 go_wp2_with fail
 refine hK.out _ _ (Cat.blk hC5) (fun hHeld =>?_)
 clear hK K
 (try simp only[Act.put,gP6])
 refine wpAnyH_ready (rs:= [28]) (by kernel_rfl) (by simp) ?_
 refine AllReadyH.cons rfl (fun K hK =>?_) AllReadyH.nil
 go_simp
 (go_at_call 21;(with_reducible refine(iM CA cc ts.length ts RA rc ts.length rt PA pc po.length po d _ HT5.out rfl HS.out qA.out HRL.out HSR.out HPO.out rfl TU HPR.out).mono ?_))
 rintro e y6 ⟨rfl,hb5⟩
 have hz7:=hb5.size
 have hC4:=HC5.out.below hb5 HC5.out.lt
 have HC4:=qh hC4
 have HT4:=qh (HT5.out.next hb5)
 have nQ:=qh (qA.out.next hb5)
 have HO4:=qh (HO5.out.below hb5)
 have HK4:=qh (HK5.out.below hb5)
 have hx5:=ae hx6 hb5 hx6.size
 have zH:u1.heap.size≤y6.heap.size:=by omega
 clear hb5 HC5 HT5 qA HO5 HK5 hx6 BN hC5 HPO HPR hz6 hz7
 go_wp2_with fail
 refine hK.out _ _ (Cat.blk hC4) (fun hHeld =>?_)
 clear hK K
 (try simp only[Act.put,gP6])
 refine tkH 29 hHeld ?_
 refine tkH 30 hHeld ?_
 refine tkH 31 hHeld ?_
 refine tkH 32 hHeld ?_
 refine tkH 34 hHeld ?_
 refine tkH 35 hHeld ?_
 refine tkH 36 hHeld ?_
 refine wpAnyH_ready (rs:= [33]) (by kernel_rfl) (by simp) ?_
 refine AllReadyH.cons rfl (fun K hK =>?_) AllReadyH.nil
 go_simp
 clear hC4
 (go_at_call 13;(with_reducible refine(Ex g b CA cc ts.length ts _ HK4.out HT4.out (HU.out.ne IC) rfl HS.out HOK.out h02).mono ?_))
 rintro e y7 ⟨DA,dc,td,od,rfl,hTd,hNd,hSd,hOd,UW,RY,R9,hk6,hg6⟩
 have hz6:=hg6.size
 have hC5:=HC4.out.grown hg6 (fun e=>by injection e with e;omega)
 have HC5:=qh hC5
 have qA:=qh (nQ.out.grown HRU.out hgu hg6)
 have HO5:=qh (HO4.out.kept hg6 hgu)
 have HTD:=qh hTd
 have HSD:=qh hSd
 have HOD:=qh hOd
 have U7:=qh RY
 have VF:=qh R9
 have hx6:Below w.heap.size w y7:=Below.grown hx5 hg6 hx5.size (fun q e=>by injection e with e;omega)
 clear hk6 hg6 hTd hNd hSd hOd UW RY R9 HC4 HT4 nQ HO4 HK4 hx5 zH
 go_wp2_with fail
 refine hK.out _ _ (Cat.blk hC5) (fun hHeld =>?_)
 clear hK K
 (try simp only[Act.put,gP6])
 refine wpAnyH_ready (rs:= [37]) (by kernel_rfl) (by simp) ?_
 refine AllReadyH.cons rfl (fun K hK =>?_) AllReadyH.nil
 go_simp
 (go_at_call 21;(with_reducible refine(rO DA dc td.length td od RA rc ts.length rt OA oc o.length o d _ HTD.out rfl HSD.out HOD.out U7.out VF.out qA.out HRL.out HSR.out HO5.out.read.1 rfl (by omega) oL.out).mono ?_))
 rintro e y8 ⟨rfl,hb5⟩
 have hC4:=HC5.out.below hb5 HC5.out.lt
 have HC4:=qh hC4
 have hx5:=ae hx6 hb5 hx6.size
 clear hb5 HC5 qA HO5 hx6 hC5
 go_wp2_with fail
 refine hK.out _ _ (Cat.blk hC4) (fun hHeld =>?_)
 clear hK K
 (try simp only[Act.put,gP6])
 refine tkH 38 hHeld ?_
 refine tkH 39 hHeld ?_
 refine wpAnyH_ready (rs:= [40]) (by kernel_rfl) (by simp) ?_
 refine AllReadyH.cons rfl (fun K hK =>?_) AllReadyH.nil
 go_simp
 clear hC4
 (go_at_call 19;(with_reducible refine(Dy _).mono ?_))
 rintro e y9 ⟨rfl,hb5⟩
 have hC5:=HC4.out.below hb5 HC4.out.lt
 have hx6:=ae hx5 hb5 hx5.size
 clear hb5
 go_wp2_with fail
 refine hK.out _ _ (Cat.blk hC5) (fun hHeld =>?_)
 clear hK K
 (try simp only[Act.put,gP6])
 refine tkH 41 hHeld ?_
 refine tkH 42 hHeld ?_
 refine wpAnyH_done (by kernel_rfl) ?_ _
 clear hHeld hC5
 go_wp2_with fail
 go_ret
 exact⟨rfl,hx6⟩
end Go.Proofs.YtebippoohpnjkaaGreat
namespace Go.Proofs.YtebippoohpnjkaaGreat.retentionExpired
open Go.ChangeShapes Go.WideShapes Go.ChangeAt Go.RowKit
theorem own:ownKnob Tryz.prog.godebug=none:=by kernel_rfl
theorem laidOut:laidOutB Tryz.prog=true:=by kernel_rfl
theorem bytesInt:Tryz.prog.bytesOf 3=8:=by kernel_rfl
theorem lifted(os:Os)(started:os.Started)(H:Type)(enc:TypeId × Value→H):
 ReturnsInHanded {} Tryz.checked os 4 .any (Rows.retentionExpiredSpec.pre6 enc Tryz.prog Tryz.f4 Rows.retentionExpiredRow.domain false) (Rows.retentionExpiredSpec.post enc Tryz.prog Tryz.f4 false true false false):=by
 refine returnsInHanded_of_change_sized (C:=Tryz.checked) own started (by kernel_rfl) Tryz.func4
  (ChangeSpec.witness6 (enc:=enc) (C:=Tryz.checked) false ⟨#[],#[.slice none 0 0,.int .i64 0],[]⟩ 8 (by kernel_rfl) (by kernel_rfl) (by kernel_rfl) (by kernel_rfl)) ?_
 intro W base args ds gs before hval0 hW hcnd hsz0 _
 have hval:∀(j:Nat) t v,Tryz.f4.params[j]?=some t→args[j]?=some v→Value.okWide Tryz.prog W .any base t v:=hval0
 have hsz:(DataW.weightsEach Tryz.prog (Tryz.f4.params.toList++Rows.retentionExpiredSpec.plain.varTypes Tryz.prog) (ds++gs)).all (· ≤ reachBytes)=true:=hsz0
 have hW':=hW
 obtain⟨p,q,hA0,hV,rfl,hfz,hnd⟩:=hW
 have hA:DataW.TrodAll enc Tryz.prog W 0 (fun _=>true) true Tryz.f4.params.toList args.toList ds p:=hA0
 rw[Tryz.params4]at hA hval hsz
 obtain⟨v0,vs0,d0,ds0,p0,q0,hargs,rfl,rfl,h0,r0⟩:=trodAll_cons hA
 obtain⟨v1,vs1,d1,ds1,p1,q1,rfl,rfl,rfl,h1,r1⟩:=trodAll_cons r0
 obtain⟨rfl,rfl,rfl⟩:=trodAll_nil r1
 obtain rfl:args=#[v0,v1]:=by cases args;simp_all
 obtain⟨rfl,rfl⟩:=trodVars_none hV
 obtain⟨a0,Ql,cap0,rfl⟩:=okWide_slice Tryz.underlying22 (hval 0 22 v0 rfl rfl)
 obtain⟨dy,rfl,rfl,rfl,w1⟩:=open_int Tryz.underlying3 (hval 1 3 v1 rfl rfl) h1
 have k0:=h0
 have lt0:∀x∈p0,x.block<W.heap.size:=by obtain⟨m,hm⟩:=k0;exact DataW.trod_lt m _ _ _ hm
 obtain⟨t,htl,hts,ht8⟩:∃t:List Int,t.length=Ql∧ah W W.heap.size intCells 1 a0 t∧t.length*8≤140737488351232:=by
  obtain⟨fuel,hf⟩:=h0
  rcases open_ints Tryz.underlying22 Tryz.underlying3 (by kernel_rfl) hf with ⟨hcs,_⟩|⟨x,l,c,zs,hcs,_,hl,hm,hz,hx,hcell,hwz⟩
  ·simp[Value.cells]at hcs
   obtain⟨rfl,rfl,rfl⟩:=hcs
   exact⟨[],rfl,ah.nil,by simp⟩
  ·simp[Value.cells]at hcs
   obtain⟨rfl,rfl,rfl⟩:=hcs
   simp only[Prod.mk.injEq]at hx
   obtain⟨rfl,_⟩:=hx
   have hs:=sized_slice hsz (j:= 0) (t:= 22) (e:= 3) rfl rfl Tryz.underlying22
   rw[bytesInt]at hs
   simp only[lits,List.length_map,List.length_take,List.length_drop,reachBytes]at hs
   have hzl:zs.length=cap0:=by simpa using hz
   refine⟨zs.take Ql,by simp;omega,fun h =>?_,by simp;omega⟩
   have h1:0<zs.length:=by simp at h;omega
   obtain⟨xb,xo,xs⟩:=x
   have hc0:=hcell 0 h1
   have hsp:xs=none:=by
    cases xs with
    | none=>rfl
    | some y =>
      simp only[Addr.add,World.cell?,Option.isSome_some,if_true]at hc0
      split at hc0<;>simp at hc0
   subst hsp
   have hlt:xb<W.heap.size:=by
    rcases Nat.lt_or_ge xb W.heap.size with h|h
    ·exact h
    ·simp[Addr.add,World.cell?,Array.getElem?_eq_none h]at hc0
   refine⟨xb,xo,rfl,hlt,fun i hi j u hu =>?_⟩
   have hj:j=0:=by have:=(List.getElem?_eq_some_iff.1 hu).1;simp[intCells]at this;omega
   subst hj
   have hil:i<zs.length:=by simp at hi;omega
   have:=hcell i hil
   simp only[intCells,List.getElem?_cons_zero,Option.some.injEq]at hu
   subst hu
   rw[List.getElem_take]
   rw[List.getD_eq_getElem?_getD,List.getElem?_eq_getElem hil]at this
   unfold Addr.add at this
   split at this
   ·rename_i h0;subst h0;simpa using this
   ·simpa using this
 clear hA0 hval0
 subst htl
 refine(Hu a0 cap0 t dy W hts ht8).mono fun e W' ⟨he,bel⟩ =>?_
 subst he
 exact⟨_,rfl,_,_,_,[],_,[],hW',trodAll_mk1 (shut_bool Tryz.underlying4 _),(trodAll_cons_mk (Below.trod laidOut (by kernel_rfl) (of_decide_eq_true (by kernel_rfl)) k0 bel lt0) (trodAll_cons_mk (shut_int Tryz.underlying3 w1) trodAll_mk0)),rfl,bel.frame _,fun h=>by cases h⟩
theorem facts:joinedFacts Tryz.pinned.checked.prog 4 Tryz.f4 Rows.retentionExpiredSpec Rows.retentionExpiredRow=true:=by
 unfold joinedFacts
 repeat' (with_reducible refine(Bool.and_eq_true _ _).mpr ⟨?_,?_⟩)
 all_goals(as_aux_lemma=>kernel_rfl)
theorem over:Rows.retentionExpiredRow.holds Tryz.pinned (OpenSpec.ofChange Rows.retentionExpiredSpec):=
 OpenClaim.holds_of_wide 4 Tryz.f4 rfl rfl rfl rfl rfl rfl rfl ⟨rfl,rfl,rfl,rfl,rfl⟩ rfl rfl rfl rfl rfl (by kernel_rfl) Tryz.func4 facts
  (of_decide_eq_true (by kernel_rfl)) (by unfold Func.isWrapper;first|(rw[if_pos (by decide +kernel)];kernel_rfl)|(rw[if_neg (by decide +kernel)];exact⟨rfl,rfl⟩))
  (fun os started H enc _=>lifted os started H enc)
theorem proved:Rows.RetentionExpiredSaid:=over
#print axioms proved
end Go.Proofs.YtebippoohpnjkaaGreat.retentionExpired
