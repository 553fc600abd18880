/-
  For every list of numbers and every number the law StreamCompacts returns true: Compact up to any offset changes neither what Replay returns nor the entries from this offset on, and leaves at most one entry for each cell before it. No condition.
-/
import Derived.Test.YtjidligipoldeaaGreatT94
import Derived.Test.YtjidligipoldeaaGreatT90
import Derived.Test.YtjidligipoldeaaGreatRows
import Derived.ProofKit
import Derived.OpenShut
import Derived.ShutString
set_option linter.unusedVariables false
set_option linter.unusedSimpArgs false
set_option maxRecDepth 100000
set_option maxHeartbeats 16000000
set_option maxRecDepth 100000
namespace Go.Proofs.YtjidligipoldeaaGreat
open Go.RowKit Go Go.Shelf
theorem fy{P:Prop}(h:P:=by kernel_rfl):P:=h
theorem fL{P:Prop}(h:P:=by rw[←hwe];exact(Blk.new' hg).drew):P:=h
attribute [local go_sem] Oper.semAt_some
theorem Below.uS{B g:Nat}{w u:World}{v0 v1 v2:Value}(h:Below B w u)(hg:B≤g):Below B w (((u.setCell ⟨g,0,none⟩ v0).setCell ⟨g,1,none⟩ v1).setCell ⟨g,2,none⟩ v2):=by
 iterate 3 (refine Below.setCell ?_ hg _)
 exact h
theorem Blk.uS{g t:Nat}{u:World}{a0 a1 a2 v0 v1 v2:Value}(h:Blk u g t #[a0,a1,a2]):Blk (((u.setCell ⟨g,0,none⟩ v0).setCell ⟨g,1,none⟩ v1).setCell ⟨g,2,none⟩ v2) g t #[v0,v1,v2]:=
 (((h.aH 0 v0).aH 1 v1).aH 2 v2).eq (by simp)
theorem Lh{n r c:Nat}(h:n≤r*c)(h1:r≤64)(h2:c≤8):∃q:Nat,wrap64 ((r:Int)*(c:Int))=(q:Int)∧decide (n≤q)=true∧decide ((n:Int)≤(q:Int))=true:=by
 obtain⟨q,hq⟩:∃q,r*c=q:=⟨_,rfl⟩
 have h3:r*c≤64*8:=Nat.mul_le_mul h1 h2
 rw[hq]at h h3
 refine⟨q,?_,by simpa using h,by simpa using h⟩
 rw[show (r:Int)*(c:Int)=((r*c:Nat):Int) from (Int.natCast_mul r c).symm,hq]
 unfold wrap64
 omega
theorem Oc(t:Int)(n:Nat)(hn:n≤1000):∃m:Nat,wrap64 ((IntKind.u64.wrap t).tmod ((n:Int)+1))=(m:Int)∧m≤n:=by
 have h0:0≤IntKind.u64.wrap t:=by rw[IntKind.wrap_u64];omega
 obtain⟨q,hq⟩:=Int.eq_ofNat_of_zero_le h0
 have hlt:q % (n+1)<n+1:=Nat.mod_lt _ (by omega)
 refine⟨q % (n+1),?_,by omega⟩
 rw[hq]
 have e:((q:Int)).tmod ((n:Int)+1)=((q % (n+1):Nat):Int):=by
  rw[show (n:Int)+1=((n+1:Nat):Int) by omega]
  rfl
 rw[e]
 unfold wrap64
 omega
theorem lsc_0{P:Prop}(h:P:=by
 refine tkT 0 hHeld ?_ (hQ:=hqA)
 refine tkT 1 hHeld ?_ (hQ:=hqA)
 refine tkT 2 hHeld ?_ (hQ:=hqA)
 refine tkT 3 hHeld ?_ (hQ:=hqA)
 refine tkT 4 hHeld ?_ (hQ:=hqA)
 refine tkT 5 hHeld ?_ (hQ:=hqA)
 refine tkT 6 hHeld ?_ (hQ:=hqA)
 refine tkT 7 hHeld ?_ (hQ:=hqA)
 refine tkT 8 hHeld ?_ (hQ:=hqA)
 refine r1T 9 (fun K hK =>?_)
 go_simp
 refine hK.out _ _ _ (HSS.out _ (by exact ai)) (fun hHeld =>?_)
 clear hK K
 generalize hg:(w11).heap.size=g
 generalize hwe:World.drew (World.alloc w11 _)=va
 have hva:Below (w11).heap.size w11 va:=by rw[←hwe];exact ai
 have HB:Hid (Blk va g 39 #[.int .i64 0,.int .i64 0,.slice none 0 0]):=qh fL
 have hgu:(w11).heap.size≤g:=Nat.le_of_eq hg
 clear hwe hg
 refine r1T 10 (fun K hK =>?_)
 have gf:=fun j=>HB.out.frozen j
 have a0:=HB.out.cell 0
 have a1:=HB.out.cell 1
 have a2:=HB.out.cell 2
 simp only[gE3]at a0 a1 a2
 go_simp
 refine hK.out _ _ _ (HSS.out _ (Below.uS hva hgu)) (fun hHeld =>?_)
 clear hK K gf a0 a1 a2
 generalize hwe:World.setCell _ _ _=vb
 have hvb:Below (w11).heap.size w11 vb:=by
  rw[←hwe]
  exact Below.uS hva hgu
 have hB:∃DA dc,Blk vb g 39 #[.int .i64 (m:Int),.int .i64 (l.length:Int),.slice DA (l.length-m) dc]∧ag w10 w10.heap.size Ent.cells 15 DA ((fe l).drop m):=by
  rw[←hwe]
  first|(rw[show l.length-m=0 by omega];exact⟨EA,0,Blk.uS HB.out,by rw[hdr];exact ag.nil⟩)|exact⟨_,_,Blk.uS HB.out,HD6.out⟩
 obtain⟨DA,dc,hB,hds⟩:=hB
 refine aI fy ?_ _
 clear hHeld
 refine⟨rfl,bD ?_ ?_⟩
 ·kernel_rfl
 refine⟨rfl,?_⟩
 rw[HRS.out]
 exact⟨g,DA,dc,rfl,hB,hds,hvb⟩):P:=h
theorem lsc_1{P:Prop}(h:P:=by
 refine tkT 0 hHeld ?_ (hQ:=hqA)
 refine tkT 1 hHeld ?_ (hQ:=hqA)
 refine tkT 2 hHeld ?_ (hQ:=hqA)
 refine tkT 3 hHeld ?_ (hQ:=hqA)
 refine tkT 4 hHeld ?_ (hQ:=hqA)
 refine tkT 5 hHeld ?_ (hQ:=hqA)
 refine tkT 6 hHeld ?_ (hQ:=hqA)
 refine tkT 7 hHeld ?_ (hQ:=hqA)
 refine r1T 8 (fun K hK =>?_)
 go_simp
 refine hK.out _ _ _ (HSS.out _ (by exact ai)) (fun hHeld =>?_)
 clear hK K
 generalize hg:(w10).heap.size=g
 generalize hwe:World.drew (World.alloc w10 _)=va
 have hva:Below (w10).heap.size w10 va:=by rw[←hwe];exact ai
 have HB:Hid (Blk va g 39 #[.int .i64 0,.int .i64 0,.slice none 0 0]):=qh fL
 have hgu:(w10).heap.size≤g:=Nat.le_of_eq hg
 clear hwe hg
 refine r1T 9 (fun K hK =>?_)
 have gf:=fun j=>HB.out.frozen j
 have a0:=HB.out.cell 0
 have a1:=HB.out.cell 1
 have a2:=HB.out.cell 2
 simp only[gE3]at a0 a1 a2
 go_simp
 refine hK.out _ _ _ (HSS.out _ (Below.uS hva hgu)) (fun hHeld =>?_)
 clear hK K gf a0 a1 a2
 generalize hwe:World.setCell _ _ _=vb
 have hvb:Below (w10).heap.size w10 vb:=by
  rw[←hwe]
  exact Below.uS hva hgu
 have hB:∃DA dc,Blk vb g 39 #[.int .i64 (m:Int),.int .i64 (l.length:Int),.slice DA (ks.length-n) dc]∧ag w10 w10.heap.size Ent.cells 15 DA (ks.drop n):=by
  rw[←hwe]
  first|(rw[show ks.length-n=0 by omega];exact⟨KA,0,Blk.uS HB.out,by rw[hdr];exact ag.nil⟩)|exact⟨_,_,Blk.uS HB.out,HD7.out⟩
 obtain⟨DA,dc,hB,hds⟩:=hB
 refine aI fy ?_ _
 clear hHeld
 refine⟨rfl,bD ?_ ?_⟩
 ·kernel_rfl
 refine⟨rfl,?_⟩
 rw[HRS.out]
 exact⟨g,DA,dc,rfl,hB,hds,hvb⟩):P:=h
theorem EH(A:Option Addr)(c:Nat)(t:List Int)(tz:Int)(w:World)(hl:ag w w.heap.size intCells 1 A t)(hn:t.length*8≤140737488351232):
 Calls Tryz.prog 3 #[.slice A t.length c,.int .i64 tz] w fun e w'=>e=.returned (.bool true)∧Below w.heap.size w w':=by
 obtain⟨ic,hic,lL,lK,lJ⟩:=info_parts l7
 have HL0:=qh hl
 clear hl
 go_enter Tryz.func3,Tryz.ntmps3
 by_cases vH:100<t.length
 ·have Dw:decide (100<t.length)=true:=by simpa using vH
  have Dv:decide ((100:Int)<(t.length:Int))=true:=by simp;omega
  go_wp2_with (go_at_call 7;(with_reducible refine(l6 _).mono ?_);rintro e w1 ⟨rfl,hb1⟩)
  go_ret
  exact⟨rfl,hb1⟩
 have Dw:decide (100<t.length)=false:=by simpa using vH
 have Dv:decide ((100:Int)<(t.length:Int))=false:=by simp;omega
 go_upto_region 4 with (go_at_call 8;(with_reducible refine(xZ A c t _ HL0.out hn).mono ?_);rintro e w1 ⟨⟨CA,cc,ts,k,OA,oc,l,rfl,ht,hs,hk,hl,ho,htb,Xn,h8⟩,hb1⟩)
 obtain⟨z,hz⟩:∃z,w1.heap.size=z:=⟨_,rfl⟩
 have HZZ:=qh hz
 rw[hz]
 refine ah (P:=fun u=>Code.wp _ _ _ _ u) (R:=fun u=>Blk u z 33 #[.slice CA ts.length cc,.slice none 0 0,.slice none 0 0,.slice none 0 0,.slice none 0 0,.slice none 0 0,.slice none 0 0,.slice none 0 0]∧Below z w1 u) ⟨?_,?_⟩ ?_
 ·exact Blk.new' hz
 ·rw[←hz];exact ai
 rintro W ⟨hC,hbW⟩
 rw[←HZZ.out]at hbW
 have HT:=qh ht
 have HS:=qh hs
 have HL:=qh hl
 have HO:=qh ho
 have HTB:=qh htb
 have H8:=qh h8
 have HC:=qh hC
 have hcl:=hC.lt
 have hxW:Below w.heap.size w W:=aa hb1 hbW hb1.size
 have HT:Hid (aF W W.heap.size CA ts):=qh (HT.out.next hbW)
 have HL:Hid (dQ W W.heap.size OA l):=qh (HL.out.next hbW)
 clear ht hs hl ho htb h8 hC hz vH Dw Dv HL0
 obtain⟨p0,p1,p2,p3,p4,p5,p6,p7⟩:=Cat.blk HC.out
 go_upto_region 5 with (go_at_call 9;(with_reducible refine(Ag CA cc ts.length ts k OA oc l.length l _ HT.out rfl HS.out hk HL.out rfl (by omega) HO.out HTB.out H8.out).mono ?_);rintro e w2 ⟨⟨EA,ec,rfl,hec,hE⟩,hb2⟩)
 obtain⟨z6,hz6⟩:∃z6,w2.heap.size=z6:=⟨_,rfl⟩
 have HZ6:=qh hz6
 rw[hz6]
 refine ah (P:=fun u=>Code.wp _ _ _ _ u) (R:=fun u=>Blk u z6 39 #[.int .i64 0,.int .i64 (l.length:Int),.slice EA l.length ec]∧Below z6 w2 u) ⟨Blk.new' hz6,by rw[←hz6];exact ai⟩ ?_
 rintro w3 ⟨hG6,hb3⟩
 rw[←HZ6.out]at hb3
 have BH:Below W.heap.size W w3:=aa hb2 hb3 hb2.size
 have hx3:Below w.heap.size w w3:=aa hxW BH hxW.size
 have HG6:=qh hG6
 have HC3:=qh (HC.out.below BH hcl)
 have HT3:=qh (HT.out.next BH)
 have HL3:=qh (HL.out.next BH)
 have HE3:=qh (hE.next hb3)
 have HEL:Hid ((fe l).length=l.length):=qh (nD l)
 have HE8:Hid (∀x∈fe l,x.chg.row.length≤8):=qh (fun x hx=>H8.out x.chg (qb hx))
 have lM:Hid (dF ts k 0 (l.length:Int) ((fe l).map Ent.p)):=qh (by
  rw[lu]
  have h:=ng HO.out HTB.out hk (by omega:l.length≤200) l.length nlr
  rwa [List.take_of_length_le nlr]at h)
 clear p0 p1 p2 p3 p4 p5 p6 p7 hG6 hz6 hE HC HT HL
 obtain⟨p0,p1,p2,p3,p4,p5,p6,p7⟩:=Cat.blk HC3.out
 have g0:=HG6.out.cell 0
 have g1:=HG6.out.cell 1
 have g2:=HG6.out.cell 2
 simp only[gE3]at g0 g1 g2
 go_upto_region 6 with (fail)
 obtain⟨m,hm,hml⟩:=Oc tz l.length (by omega)
 rw[hm]
 clear hm
 have hm0:(0:Int)≤(m:Int):=by omega
 have hm1:(m:Int)≤(l.length:Int):=by omega
 go_upto_region 7 with (go_at_call 10;(with_reducible refine(lU CA cc ts.length ts k 0 (l.length:Int) EA ec l.length (fe l) (m:Int) _ HT3.out rfl HS.out HE3.out HEL.out hec lM.out HE8.out hm0 hm1).mono ?_);rintro e w4 ⟨⟨KA,kc,ks,rfl,hkm,hko⟩,hb4⟩)
 have hx4:Below w.heap.size w w4:=aa hx3 hb4 hx3.size
 obtain⟨z7,hz7⟩:∃z7,w4.heap.size=z7:=⟨_,rfl⟩
 have HZ7:=qh hz7
 rw[hz7]
 refine ah (P:=fun u=>Code.wp _ _ _ _ u) (R:=fun u=>Blk u z7 39 #[.int .i64 (m:Int),.int .i64 (l.length:Int),.slice KA ks.length kc]∧Below z7 w4 u) ⟨Blk.new' hz7,by rw[←hz7];exact ai⟩ ?_
 rintro w5 ⟨hG7,hb5⟩
 rw[←HZ7.out]at hb5
 have oQ:Below w3.heap.size w3 w5:=aa hb4 hb5 hb4.size
 have hx5:Below w.heap.size w w5:=aa hx3 oQ hx3.size
 have HG7:=qh hG7
 have HKM:=qh hkm
 have hkc:ks.length≤kc:=by
  obtain⟨A0,c0,e0,h0,_⟩:=hko.own.form
  injection e0 with _ _ e2
  omega
 have HK5:Hid (di w5 w5.heap.size KA ks):=qh (hko.read.next hb5)
 have HK8:Hid (∀x∈ks,x.chg.row.length≤8):=qh hko.len
 have HC5:=qh (HC3.out.below oQ HC3.out.lt)
 have HS5:=qh (HG6.out.below oQ HG6.out.lt)
 have HT5:=qh (HT3.out.next oQ)
 have HL5:=qh (HL3.out.next oQ)
 have HE5:=qh (HE3.out.next oQ)
 obtain⟨n,hnk,hcut,hdrop,hrk,hcnt⟩:=Jf HO.out HTB.out hk (by omega) hml (by rw[HKM.out,lu])
 have YU:=qh hcut
 have Wo:=qh hdrop
 have HRK:=qh hrk
 have YW:=qh hcnt
 have PN:Hid (dF ts k (m:Int) (l.length:Int) (ks.map Ent.p)):=qh (by
  rw[HKM.out]
  exact lM.out.comp hm0 hm1)
 have VO:Hid (dL [] ((ks.map Ent.p).map Prod.snd)=dL [] (((fe l).map Ent.p).map Prod.snd)):=qh (by
  rw[HKM.out]
  exact(sO HO.out.cat hk (m:Int) lM.out.ord lM.out.tab).2.2)
 have hKL:ks.length≤16:=by
  have h:=congrArg List.length HKM.out
  have h2:=vM (m:Int) ((fe l).map Ent.p)
  rw[List.length_map,nD]at h2
  rw[List.length_map]at h
  omega
 clear p0 p1 p2 p3 p4 p5 p6 p7 g0 g1 g2 hG7 hz7 hkm hko HC3 HT3 HL3 HG6 HE3 hcut hdrop hrk hcnt
 have OQ:=HC5.out.lt
 have Mh:=HS5.out.lt
 have Fv:=HG7.out.lt
 have hWd:Below w5.heap.size w5 w5.drew:=brf.drew
 have HSS:Hid (∀V,Below w5.heap.size w5 V→(V.cell? ⟨z,0,none⟩=some (.slice CA ts.length cc)∧V.cell? ⟨z,1,none⟩=some (.slice none 0 0)∧V.cell? ⟨z,2,none⟩=some (.slice none 0 0)∧V.cell? ⟨z,3,none⟩=some (.slice none 0 0)∧V.cell? ⟨z,4,none⟩=some (.slice none 0 0)∧V.cell? ⟨z,5,none⟩=some (.slice none 0 0)∧V.cell? ⟨z,6,none⟩=some (.slice none 0 0)∧V.cell? ⟨z,7,none⟩=some (.slice none 0 0))∧(V.cell? ⟨z6,0,none⟩=some (.int .i64 0)∧V.cell? ⟨z6,1,none⟩=some (.int .i64 (l.length:Int))∧V.cell? ⟨z6,2,none⟩=some (.slice EA l.length ec))∧(V.cell? ⟨z7,0,none⟩=some (.int .i64 (m:Int))∧V.cell? ⟨z7,1,none⟩=some (.int .i64 (l.length:Int))∧V.cell? ⟨z7,2,none⟩=some (.slice KA ks.length kc))):=qh (fun V hV=>⟨Cat.blk (HC5.out.below hV OQ),⟨(HS5.out.below hV Mh).cell 0,(HS5.out.below hV Mh).cell 1,(HS5.out.below hV Mh).cell 2⟩,(HG7.out.below hV Fv).cell 0,(HG7.out.below hV Fv).cell 1,(HG7.out.below hV Fv).cell 2⟩)
 refine gX .normal [49,50,51,52,53,54,55,56,57,58,59,60,61,62] (fun f w'=>f 62=.bool false∧Below w5.heap.size w5 w') ?_ ?_
 ·refine aJ (S:=fun u=>(u.cell? ⟨z,0,none⟩=some (.slice CA ts.length cc)∧u.cell? ⟨z,1,none⟩=some (.slice none 0 0)∧u.cell? ⟨z,2,none⟩=some (.slice none 0 0)∧u.cell? ⟨z,3,none⟩=some (.slice none 0 0)∧u.cell? ⟨z,4,none⟩=some (.slice none 0 0)∧u.cell? ⟨z,5,none⟩=some (.slice none 0 0)∧u.cell? ⟨z,6,none⟩=some (.slice none 0 0)∧u.cell? ⟨z,7,none⟩=some (.slice none 0 0))∧(u.cell? ⟨z6,0,none⟩=some (.int .i64 0)∧u.cell? ⟨z6,1,none⟩=some (.int .i64 (l.length:Int))∧u.cell? ⟨z6,2,none⟩=some (.slice EA l.length ec))∧(u.cell? ⟨z7,0,none⟩=some (.int .i64 (m:Int))∧u.cell? ⟨z7,1,none⟩=some (.int .i64 (l.length:Int))∧u.cell? ⟨z7,2,none⟩=some (.slice KA ks.length kc))) [] fy (HSS.out _ hWd) (fun hHeld =>?_)
  refine tkT 0 hHeld ?_ (hQ:=hqA)
  refine tkT 1 hHeld ?_ (hQ:=hqA)
  refine tkT 2 hHeld ?_ (hQ:=hqA)
  refine tkT 3 hHeld ?_ (hQ:=hqA)
  refine tkT 4 hHeld ?_ (hQ:=hqA)
  refine tkT 5 hHeld ?_ (hQ:=hqA)
  refine tkT 7 hHeld ?_ (hQ:=hqA)
  refine tkT 8 hHeld ?_ (hQ:=hqA)
  refine tkT 9 hHeld ?_ (hQ:=hqA)
  refine r1T 6 (fun K hK =>?_)
  go_simp
  (go_at_call 12;(with_reducible refine(rV CA cc ts.length ts k (m:Int) (l.length:Int) KA kc ks.length ks _ (HT5.out.next hWd) rfl HS.out (HK5.out.next hWd) rfl PN.out HK8.out).mono ?_);rintro e v1 ⟨⟨YA,yc,ys,rfl,hyr,hyp⟩,hn1⟩)
  have hv1:Below w5.heap.size w5 v1:=aa hWd hn1 hWd.size
  have HYR:=qh hyr
  have HYP:=qh hyp
  clear hyr hyp
  go_wp2_with fail
  refine hK.out _ _ _ (HSS.out _ hv1) (fun hHeld =>?_)
  clear hK K
  refine r1T 10 (fun K hK =>?_)
  go_simp
  (go_at_call 12;(with_reducible refine(rV CA cc ts.length ts k 0 (l.length:Int) EA ec l.length (fe l) _ (HT5.out.next hv1) rfl HS.out (HE5.out.next hv1) HEL.out lM.out HE8.out).mono ?_);rintro e v2 ⟨⟨ZA,zc,zs,rfl,hzr,hzp⟩,hn2⟩)
  have hv2:Below w5.heap.size w5 v2:=aa hv1 hn2 hv1.size
  have HZR:=qh hzr
  have HZP:=qh hzp
  have Yj:=qh (HYR.out.next hn2)
  have HYZ:Hid (ys.map aA=zs.map aA):=qh (HYP.out.trans (VO.out.trans HZP.out.symm))
  have HLN:Hid ((∀r∈ys,r.row.length≤1000000∧r.seq.length≤1000000)∧ys.length≤1000000):=qh (by
   have hn8:=(lM.out.cat.ae hk).2
   obtain⟨⟨q,hq⟩,_⟩:=j5 lM.out.cat hk _ [] 0 (Good.nil _ _) (lT lM.out.ord lM.out.tab)
   have hyl:=HYP.out.trans VO.out
   have h:=hq.ok.len
   rw[←hyl,List.length_map]at h
   refine⟨fun r hr =>?_,by omega⟩
   have h:=uX hk hq hyl r hr
   omega)
  clear hzr hzp
  go_wp2_with fail
  refine hK.out _ _ _ (HSS.out _ hv2) (fun hHeld =>?_)
  clear hK K
  refine r1T 11 (fun K hK =>?_)
  go_simp
  (go_at_call 11;(with_reducible refine(lV YA ZA yc zc ys.length zs.length ys zs _ Yj.out HZR.out rfl rfl HLN.out.2 HLN.out.1 HYZ.out).mono ?_);rintro e v3 ⟨rfl,hn3⟩)
  have hv3:Below w5.heap.size w5 v3:=aa hv2 hn3 hv2.size
  go_wp2_with fail
  refine hK.out _ _ _ (HSS.out _ hv3) (fun hHeld =>?_)
  clear hK K
  refine tkT 12 hHeld ?_ (hQ:=hqA)
  refine tkT 13 hHeld ?_ (hQ:=hqA)
  refine aI fy ?_ _
  clear hHeld
  refine⟨rfl,bD ?_ ?_⟩
  ·kernel_rfl
  refine⟨rfl,?_⟩
  exact⟨rfl,hv3⟩
 rintro f w6 ⟨UR,hb6⟩
 simp only[setL,List.setIfInBounds_toArray,List.set_cons_zero,List.set_cons_succ]
 rw[UR]
 clear UR
 have hx6:Below w.heap.size w w6:=aa hx5 hb6 hx5.size
 have HC6:=qh (HC5.out.below hb6 OQ)
 have HS6:=qh (HS5.out.below hb6 Mh)
 have HG6:=qh (HG7.out.below hb6 Fv)
 have HT6:=qh (HT5.out.next hb6)
 have HL6:=qh (HL5.out.next hb6)
 have HE6:=qh (HE5.out.next hb6)
 have HK6:=qh (HK5.out.next hb6)
 have IG:=HG6.out.lt
 clear HSS HC5 HS5 HG7 HT5 HL5 HE5 HK5 OQ Mh Fv hWd
 go_wp2_with fail
 go_loopw [12,13] (fun v12 v13 wr =>∃i:Nat,i≤ks.length∧v13=.int .i64 i∧v12=.int .i64 ((min i n:Nat):Int)∧Below w6.heap.size w6 wr) (fun _ v13 _=>ks.length-(intOf v13).toNat)
 case atStart=>exact⟨0,Nat.zero_le _,rfl,by simp,Below.refl _ _⟩
 case round =>
  obtain⟨wo,rfl⟩:∃wo,wo=wr:=⟨_,rfl⟩
  obtain⟨i,hi,rfl,rfl,hbr⟩:=hrel
  have hwz:=hbr.size
  have g2:=(HG6.out.below hbr IG).cell 2
  simp only[gE3]at g2
  by_cases hlt:i<ks.length
  ·have hlt':decide (i<ks.length)=true:=by simpa using hlt
   have kG:decide ((i:Int)<(ks.length:Int))=true:=by simp;omega
   obtain⟨b5,o5,rfl,hb5,hc5⟩:=(HK6.out.1.below hbr).get hlt
   have c0:=hc5 0 _ rfl
   have hiff:=YU.out i hlt
   obtain⟨y,hy⟩:∃y,ks[i].off=y:=⟨_,rfl⟩
   rw[hy]at c0 hiff
   simp only[Nat.add_zero]at c0
   clear hc5 hy
   by_cases hin:i<n
   ·have hd:decide (y<(m:Int))=true:=by simpa using hiff.1 hin
    rw[show min i n=i by omega]
    clear hiff
    go_wp2_with fail
    go_roundw
    case rel=>exact⟨i+1,by omega,by go_num,by rw[show min (i+1) n=i+1 by omega];go_num,hbr⟩
    case measure=>exact meA
   ·have hd:decide (y<(m:Int))=false:=by
     have h:¬ y<(m:Int):=fun h=>hin (hiff.2 h)
     simpa using h
    rw[show min i n=n by omega]
    clear hiff
    go_wp2_with fail
    go_roundw
    case rel=>exact⟨i+1,by omega,by go_num,by rw[show min (i+1) n=n by omega],hbr⟩
    case measure=>exact meA
  ·have hlt':decide (i<ks.length)=false:=by simpa using hlt
   have kG:decide ((i:Int)<(ks.length:Int))=false:=by simp;omega
   rw[show min i n=n by omega]
   go_wp2_with fail
   have HSo:=qh (HS6.out.below hbr HS6.out.lt)
   have HEo:=qh (HE6.out.next hbr)
   have HLo:=qh (HL6.out.next hbr)
   have hxo:Below w.heap.size w wo:=aa hx6 hbr hx6.size
   have hsl:=HSo.out.lt
   clear g2 hlt' kG
   go_loopw [14,15] (fun v14 v15 wr =>∃(j:Nat) (OB:Option Addr) (ob:Nat),j≤m∧v15=.int .i64 j∧v14=.slice OB j ob∧aj wr wo.heap.size 52 Chg.cells 12 (.slice OB j ob) (l.take j)∧Below wo.heap.size wo wr) (fun _ v15 _=>m-(intOf v15).toNat)
   case atStart=>exact⟨0,none,0,Nat.zero_le _,rfl,rfl,aj.nil,Below.refl _ _⟩
   case round =>
    obtain⟨j,OB,ob,hj,rfl,rfl,hown,hbi⟩:=hrel
    have HOWN:=qh hown
    have hiz:=hbi.size
    have hxi:Below w.heap.size w wr:=aa hxo hbi hxo.size
    have l2:=(HSo.out.below hbi hsl).cell 2
    simp only[gE3]at l2
    clear hown
    have SF:Hid (∀i (hi:i<l.length),∃b5 o5,EA=some ⟨b5,o5,none⟩∧(wr.cell? ⟨b5,o5+i*15,none⟩=some (.int .i64 (i:Int))∧(wr.cell? ⟨b5,o5+i*15+1,none⟩=some (.int .i64 l[i].kind)∧wr.cell? ⟨b5,o5+i*15+2,none⟩=some (.int .i64 l[i].seq)∧wr.cell? ⟨b5,o5+i*15+3,none⟩=some (.int .i64 l[i].day)∧wr.cell? ⟨b5,o5+i*15+4,none⟩=some (.int .i64 l[i].table))∧wr.cell? ⟨b5,o5+i*15+5,none⟩=some (.slice l[i].A l[i].row.length l[i].cap)∧(wr.cell? ⟨b5,o5+i*15+6,none⟩=some (.int .i64 l[i].key.kind)∧wr.cell? ⟨b5,o5+i*15+7,none⟩=some (.int .i64 l[i].key.num)∧wr.cell? ⟨b5,o5+i*15+8,none⟩=some (.string l[i].key.text))∧wr.cell? ⟨b5,o5+i*15+9,none⟩=some (.int .i64 l[i].column)∧(wr.cell? ⟨b5,o5+i*15+10,none⟩=some (.int .i64 l[i].val.kind)∧wr.cell? ⟨b5,o5+i*15+11,none⟩=some (.int .i64 l[i].val.num)∧wr.cell? ⟨b5,o5+i*15+12,none⟩=some (.string l[i].val.text))∧wr.cell? ⟨b5,o5+i*15+13,none⟩=some (.slice none 0 0)∧wr.cell? ⟨b5,o5+i*15+14,none⟩=some (.slice none 0 0))):=qh (fun i hi=>by
     have hi2:i<(fe l).length:=by rw[HEL.out];exact hi
     obtain⟨b5,o5,hA,_,hc⟩:=(HEo.out.1.below hbi).get hi2
     have he:(fe l)[i]=⟨(i:Int),l[i]⟩:=by simp[fe]
     rw[he]at hc
     exact⟨b5,o5,hA,Ent.bZ hc⟩)
    by_cases hjm:j<m
    ·have hjl:j<l.length:=by omega
     have uD:decide (j<l.length)=true:=by simpa using hjl
     have zH:decide ((j:Int)<(l.length:Int))=true:=by simp;omega
     have ZR:decide ((j:Int)<(m:Int))=true:=by simp;omega
     obtain⟨b5,o5,rfl,hc5⟩:=SF.out j hjl
     have HTK:Hid (l.take (j+1)=l.take j ++ [l[j]]):=qh (List.take_succ_eq_append_getElem hjl)
     obtain⟨⟨kd,sq,dy,tb,XA,xc,row,key,cl,vl⟩,hx⟩:∃x,l[j]=x:=⟨_,rfl⟩
     rw[hx]at hc5 HTK
     obtain⟨c0,⟨c1,c2,c3,c4⟩,c5,⟨c6,c7,c8⟩,c9,⟨c10,c11,c12⟩,c13,c14⟩:=hc5
     simp only at c0 c1 c2 c3 c4 c5 c6 c7 c8 c9 c10 c11 c12 c13 c14
     have hlen:(l.take j).length=j:=by rw[List.length_take];omega
     have HLEN:=qh hlen
     clear hlen hx
     go_wp2_with (at_builtin;go_must (refine aO _ rfl (.tmp 97) (.tmp 104) 34 rfl 52 ic _ Chg.cells 12 128 Tryz.underlying34 hic lL lK lJ rfl (by omega) eu iI wo.heap.size (.slice OB j ob) (l.take j) rfl (HOWN.out.alloc _) _ _ _ [(⟨kd,sq,dy,tb,XA,xc,row,key,cl,vl⟩:Chg)] rfl rfl (Blk.one (enc:=Chg.cells) (x:=⟨kd,sq,dy,tb,XA,xc,row,key,cl,vl⟩) (Blk.new' rfl) (by simp)) (by have:=HLEN.out;simp;omega) (by have:=HLEN.out;simp[maxLen];omega) (by simp;omega) ?_);intro v6 w7 hown6 hg7 IW;obtain⟨A6,c6,hv6,_,_⟩:=hown6.form;subst hv6;have HW7:=qh hown6;have HG7:=qh hg7;clear hown6 hg7 IW)
     go_roundw
     case rel=>exact⟨j+1,A6,c6,by omega,by go_num,by simp;omega,(by have h:=HW7.out;rw[←HTK.out,show (l.take (j+1)).length=j+1 from by rw[List.length_take];omega]at h;exact h),Below.grown (hbi.alloc hiz _) HG7.out (by simp;omega) (fun q e=>HOWN.out.row q e)⟩
     case measure=>exact meA
    ·obtain rfl:m=j:=by omega
     go_upto_region 17 with (fail)
     refine gX .normal [80,81,82,83,84,85,86,87,88,89,90,91,92,93,94] (fun f w'=>f 94=.bool false∧w'=wr) ?_ ?_
     ·by_cases hjl:m<l.length
      ·have uD:decide (m<l.length)=true:=by simpa using hjl
       have zH:decide ((m:Int)<(l.length:Int))=true:=by simp;omega
       obtain⟨b5,o5,rfl,hc5⟩:=SF.out m hjl
       have c0:=hc5.1
       clear hc5
       go_wp2_with fail
       (try refine⟨trivial,?_⟩)
       refine bD ?_ ?_
       ·kernel_rfl
       ·first
         | rfl
         | exact⟨rfl,rfl⟩
      ·have uD:decide (m<l.length)=false:=by simpa using hjl
       have zH:decide ((m:Int)<(l.length:Int))=false:=by simp;omega
       go_wp2_with fail
       (try refine⟨trivial,?_⟩)
       refine bD ?_ ?_
       ·kernel_rfl
       ·first
         | rfl
         | exact⟨rfl,rfl⟩
     rintro f9 w9 ⟨MF,rfl⟩
     simp only[setL,List.setIfInBounds_toArray,List.set_cons_zero,List.set_cons_succ]
     rw[MF]
     clear MF
     have Wq:Hid (dQ w9 w9.heap.size OB (l.take m)):=qh ⟨by
      have h:=HOWN.out
      have e:m=(l.take m).length:=by rw[List.length_take];omega
      rw[show (Value.slice OB m ob)=.slice OB (l.take m).length ob by rw[←e]]at h
      exact dM eu h,fun x hx=>(HLo.out.2 x (List.mem_of_mem_take hx)).next hbi⟩
     have h69:Below w6.heap.size w6 w9:=aa hbr hbi hwz
     have HC9:=qh (HC6.out.below h69 HC6.out.lt)
     have HS9:=qh (HSo.out.below hbi hsl)
     have HG9:=qh (HG6.out.below h69 IG)
     have HT9:=qh (HT6.out.next h69)
     have HE9:=qh (HEo.out.next hbi)
     have HK9:=qh (HK6.out.next h69)
     clear l2 HC6 HS6 HG6 HT6 HL6 HE6 HK6 HSo HEo HLo hsl IG
     obtain⟨p0,p1,p2,p3,p4,p5,p6,p7⟩:=Cat.blk HC9.out
     have Xo:decide (k<ts.length)=true:=by simpa using hk
     go_upto_region 21 with (go_at_call 13;(with_reducible refine(mI CA cc ts.length ts OB ob m (l.take m) _ HT9.out rfl HS.out HO.out.cat Wq.out (by rw[List.length_take];omega) (by omega) (fun x hx=>Nat.le_trans (H8.out x (List.mem_of_mem_take hx)) (by omega))).mono ?_);rintro e w10 ⟨⟨XA,xc,rt,rfl,hrl,hrt,hru,hrs,hpu⟩,qa⟩;have hkr:k<rt.length:=(by omega);obtain⟨b5,o5,hRA,XY,hc5⟩:=hrt.1.get hkr;have r0:=hc5 0 _ rfl;have hr3:=hrt.2 rt[k] (lgm hkr);have jr:=qh (qp hpu HRK.out hkr);obtain⟨⟨TA,tc,Cn⟩,hy⟩:∃x:RTab,rt[k]=x:=⟨_,rfl⟩;rw[hy]at r0 hr3 jr;simp only[Nat.mul_one,Nat.add_zero,Nat.zero_add]at r0 hr3 jr;subst hRA;clear hc5 hr3 hy hrt hru hrs hpu)
     have SQ:=qh (HC9.out.below qa HC9.out.lt)
     have JX:=qh (HS9.out.below qa HS9.out.lt)
     have JZ:=qh (HG9.out.below qa HG9.out.lt)
     have VJ:=qh (HT9.out.next qa)
     have Wn:=qh (HE9.out.next qa)
     have V8:=qh (HK9.out.next qa)
     have Tx:Below w.heap.size w w10:=aa hxi qa hxi.size
     have HTQ:Hid (Cn.length=(gG (iG l) m).length):=qh (by rw[←jr.out,List.length_map])
     clear p0 p1 p2 p3 p4 p5 p6 p7 r0 HC9 HS9 HG9 HT9 HE9 HK9 Wq SF jr hrl
     have GK:=JX.out.lt
     have GQ:=JZ.out.lt
     have hWd:Below w10.heap.size w10 w10.drew:=brf.drew
     have HSS:Hid (∀V,Below w10.heap.size w10 V→(V.cell? ⟨z6,0,none⟩=some (.int .i64 0)∧V.cell? ⟨z6,1,none⟩=some (.int .i64 (l.length:Int))∧V.cell? ⟨z6,2,none⟩=some (.slice EA l.length ec))∧(V.cell? ⟨z7,0,none⟩=some (.int .i64 (m:Int))∧V.cell? ⟨z7,1,none⟩=some (.int .i64 (l.length:Int))∧V.cell? ⟨z7,2,none⟩=some (.slice KA ks.length kc))):=qh (fun V hV=>⟨⟨(JX.out.below hV GK).cell 0,(JX.out.below hV GK).cell 1,(JX.out.below hV GK).cell 2⟩,(JZ.out.below hV GQ).cell 0,(JZ.out.below hV GQ).cell 1,(JZ.out.below hV GQ).cell 2⟩)
     have HD7:=qh (V8.out.1.M9 n)
     have HD6:=qh (Wn.out.1.M9 m)
     obtain⟨RS,hRS⟩:∃RS:(Nat→Value)→World→Prop,RS=fun f w' =>∃(g:Nat) (DA:Option Addr) (dc:Nat),f 17=.pointer (some ⟨g,0,none⟩)∧Blk w' g 39 #[.int .i64 (m:Int),.int .i64 (l.length:Int),.slice DA (ks.length-n) dc]∧ag w10 w10.heap.size Ent.cells 15 DA (ks.drop n)∧Below w10.heap.size w10 w':=⟨_,rfl⟩
     have HRS:=qh hRS
     clear hRS
     refine gX .normal [17,112,113,114,115,116,117,118,119] RS ?_ ?_
     ·by_cases hkn:kc=n
      ·have hdr:ks.drop n=[]:=List.drop_eq_nil_of_le (by omega)
       have hkn2:=hkn.symm
       subst hkn2
       refine aJ (S:=fun u=>(u.cell? ⟨z6,0,none⟩=some (.int .i64 0)∧u.cell? ⟨z6,1,none⟩=some (.int .i64 (l.length:Int))∧u.cell? ⟨z6,2,none⟩=some (.slice EA l.length ec))∧(u.cell? ⟨z7,0,none⟩=some (.int .i64 (m:Int))∧u.cell? ⟨z7,1,none⟩=some (.int .i64 (l.length:Int))∧u.cell? ⟨z7,2,none⟩=some (.slice KA ks.length n))) [] fy (HSS.out _ hWd) (fun hHeld =>?_)
       exact lsc_1
      ·have hdr:= 0
       refine aJ (S:=fun u=>(u.cell? ⟨z6,0,none⟩=some (.int .i64 0)∧u.cell? ⟨z6,1,none⟩=some (.int .i64 (l.length:Int))∧u.cell? ⟨z6,2,none⟩=some (.slice EA l.length ec))∧(u.cell? ⟨z7,0,none⟩=some (.int .i64 (m:Int))∧u.cell? ⟨z7,1,none⟩=some (.int .i64 (l.length:Int))∧u.cell? ⟨z7,2,none⟩=some (.slice KA ks.length kc))) [] fy (HSS.out _ hWd) (fun hHeld =>?_)
       exact lsc_1
     rintro f17 w11 hf
     rw[HRS.out]at hf
     obtain⟨g,DA,dc,UU,Sb,hds,oq⟩:=hf
     simp only[setL,List.setIfInBounds_toArray,List.set_cons_zero,List.set_cons_succ]
     rw[UU]
     clear UU HRS
     have Y1:=qh Sb
     have HDA:=qh hds
     have hgl:=Sb.lt
     have Tw:Below w.heap.size w w11:=aa Tx oq Tx.size
     have PD:=qh (JX.out.below oq GK)
     have Wl:=qh (JZ.out.below oq GQ)
     have Ws:=qh (SQ.out.below oq SQ.out.lt)
     have Yq:=qh (VJ.out.next oq)
     have Mi:=PD.out.lt
     clear HSS hWd Sb hds SQ JX JZ VJ
     have hWd:Below w11.heap.size w11 w11.drew:=brf.drew
     have HSS:Hid (∀V,Below w11.heap.size w11 V→(V.cell? ⟨z6,0,none⟩=some (.int .i64 0)∧V.cell? ⟨z6,1,none⟩=some (.int .i64 (l.length:Int))∧V.cell? ⟨z6,2,none⟩=some (.slice EA l.length ec))):=qh (fun V hV=>⟨(PD.out.below hV Mi).cell 0,(PD.out.below hV Mi).cell 1,(PD.out.below hV Mi).cell 2⟩)
     obtain⟨RS,hRS⟩:∃RS:(Nat→Value)→World→Prop,RS=fun f w' =>∃(g:Nat) (DA:Option Addr) (dc:Nat),f 18=.pointer (some ⟨g,0,none⟩)∧Blk w' g 39 #[.int .i64 (m:Int),.int .i64 (l.length:Int),.slice DA (l.length-m) dc]∧ag w10 w10.heap.size Ent.cells 15 DA ((fe l).drop m)∧Below w11.heap.size w11 w':=⟨_,rfl⟩
     have HRS:=qh hRS
     clear hRS
     go_upto_region 22 with (fail)
     refine gX .normal [18,120,121,122,123,124,125,126,127,128] RS ?_ ?_
     ·by_cases hkn:ec=m
      ·have hdr:(fe l).drop m=[]:=List.drop_eq_nil_of_le (by rw[HEL.out];omega)
       have hkn2:=hkn.symm
       subst hkn2
       refine aJ (S:=fun u=>(u.cell? ⟨z6,0,none⟩=some (.int .i64 0)∧u.cell? ⟨z6,1,none⟩=some (.int .i64 (l.length:Int))∧u.cell? ⟨z6,2,none⟩=some (.slice EA l.length m))) [] fy (HSS.out _ hWd) (fun hHeld =>?_)
       exact lsc_0
      ·have hdr:= 0
       refine aJ (S:=fun u=>(u.cell? ⟨z6,0,none⟩=some (.int .i64 0)∧u.cell? ⟨z6,1,none⟩=some (.int .i64 (l.length:Int))∧u.cell? ⟨z6,2,none⟩=some (.slice EA l.length ec))) [] fy (HSS.out _ hWd) (fun hHeld =>?_)
       exact lsc_0
     rintro f18 w12 hf
     rw[HRS.out]at hf
     obtain⟨g2,DB,db,UT,O6,UX,IV⟩:=hf
     simp only[setL,List.setIfInBounds_toArray,List.set_cons_zero,List.set_cons_succ]
     rw[UT]
     clear UT HRS
     have Tv:Below w.heap.size w w12:=aa Tw IV Tw.size
     have BI:Below w10.heap.size w10 w12:=aa oq IV oq.size
     have S9:=qh (Y1.out.below IV hgl)
     have NK:=qh (Wl.out.below IV Wl.out.lt)
     have YZ:=qh (Ws.out.below IV Ws.out.lt)
     have Yp:=qh (Yq.out.next IV)
     have HDB:=qh UX
     have UL:=NK.out.lt
     have q0:=YZ.out.cell 0
     have t0:=S9.out.cell 0
     have t1:=S9.out.cell 1
     have t2:=S9.out.cell 2
     have e0:=O6.cell 0
     have e1:=O6.cell 1
     have e2:=O6.cell 2
     simp only[gE3]at q0 t0 t1 t2 e0 e1 e2
     obtain⟨b5,o5,hCA,_,hc5⟩:=Yp.out.1.get hk
     have d1:=hc5 1 _ rfl
     obtain⟨cq,hcq⟩:∃cq,ts[k].ae.length=cq:=⟨_,rfl⟩
     obtain⟨rq,hrq⟩:∃rq,Cn.length=rq:=⟨_,rfl⟩
     have hnq:n≤rq*cq:=by
      have h:=YW.out
      rw[←HTQ.out,hcq,hrq]at h
      exact h
     have XH:cq≤8:=by rw[←hcq];exact(lM.out.cat.ae hk).2
     have WW:rq≤64:=by
      have ha:=lT lM.out.ord lM.out.tab
      rw[lu]at ha
      obtain⟨q',hg⟩:=sj lM.out.cat hk ha m
      rw[←hrq,HTQ.out]
      exact hg.ok.len
     obtain⟨qq,hmul,Z8,Z7⟩:=Lh hnq WW XH
     rw[hcq]at d1
     rw[hrq]
     subst hCA
     clear hc5 hcq hrq O6 UX hnq
     have H1:Hid (di w12 w12.heap.size DA (ks.drop n)):=qh ⟨HDA.out.next BI,fun x hx=>(V8.out.2 x (List.mem_of_mem_drop hx)).next BI⟩
     have H2:Hid (di w12 w12.heap.size DB ((fe l).drop m)):=qh ⟨HDB.out.next BI,fun x hx=>(Wn.out.2 x (List.mem_of_mem_drop hx)).next BI⟩
     have H3:Hid (((fe l).drop m).length=l.length-m):=qh (by rw[List.length_drop,HEL.out])
     go_wp2_with (first
      | (go_at_call 14;(with_reducible refine(zn (m:Int) (l.length:Int) DA DB dc db (ks.length-n) (l.length-m) (ks.drop n) ((fe l).drop m) _ H1.out H2.out List.length_drop H3.out (by omega) (fun x hx=>Nat.le_trans (HK8.out x (List.mem_of_mem_drop hx)) (by omega)) Wo.out).mono ?_);rintro e w13 ⟨rfl,Vb⟩;have x0:=(NK.out.below Vb UL).cell 0;simp only[gE3]at x0)
      | (go_at_call 7;(with_reducible refine(l6 _).mono ?_);rintro e w14 ⟨rfl,XZ⟩))
     go_ret
     have Tu:Below w.heap.size w w13:=aa Tv Vb Tv.size
     exact⟨rfl,aa Tu XZ Tu.size⟩
end Go.Proofs.YtjidligipoldeaaGreat
namespace Go.Proofs.YtjidligipoldeaaGreat.streamCompacts
open Go.ChangeShapes Go.WideShapes Go.ChangeAt Go.RowKit
theorem own:ownKnob Tryz.prog.godebug=none:=by kernel_rfl
theorem laidOut:laidOutB Tryz.prog=true:=by kernel_rfl
theorem bytesInt:Tryz.prog.bytesOf 3=8:=by kernel_rfl
theorem lifted(os:Os)(started:os.Started)(H:Type)(enc:TypeId × Value→H):
 ReturnsInHanded {} Tryz.checked os 3 .any (Rows.streamCompactsSpec.pre6 enc Tryz.prog Tryz.f3 Rows.streamCompactsRow.domain false) (Rows.streamCompactsSpec.post enc Tryz.prog Tryz.f3 false true false false):=by
 refine returnsInHanded_of_change_sized (C:=Tryz.checked) own started fy Tryz.func3
  (ChangeSpec.witness6 (enc:=enc) (C:=Tryz.checked) false ⟨#[],#[.slice none 0 0,.int .i64 0],[]⟩ 8 fy fy fy fy) ?_
 intro W base args ds gs before hval0 hW hcnd hsz0 _
 have hval:∀(j:Nat) t v,Tryz.f3.params[j]?=some t→args[j]?=some v→Value.okWide Tryz.prog W .any base t v:=hval0
 have hsz:(DataW.weightsEach Tryz.prog (Tryz.f3.params.toList++Rows.streamCompactsSpec.plain.varTypes Tryz.prog) (ds++gs)).all (· ≤ reachBytes)=true:=hsz0
 have hW':=hW
 obtain⟨p,q,hA0,hV,rfl,hfz,hnd⟩:=hW
 have hA:DataW.TrodAll enc Tryz.prog W 0 (fun _=>true) true Tryz.f3.params.toList args.toList ds p:=hA0
 rw[Tryz.params3]at hA hval hsz
 obtain⟨v0,vs0,d0,ds0,p0,q0,hargs,rfl,rfl,h0,r0⟩:=trodAll_cons hA
 obtain⟨v1,vs1,d1,ds1,p1,q1,rfl,rfl,rfl,h1,r1⟩:=trodAll_cons r0
 obtain⟨rfl,rfl,rfl⟩:=trodAll_nil r1
 obtain rfl:args=#[v0,v1]:=by cases args;simp_all
 obtain⟨rfl,rfl⟩:=trodVars_none hV
 obtain⟨a0,Lx,cap0,rfl⟩:=okWide_slice Tryz.underlying22 (hval 0 22 v0 rfl rfl)
 obtain⟨tz,rfl,rfl,rfl,w1⟩:=open_int Tryz.underlying3 (hval 1 3 v1 rfl rfl) h1
 have k0:=h0
 have lt0:∀x∈p0,x.block<W.heap.size:=by obtain⟨m,hm⟩:=k0;exact DataW.trod_lt m _ _ _ hm
 obtain⟨t,htl,hts,ht8⟩:∃t:List Int,t.length=Lx∧ag W W.heap.size intCells 1 a0 t∧t.length*8≤140737488351232:=by
  obtain⟨fuel,hf⟩:=h0
  rcases open_ints Tryz.underlying22 Tryz.underlying3 fy hf with ⟨hcs,_⟩|⟨x,l,c,zs,hcs,_,hl,hm,hz,hx,hcell,hwz⟩
  ·simp[Value.cells]at hcs
   obtain⟨rfl,rfl,rfl⟩:=hcs
   exact⟨[],rfl,ag.nil,by simp⟩
  ·simp[Value.cells]at hcs
   obtain⟨rfl,rfl,rfl⟩:=hcs
   simp only[Prod.mk.injEq]at hx
   obtain⟨rfl,_⟩:=hx
   have hs:=sized_slice hsz (j:= 0) (t:= 22) (e:= 3) rfl rfl Tryz.underlying22
   rw[bytesInt]at hs
   simp only[lits,List.length_map,List.length_take,List.length_drop,reachBytes]at hs
   have hzl:zs.length=cap0:=by simpa using hz
   refine⟨zs.take Lx,by simp;omega,fun h =>?_,by simp;omega⟩
   have h1:0<zs.length:=by simp at h;omega
   obtain⟨xb,xo,xs⟩:=x
   have hc0:=hcell 0 h1
   have hsp:xs=none:=by
    cases xs with
    | none=>rfl
    | some y =>
      simp only[Addr.add,World.cell?,Option.isSome_some,if_true]at hc0
      split at hc0<;>simp at hc0
   subst hsp
   have hlt:xb<W.heap.size:=by
    rcases Nat.lt_or_ge xb W.heap.size with h|h
    ·exact h
    ·simp[Addr.add,World.cell?,Array.getElem?_eq_none h]at hc0
   refine⟨xb,xo,rfl,hlt,fun i hi j u hu =>?_⟩
   have hj:j=0:=by have:=(List.getElem?_eq_some_iff.1 hu).1;simp[intCells]at this;omega
   subst hj
   have hil:i<zs.length:=by simp at hi;omega
   have:=hcell i hil
   simp only[intCells,List.getElem?_cons_zero,Option.some.injEq]at hu
   subst hu
   rw[List.getElem_take]
   rw[List.getD_eq_getElem?_getD,List.getElem?_eq_getElem hil]at this
   unfold Addr.add at this
   split at this
   ·rename_i h0;subst h0;simpa using this
   ·simpa using this
 clear hA0 hval0
 subst htl
 refine(EH a0 cap0 t tz W hts ht8).mono fun e W' ⟨he,bel⟩ =>?_
 subst he
 exact⟨_,rfl,_,_,_,[],_,[],hW',trodAll_mk1 (shut_bool Tryz.underlying4 _),(trodAll_cons_mk (Below.trod laidOut fy (of_decide_eq_true fy) k0 bel lt0) (trodAll_cons_mk (shut_int Tryz.underlying3 w1) trodAll_mk0)),rfl,bel.frame _,fun h=>by cases h⟩
theorem facts:joinedFacts Tryz.pinned.checked.prog 3 Tryz.f3 Rows.streamCompactsSpec Rows.streamCompactsRow=true:=by
 unfold joinedFacts
 repeat' (with_reducible refine(Bool.and_eq_true _ _).mpr ⟨?_,?_⟩)
 all_goals(as_aux_lemma=>kernel_rfl)
theorem over:Rows.streamCompactsRow.holds Tryz.pinned (OpenSpec.ofChange Rows.streamCompactsSpec):=
 OpenClaim.holds_of_wide 3 Tryz.f3 rfl rfl rfl rfl rfl rfl rfl ⟨rfl,rfl,rfl,rfl,rfl⟩ rfl rfl rfl rfl rfl fy Tryz.func3 facts
  (of_decide_eq_true fy) (by unfold Func.isWrapper;first|(rw[if_pos (by decide +kernel)];kernel_rfl)|(rw[if_neg (by decide +kernel)];exact⟨rfl,rfl⟩))
  (fun os started H enc _=>lifted os started H enc)
theorem proved:Rows.StreamCompactsSaid:=over
#print axioms proved
end Go.Proofs.YtjidligipoldeaaGreat.streamCompacts
