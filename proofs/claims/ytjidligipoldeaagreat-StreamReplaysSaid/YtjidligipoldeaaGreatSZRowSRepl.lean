/-
  For every list of numbers the law StreamReplays returns true: the log of the changes of a table contains these changes, and is replayed to this table. No condition.
-/
import Derived.Test.YtjidligipoldeaaGreatS84
import Derived.Test.YtjidligipoldeaaGreatS81
import Derived.Test.YtjidligipoldeaaGreatS90
import Derived.Test.YtjidligipoldeaaGreatRows
import Derived.ProofKit
import Derived.OpenShut
import Derived.ShutString
set_option linter.unusedVariables false
set_option linter.unusedSimpArgs false
set_option maxRecDepth 100000
set_option maxHeartbeats 16000000
set_option maxRecDepth 100000
namespace Go.Proofs.YtjidligipoldeaaGreat
open Go.RowKit Go Go.Shelf
theorem fl{P:Prop}(h:P:=by kernel_rfl):P:=h
attribute [local go_sem] Oper.semAt_some
theorem ER(A:Option Addr)(c:Nat)(t:List Int)(w:World)(hl:ag w w.heap.size intCells 1 A t)(hn:t.length*8≤140737488351232):
 Calls Tryz.prog 5 #[.slice A t.length c] w fun e w'=>e=.returned (.bool true)∧Below w.heap.size w w':=by
 have HL0:=qh hl
 clear hl
 go_enter Tryz.func5,Tryz.ntmps5
 by_cases Cf:100<t.length
 ·have P9:decide (100<t.length)=true:=by simpa using Cf
  have P8:decide ((100:Int)<(t.length:Int))=true:=by simp;omega
  go_wp2_with (go_at_call 7;(with_reducible refine(vL _).mono ?_);rintro e w1 ⟨rfl,hb1⟩)
  go_ret
  exact⟨rfl,hb1⟩
 have P9:decide (100<t.length)=false:=by simpa using Cf
 have P8:decide ((100:Int)<(t.length:Int))=false:=by simp;omega
 go_upto_region 4 with (go_at_call 8;(with_reducible refine(E9 A c t _ HL0.out hn).mono ?_);rintro e w1 ⟨⟨CA,cc,ts,k,OA,oc,l,rfl,ht,hs,hk,hl,ho,htb,Ze,h8⟩,hb1⟩)
 obtain⟨z,hz⟩:∃z,w1.heap.size=z:=⟨_,rfl⟩
 have HZZ:=qh hz
 rw[hz]
 refine aj (P:=fun u=>Code.wp _ _ _ _ u) (R:=fun u=>Blk u z 33 #[.slice CA ts.length cc,.slice none 0 0,.slice none 0 0,.slice none 0 0,.slice none 0 0,.slice none 0 0,.slice none 0 0,.slice none 0 0]∧Below z w1 u) ⟨?_,?_⟩ ?_
 ·exact Blk.new' hz
 ·rw[←hz];exact ak
 rintro W ⟨hC,hbW⟩
 rw[←HZZ.out]at hbW
 have HT:=qh ht
 have HS:=qh hs
 have HL:=qh hl
 have HO:=qh ho
 have HTB:=qh htb
 have H8:=qh h8
 have HC:=qh hC
 have hcl:=hC.lt
 have hxW:Below w.heap.size w W:=aa hb1 hbW hb1.size
 have HT:Hid (aF W W.heap.size CA ts):=qh (HT.out.next hbW)
 have HL:Hid (fJ W W.heap.size OA l):=qh (HL.out.next hbW)
 clear ht hs hl ho htb h8 hC hz Cf P9 P8 HL0
 have HSS:Hid (∀V,Below W.heap.size W V→(V.cell? ⟨z,0,none⟩=some (.slice CA ts.length cc)∧V.cell? ⟨z,1,none⟩=some (.slice none 0 0)∧V.cell? ⟨z,2,none⟩=some (.slice none 0 0)∧V.cell? ⟨z,3,none⟩=some (.slice none 0 0)∧V.cell? ⟨z,4,none⟩=some (.slice none 0 0)∧V.cell? ⟨z,5,none⟩=some (.slice none 0 0)∧V.cell? ⟨z,6,none⟩=some (.slice none 0 0)∧V.cell? ⟨z,7,none⟩=some (.slice none 0 0))):=qh (fun V hV=>Cat.blk (HC.out.below hV hcl))
 have hWd:Below W.heap.size W W.drew:=brf.drew
 obtain⟨RS,hRS⟩:∃RS:(Nat→Value)→World→Prop,RS=fun f w' =>∃(g:Nat) (SA:Option Addr) (sc:Nat) (es:List Ent),f 6=.pointer (some ⟨g,0,none⟩)∧f 7=.bool true∧W.heap.size≤g∧Blk w' g 39 #[.int .i64 0,.int .i64 (l.length:Int),.slice SA es.length sc]∧dM w' W.heap.size SA sc es∧es.map Ent.p=og l∧Below W.heap.size W w':=⟨_,rfl⟩
 have HRS:=qh hRS
 clear hRS
 refine lV .normal [6,7,21,22,23,24,25,26,27,28] RS ?_ ?_
 ·refine aO (S:=fun u=>(u.cell? ⟨z,0,none⟩=some (.slice CA ts.length cc)∧u.cell? ⟨z,1,none⟩=some (.slice none 0 0)∧u.cell? ⟨z,2,none⟩=some (.slice none 0 0)∧u.cell? ⟨z,3,none⟩=some (.slice none 0 0)∧u.cell? ⟨z,4,none⟩=some (.slice none 0 0)∧u.cell? ⟨z,5,none⟩=some (.slice none 0 0)∧u.cell? ⟨z,6,none⟩=some (.slice none 0 0)∧u.cell? ⟨z,7,none⟩=some (.slice none 0 0))) [] fl (HSS.out _ hWd) (fun hHeld =>?_)
  refine tkT 0 hHeld ?_ (hQ:=by exact fun c a w h=>nomatch h.1)
  refine tkT 1 hHeld ?_ (hQ:=by exact fun c a w h=>nomatch h.1)
  refine tkT 3 hHeld ?_ (hQ:=by exact fun c a w h=>nomatch h.1)
  refine r2T 2 8 (fun K hK =>?_) (fun K hK =>?_)
  ·go_simp
   (go_at_call 17;(with_reducible refine(nC _).mono ?_);rintro e v1 ⟨rfl,hn1⟩)
   have hv1:Below W.heap.size W v1:=aa hWd hn1 (hWd).size
   go_wp2_with fail
   refine hK.out _ _ _ (HSS.out _ hv1) (fun hHeld =>?_)
   clear hK K
   refine r2T 4 8 (fun K hK =>?_) (fun K hK =>?_)
   ·go_simp
    (go_at_call 16;(with_reducible refine(kU CA cc ts.length ts k OA oc l.length l _ (HT.out.next hv1) rfl HS.out hk (HL.out.next hv1) rfl (by omega) HO.out HTB.out H8.out).mono ?_);rintro e v2 ⟨⟨SA,sc,es,rfl,hm3,ho3⟩,hb3⟩)
    have hv2:Below W.heap.size W v2:=aa hv1 hb3 (hv1).size
    have HM3:=qh hm3
    have HO3:Hid (dM v2 W.heap.size SA sc es):=qh (ho3.mono (hv1).size)
    clear hm3 ho3
    go_wp2_with fail
    refine hK.out _ _ _ (HSS.out _ hv2) (fun hHeld =>?_)
    clear hK K
    refine tkT 5 hHeld ?_ (hQ:=by exact fun c a w h=>nomatch h.1)
    refine tkT 6 hHeld ?_ (hQ:=by exact fun c a w h=>nomatch h.1)
    refine tkT 7 hHeld ?_ (hQ:=by exact fun c a w h=>nomatch h.1)
    refine r1T 8 (fun K hK =>?_)
    go_simp
    refine hK.out _ _ _ (HSS.out _ (by have:=(hv2).size;first|exact(hv2).alloc this _|exact ak)) (fun hHeld =>?_)
    clear hK K
    generalize hg:(v2).heap.size=g
    generalize hwe:World.alloc (v2) _=v3
    have hab:Below (v2).heap.size (v2) v3:=by rw[←hwe];exact ak
    have hv3:Below W.heap.size W v3:=aa hv2 hab (hv2).size
    have HG:Hid (Blk v3 g 39 #[.int .i64 0,.int .i64 0,.slice none 0 0]):=qh (by rw[←hwe];exact Blk.new' hg)
    have hgu:W.heap.size≤g:=by rw[←hg];exact(hv2).size
    clear hwe
    (replace HO3:=qh (HO3.out.below hab))
    have gf:=fun j=>HG.out.frozen j
    have g0:=HG.out.cell 0
    have g1:=HG.out.cell 1
    have g2:=HG.out.cell 2
    simp only[gE3]at g0 g1 g2
    refine r1T 9 (fun K hK =>?_)
    go_simp
    have hbg:∀X,X=(((v3).setCell ⟨g,0,none⟩ (.int .i64 0)).setCell ⟨g,1,none⟩ (.int .i64 (l.length:Int))).setCell ⟨g,2,none⟩ (.slice SA es.length sc)→Below W.heap.size W X:=fun X hX=>by
     rw[hX]
     iterate 3 (refine Below.setCell ?_ (show W.heap.size≤g from hgu) _)
     exact hv3
    refine hK.out _ _ _ (HSS.out _ (hbg _ rfl)) (fun hHeld =>?_)
    clear hK K
    refine tkT 10 hHeld ?_ (hQ:=by exact fun c a w h=>nomatch h.1)
    refine aM fl ?_ _
    clear hHeld
    refine⟨rfl,bT ?_ ?_⟩
    ·kernel_rfl
    refine⟨rfl,?_⟩
    rw[HRS.out]
    refine⟨g,SA,sc,es,rfl,rfl,hgu,?_,?_,HM3.out,hbg _ rfl⟩
    ·have h:=((HG.out.aH 0 (.int .i64 0)).aH 1 (.int .i64 (l.length:Int))).aH 2 (.slice SA es.length sc)
     simpa using h
    ·have n1:=HO3.out.own.aU HG.out (by decide)
     refine⟨?_,fun x hx =>?_,HO3.out.len⟩
     ·iterate 3 (refine ah.far ?_ n1 _)
      exact HO3.out.own
     ·have m1:=(HO3.out.rows x hx).aU HG.out (by decide)
      iterate 3 (refine ah.far ?_ m1 _)
      exact HO3.out.rows x hx
   ·go_simp
    refine hK.out _ _ _ (HSS.out _ (by have:=(hv1).size;first|exact(hv1).alloc this _|exact ak)) (fun hHeld =>?_)
    clear hK K
    generalize hg:(v1).heap.size=g
    generalize hwe:World.alloc (v1) _=v2
    have hab:Below (v1).heap.size (v1) v2:=by rw[←hwe];exact ak
    have hv2:Below W.heap.size W v2:=aa hv1 hab (hv1).size
    have HG:Hid (Blk v2 g 39 #[.int .i64 0,.int .i64 0,.slice none 0 0]):=qh (by rw[←hwe];exact Blk.new' hg)
    have hgu:W.heap.size≤g:=by rw[←hg];exact(hv1).size
    clear hwe
    have hgl:g<v2.heap.size:=HG.out.lt
    refine r1T 4 (fun K hK =>?_)
    go_simp
    (go_at_call 16;(with_reducible refine(kU CA cc ts.length ts k OA oc l.length l _ (HT.out.next hv2) rfl HS.out hk (HL.out.next hv2) rfl (by omega) HO.out HTB.out H8.out).mono ?_);rintro e v3 ⟨⟨SA,sc,es,rfl,hm3,ho3⟩,hb3⟩)
    have hv3:Below W.heap.size W v3:=aa hv2 hb3 (hv2).size
    have HM3:=qh hm3
    have HO3:Hid (dM v3 W.heap.size SA sc es):=qh (ho3.mono (hv2).size)
    clear hm3 ho3
    go_wp2_with fail
    refine hK.out _ _ _ (HSS.out _ hv3) (fun hHeld =>?_)
    clear hK K
    (replace HG:=qh (HG.out.below hb3 hgl))
    refine tkT 5 hHeld ?_ (hQ:=by exact fun c a w h=>nomatch h.1)
    refine tkT 6 hHeld ?_ (hQ:=by exact fun c a w h=>nomatch h.1)
    refine tkT 7 hHeld ?_ (hQ:=by exact fun c a w h=>nomatch h.1)
    have gf:=fun j=>HG.out.frozen j
    have g0:=HG.out.cell 0
    have g1:=HG.out.cell 1
    have g2:=HG.out.cell 2
    simp only[gE3]at g0 g1 g2
    refine r1T 9 (fun K hK =>?_)
    go_simp
    have hbg:∀X,X=(((v3).setCell ⟨g,0,none⟩ (.int .i64 0)).setCell ⟨g,1,none⟩ (.int .i64 (l.length:Int))).setCell ⟨g,2,none⟩ (.slice SA es.length sc)→Below W.heap.size W X:=fun X hX=>by
     rw[hX]
     iterate 3 (refine Below.setCell ?_ (show W.heap.size≤g from hgu) _)
     exact hv3
    refine hK.out _ _ _ (HSS.out _ (hbg _ rfl)) (fun hHeld =>?_)
    clear hK K
    refine tkT 10 hHeld ?_ (hQ:=by exact fun c a w h=>nomatch h.1)
    refine aM fl ?_ _
    clear hHeld
    refine⟨rfl,bT ?_ ?_⟩
    ·kernel_rfl
    refine⟨rfl,?_⟩
    rw[HRS.out]
    refine⟨g,SA,sc,es,rfl,rfl,hgu,?_,?_,HM3.out,hbg _ rfl⟩
    ·have h:=((HG.out.aH 0 (.int .i64 0)).aH 1 (.int .i64 (l.length:Int))).aH 2 (.slice SA es.length sc)
     simpa using h
    ·have n1:=HO3.out.own.aU HG.out (by decide)
     refine⟨?_,fun x hx =>?_,HO3.out.len⟩
     ·iterate 3 (refine ah.far ?_ n1 _)
      exact HO3.out.own
     ·have m1:=(HO3.out.rows x hx).aU HG.out (by decide)
      iterate 3 (refine ah.far ?_ m1 _)
      exact HO3.out.rows x hx
  ·go_simp
   refine hK.out _ _ _ (HSS.out _ (by exact ak)) (fun hHeld =>?_)
   clear hK K
   generalize hg:W.heap.size=g
   generalize hwe:World.drew (World.alloc W _)=v1
   have hv1:Below W.heap.size W v1:=by rw[←hwe];exact ak
   have HG:Hid (Blk v1 g 39 #[.int .i64 0,.int .i64 0,.slice none 0 0]):=qh (by rw[←hwe];exact(Blk.new' hg).drew)
   have hgu:W.heap.size≤g:=by rw[←hg];exact Nat.le_refl _
   have hgl:g<v1.heap.size:=HG.out.lt
   clear hwe hg
   refine r1T 2 (fun K hK =>?_)
   go_simp
   (go_at_call 17;(with_reducible refine(nC _).mono ?_);rintro e v2 ⟨rfl,hn1⟩)
   have hv2:Below W.heap.size W v2:=aa hv1 hn1 (hv1).size
   go_wp2_with fail
   refine hK.out _ _ _ (HSS.out _ hv2) (fun hHeld =>?_)
   clear hK K
   (replace HG:=qh (HG.out.below hn1 hgl))
   have hgl:g<v2.heap.size:=HG.out.lt
   refine r1T 4 (fun K hK =>?_)
   go_simp
   (go_at_call 16;(with_reducible refine(kU CA cc ts.length ts k OA oc l.length l _ (HT.out.next hv2) rfl HS.out hk (HL.out.next hv2) rfl (by omega) HO.out HTB.out H8.out).mono ?_);rintro e v3 ⟨⟨SA,sc,es,rfl,hm3,ho3⟩,hb3⟩)
   have hv3:Below W.heap.size W v3:=aa hv2 hb3 (hv2).size
   have HM3:=qh hm3
   have HO3:Hid (dM v3 W.heap.size SA sc es):=qh (ho3.mono (hv2).size)
   clear hm3 ho3
   go_wp2_with fail
   refine hK.out _ _ _ (HSS.out _ hv3) (fun hHeld =>?_)
   clear hK K
   (replace HG:=qh (HG.out.below hb3 hgl))
   refine tkT 5 hHeld ?_ (hQ:=by exact fun c a w h=>nomatch h.1)
   refine tkT 6 hHeld ?_ (hQ:=by exact fun c a w h=>nomatch h.1)
   refine tkT 7 hHeld ?_ (hQ:=by exact fun c a w h=>nomatch h.1)
   have gf:=fun j=>HG.out.frozen j
   have g0:=HG.out.cell 0
   have g1:=HG.out.cell 1
   have g2:=HG.out.cell 2
   simp only[gE3]at g0 g1 g2
   refine r1T 9 (fun K hK =>?_)
   go_simp
   have hbg:∀X,X=(((v3).setCell ⟨g,0,none⟩ (.int .i64 0)).setCell ⟨g,1,none⟩ (.int .i64 (l.length:Int))).setCell ⟨g,2,none⟩ (.slice SA es.length sc)→Below W.heap.size W X:=fun X hX=>by
    rw[hX]
    iterate 3 (refine Below.setCell ?_ (show W.heap.size≤g from hgu) _)
    exact hv3
   refine hK.out _ _ _ (HSS.out _ (hbg _ rfl)) (fun hHeld =>?_)
   clear hK K
   refine tkT 10 hHeld ?_ (hQ:=by exact fun c a w h=>nomatch h.1)
   refine aM fl ?_ _
   clear hHeld
   refine⟨rfl,bT ?_ ?_⟩
   ·kernel_rfl
   refine⟨rfl,?_⟩
   rw[HRS.out]
   refine⟨g,SA,sc,es,rfl,rfl,hgu,?_,?_,HM3.out,hbg _ rfl⟩
   ·have h:=((HG.out.aH 0 (.int .i64 0)).aH 1 (.int .i64 (l.length:Int))).aH 2 (.slice SA es.length sc)
    simpa using h
   ·have n1:=HO3.out.own.aU HG.out (by decide)
    refine⟨?_,fun x hx =>?_,HO3.out.len⟩
    ·iterate 3 (refine ah.far ?_ n1 _)
     exact HO3.out.own
    ·have m1:=(HO3.out.rows x hx).aU HG.out (by decide)
     iterate 3 (refine ah.far ?_ m1 _)
     exact HO3.out.rows x hx
 rintro f w4 hf
 rw[HRS.out]at hf
 obtain⟨g,SA,sc,es,hf6,hf7,hgu,hG,hO3,hm3,hb4⟩:=hf
 simp only[setL,List.setIfInBounds_toArray,List.set_cons_zero,List.set_cons_succ]
 rw[hf6,hf7]
 have hz4:=hb4.size
 have hx4:Below w.heap.size w w4:=aa hxW hb4 hxW.size
 have HC4:=qh (HC.out.below hb4 hcl)
 have HG4:=qh hG
 have HE4:Hid (dH w4 w4.heap.size SA es):=qh hO3.read
 have HE8:Hid (∀x∈es,x.chg.row.length≤8):=qh hO3.len
 have HM:=qh hm3
 have HT4:=qh (HT.out.next hb4)
 have HL4:=qh (HL.out.next hb4)
 have hgl:=hG.lt
 have Xg:=HC4.out.lt
 have Rt:es.length=l.length:=by
  have h:=congrArg List.length HM.out
  rwa [List.length_map,xP]at h
 have Pz:=qh Rt
 clear Rt
 clear hf6 hf7 hG hO3 hm3 HSS HRS HC HT HL
 obtain⟨p0,p1,p2,p3,p4,p5,p6,p7⟩:=Cat.blk HC4.out
 go_upto_region 6 with (go_at_call 13;(with_reducible refine(qD CA cc ts.length ts OA oc l.length l _ HT4.out rfl HS.out HO.out.cat HL4.out rfl (by omega) (fun x hx=>Nat.le_trans (H8.out x hx) (by omega))).mono ?_);rintro e w5 ⟨⟨RA,rc,rt,rfl,hrl,hrt,hru,hrs,hpu⟩,hb5⟩)
 have hx5:Below w.heap.size w w5:=aa hx4 hb5 hx4.size
 have HR5:=qh hrt
 have HPU:=qh hpu
 have HG5:=qh (HG4.out.below hb5 hgl)
 have HC5:=qh (HC4.out.below hb5 Xg)
 have Rp:=HG5.out.lt
 have g0:=HG5.out.cell 0
 have g1:=HG5.out.cell 1
 have g2:=HG5.out.cell 2
 simp only[gE3]at g0 g1 g2
 clear p0 p1 p2 p3 p4 p5 p6 p7 hrt hpu hru hrs
 go_upto_region 7 with (go_at_call 18;(with_reducible refine(CO 0 (l.length:Int) SA sc es _ (HE4.out.next hb5) (by have:=Pz.out;omega) HE8.out).mono ?_);rintro e w6 ⟨⟨XA,xc,xl,rfl,hxm,hxo⟩,hb6⟩)
 have hx6:Below w.heap.size w w6:=aa hx5 hb6 hx5.size
 have QX:xl.map unC=l.map unC:=by
  have h:=congrArg (List.map Prod.snd) HM.out
  rw[sM,List.map_map]at h
  rw[hxm,←h,List.map_map]
  rfl
 have hxl:xl.length=l.length:=by
  have h:=congrArg List.length QX
  simpa using h
 have HX:=qh QX
 have HXL:=qh hxl
 have HXO:Hid (fJ w6 w6.heap.size XA xl):=qh hxo.read
 have HL6:=qh (HL4.out.next (aa hb5 hb6 hb5.size))
 clear g0 g1 g2 hxm hxo QX hxl
 rw[HXL.out]
 go_wp2_with fail
 go_loopw [10] (fun vj wr =>∃j:Nat,j≤l.length∧vj=.int .i64 j∧Below w6.heap.size w6 wr) (fun vj _=>l.length-(intOf vj).toNat)
 case atStart=>exact⟨0,Nat.zero_le _,rfl,Below.refl _ _⟩
 case round =>
  obtain⟨j,hj,rfl,hbr⟩:=hrel
  have hwz:=hbr.size
  have hxr:Below w.heap.size w wr:=aa hx6 hbr hx6.size
  by_cases hjt:j<l.length
  ·have Rn:decide (j<l.length)=true:=by simpa using hjt
   have WO:decide ((j:Int)<(l.length:Int))=true:=by simp;omega
   have FK:j<xl.length:=by rw[HXL.out];exact hjt
   obtain⟨b7,o7,rfl,hb7,hc7⟩:=HXO.out.1.get FK
   obtain⟨b8,o8,rfl,hb8,hc8⟩:=HL6.out.1.get hjt
   obtain⟨⟨d0,d1,d2,d3⟩,d4,⟨d5,d6,d7⟩,d8,d9,d10,d11⟩:=Chg.lX hc7
   obtain⟨⟨e0,e1,e2,e3⟩,e4,⟨e5,e6,e7⟩,e8,e9,e10,e11⟩:=Chg.lX hc8
   have hr1:=HXO.out.2 _ (lgm FK)
   have hr2:=HL6.out.2 _ (lgm hjt)
   have hr8:=H8.out _ (lgm hjt)
   have hpj:unC xl[j]=unC l[j]:=by
    have h1:(xl.map unC)[j]?=(l.map unC)[j]?:= by rw[HX.out]
    rw[List.getElem?_map,List.getElem?_map,List.getElem?_eq_getElem FK,List.getElem?_eq_getElem hjt]at h1
    exact Option.some.inj h1
   obtain⟨⟨kd,sq,dy,tb,QA,qc,row,key,cl,vl⟩,hqr⟩:∃x:Chg,xl[j]=x:=⟨_,rfl⟩
   obtain⟨⟨kd',sq',dy',tb',PA,pc,row',key',cl',vl'⟩,hpr⟩:∃x:Chg,l[j]=x:=⟨_,rfl⟩
   rw[hqr]at d0 d1 d2 d3 d4 d5 d6 d7 d8 d9 d10 d11 hr1 hpj
   rw[hpr]at e0 e1 e2 e3 e4 e5 e6 e7 e8 e9 e10 e11 hr2 hr8 hpj
   simp only[unC,Chg.mk.injEq]at hpj
   obtain⟨rfl,rfl,rfl,rfl,-,-,rfl,rfl,rfl,rfl⟩:=hpj
   simp only at d0 d1 d2 d3 d4 d5 d6 d7 d8 d9 d10 d11 e0 e1 e2 e3 e4 e5 e6 e7 e8 e9 e10 e11 hr1 hr2 hr8
   have HK7:∀q u,w6.cell? ⟨b7,q,none⟩=u→wr.cell? ⟨b7,q,none⟩=u:=fun q u h=>(hbr.cell (p:=⟨b7,q,none⟩) hb7).trans h
   have HK8:∀q u,w6.cell? ⟨b8,q,none⟩=u→wr.cell? ⟨b8,q,none⟩=u:=fun q u h=>(hbr.cell (p:=⟨b8,q,none⟩) hb8).trans h
   replace d0:=HK7 _ _ d0
   replace d1:=HK7 _ _ d1
   replace d2:=HK7 _ _ d2
   replace d3:=HK7 _ _ d3
   replace d4:=HK7 _ _ d4
   replace d5:=HK7 _ _ d5
   replace d6:=HK7 _ _ d6
   replace d7:=HK7 _ _ d7
   replace d8:=HK7 _ _ d8
   replace d9:=HK7 _ _ d9
   replace d10:=HK7 _ _ d10
   replace d11:=HK7 _ _ d11
   replace e0:=HK8 _ _ e0
   replace e1:=HK8 _ _ e1
   replace e2:=HK8 _ _ e2
   replace e3:=HK8 _ _ e3
   replace e4:=HK8 _ _ e4
   replace e5:=HK8 _ _ e5
   replace e6:=HK8 _ _ e6
   replace e7:=HK8 _ _ e7
   replace e8:=HK8 _ _ e8
   replace e9:=HK8 _ _ e9
   replace e10:=HK8 _ _ e10
   replace e11:=HK8 _ _ e11
   clear HK7 HK8
   have HQ1:=qh hr1
   have HQ2:=qh hr2
   have hk2:=aD (w:=wr) b7 (by omega)
   have hk3:=aD (w:=wr) b8 (by omega)
   have hrl:row.length≤1000000:=by omega
   clear hc7 hc8 hqr hpr hr1 hr2
   go_upto_region 12 with (fail)
   refine af fl fl ?_;(repeat(go_big_quiet_step ((go_at_call 19;with_reducible exact dK (uw kd sq dy tb QA PA qc pc row key cl vl _ (HQ1.out.next (aa hbr (bY.h _) hwz)) (HQ2.out.next (aa hbr (bY.h _) hwz)) hrl)))));refine wpQuiet_nil ?_;intro wq hq
   clear hk2 hk3 d0 d1 d2 d3 d4 d5 d6 d7 d8 d9 d10 d11 e0 e1 e2 e3 e4 e5 e6 e7 e8 e9 e10 e11
   go_wp2_with fail
   go_roundw
   case rel=>exact⟨j+1,by omega,by go_num,aa hbr hq hwz⟩
   case measure=>exact meA
  ·have Rn:decide (j<l.length)=false:=by simpa using hjt
   have WO:decide ((j:Int)<(l.length:Int))=false:=by simp;omega
   go_upto_region 14 with (fail)
   have h56:Below w5.heap.size w5 wr:=aa hb6 hbr hb6.size
   have h46:Below w4.heap.size w4 wr:=aa hb5 h56 hb5.size
   have hkr:k<rt.length:=by omega
   have HCr:=qh (HC5.out.below h56 HC5.out.lt)
   have HGr:=qh (HG5.out.below h56 Rp)
   have HTr:=qh (HT4.out.next h46)
   have HEr:=qh (HE4.out.next h46)
   have HRr:=qh (HR5.out.next h56)
   have J2:Hid (dS ts k 0 (l.length:Int) (es.map Ent.p)):=qh (by
    rw[HM.out]
    have h:=xO HO.out HTB.out hk (by omega:l.length≤200) l.length nlr
    rwa [List.take_of_length_le nlr]at h)
   have hRK:(bH ts l)[k]?=some (Bd [] ((es.map Ent.p).map Prod.snd)):=J2.out.recs (by rw[HM.out,sM])
   obtain⟨b5,o5,hRA,Xr,hc5⟩:=HRr.out.1.get hkr
   have r0:=hc5 0 _ rfl
   have hr3:=HRr.out.2 rt[k] (lgm hkr)
   have jT:=qh (sw HPU.out hRK hkr)
   obtain⟨⟨TA,tc,recs⟩,hy⟩:∃x:RTab,rt[k]=x:=⟨_,rfl⟩
   rw[hy]at r0 hr3 jT
   simp only[Nat.mul_one,Nat.add_zero,Nat.zero_add]at r0 hr3 jT
   have HR3:Hid (bN wr wr.heap.size TA recs):=qh hr3
   have HLN:Hid ((∀r∈recs,r.row.length≤1000000∧r.seq.length≤1000000)∧recs.length≤1000000):=qh (by
    have hn8:=(J2.out.cat.ae hk).2
    obtain⟨⟨q,hq⟩,_⟩:=yI J2.out.cat hk _ [] 0 (Good.nil _ _) (Ba J2.out.ord J2.out.tab)
    have h:=hq.ok.len
    rw[←jT.out,List.length_map]at h
    refine⟨fun r hr =>?_,by omega⟩
    have h:=Af hk hq jT.out r hr
    omega)
   have hcr:=HCr.out.lt
   have hgr:=HGr.out.lt
   subst hRA
   have HSS:Hid (∀V,Below wr.heap.size wr V→(V.cell? ⟨z,0,none⟩=some (.slice CA ts.length cc)∧V.cell? ⟨z,1,none⟩=some (.slice none 0 0)∧V.cell? ⟨z,2,none⟩=some (.slice none 0 0)∧V.cell? ⟨z,3,none⟩=some (.slice none 0 0)∧V.cell? ⟨z,4,none⟩=some (.slice none 0 0)∧V.cell? ⟨z,5,none⟩=some (.slice none 0 0)∧V.cell? ⟨z,6,none⟩=some (.slice none 0 0)∧V.cell? ⟨z,7,none⟩=some (.slice none 0 0))∧(V.cell? ⟨g,0,none⟩=some (.int .i64 0)∧V.cell? ⟨g,1,none⟩=some (.int .i64 (l.length:Int))∧V.cell? ⟨g,2,none⟩=some (.slice SA es.length sc))∧V.cell? ⟨b5,o5+k,none⟩=some (.slice TA recs.length tc)):=qh (fun V hV=>⟨Cat.blk (HCr.out.below hV hcr),⟨(HGr.out.below hV hgr).cell 0,(HGr.out.below hV hgr).cell 1,(HGr.out.below hV hgr).cell 2⟩,(hV.cell (p:=⟨b5,o5+k,none⟩) Xr).trans r0⟩)
   have hWd:Below wr.heap.size wr wr.drew:=brf.drew
   have hkt:decide (k<ts.length)=true:=by simpa using hk
   have Zf:decide ((k:Int)<(ts.length:Int))=true:=by simp;omega
   have Ul:∀m:Nat,es.length=m→decide ((es.length:Int)=(m:Int))=true:=fun m h=>by subst h;simp
   have hle:=Ul _ Pz.out
   clear Ul hc5 hr3 hy hRK r0 HC5 HG5 HR5 HC4 HG4 HE4 HT4
   refine lV .normal [2,55,56,57,58,59,60,61,62,63,64,65,66,67,68,69,70,71,72,73,74,75,76,77,78,79,80,81,82,83] (fun f w'=>f 2=.bool true∧Below wr.heap.size wr w') ?_ ?_
   ·refine aO (S:=fun u=>(u.cell? ⟨z,0,none⟩=some (.slice CA ts.length cc)∧u.cell? ⟨z,1,none⟩=some (.slice none 0 0)∧u.cell? ⟨z,2,none⟩=some (.slice none 0 0)∧u.cell? ⟨z,3,none⟩=some (.slice none 0 0)∧u.cell? ⟨z,4,none⟩=some (.slice none 0 0)∧u.cell? ⟨z,5,none⟩=some (.slice none 0 0)∧u.cell? ⟨z,6,none⟩=some (.slice none 0 0)∧u.cell? ⟨z,7,none⟩=some (.slice none 0 0))∧(u.cell? ⟨g,0,none⟩=some (.int .i64 0)∧u.cell? ⟨g,1,none⟩=some (.int .i64 (l.length:Int))∧u.cell? ⟨g,2,none⟩=some (.slice SA es.length sc))∧u.cell? ⟨b5,o5+k,none⟩=some (.slice TA recs.length tc)) [] fl (HSS.out _ hWd) (fun hHeld =>?_)
    refine tkT 0 hHeld ?_ (hQ:=by exact fun c a w h=>nomatch h.1)
    refine tkT 1 hHeld ?_ (hQ:=by exact fun c a w h=>nomatch h.1)
    refine tkT 2 hHeld ?_ (hQ:=by exact fun c a w h=>nomatch h.1)
    refine tkT 3 hHeld ?_ (hQ:=by exact fun c a w h=>nomatch h.1)
    refine tkT 4 hHeld ?_ (hQ:=by exact fun c a w h=>nomatch h.1)
    refine tkT 5 hHeld ?_ (hQ:=by exact fun c a w h=>nomatch h.1)
    refine tkT 6 hHeld ?_ (hQ:=by exact fun c a w h=>nomatch h.1)
    refine tkT 7 hHeld ?_ (hQ:=by exact fun c a w h=>nomatch h.1)
    refine tkT 8 hHeld ?_ (hQ:=by exact fun c a w h=>nomatch h.1)
    refine tkT 9 hHeld ?_ (hQ:=by exact fun c a w h=>nomatch h.1)
    refine tkT 10 hHeld ?_ (hQ:=by exact fun c a w h=>nomatch h.1)
    refine tkT 12 hHeld ?_ (hQ:=by exact fun c a w h=>nomatch h.1)
    refine tkT 13 hHeld ?_ (hQ:=by exact fun c a w h=>nomatch h.1)
    refine tkT 14 hHeld ?_ (hQ:=by exact fun c a w h=>nomatch h.1)
    refine tkT 15 hHeld ?_ (hQ:=by exact fun c a w h=>nomatch h.1)
    refine r1T 11 (fun K hK =>?_)
    go_simp
    (go_at_call 12;(with_reducible refine(EO CA cc ts.length ts k 0 (l.length:Int) SA sc es.length es _ (HTr.out.next hWd) rfl HS.out (HEr.out.next hWd) rfl J2.out HE8.out).mono ?_);rintro e v1 ⟨⟨YA,yc,ys,rfl,hyr,hyp⟩,hn1⟩)
    have hv1:Below wr.heap.size wr v1:=aa hWd hn1 hWd.size
    have HYR:=qh hyr
    have HYP:=qh hyp
    clear hyr hyp
    go_wp2_with fail
    refine hK.out _ _ _ (HSS.out _ hv1) (fun hHeld =>?_)
    clear hK K
    refine r1T 16 (fun K hK =>?_)
    go_simp
    (go_at_call 11;(with_reducible refine(rW YA TA yc tc ys.length recs.length ys recs _ HYR.out (HR3.out.next hv1) rfl rfl (by have h:=congrArg List.length (HYP.out.trans jT.out.symm);simp only[List.length_map]at h;have:=HLN.out.2;omega) (fun x hx =>?_) (HYP.out.trans jT.out.symm)).mono ?_))
    ·have hx2:az x∈recs.map az:=by rw[jT.out,←HYP.out];exact List.mem_map_of_mem hx
     obtain⟨x',hx',he⟩:=List.mem_map.1 hx2
     have h:=HLN.out.1 x' hx'
     rwa [show x.row=x'.row from (congrArg (fun z=>z.1) he).symm,show x.seq=x'.seq from (congrArg (fun z=>z.2.1) he).symm]
    rintro e v2 ⟨rfl,hn2⟩
    have hv2:Below wr.heap.size wr v2:=aa hv1 hn2 hv1.size
    go_wp2_with fail
    refine hK.out _ _ _ (HSS.out _ hv2) (fun hHeld =>?_)
    clear hK K
    refine tkT 17 hHeld ?_ (hQ:=by exact fun c a w h=>nomatch h.1)
    refine tkT 18 hHeld ?_ (hQ:=by exact fun c a w h=>nomatch h.1)
    refine tkT 19 hHeld ?_ (hQ:=by exact fun c a w h=>nomatch h.1)
    refine tkT 20 hHeld ?_ (hQ:=by exact fun c a w h=>nomatch h.1)
    refine tkT 21 hHeld ?_ (hQ:=by exact fun c a w h=>nomatch h.1)
    refine tkT 22 hHeld ?_ (hQ:=by exact fun c a w h=>nomatch h.1)
    refine tkT 23 hHeld ?_ (hQ:=by exact fun c a w h=>nomatch h.1)
    refine tkT 24 hHeld ?_ (hQ:=by exact fun c a w h=>nomatch h.1)
    refine tkT 25 hHeld ?_ (hQ:=by exact fun c a w h=>nomatch h.1)
    refine tkT 26 hHeld ?_ (hQ:=by exact fun c a w h=>nomatch h.1)
    refine r1T 27 (fun K hK =>?_)
    go_simp
    rw[if_pos (show (es.length:Int)=(l.length:Int) from by have:=Pz.out;omega)]
    (go_at_call 7;(with_reducible refine(vL _).mono ?_);rintro e v3 ⟨rfl,hn3⟩)
    have hv3:Below wr.heap.size wr v3:=aa hv2 hn3 hv2.size
    go_wp2_with fail
    refine hK.out _ _ _ (HSS.out _ hv3) (fun hHeld =>?_)
    clear hK K
    refine tkT 28 hHeld ?_ (hQ:=by exact fun c a w h=>nomatch h.1)
    refine tkT 29 hHeld ?_ (hQ:=by exact fun c a w h=>nomatch h.1)
    refine aM fl ?_ _
    clear hHeld
    refine⟨rfl,bT ?_ ?_⟩
    ·kernel_rfl
    refine⟨rfl,?_,hv3⟩
    have hei:(es.length:Int)=(l.length:Int):=by have:=Pz.out;omega
    simp only[Array.getD_eq_getD_getElem?,gE3,Option.getD_some]
    simp[hei]
   rintro f u9 ⟨hf2,hu9⟩
   simp only[setL,List.setIfInBounds_toArray,List.set_cons_zero,List.set_cons_succ]
   rw[hf2]
   go_wp2_with fail
   go_ret
   exact⟨rfl,aa hxr hu9 hxr.size⟩
end Go.Proofs.YtjidligipoldeaaGreat
namespace Go.Proofs.YtjidligipoldeaaGreat.streamReplays
open Go.ChangeShapes Go.WideShapes Go.ChangeAt Go.RowKit
theorem own:ownKnob Tryz.prog.godebug=none:=by kernel_rfl
theorem laidOut:laidOutB Tryz.prog=true:=by kernel_rfl
theorem bytesInt:Tryz.prog.bytesOf 3=8:=by kernel_rfl
theorem lifted(os:Os)(started:os.Started)(H:Type)(enc:TypeId × Value→H):
 ReturnsInHanded {} Tryz.checked os 5 .any (Rows.streamReplaysSpec.pre6 enc Tryz.prog Tryz.f5 Rows.streamReplaysRow.domain false) (Rows.streamReplaysSpec.post enc Tryz.prog Tryz.f5 false true false false):=by
 refine returnsInHanded_of_change_sized (C:=Tryz.checked) own started fl Tryz.func5
  (ChangeSpec.witness6 (enc:=enc) (C:=Tryz.checked) false ⟨#[],#[.slice none 0 0],[]⟩ 8 fl fl fl fl) ?_
 intro W base args ds gs before hval0 hW hcnd hsz0 _
 have hval:∀(j:Nat) t v,Tryz.f5.params[j]?=some t→args[j]?=some v→Value.okWide Tryz.prog W .any base t v:=hval0
 have hsz:(DataW.weightsEach Tryz.prog (Tryz.f5.params.toList++Rows.streamReplaysSpec.plain.varTypes Tryz.prog) (ds++gs)).all (· ≤ reachBytes)=true:=hsz0
 have hW':=hW
 obtain⟨p,q,hA0,hV,rfl,hfz,hnd⟩:=hW
 have hA:DataW.TrodAll enc Tryz.prog W 0 (fun _=>true) true Tryz.f5.params.toList args.toList ds p:=hA0
 rw[Tryz.params5]at hA hval hsz
 obtain⟨v0,vs0,d0,ds0,p0,q0,hargs,rfl,rfl,h0,r0⟩:=trodAll_cons hA
 obtain⟨rfl,rfl,rfl⟩:=trodAll_nil r0
 obtain rfl:args=#[v0]:=by cases args;simp_all
 obtain⟨rfl,rfl⟩:=trodVars_none hV
 obtain⟨a0,SQ,cap0,rfl⟩:=okWide_slice Tryz.underlying22 (hval 0 22 v0 rfl rfl)
 have k0:=h0
 have lt0:∀x∈p0,x.block<W.heap.size:=by obtain⟨m,hm⟩:=k0;exact DataW.trod_lt m _ _ _ hm
 obtain⟨t,htl,hts,ht8⟩:∃t:List Int,t.length=SQ∧ag W W.heap.size intCells 1 a0 t∧t.length*8≤140737488351232:=by
  obtain⟨fuel,hf⟩:=h0
  rcases open_ints Tryz.underlying22 Tryz.underlying3 fl hf with ⟨hcs,_⟩|⟨x,l,c,zs,hcs,_,hl,hm,hz,hx,hcell,hwz⟩
  ·simp[Value.cells]at hcs
   obtain⟨rfl,rfl,rfl⟩:=hcs
   exact⟨[],rfl,ag.nil,by simp⟩
  ·simp[Value.cells]at hcs
   obtain⟨rfl,rfl,rfl⟩:=hcs
   simp only[Prod.mk.injEq]at hx
   obtain⟨rfl,_⟩:=hx
   have hs:=sized_slice hsz (j:= 0) (t:= 22) (e:= 3) rfl rfl Tryz.underlying22
   rw[bytesInt]at hs
   simp only[lits,List.length_map,List.length_take,List.length_drop,reachBytes]at hs
   have hzl:zs.length=cap0:=by simpa using hz
   refine⟨zs.take SQ,by simp;omega,fun h =>?_,by simp;omega⟩
   have h1:0<zs.length:=by simp at h;omega
   obtain⟨xb,xo,xs⟩:=x
   have hc0:=hcell 0 h1
   have hsp:xs=none:=by
    cases xs with
    | none=>rfl
    | some y =>
      simp only[Addr.add,World.cell?,Option.isSome_some,if_true]at hc0
      split at hc0<;>simp at hc0
   subst hsp
   have hlt:xb<W.heap.size:=by
    rcases Nat.lt_or_ge xb W.heap.size with h|h
    ·exact h
    ·simp[Addr.add,World.cell?,Array.getElem?_eq_none h]at hc0
   refine⟨xb,xo,rfl,hlt,fun i hi j u hu =>?_⟩
   have hj:j=0:=by have:=(List.getElem?_eq_some_iff.1 hu).1;simp[intCells]at this;omega
   subst hj
   have hil:i<zs.length:=by simp at hi;omega
   have:=hcell i hil
   simp only[intCells,List.getElem?_cons_zero,Option.some.injEq]at hu
   subst hu
   rw[List.getElem_take]
   rw[List.getD_eq_getElem?_getD,List.getElem?_eq_getElem hil]at this
   unfold Addr.add at this
   split at this
   ·rename_i h0;subst h0;simpa using this
   ·simpa using this
 clear hA0 hval0
 subst htl
 refine(ER a0 cap0 t W hts ht8).mono fun e W' ⟨he,bel⟩ =>?_
 subst he
 exact⟨_,rfl,_,_,_,[],_,[],hW',trodAll_mk1 (shut_bool Tryz.underlying4 _),(trodAll_cons_mk (Below.trod laidOut fl (of_decide_eq_true fl) k0 bel lt0) trodAll_mk0),rfl,bel.frame _,fun h=>by cases h⟩
theorem facts:joinedFacts Tryz.pinned.checked.prog 5 Tryz.f5 Rows.streamReplaysSpec Rows.streamReplaysRow=true:=by
 unfold joinedFacts
 repeat' (with_reducible refine(Bool.and_eq_true _ _).mpr ⟨?_,?_⟩)
 all_goals(as_aux_lemma=>kernel_rfl)
theorem over:Rows.streamReplaysRow.holds Tryz.pinned (OpenSpec.ofChange Rows.streamReplaysSpec):=
 OpenClaim.holds_of_wide 5 Tryz.f5 rfl rfl rfl rfl rfl rfl rfl ⟨rfl,rfl,rfl,rfl,rfl⟩ rfl rfl rfl rfl rfl fl Tryz.func5 facts
  (of_decide_eq_true fl) (by unfold Func.isWrapper;first|(rw[if_pos (by decide +kernel)];kernel_rfl)|(rw[if_neg (by decide +kernel)];exact⟨rfl,rfl⟩))
  (fun os started H enc _=>lifted os started H enc)
theorem proved:Rows.StreamReplaysSaid:=over
#print axioms proved
end Go.Proofs.YtjidligipoldeaaGreat.streamReplays
