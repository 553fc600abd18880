/-
  Contracts and plain laws of this seat, part 88.
-/
import Derived.Test.YtjidligipoldeaaGreatS80
import Derived.Test.YtjidligipoldeaaGreatS83
set_option linter.unusedVariables false
set_option linter.unusedSimpArgs false
set_option maxRecDepth 100000
set_option maxHeartbeats 16000000
namespace Go.Proofs.YtjidligipoldeaaGreat
open Go.RowKit Go
theorem nC(w:World):Calls Tryz.prog 17 #[] w fun e w'=>e=.returned (.agg #[.int .i64 0,.int .i64 0,.slice none 0 0])∧Below w.heap.size w w':=by
 go_enter Tryz.func17,Tryz.ntmps17
 go_wp2_with fail
 have hB:Blk (w.alloc (.cells #[.int .i64 0,.int .i64 0,.slice none 0 0] 39)) w.heap.size 39 #[.int .i64 0,.int .i64 0,.slice none 0 0]:=Blk.new _ _ _
 have h0:=hB.cell 0
 have h1:=hB.cell 1
 have h2:=hB.cell 2
 simp only[gE3]at h0 h1 h2
 refine bodyPost_ret (v:= .agg #[.int .i64 0,.int .i64 0,.slice none 0 0]) (by simp[results,Tryz.results17,go_sem,h0,h1,h2]) rfl ⟨rfl,?_⟩
 exact ak
end Go.Proofs.YtjidligipoldeaaGreat
set_option maxRecDepth 100000
namespace Go.Proofs.YtjidligipoldeaaGreat
open Go.RowKit Go Go.Shelf
def og(l:List Chg):List lG:=l.mapIdx fun i x=>((i:Int),unC x)
theorem Am{l:List Chg}{i:Nat}(hi:i<l.length):og (l.take (i+1))=og (l.take i) ++ [((i:Int),unC l[i])]:=by
 unfold og
 rw[List.take_succ_eq_append_getElem hi,List.mapIdx_append]
 congr 1
 simp[List.length_take,Nat.min_eq_left (Nat.le_of_lt hi)]
theorem sM(l:List Chg):(og l).map Prod.snd=l.map unC:=by
 refine List.ext_getElem (by simp[og]) fun i h1 h2 =>?_
 simp[og]
theorem xP(l:List Chg):(og l).length=l.length:=by simp[og]
theorem xO{ts:List Tab}{k:Nat}{l:List Chg}(ho:dh ts l)(ht:∀x∈l,x.table=(k:Int))(hk:k<ts.length)(hl:l.length≤200):∀i,i≤l.length→dS ts k 0 (i:Int) (og (l.take i))
 | 0,_=>dS.nil ho.cat hk
 | i + 1,hi=>by
   have ih:=xO ho ht hk hl i omA
   rw[Am omA]
   have h:=ih.app (x:=unC l[i]) (ht l[i] (lgm omA)) (by
    rw[sM,←List.map_singleton,←List.map_append,←List.take_succ_eq_append_getElem omA]
    exact G5 (oL ho _)) (by rw[xP,List.length_take];omega) omA
   simpa using h
theorem dH.below'{w w':World}{base:Nat}{A:Option Addr}{c:Nat}{l:List Ent}(h:dM w base A c l)(hb:Below w.heap.size w w'):dH w' w'.heap.size A l:=(h.below hb).read
theorem kU(A:Option Addr)(c m:Nat)(ts:List Tab)(k:Nat)(LA:Option Addr)(lc n:Nat)(l:List Chg)(w:World)(ht:aF w w.heap.size A ts)(hm:ts.length=m)(hs:aN ts)(hk:k<ts.length)(hl:fJ w w.heap.size LA l)(hn:l.length=n)(hn2:n≤200)(ho:dh ts l)(htb:∀x∈l,x.table=(k:Int))(h8:∀x∈l,x.row.length≤8):
 Calls Tryz.prog 16 #[.agg #[.slice A m c,.slice none 0 0,.slice none 0 0,.slice none 0 0,.slice none 0 0,.slice none 0 0,.slice none 0 0,.slice none 0 0],.int .i64 k,.agg #[.int .i64 0,.int .i64 0,.slice none 0 0],.slice LA n lc] w fun e w' =>
  (∃A' c' es,e=.returned (.tuple #[.agg #[.int .i64 0,.int .i64 (n:Nat),.slice A' es.length c'],.bool true])∧es.map Ent.p=og l∧dM w' w.heap.size A' c' es)∧Below w.heap.size w w':=by
 subst hm hn
 have HT:=qh ht
 have HS:=qh hs
 have HL:=qh hl
 have HO:=qh ho
 have Vo:=qh htb
 have H8:=qh h8
 have h1:=ho.cat.len
 clear ht hs hl ho htb h8
 go_enter Tryz.func16,Tryz.ntmps16
 go_upto_region 2 with (fail)
 refine aj (P:=fun u=>Code.wp _ _ _ _ u) (R:=fun u=>Blk u w.heap.size 33 #[.slice A ts.length c,.slice none 0 0,.slice none 0 0,.slice none 0 0,.slice none 0 0,.slice none 0 0,.slice none 0 0,.slice none 0 0]∧Blk u (w.heap.size+1) 39 #[.int .i64 0,.int .i64 0,.slice none 0 0]∧Blk u (w.heap.size+2) 39 #[.int .i64 0,.int .i64 0,.slice none 0 0]∧Below w.heap.size w u) ⟨?_,?_,?_,?_⟩ ?_
 ·exact((Blk.new _ _ _).alloc _).alloc _
 ·exact(Blk.new' spA).alloc _
 ·exact Blk.new' spA
 ·exact ak
 rintro W ⟨hC,hL,hR,hbW⟩
 have HC:=qh hC
 have HLG:=qh hL
 have HRR:=qh hR
 clear hC hL hR
 go_loopw [10] (fun vi wr =>∃(i:Nat) (EA:Option Addr) (ec:Nat) (es:List Ent),i≤l.length∧vi=.int .i64 i∧Blk wr w.heap.size 33 #[.slice A ts.length c,.slice none 0 0,.slice none 0 0,.slice none 0 0,.slice none 0 0,.slice none 0 0,.slice none 0 0,.slice none 0 0]∧Blk wr (w.heap.size+1) 39 #[.int .i64 0,.int .i64 (i:Int),.slice EA es.length ec]∧Blk wr (w.heap.size+2) 39 #[.int .i64 0,.int .i64 0,.slice none 0 0]∧dM wr w.heap.size EA ec es∧es.map Ent.p=og (l.take i)∧Below w.heap.size w wr) (fun vi _=>l.length-(intOf vi).toNat)
 case atStart=>exact⟨0,none,0,[],Nat.zero_le _,rfl,HC.out,HLG.out,HRR.out,⟨ah.nil,(fun x h=>by cases h),(fun x h=>by cases h)⟩,rfl,hbW⟩
 case round =>
  obtain⟨i,EA,ec,es,hi,rfl,hC,hL,hR,hE,hm,hbr⟩:=hrel
  have HCr:=qh hC
  have HLr:=qh hL
  have HRr:=qh hR
  have HOE:=qh hE
  have HM:=qh hm
  have hcl:=hC.lt
  have hll:=hL.lt
  have hrl:=hR.lt
  clear hC hL hR hE hm HC HLG HRR
  by_cases hlt:i<l.length
  ·have hlt':decide (i<l.length)=true:=by simpa using hlt
   have tC:decide ((i:Int)<(l.length:Int))=true:=by simp;omega
   have hwrap:IntKind.i64.wrap ((i:Int)+1)=((i:Int)+1):=IntWalk.i64_in _ omA
   obtain⟨b5,o5,rfl,hb5,hc5⟩:=HL.out.1.get hlt
   obtain⟨⟨q0,q1,q2,q3⟩,q4,⟨q5,q6,q7⟩,q8,q9,q10,q11⟩:=Chg.lX hc5
   have hrow:=HL.out.2 _ (lgm hlt)
   have hr8:=H8.out _ (lgm hlt)
   have htb:=Vo.out _ (lgm hlt)
   have U0:=xO HO.out Vo.out hk hn2 i omA
   have RN:dh ts ((og (l.take i)).map Prod.snd ++ [unC l[i]]):=by
    rw[sM,←List.map_singleton,←List.map_append,←List.take_succ_eq_append_getElem hlt]
    exact G5 (oL HO.out _)
   have hNX:=Am hlt
   have hes:es.length=i:=by
    have h:=congrArg List.length HM.out
    rw[List.length_map,xP,List.length_take]at h
    omega
   obtain⟨⟨kd,sq,dy,tb,XA,xc,row,key,cl,vl⟩,hx⟩:∃x,l[i]=x:=⟨_,rfl⟩
   rw[hx]at q0 q1 q2 q3 q4 q5 q6 q7 q8 q9 q10 q11 hrow hr8 htb RN hNX
   simp only at q0 q1 q2 q3 q4 q5 q6 q7 q8 q9 q10 q11 hrow hr8 htb
   have mF:Hid (ag wr wr.heap.size Val.cells 3 XA row):=qh (hrow.next hbr)
   have HTB:=qh htb
   have HLO:Hid (dS ts k 0 (i:Int) (es.map Ent.p)):=qh (by rw[HM.out];exact U0)
   have zk:Hid (dh ts ((es.map Ent.p).map Prod.snd ++ [unC (⟨kd,sq,dy,tb,XA,xc,row,key,cl,vl⟩:Chg)])):=qh (by rw[HM.out];exact RN)
   have HNX:Hid (∀L:List Ent,L.map Ent.p=es.map Ent.p ++ [((i:Int),unC (⟨kd,sq,dy,tb,XA,xc,row,key,cl,vl⟩:Chg))]→L.map Ent.p=og (l.take (i+1))):=qh (fun L h=>by rw[h,HM.out,hNX])
   have HO8:=qh HOE.out.len
   have Rt:es.length<256:=by omega
   clear hc5 hrow htb U0 RN hNX hx hes
   have HSS:Hid (∀V,Below wr.heap.size wr V→(V.cell? ⟨w.heap.size,0,none⟩=some (.slice A ts.length c)∧V.cell? ⟨w.heap.size,1,none⟩=some (.slice none 0 0)∧V.cell? ⟨w.heap.size,2,none⟩=some (.slice none 0 0)∧V.cell? ⟨w.heap.size,3,none⟩=some (.slice none 0 0)∧V.cell? ⟨w.heap.size,4,none⟩=some (.slice none 0 0)∧V.cell? ⟨w.heap.size,5,none⟩=some (.slice none 0 0)∧V.cell? ⟨w.heap.size,6,none⟩=some (.slice none 0 0)∧V.cell? ⟨w.heap.size,7,none⟩=some (.slice none 0 0))∧(V.cell? ⟨w.heap.size+1,0,none⟩=some (.int .i64 0)∧V.cell? ⟨w.heap.size+1,1,none⟩=some (.int .i64 (i:Int))∧V.cell? ⟨w.heap.size+1,2,none⟩=some (.slice EA es.length ec))∧(V.cell? ⟨b5,o5+i*12,none⟩=some (.int .i64 kd)∧V.cell? ⟨b5,o5+i*12+1,none⟩=some (.int .i64 sq)∧V.cell? ⟨b5,o5+i*12+2,none⟩=some (.int .i64 dy)∧V.cell? ⟨b5,o5+i*12+3,none⟩=some (.int .i64 tb)∧V.cell? ⟨b5,o5+i*12+4,none⟩=some (.slice XA row.length xc)∧V.cell? ⟨b5,o5+i*12+5,none⟩=some (.int .i64 key.kind)∧V.cell? ⟨b5,o5+i*12+6,none⟩=some (.int .i64 key.num)∧V.cell? ⟨b5,o5+i*12+7,none⟩=some (.string key.text)∧V.cell? ⟨b5,o5+i*12+8,none⟩=some (.int .i64 cl)∧V.cell? ⟨b5,o5+i*12+9,none⟩=some (.int .i64 vl.kind)∧V.cell? ⟨b5,o5+i*12+10,none⟩=some (.int .i64 vl.num)∧V.cell? ⟨b5,o5+i*12+11,none⟩=some (.string vl.text))):=qh (fun V hV=>by
    have hwV:Below w.heap.size w V:=aa hbr hV hbr.size
    have hk:∀j,V.cell? ⟨b5,j,none⟩=w.cell? ⟨b5,j,none⟩:=fun j=>hwV.cell (p:=⟨b5,j,none⟩) hb5
    exact⟨Cat.blk (HCr.out.below hV hcl),⟨(HLr.out.below hV hll).cell 0,(HLr.out.below hV hll).cell 1,(HLr.out.below hV hll).cell 2⟩,(hk _).trans q0,(hk _).trans q1,(hk _).trans q2,(hk _).trans q3,(hk _).trans q4,(hk _).trans q5,(hk _).trans q6,(hk _).trans q7,(hk _).trans q8,(hk _).trans q9,(hk _).trans q10,(hk _).trans q11⟩)
   clear q0 q1 q2 q3 q4 q5 q6 q7 q8 q9 q10 q11
   go_upto_region 4 with (fail)
   obtain⟨RS,hRS⟩:∃RS:(Nat→Value)→World→Prop,RS=fun f w' =>∃(g:Nat) (A3:Option Addr) (c3:Nat) (es3:List Ent),f 11=.pointer (some ⟨g,0,none⟩)∧f 12=.int .i64 0∧Blk w' g 39 #[.int .i64 0,.int .i64 ((i:Int)+1),.slice A3 es3.length c3]∧dM w' w.heap.size A3 c3 es3∧es3.map Ent.p=og (l.take (i+1))∧Below wr.heap.size wr w':=⟨_,rfl⟩
   have HRS:=qh hRS
   clear hRS
   have hbd:Below wr.heap.size wr wr.drew:=brf.drew
   refine lV .normal [11,12,19,20,21,22,23,24,25,26,27,28,29] RS ?_ ?_
   ·refine aO (S:=fun u=>(u.cell? ⟨w.heap.size,0,none⟩=some (.slice A ts.length c)∧u.cell? ⟨w.heap.size,1,none⟩=some (.slice none 0 0)∧u.cell? ⟨w.heap.size,2,none⟩=some (.slice none 0 0)∧u.cell? ⟨w.heap.size,3,none⟩=some (.slice none 0 0)∧u.cell? ⟨w.heap.size,4,none⟩=some (.slice none 0 0)∧u.cell? ⟨w.heap.size,5,none⟩=some (.slice none 0 0)∧u.cell? ⟨w.heap.size,6,none⟩=some (.slice none 0 0)∧u.cell? ⟨w.heap.size,7,none⟩=some (.slice none 0 0))∧(u.cell? ⟨w.heap.size+1,0,none⟩=some (.int .i64 0)∧u.cell? ⟨w.heap.size+1,1,none⟩=some (.int .i64 (i:Int))∧u.cell? ⟨w.heap.size+1,2,none⟩=some (.slice EA es.length ec))∧(u.cell? ⟨b5,o5+i*12,none⟩=some (.int .i64 kd)∧u.cell? ⟨b5,o5+i*12+1,none⟩=some (.int .i64 sq)∧u.cell? ⟨b5,o5+i*12+2,none⟩=some (.int .i64 dy)∧u.cell? ⟨b5,o5+i*12+3,none⟩=some (.int .i64 tb)∧u.cell? ⟨b5,o5+i*12+4,none⟩=some (.slice XA row.length xc)∧u.cell? ⟨b5,o5+i*12+5,none⟩=some (.int .i64 key.kind)∧u.cell? ⟨b5,o5+i*12+6,none⟩=some (.int .i64 key.num)∧u.cell? ⟨b5,o5+i*12+7,none⟩=some (.string key.text)∧u.cell? ⟨b5,o5+i*12+8,none⟩=some (.int .i64 cl)∧u.cell? ⟨b5,o5+i*12+9,none⟩=some (.int .i64 vl.kind)∧u.cell? ⟨b5,o5+i*12+10,none⟩=some (.int .i64 vl.num)∧u.cell? ⟨b5,o5+i*12+11,none⟩=some (.string vl.text))) [] krA (HSS.out _ hbd) (fun hHeld =>?_)
    refine tkT 0 hHeld ?_ (hQ:=by exact fun c a w h=>nomatch h.1)
    refine tkT 1 hHeld ?_ (hQ:=by exact fun c a w h=>nomatch h.1)
    refine tkT 2 hHeld ?_ (hQ:=by exact fun c a w h=>nomatch h.1)
    refine tkT 3 hHeld ?_ (hQ:=by exact fun c a w h=>nomatch h.1)
    refine tkT 4 hHeld ?_ (hQ:=by exact fun c a w h=>nomatch h.1)
    refine tkT 5 hHeld ?_ (hQ:=by exact fun c a w h=>nomatch h.1)
    refine tkT 6 hHeld ?_ (hQ:=by exact fun c a w h=>nomatch h.1)
    refine r2T 7 11 (fun K hK =>?_) (fun K hK =>?_)
    ·go_simp
     (go_at_call 23;(with_reducible refine(kR A c ts.length ts k 0 (i:Int) EA ec es.length es kd sq dy tb XA xc row key cl vl _ (HT.out.next (aa hbr hbd hbr.size)) rfl HS.out (dH.below' HOE.out hbd) rfl HLO.out HO8.out (mF.out.next hbd) hr8 HTB.out zk.out omA omA).mono ?_);rintro e v1 ⟨⟨A3,c3,es3,rfl,hm3,ho3⟩,hb3⟩)
     have hv1:Below wr.heap.size wr v1:=aa hbd hb3 (hbd).size
     have HM3:Hid (es3.map Ent.p=og (l.take (i+1))):=qh (HNX.out es3 hm3)
     have HO3:Hid (dM v1 w.heap.size A3 c3 es3):=qh (ho3.mono (Nat.le_trans hbr.size (hbd).size))
     clear hm3 ho3
     go_wp2_with fail
     refine hK.out _ _ _ (HSS.out _ hv1) (fun hHeld =>?_)
     clear hK K
     refine tkT 8 hHeld ?_ (hQ:=by exact fun c a w h=>nomatch h.1)
     refine tkT 9 hHeld ?_ (hQ:=by exact fun c a w h=>nomatch h.1)
     refine tkT 10 hHeld ?_ (hQ:=by exact fun c a w h=>nomatch h.1)
     refine r1T 11 (fun K hK =>?_)
     go_simp
     refine hK.out _ _ _ (HSS.out _ (hv1.alloc hv1.size _)) (fun hHeld =>?_)
     clear hK K
     generalize hg:v1.heap.size=g
     generalize hwe:World.alloc v1 _=we
     have hab:Below v1.heap.size v1 we:=by rw[←hwe];exact ak
     have hbe:Below wr.heap.size wr we:=aa hv1 hab hv1.size
     have HG:Hid (Blk we g 39 #[.int .i64 0,.int .i64 0,.slice none 0 0]):=qh (by rw[←hwe];exact Blk.new' hg)
     have hgu:wr.heap.size≤g:=by rw[←hg];exact hv1.size
     (replace HO3:=qh (HO3.out.below hab))
     clear hwe
     have hgl:=HG.out.lt
     have gf:=fun j=>HG.out.frozen j
     have g0:=HG.out.cell 0
     have g1:=HG.out.cell 1
     have g2:=HG.out.cell 2
     simp only[gE3]at g0 g1 g2
     refine r1T 12 (fun K hK =>?_)
     go_simp
     have hbg:∀V,V=((we.setCell ⟨g,0,none⟩ (.int .i64 0)).setCell ⟨g,1,none⟩ (.int .i64 ((i:Int)+1))).setCell ⟨g,2,none⟩ (.slice A3 es3.length c3)→Below wr.heap.size wr V:=fun V hV=>by
      rw[hV]
      iterate 3 (refine Below.setCell ?_ (show wr.heap.size≤g from hgu) _)
      exact hbe
     refine hK.out _ _ _ (HSS.out _ (hbg _ rfl)) (fun hHeld =>?_)
     clear hK K
     refine tkT 13 hHeld ?_ (hQ:=by exact fun c a w h=>nomatch h.1)
     refine aM krA ?_ _
     clear hHeld
     refine⟨rfl,bT ?_ ?_⟩
     ·kernel_rfl
     refine⟨rfl,?_⟩
     rw[HRS.out]
     refine⟨g,A3,c3,es3,rfl,rfl,?_,?_,HM3.out,hbg _ rfl⟩
     ·have h:=((HG.out.aH 0 (.int .i64 0)).aH 1 (.int .i64 ((i:Int)+1))).aH 2 (.slice A3 es3.length c3)
      simpa using h
     ·have n1:=HO3.out.own.aU HG.out (by decide)
      refine⟨?_,fun x hx =>?_,HO3.out.len⟩
      ·iterate 3 (refine ah.far ?_ n1 _)
       exact HO3.out.own
      ·have m1:=(HO3.out.rows x hx).aU HG.out (by decide)
       iterate 3 (refine ah.far ?_ m1 _)
       exact HO3.out.rows x hx
    ·go_simp
     refine hK.out _ _ _ (HSS.out _ ak) (fun hHeld =>?_)
     clear hK K
     generalize hg:wr.heap.size=g
     generalize hwe:World.drew (World.alloc wr _)=wa
     have hwa:Below wr.heap.size wr wa:=by rw[←hwe];exact ak
     have HG:Hid (Blk wa g 39 #[.int .i64 0,.int .i64 0,.slice none 0 0]):=qh (by rw[←hwe];exact(Blk.new' hg).drew)
     have hgu:wr.heap.size≤g:=by rw[←hg];exact Nat.le_refl _
     have hga:g<wa.heap.size:=HG.out.lt
     clear hwe hg
     refine r1T 7 (fun K hK =>?_)
     go_simp
     (go_at_call 23;(with_reducible refine(kR A c ts.length ts k 0 (i:Int) EA ec es.length es kd sq dy tb XA xc row key cl vl _ (HT.out.next (aa hbr hwa hbr.size)) rfl HS.out (dH.below' HOE.out hwa) rfl HLO.out HO8.out (mF.out.next hwa) hr8 HTB.out zk.out omA omA).mono ?_);rintro e we ⟨⟨A3,c3,es3,rfl,hm3,ho3⟩,hb3⟩)
     have hbe:Below wr.heap.size wr we:=aa hwa hb3 (hwa).size
     have HM3:Hid (es3.map Ent.p=og (l.take (i+1))):=qh (HNX.out es3 hm3)
     have HO3:Hid (dM we w.heap.size A3 c3 es3):=qh (ho3.mono (Nat.le_trans hbr.size (hwa).size))
     clear hm3 ho3
     go_wp2_with fail
     refine hK.out _ _ _ (HSS.out _ hbe) (fun hHeld =>?_)
     clear hK K
     (replace HG:=qh (HG.out.below hb3 hga))
     refine tkT 8 hHeld ?_ (hQ:=by exact fun c a w h=>nomatch h.1)
     refine tkT 9 hHeld ?_ (hQ:=by exact fun c a w h=>nomatch h.1)
     refine tkT 10 hHeld ?_ (hQ:=by exact fun c a w h=>nomatch h.1)
     have hgl:=HG.out.lt
     have gf:=fun j=>HG.out.frozen j
     have g0:=HG.out.cell 0
     have g1:=HG.out.cell 1
     have g2:=HG.out.cell 2
     simp only[gE3]at g0 g1 g2
     refine r1T 12 (fun K hK =>?_)
     go_simp
     have hbg:∀V,V=((we.setCell ⟨g,0,none⟩ (.int .i64 0)).setCell ⟨g,1,none⟩ (.int .i64 ((i:Int)+1))).setCell ⟨g,2,none⟩ (.slice A3 es3.length c3)→Below wr.heap.size wr V:=fun V hV=>by
      rw[hV]
      iterate 3 (refine Below.setCell ?_ (show wr.heap.size≤g from hgu) _)
      exact hbe
     refine hK.out _ _ _ (HSS.out _ (hbg _ rfl)) (fun hHeld =>?_)
     clear hK K
     refine tkT 13 hHeld ?_ (hQ:=by exact fun c a w h=>nomatch h.1)
     refine aM krA ?_ _
     clear hHeld
     refine⟨rfl,bT ?_ ?_⟩
     ·kernel_rfl
     refine⟨rfl,?_⟩
     rw[HRS.out]
     refine⟨g,A3,c3,es3,rfl,rfl,?_,?_,HM3.out,hbg _ rfl⟩
     ·have h:=((HG.out.aH 0 (.int .i64 0)).aH 1 (.int .i64 ((i:Int)+1))).aH 2 (.slice A3 es3.length c3)
      simpa using h
     ·have n1:=HO3.out.own.aU HG.out (by decide)
      refine⟨?_,fun x hx =>?_,HO3.out.len⟩
      ·iterate 3 (refine ah.far ?_ n1 _)
       exact HO3.out.own
      ·have m1:=(HO3.out.rows x hx).aU HG.out (by decide)
       iterate 3 (refine ah.far ?_ m1 _)
       exact HO3.out.rows x hx
   rintro f w4 hf
   rw[HRS.out]at hf
   obtain⟨g,A3,c3,es3,Mw,Ux,hG,hO3,hm3,hb4⟩:=hf
   simp only[setL,List.setIfInBounds_toArray,List.set_cons_zero,List.set_cons_succ]
   rw[Mw,Ux]
   have hz4:=hb4.size
   have HC4:=qh (HCr.out.below hb4 hcl)
   have HL4:=qh (HLr.out.below hb4 hll)
   have HR4:=qh (HRr.out.below hb4 hrl)
   have HG4:=qh hG
   have HO4:=qh hO3
   have HM4:=qh hm3
   have g0:=hG.cell 0
   have g1:=hG.cell 1
   have g2:=hG.cell 2
   have l0:=HL4.out.cell 0
   have l1:=HL4.out.cell 1
   have l2:=HL4.out.cell 2
   have lf:=fun j=>HL4.out.frozen j
   have hgl:=hG.lt
   have Zc:=HL4.out.lt
   simp only[gE3]at g0 g1 g2 l0 l1 l2
   clear Mw Ux hG hO3 hm3
   go_wp2_with fail
   go_roundw
   case rel =>
    refine⟨i+1,A3,c3,es3,by omega,by go_num,?_,?_,?_,?_,HM4.out,?_⟩
    ·iterate 3 (refine Blk.far ?_ spA _)
     exact HC4.out
    ·have h:=((HL4.out.aH 0 (.int .i64 0)).aH 1 (.int .i64 ((i:Int)+1))).aH 2 (.slice A3 es3.length c3)
     simpa using h
    ·iterate 3 (refine Blk.far ?_ spA _)
     exact HR4.out
    ·have n1:=HO4.out.own.aU HL4.out (by decide)
     refine⟨?_,fun x hx =>?_,HO4.out.len⟩
     ·iterate 3 (refine ah.far ?_ n1 _)
      exact HO4.out.own
     ·have m1:=(HO4.out.rows x hx).aU HL4.out (by decide)
      iterate 3 (refine ah.far ?_ m1 _)
      exact HO4.out.rows x hx
    ·iterate 3 (refine Below.setCell ?_ (by show w.heap.size≤w.heap.size+1;omega) _)
     exact aa hbr hb4 hbr.size
   case measure=>exact meA
  ·have hlt':decide (i<l.length)=false:=by simpa using hlt
   have tC:decide ((i:Int)<(l.length:Int))=false:=by simp;omega
   have hie:i=l.length:=by omega
   have kD:Hid (es.map Ent.p=og l):=qh (by rw[HM.out,List.take_of_length_le omA])
   have HIE:=qh hie
   clear hie
   have l0:=HLr.out.cell 0
   have l1:=HLr.out.cell 1
   have l2:=HLr.out.cell 2
   have r0:=HRr.out.cell 0
   have r1:=HRr.out.cell 1
   have r2:=HRr.out.cell 2
   have rf:=fun j=>HRr.out.frozen j
   simp only[gE3]at l0 l1 l2 r0 r1 r2
   go_wp2_with fail
   refine bodyPost_ret (v:= .tuple #[.agg #[.int .i64 0,.int .i64 (i:Int),.slice EA es.length ec],.bool true]) (by simp[results,Tryz.results16,go_sem,r0,r1,r2]) rfl ⟨⟨EA,ec,es,by rw[HIE.out],kD.out,?_⟩,?_⟩
   ·have n1:=HOE.out.own.aU HRr.out (by decide)
    refine⟨?_,fun x hx =>?_,HOE.out.len⟩
    ·iterate 3 (refine ah.far ?_ n1 _)
     exact HOE.out.own
    ·have m1:=(HOE.out.rows x hx).aU HRr.out (by decide)
     iterate 3 (refine ah.far ?_ m1 _)
     exact HOE.out.rows x hx
   ·iterate 3 (refine Below.setCell ?_ (by show w.heap.size≤w.heap.size+2;omega) _)
    exact hbr
end Go.Proofs.YtjidligipoldeaaGreat
