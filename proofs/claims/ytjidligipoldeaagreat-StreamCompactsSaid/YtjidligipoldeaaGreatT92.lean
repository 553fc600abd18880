/-
  Contracts and plain laws of this seat, part 92.
-/
import Derived.Test.YtjidligipoldeaaGreatT91
set_option linter.unusedVariables false
set_option linter.unusedSimpArgs false
set_option maxRecDepth 100000
set_option maxHeartbeats 16000000
set_option maxRecDepth 100000
namespace Go.Proofs.YtjidligipoldeaaGreat
open Go.RowKit Go Go.Shelf
attribute [local go_sem] Oper.semAt_some
def fe(l:List Chg):List Ent:=l.mapIdx fun i x=>⟨(i:Int),x⟩
theorem I8{l:List Chg}{i:Nat}(hi:i<l.length):fe (l.take (i+1))=fe (l.take i) ++ [⟨(i:Int),l[i]⟩]:=by
 unfold fe
 rw[List.take_succ_eq_append_getElem hi,List.mapIdx_append]
 simp
 omega
theorem lu(l:List Chg):(fe l).map Ent.p=iG l:=by
 unfold fe iG
 refine List.ext_getElem? fun i =>?_
 rw[List.getElem?_map,List.getElem?_mapIdx,List.getElem?_mapIdx,Option.map_map]
 rfl
theorem nD(l:List Chg):(fe l).length=l.length:=by simp[fe]
theorem qb{l:List Chg}{x:Ent}(h:x∈fe l):x.chg∈l:=by
 unfold fe at h
 obtain⟨i,hi,rfl⟩:=List.mem_mapIdx.1 h
 exact lgm hi
theorem l92_0{P:Prop}(h:P:=by
 have hgl:=HG.out.lt
 have gf:=fun j=>HG.out.frozen j
 have g0:=HG.out.cell 0
 have g1:=HG.out.cell 1
 have g2:=HG.out.cell 2
 simp only[gE3]at g0 g1 g2
 refine r1T 12 (fun K hK =>?_)
 go_simp
 have hbg:∀V,V=((we.setCell ⟨g,0,none⟩ (.int .i64 0)).setCell ⟨g,1,none⟩ (.int .i64 ((i:Int)+1))).setCell ⟨g,2,none⟩ (.slice A3 (i+1) c3)→Below wr.heap.size wr V:=fun V hV=>by
  rw[hV]
  iterate 3 (refine Below.setCell ?_ (show wr.heap.size≤g from hgu) _)
  exact hbe
 refine hK.out _ _ _ (HSS.out _ (hbg _ rfl)) (fun hHeld =>?_)
 clear hK K
 refine tkT 13 hHeld ?_ (hQ:=hqA)
 refine aI krA ?_ _
 clear hHeld
 refine⟨rfl,bD ?_ ?_⟩
 ·kernel_rfl
 refine⟨rfl,?_⟩
 rw[HRS.out]
 refine⟨g,A3,c3,rfl,rfl,HC3.out,?_,?_,hbg _ rfl⟩
 ·have h:=((HG.out.aH 0 (.int .i64 0)).aH 1 (.int .i64 ((i:Int)+1))).aH 2 (.slice A3 (i+1) c3)
  simpa using h
 ·have n1:=HO3.out.aY HG.out (by decide)
  iterate 3 (refine aj.far ?_ n1 _)
  exact HO3.out):P:=h
theorem Ag(A:Option Addr)(c m:Nat)(ts:List Tab)(k:Nat)(LA:Option Addr)(lc n:Nat)(l:List Chg)(w:World)(ht:aF w w.heap.size A ts)(hm:ts.length=m)(hs:aM ts)(hk:k<ts.length)(hl:dQ w w.heap.size LA l)(hn:l.length=n)(hn2:n≤200)(ho:bK ts l)(htb:∀x∈l,x.table=(k:Int))(h8:∀x∈l,x.row.length≤8):
 Calls Tryz.prog 9 #[.agg #[.slice A m c,.slice none 0 0,.slice none 0 0,.slice none 0 0,.slice none 0 0,.slice none 0 0,.slice none 0 0,.slice none 0 0],.int .i64 k,.slice LA n lc] w fun e w' =>
  (∃A' c',e=.returned (.agg #[.int .i64 0,.int .i64 (n:Nat),.slice A' n c'])∧n≤c'∧di w' w'.heap.size A' (fe l))∧Below w.heap.size w w':=by
 subst hm hn
 have HT:=qh ht
 have HS:=qh hs
 have HL:=qh hl
 have HO:=qh ho
 have VI:=qh htb
 have H8:=qh h8
 have h1:=ho.cat.len
 clear ht hs hl ho htb h8
 go_enter Tryz.func9,Tryz.ntmps9
 go_upto_region 1 with (fail)
 refine ah (P:=fun u=>Code.wp _ _ _ _ u) (R:=fun u=>Blk u w.heap.size 33 #[.slice A ts.length c,.slice none 0 0,.slice none 0 0,.slice none 0 0,.slice none 0 0,.slice none 0 0,.slice none 0 0,.slice none 0 0]∧Blk u (w.heap.size+1) 39 #[.int .i64 0,.int .i64 0,.slice none 0 0]∧Below w.heap.size w u) ⟨?_,?_,?_⟩ ?_
 ·exact(Blk.new _ _ _).alloc _
 ·exact Blk.new' spA
 ·exact ai
 rintro W ⟨hC,hR,hbW⟩
 have HC:=qh hC
 have HR:=qh hR
 have hcl:=hC.lt
 have hrl:=hR.lt
 clear hC hR
 go_upto_region 2 with (go_at_call 29;(with_reducible refine(H9 _).mono ?_);rintro e w1 ⟨rfl,hb1⟩)
 obtain⟨g7,hg7⟩:∃g7,w1.heap.size=g7:=⟨_,rfl⟩
 have HG7:=qh hg7
 rw[hg7]
 refine ah (P:=fun u=>Code.wp _ _ _ _ u) (R:=fun u=>Blk u g7 39 #[.int .i64 0,.int .i64 0,.slice none 0 0]∧Below g7 w1 u) ⟨Blk.new' hg7,by rw[←hg7];exact ai⟩ ?_
 rintro w2 ⟨hG7,hb2⟩
 rw[←HG7.out]at hb2
 have HLG:=qh hG7
 have hx1:Below w.heap.size w w1:=aa hbW hb1 hbW.size
 have hx2:Below w.heap.size w w2:=aa hx1 hb2 hx1.size
 have hbw2:Below W.heap.size W w2:=aa hb1 hb2 hb1.size
 have XC:W.heap.size≤g7:=by rw[←HG7.out];exact hb1.size
 have HC2:=qh (HC.out.below hbw2 hcl)
 have HR2:=qh (HR.out.below hbw2 hrl)
 clear hG7 hg7 HC HR
 go_wp2_with fail
 go_loopw [8] (fun vi wr =>∃(i:Nat) (EA:Option Addr) (ec:Nat),i≤l.length∧vi=.int .i64 i∧i≤ec∧Blk wr w.heap.size 33 #[.slice A ts.length c,.slice none 0 0,.slice none 0 0,.slice none 0 0,.slice none 0 0,.slice none 0 0,.slice none 0 0,.slice none 0 0]∧Blk wr g7 39 #[.int .i64 0,.int .i64 (i:Int),.slice EA i ec]∧Blk wr (w.heap.size+1) 39 #[.int .i64 0,.int .i64 0,.slice none 0 0]∧aj wr w.heap.size 56 Ent.cells 15 (.slice EA i ec) (fe (l.take i))∧Below w.heap.size w wr) (fun vi _=>l.length-(intOf vi).toNat)
 case atStart=>exact⟨0,none,0,Nat.zero_le _,rfl,Nat.zero_le _,HC2.out,HLG.out,HR2.out,aj.nil,hx2⟩
 case round =>
  obtain⟨i,EA,ec,hi,rfl,hic,hC,hL,hR,hE,hbr⟩:=hrel
  have HCr:=qh hC
  have HLr:=qh hL
  have HRr:=qh hR
  have HOE:=qh hE
  have hcl:=hC.lt
  have hll:=hL.lt
  have hrl:=hR.lt
  clear hC hL hR hE HC2 HLG
  have HEL:Hid ((fe (l.take i)).length=i):=qh (by rw[nD,List.length_take];omega)
  have HES:Hid (di wr wr.heap.size EA (fe (l.take i))):=qh ⟨by
   have h:=HOE.out
   rw[show i=(fe (l.take i)).length from HEL.out.symm]at h
   rw[←HEL.out]
   exact dM iH (by simpa[HEL.out]using HOE.out),fun x hx=>(HL.out.next hbr).2 x.chg (List.mem_of_mem_take (qb hx))⟩
  by_cases hlt:i<l.length
  ·have hlt':decide (i<l.length)=true:=by simpa using hlt
   have kG:decide ((i:Int)<(l.length:Int))=true:=by simp;omega
   have hwrap:IntKind.i64.wrap ((i:Int)+1)=((i:Int)+1):=IntWalk.i64_in _ omA
   obtain⟨b5,o5,rfl,hb5,hc5⟩:=HL.out.1.get hlt
   obtain⟨⟨q0,q1,q2,q3⟩,q4,⟨q5,q6,q7⟩,q8,q9,q10,q11⟩:=Chg.mg hc5
   have hrow:=HL.out.2 _ (lgm hlt)
   have hr8:=H8.out _ (lgm hlt)
   have htb:=VI.out _ (lgm hlt)
   have R5:=ng HO.out VI.out hk hn2 i omA
   rw[←lu]at R5
   have RZ:bK ts (((fe (l.take i)).map Ent.p).map Prod.snd ++ [unC l[i]]):=by
    rw[lu,gQ,←List.map_singleton,←List.map_append,←List.take_succ_eq_append_getElem hlt]
    exact wR (pQ HO.out _)
   have hNX:=I8 hlt
   obtain⟨⟨kd,sq,dy,tb,XA,xc,row,key,cl,vl⟩,hx⟩:∃x,l[i]=x:=⟨_,rfl⟩
   rw[hx]at q0 q1 q2 q3 q4 q5 q6 q7 q8 q9 q10 q11 hrow hr8 htb RZ hNX
   simp only at q0 q1 q2 q3 q4 q5 q6 q7 q8 q9 q10 q11 hrow hr8 htb
   have iV:Hid (ag wr wr.heap.size Val.cells 3 XA row):=qh (hrow.next hbr)
   have HTB:=qh htb
   have HLO:=qh R5
   have qX:=qh RZ
   have HNX:=qh hNX
   have HO8:Hid (∀x∈fe (l.take i),x.chg.row.length≤8):=qh (fun x hx=>H8.out x.chg (List.mem_of_mem_take (qb hx)))
   clear hc5 hrow htb R5 RZ hNX hx
   have HSS:Hid (∀V,Below wr.heap.size wr V→(V.cell? ⟨w.heap.size,0,none⟩=some (.slice A ts.length c)∧V.cell? ⟨w.heap.size,1,none⟩=some (.slice none 0 0)∧V.cell? ⟨w.heap.size,2,none⟩=some (.slice none 0 0)∧V.cell? ⟨w.heap.size,3,none⟩=some (.slice none 0 0)∧V.cell? ⟨w.heap.size,4,none⟩=some (.slice none 0 0)∧V.cell? ⟨w.heap.size,5,none⟩=some (.slice none 0 0)∧V.cell? ⟨w.heap.size,6,none⟩=some (.slice none 0 0)∧V.cell? ⟨w.heap.size,7,none⟩=some (.slice none 0 0))∧(V.cell? ⟨g7,0,none⟩=some (.int .i64 0)∧V.cell? ⟨g7,1,none⟩=some (.int .i64 (i:Int))∧V.cell? ⟨g7,2,none⟩=some (.slice EA i ec))∧(V.cell? ⟨b5,o5+i*12,none⟩=some (.int .i64 kd)∧V.cell? ⟨b5,o5+i*12+1,none⟩=some (.int .i64 sq)∧V.cell? ⟨b5,o5+i*12+2,none⟩=some (.int .i64 dy)∧V.cell? ⟨b5,o5+i*12+3,none⟩=some (.int .i64 tb)∧V.cell? ⟨b5,o5+i*12+4,none⟩=some (.slice XA row.length xc)∧V.cell? ⟨b5,o5+i*12+5,none⟩=some (.int .i64 key.kind)∧V.cell? ⟨b5,o5+i*12+6,none⟩=some (.int .i64 key.num)∧V.cell? ⟨b5,o5+i*12+7,none⟩=some (.string key.text)∧V.cell? ⟨b5,o5+i*12+8,none⟩=some (.int .i64 cl)∧V.cell? ⟨b5,o5+i*12+9,none⟩=some (.int .i64 vl.kind)∧V.cell? ⟨b5,o5+i*12+10,none⟩=some (.int .i64 vl.num)∧V.cell? ⟨b5,o5+i*12+11,none⟩=some (.string vl.text))):=qh (fun V hV=>by
    have hwV:Below w.heap.size w V:=aa hbr hV hbr.size
    have hk:∀j,V.cell? ⟨b5,j,none⟩=w.cell? ⟨b5,j,none⟩:=fun j=>hwV.cell (p:=⟨b5,j,none⟩) hb5
    exact⟨Cat.blk (HCr.out.below hV hcl),⟨(HLr.out.below hV hll).cell 0,(HLr.out.below hV hll).cell 1,(HLr.out.below hV hll).cell 2⟩,(hk _).trans q0,(hk _).trans q1,(hk _).trans q2,(hk _).trans q3,(hk _).trans q4,(hk _).trans q5,(hk _).trans q6,(hk _).trans q7,(hk _).trans q8,(hk _).trans q9,(hk _).trans q10,(hk _).trans q11⟩)
   clear q0 q1 q2 q3 q4 q5 q6 q7 q8 q9 q10 q11
   go_upto_region 5 with (fail)
   obtain⟨RS,hRS⟩:∃RS:(Nat→Value)→World→Prop,RS=fun f w' =>∃(g:Nat) (A3:Option Addr) (c3:Nat),f 9=.pointer (some ⟨g,0,none⟩)∧f 10=.int .i64 0∧i+1≤c3∧Blk w' g 39 #[.int .i64 0,.int .i64 ((i:Int)+1),.slice A3 (i+1) c3]∧aj w' w.heap.size 56 Ent.cells 15 (.slice A3 (i+1) c3) (fe (l.take (i+1)))∧Below wr.heap.size wr w':=⟨_,rfl⟩
   have HRS:=qh hRS
   clear hRS
   have hbd:Below wr.heap.size wr wr.drew:=brf.drew
   refine gX .normal [9,10,18,19,20,21,22,23,24,25,26,27,28] RS ?_ ?_
   ·refine aJ (S:=fun u=>(u.cell? ⟨w.heap.size,0,none⟩=some (.slice A ts.length c)∧u.cell? ⟨w.heap.size,1,none⟩=some (.slice none 0 0)∧u.cell? ⟨w.heap.size,2,none⟩=some (.slice none 0 0)∧u.cell? ⟨w.heap.size,3,none⟩=some (.slice none 0 0)∧u.cell? ⟨w.heap.size,4,none⟩=some (.slice none 0 0)∧u.cell? ⟨w.heap.size,5,none⟩=some (.slice none 0 0)∧u.cell? ⟨w.heap.size,6,none⟩=some (.slice none 0 0)∧u.cell? ⟨w.heap.size,7,none⟩=some (.slice none 0 0))∧(u.cell? ⟨g7,0,none⟩=some (.int .i64 0)∧u.cell? ⟨g7,1,none⟩=some (.int .i64 (i:Int))∧u.cell? ⟨g7,2,none⟩=some (.slice EA i ec))∧(u.cell? ⟨b5,o5+i*12,none⟩=some (.int .i64 kd)∧u.cell? ⟨b5,o5+i*12+1,none⟩=some (.int .i64 sq)∧u.cell? ⟨b5,o5+i*12+2,none⟩=some (.int .i64 dy)∧u.cell? ⟨b5,o5+i*12+3,none⟩=some (.int .i64 tb)∧u.cell? ⟨b5,o5+i*12+4,none⟩=some (.slice XA row.length xc)∧u.cell? ⟨b5,o5+i*12+5,none⟩=some (.int .i64 key.kind)∧u.cell? ⟨b5,o5+i*12+6,none⟩=some (.int .i64 key.num)∧u.cell? ⟨b5,o5+i*12+7,none⟩=some (.string key.text)∧u.cell? ⟨b5,o5+i*12+8,none⟩=some (.int .i64 cl)∧u.cell? ⟨b5,o5+i*12+9,none⟩=some (.int .i64 vl.kind)∧u.cell? ⟨b5,o5+i*12+10,none⟩=some (.int .i64 vl.num)∧u.cell? ⟨b5,o5+i*12+11,none⟩=some (.string vl.text))) [] krA (HSS.out _ hbd) (fun hHeld =>?_)
    refine tkT 0 hHeld ?_ (hQ:=hqA)
    refine tkT 1 hHeld ?_ (hQ:=hqA)
    refine tkT 2 hHeld ?_ (hQ:=hqA)
    refine tkT 3 hHeld ?_ (hQ:=hqA)
    refine tkT 4 hHeld ?_ (hQ:=hqA)
    refine tkT 5 hHeld ?_ (hQ:=hqA)
    refine tkT 6 hHeld ?_ (hQ:=hqA)
    refine r2T 7 11 (fun K hK =>?_) (fun K hK =>?_)
    ·go_simp
     (go_at_call 30;(with_reducible refine(tH A c ts.length ts k 0 (i:Int) EA ec i (fe (l.take i)) kd sq dy tb XA xc row key cl vl _ (HT.out.next (aa hbr hbd hbr.size)) rfl HS.out ((HES.out).next hbd) HEL.out HLO.out HO8.out (iV.out.next hbd) hr8 HTB.out qX.out (by have:=HEL.out;omega) omA).mono ?_);rintro e v1 ⟨⟨A3,c3,rfl,ho3,hc3⟩,hb3⟩)
     have hv1:Below wr.heap.size wr v1:=aa hbd hb3 (hbd).size
     rw[←HNX.out]at ho3
     have HO3:Hid (aj v1 w.heap.size 56 Ent.cells 15 (.slice A3 (i+1) c3) (fe (l.take (i+1)))):=qh (ho3.mono (Nat.le_trans hbr.size (hbd).size))
     have HC3:=qh hc3
     clear ho3 hc3
     go_wp2_with fail
     refine hK.out _ _ _ (HSS.out _ hv1) (fun hHeld =>?_)
     clear hK K
     refine tkT 8 hHeld ?_ (hQ:=hqA)
     refine tkT 9 hHeld ?_ (hQ:=hqA)
     refine tkT 10 hHeld ?_ (hQ:=hqA)
     refine r1T 11 (fun K hK =>?_)
     go_simp
     refine hK.out _ _ _ (HSS.out _ (hv1.alloc hv1.size _)) (fun hHeld =>?_)
     clear hK K
     generalize hg:v1.heap.size=g
     generalize hwe:World.alloc v1 _=we
     have hab:Below v1.heap.size v1 we:=by rw[←hwe];exact ai
     have hbe:Below wr.heap.size wr we:=aa hv1 hab hv1.size
     have HG:Hid (Blk we g 39 #[.int .i64 0,.int .i64 0,.slice none 0 0]):=qh (by rw[←hwe];exact Blk.new' hg)
     have hgu:wr.heap.size≤g:=by rw[←hg];exact hv1.size
     (replace HO3:=qh (HO3.out.below hab nlr))
     clear hwe
     exact l92_0
    ·go_simp
     refine hK.out _ _ _ (HSS.out _ ai) (fun hHeld =>?_)
     clear hK K
     generalize hg:wr.heap.size=g
     generalize hwe:World.drew (World.alloc wr _)=wa
     have hwa:Below wr.heap.size wr wa:=by rw[←hwe];exact ai
     have HG:Hid (Blk wa g 39 #[.int .i64 0,.int .i64 0,.slice none 0 0]):=qh (by rw[←hwe];exact(Blk.new' hg).drew)
     have hgu:wr.heap.size≤g:=by rw[←hg];exact Nat.le_refl _
     have hga:g<wa.heap.size:=HG.out.lt
     clear hwe hg
     refine r1T 7 (fun K hK =>?_)
     go_simp
     (go_at_call 30;(with_reducible refine(tH A c ts.length ts k 0 (i:Int) EA ec i (fe (l.take i)) kd sq dy tb XA xc row key cl vl _ (HT.out.next (aa hbr hwa hbr.size)) rfl HS.out ((HES.out).next hwa) HEL.out HLO.out HO8.out (iV.out.next hwa) hr8 HTB.out qX.out (by have:=HEL.out;omega) omA).mono ?_);rintro e we ⟨⟨A3,c3,rfl,ho3,hc3⟩,hb3⟩)
     have hbe:Below wr.heap.size wr we:=aa hwa hb3 (hwa).size
     rw[←HNX.out]at ho3
     have HO3:Hid (aj we w.heap.size 56 Ent.cells 15 (.slice A3 (i+1) c3) (fe (l.take (i+1)))):=qh (ho3.mono (Nat.le_trans hbr.size (hwa).size))
     have HC3:=qh hc3
     clear ho3 hc3
     go_wp2_with fail
     refine hK.out _ _ _ (HSS.out _ hbe) (fun hHeld =>?_)
     clear hK K
     (replace HG:=qh (HG.out.below hb3 hga))
     refine tkT 8 hHeld ?_ (hQ:=hqA)
     refine tkT 9 hHeld ?_ (hQ:=hqA)
     refine tkT 10 hHeld ?_ (hQ:=hqA)
     exact l92_0
   rintro f w4 hf
   rw[HRS.out]at hf
   obtain⟨g,A3,c3,MG,UW,hc3,hG,hO3,hb4⟩:=hf
   simp only[setL,List.setIfInBounds_toArray,List.set_cons_zero,List.set_cons_succ]
   rw[MG,UW]
   have hz4:=hb4.size
   have HC4:=qh (HCr.out.below hb4 hcl)
   have HL4:=qh (HLr.out.below hb4 hll)
   have HR4:=qh (HRr.out.below hb4 hrl)
   have HO4:=qh hO3
   have g0:=hG.cell 0
   have g1:=hG.cell 1
   have g2:=hG.cell 2
   have l0:=HL4.out.cell 0
   have l1:=HL4.out.cell 1
   have l2:=HL4.out.cell 2
   have lf:=fun j=>HL4.out.frozen j
   have hgl:=hG.lt
   have ZK:=HL4.out.lt
   have Z4:W.heap.size≤g7:=XC
   simp only[gE3]at g0 g1 g2 l0 l1 l2
   clear MG UW hG hO3
   go_wp2_with fail
   go_roundw
   case rel =>
    have hn0:w.heap.size≠g7:=by have:=hbW.size;omega
    have hn1:w.heap.size+1≠g7:=by have:=HR2.out.lt;omega
    refine⟨i+1,A3,c3,by omega,by go_num,hc3,?_,?_,?_,?_,?_⟩
    ·iterate 3 (refine Blk.far ?_ hn0 _)
     exact HC4.out
    ·have h:=((HL4.out.aH 0 (.int .i64 0)).aH 1 (.int .i64 ((i:Int)+1))).aH 2 (.slice A3 (i+1) c3)
     simpa using h
    ·iterate 3 (refine Blk.far ?_ hn1 _)
     exact HR4.out
    ·have n1:=HO4.out.aY HL4.out (by decide)
     iterate 3 (refine aj.far ?_ n1 _)
     exact HO4.out
    ·iterate 3 (refine Below.setCell ?_ (by have:=hbW.size;show w.heap.size≤g7;omega) _)
     exact aa hbr hb4 hbr.size
   case measure=>exact meA
  ·have hlt':decide (i<l.length)=false:=by simpa using hlt
   have kG:decide ((i:Int)<(l.length:Int))=false:=by simp;omega
   have hie:i=l.length:=by omega
   have HIE:=qh hie
   clear hie
   have l0:=HLr.out.cell 0
   have l1:=HLr.out.cell 1
   have l2:=HLr.out.cell 2
   have r0:=HRr.out.cell 0
   have r1:=HRr.out.cell 1
   have r2:=HRr.out.cell 2
   have rf:=fun j=>HRr.out.frozen j
   simp only[gE3]at l0 l1 l2 r0 r1 r2
   have Xy:l.length≤ec:=by rw[←HIE.out];exact hic
   go_wp2_with fail
   obtain⟨U,hU⟩:∃U,((wr.setCell ⟨w.heap.size+1,0,none⟩ (.int .i64 0)).setCell ⟨w.heap.size+1,1,none⟩ (.int .i64 (i:Int))).setCell ⟨w.heap.size+1,2,none⟩ (.slice EA i ec)=U:=⟨_,rfl⟩
   rw[hU]
   have HRU:Hid (Blk U (w.heap.size+1) 39 #[.int .i64 0,.int .i64 (i:Int),.slice EA i ec]):=qh (by
    rw[←hU]
    have h:=((HRr.out.aH 0 (.int .i64 0)).aH 1 (.int .i64 (i:Int))).aH 2 (.slice EA i ec)
    simpa using h)
   have HBU:Hid (Below w.heap.size w U):=qh (by
    rw[←hU]
    iterate 3 (refine Below.setCell ?_ (by show w.heap.size≤w.heap.size+1;omega) _)
    exact hbr)
   have HEU:Hid (di U U.heap.size EA (fe l)):=qh ⟨by
    have h:aj U w.heap.size 56 Ent.cells 15 (.slice EA i ec) (fe (l.take i)):=by
     rw[←hU]
     have n1:=HOE.out.aY HRr.out (by decide)
     iterate 3 (refine aj.far ?_ n1 _)
     exact HOE.out
    rw[List.take_of_length_le (by rw[HIE.out];exact Nat.le_refl _)]at h
    have h2:aj U w.heap.size 56 Ent.cells 15 (.slice EA (fe l).length ec) (fe l):=by
     rw[nD,←HIE.out]
     exact h
    exact dM iH h2,fun x hx=>(HL.out.next HBU.out).2 x.chg (qb hx)⟩
   clear hU r0 r1 r2
   have r0:=HRU.out.cell 0
   have r1:=HRU.out.cell 1
   have r2:=HRU.out.cell 2
   simp only[gE3]at r0 r1 r2
   exact bodyPost_ret (v:= .agg #[.int .i64 0,.int .i64 (i:Int),.slice EA i ec]) (by simp[results,Tryz.results9,go_sem,r0,r1,r2]) rfl ⟨⟨EA,ec,by rw[HIE.out],Xy,HEU.out⟩,HBU.out⟩
end Go.Proofs.YtjidligipoldeaaGreat
