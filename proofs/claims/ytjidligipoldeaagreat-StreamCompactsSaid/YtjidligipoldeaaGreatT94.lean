/-
  Contracts and plain laws of this seat, part 94.
-/
import Derived.Test.YtjidligipoldeaaGreatT92
import Derived.Test.YtjidligipoldeaaGreatT81
set_option linter.unusedVariables false
set_option linter.unusedSimpArgs false
set_option maxRecDepth 100000
set_option maxHeartbeats 16000000
namespace Go.Proofs.YtjidligipoldeaaGreat
open Go.RowKit Go
theorem ft{P:Prop}(h:P:=by have:=hva.size;first|exact hva.alloc this _|exact ai):P:=h
theorem fx{P:Prop}(h:P:=by rw[←hwe];exact(Blk.new' hg).drew):P:=h
theorem Ob{l:List Chg}{i:Nat}(hi:i<(iG l).length):(iG l)[i].1=(i:Int):=by simp[iG]
theorem Jf{ts:List Tab}{k:Nat}{l:List Chg}(ho:bK ts l)(ht:∀x∈l,x.table=(k:Int))(hk:k<ts.length)(hl:l.length≤200){m:Nat}(h1:m≤l.length){ks:List Ent}(he:ks.map Ent.p=dR (m:Int) (iG l)):
 ∃n:Nat,n≤ks.length∧(∀i (hi:i<ks.length),i<n↔ks[i].off<(m:Int))∧(ks.drop n).map Ent.p=((fe l).drop m).map Ent.p∧(bM ts (l.take m))[k]?=some (gG (iG l) m)∧n≤(gG (iG l) m).length*ts[k].ae.length:=by
 have IE:=ng ho ht hk hl l.length nlr
 rw[List.take_of_length_le nlr]at IE
 have hnl:=CU l
 have hm0:(0:Int)≤(m:Int):=by omega
 have hm1:(m:Int)≤(l.length:Int):=by omega
 have hcm:dG (m:Int) (iG l)=m:=BQ IE.log.asc omA fun i hi=>by
  rw[Ob hi]
  omega
 have hasc:=(vL IE.log hm0 hm1).asc
 have hcut:=Ao IE.log hm0 hm1
 have hou:bK ts ((iG l).map Prod.snd):=by
  rw[gQ]
  exact wR ho
 have htu:∀x∈(iG l).map Prod.snd,x.table=(k:Int):=fun x hx=>by
  rw[gQ]at hx
  obtain⟨y,hy,rfl⟩:=List.mem_map.1 hx
  exact ht y hy
 have hcnt:=DT ho.cat hk IE.log hm0 hm1 hou htu
 rw[hcm]at hcut hcnt
 have hlk:(dR (m:Int) (iG l)).length=ks.length:=by rw[←he,List.length_map]
 refine⟨dG (m:Int) (dR (m:Int) (iG l)),by rw[←hlk];exact wY _ _,fun i hi =>?_,?_,?_,hcnt⟩
 ·have hi2:i<(dR (m:Int) (iG l)).length:=by omega
  rw[qG hasc hi2]
  have e:(dR (m:Int) (iG l))[i]=Ent.p ks[i]:=by
   have h2:(dR (m:Int) (iG l))[i]?=(ks.map Ent.p)[i]?:= by rw[he]
   rw[List.getElem?_map,List.getElem?_eq_getElem hi2,List.getElem?_eq_getElem hi]at h2
   exact Option.some.inj h2
  rw[e]
  exact Iff.rfl
 ·rw[List.map_drop,List.map_drop,lu,he,hcut]
  conv=>lhs;unfold dR
  rw[hcm]
  exact List.drop_left
 ·refine IE.PV m ?_
  have e:(iG l).take m=iG (l.take m):=by
   unfold iG
   apply List.ext_getElem
   ·simp
   ·intro i h1 h2
    simp
  rw[e,gQ]
end Go.Proofs.YtjidligipoldeaaGreat
set_option maxRecDepth 100000
namespace Go.Proofs.YtjidligipoldeaaGreat
open Go.RowKit Go Go.Shelf
attribute [local go_sem] Oper.semAt_some
abbrev set15(u:World)(g:Nat)(v0 v1 v2 v3 v4 v5 v6 v7 v8 v9 v10 v11 v12 v13 v14:Value):World:=((((((((((((((u.setCell ⟨g,0,none⟩ v0).setCell ⟨g,1,none⟩ v1).setCell ⟨g,2,none⟩ v2).setCell ⟨g,3,none⟩ v3).setCell ⟨g,4,none⟩ v4).setCell ⟨g,5,none⟩ v5).setCell ⟨g,6,none⟩ v6).setCell ⟨g,7,none⟩ v7).setCell ⟨g,8,none⟩ v8).setCell ⟨g,9,none⟩ v9).setCell ⟨g,10,none⟩ v10).setCell ⟨g,11,none⟩ v11).setCell ⟨g,12,none⟩ v12).setCell ⟨g,13,none⟩ v13).setCell ⟨g,14,none⟩ v14
theorem Below.mR{B g:Nat}{w u:World}{v0 v1 v2 v3 v4 v5 v6 v7 v8 v9 v10 v11 v12 v13 v14:Value}(h:Below B w u)(hg:B≤g):Below B w (set15 u g v0 v1 v2 v3 v4 v5 v6 v7 v8 v9 v10 v11 v12 v13 v14):=by
 iterate 15 (refine Below.setCell ?_ hg _)
 exact h
theorem Blk.GX{g g2 t:Nat}{cs:Array Value}{u:World}{v0 v1 v2 v3 v4 v5 v6 v7 v8 v9 v10 v11 v12 v13 v14:Value}(h:Blk u g2 t cs)(hg:g2≠g):Blk (set15 u g v0 v1 v2 v3 v4 v5 v6 v7 v8 v9 v10 v11 v12 v13 v14) g2 t cs:=by
 iterate 15 (refine Blk.far ?_ hg _)
 exact h
theorem Blk.mR{g t:Nat}{u:World}{v0 v1 v2 v3 v4 v5 v6 v7 v8 v9 v10 v11 v12 v13 v14 a0 a1 a2 a3 a4 a5 a6 a7 a8 a9 a10 a11 a12 a13 a14:Value}(h:Blk u g t #[a0,a1,a2,a3,a4,a5,a6,a7,a8,a9,a10,a11,a12,a13,a14]):Blk (set15 u g v0 v1 v2 v3 v4 v5 v6 v7 v8 v9 v10 v11 v12 v13 v14) g t #[v0,v1,v2,v3,v4,v5,v6,v7,v8,v9,v10,v11,v12,v13,v14]:=
 (((((((((((((((h.aH 0 v0).aH 1 v1).aH 2 v2).aH 3 v3).aH 4 v4).aH 5 v5).aH 6 v6).aH 7 v7).aH 8 v8).aH 9 v9).aH 10 v10).aH 11 v11).aH 12 v12).aH 13 v13).aH 14 v14).eq spA
theorem l94_1{P:Prop}(h:P:=by
 go_wp2_with fail
 go_loopw [5] (fun vi wr=>vi=.int .i64 0∧Below w.heap.size w wr) (fun vi _ =>0)
 case atStart=>exact⟨rfl,Below.refl _ _⟩
 case round =>
  obtain⟨rfl,hbr⟩:=hrel
  go_wp2_with fail
  go_ret
  exact⟨rfl,hbr⟩):P:=h
theorem qP(w:World):Calls Tryz.prog 90 #[.slice none 0 0,.slice none 0 0] w fun e w'=>e=.returned (.bool true)∧Below w.heap.size w w':=by
 go_enter Tryz.func90,Tryz.ntmps90
 exact l94_1
theorem rY(w:World):Calls Tryz.prog 91 #[.slice none 0 0,.slice none 0 0] w fun e w'=>e=.returned (.bool true)∧Below w.heap.size w w':=by
 go_enter Tryz.func91,Tryz.ntmps91
 exact l94_1
theorem qO(w:World):Calls Tryz.prog 43 #[.slice none 0 0,.slice none 0 0] w fun e w'=>e=.returned (.bool true)∧Below w.heap.size w w':=by
 go_enter Tryz.func43,Tryz.ntmps43
 go_wp2_with (go_at_call 90;(with_reducible refine(qP _).mono ?_);rintro e w1 ⟨rfl,hb1⟩)
 go_ret
 exact⟨rfl,hb1⟩
theorem rX(w:World):Calls Tryz.prog 44 #[.slice none 0 0,.slice none 0 0] w fun e w'=>e=.returned (.bool true)∧Below w.heap.size w w':=by
 go_enter Tryz.func44,Tryz.ntmps44
 go_wp2_with (go_at_call 91;(with_reducible refine(rY _).mono ?_);rintro e w1 ⟨rfl,hb1⟩)
 go_ret
 exact⟨rfl,hb1⟩
theorem l94_0{P:Prop}(h:P:=by
 clear hwe hg
 refine r1T 12 (fun K hK =>?_)
 have gf:=fun j=>(HG).out.frozen j
 have hgl:=(HG).out.lt
 have a0:=(HG).out.cell 0
 have a1:=(HG).out.cell 1
 have a2:=(HG).out.cell 2
 have a3:=(HG).out.cell 3
 have a4:=(HG).out.cell 4
 have a5:=(HG).out.cell 5
 have a6:=(HG).out.cell 6
 have a7:=(HG).out.cell 7
 have a8:=(HG).out.cell 8
 have a9:=(HG).out.cell 9
 have a10:=(HG).out.cell 10
 have a11:=(HG).out.cell 11
 have a12:=(HG).out.cell 12
 have a13:=(HG).out.cell 13
 have a14:=(HG).out.cell 14
 simp only[gE3]at a0 a1 a2 a3 a4 a5 a6 a7 a8 a9 a10 a11 a12 a13 a14
 go_simp
 refine hK.out _ _ _ (HSS.out _ (Below.mR hvb hgu)) (fun hHeld =>?_)
 clear hK K a0 a1 a2 a3 a4 a5 a6 a7 a8 a9 a10 a11 a12 a13 a14 gf
 generalize hwe:World.setCell _ _ _=vc
 have hvc:Below wr.heap.size wr vc:=by
  rw[←hwe]
  exact Below.mR hvb hgu
 (replace HG:=qh (show Blk vc g 56 (Ent.cells ⟨y,kd,sq,dy,tb,QA,qc,row,key,cl,vl⟩).toArray by
   rw[←hwe]
   exact Blk.mR (HG).out))
 (replace HG':=qh (show Blk vc g' 56 #[.int .i64 0,.int .i64 0,.int .i64 0,.int .i64 0,.int .i64 0,.slice none 0 0,.int .i64 0,.int .i64 0,.string ⟨#[]⟩,.int .i64 0,.int .i64 0,.int .i64 0,.string ⟨#[]⟩,.slice none 0 0,.slice none 0 0] by rw[←hwe];exact Blk.GX HG'.out (show g'≠g by omega)))
 clear hwe
 refine r1T 13 (fun K hK =>?_)
 have gf:=fun j=>(HG').out.frozen j
 have hgl:=(HG').out.lt
 have a0:=(HG').out.cell 0
 have a1:=(HG').out.cell 1
 have a2:=(HG').out.cell 2
 have a3:=(HG').out.cell 3
 have a4:=(HG').out.cell 4
 have a5:=(HG').out.cell 5
 have a6:=(HG').out.cell 6
 have a7:=(HG').out.cell 7
 have a8:=(HG').out.cell 8
 have a9:=(HG').out.cell 9
 have a10:=(HG').out.cell 10
 have a11:=(HG').out.cell 11
 have a12:=(HG').out.cell 12
 have a13:=(HG').out.cell 13
 have a14:=(HG').out.cell 14
 simp only[gE3]at a0 a1 a2 a3 a4 a5 a6 a7 a8 a9 a10 a11 a12 a13 a14
 go_simp
 refine hK.out _ _ _ (HSS.out _ (Below.mR hvc Dj)) (fun hHeld =>?_)
 clear hK K a0 a1 a2 a3 a4 a5 a6 a7 a8 a9 a10 a11 a12 a13 a14 gf
 generalize hwe:World.setCell _ _ _=vd
 have hvd:Below wr.heap.size wr vd:=by
  rw[←hwe]
  exact Below.mR hvc Dj
 (replace HG':=qh (show Blk vd g' 56 (Ent.cells ⟨y,kd,sq,dy,tb,PA,pc,row,key,cl,vl⟩).toArray by
   rw[←hwe]
   exact Blk.mR (HG').out))
 (replace HG:=qh (show Blk vd g 56 (Ent.cells ⟨y,⟨kd,sq,dy,tb,QA,qc,row,key,cl,vl⟩⟩).toArray by rw[←hwe];exact Blk.GX HG.out (show g≠g' by omega)))
 clear hwe
 refine aI krA ?_ _
 clear hHeld
 refine⟨rfl,bD ?_ ?_⟩
 ·kernel_rfl
 refine⟨rfl,?_⟩
 rw[HRS.out]
 exact⟨g,g',rfl,rfl,hgu,Dj,HG.out,HG'.out,hvd⟩):P:=h
theorem zn(lo nx:Int)(A A':Option Addr)(c c' n n':Nat)(es es':List Ent)(w:World)(h1:di w w.heap.size A es)(h2:di w w.heap.size A' es')(hn:es.length=n)(hn':es'.length=n')(hn6:n≤1000000)(hr:∀x∈es,x.chg.row.length≤1000000)(he:es.map Ent.p=es'.map Ent.p):
 Calls Tryz.prog 14 #[.agg #[.int .i64 lo,.int .i64 nx,.slice A n c],.agg #[.int .i64 lo,.int .i64 nx,.slice A' n' c']] w fun e w'=>e=.returned (.bool true)∧Below w.heap.size w w':=by
 have hll:es'.length=es.length:=by
  have h:=congrArg List.length he
  simpa using h.symm
 subst hn
 obtain rfl:n'=es.length:=by omega
 have H1:=qh h1
 have H2:=qh h2
 have HR:=qh hr
 have HP:=qh he
 have HLL:=qh hll
 clear h1 h2 hr he hll hn'
 go_enter Tryz.func14,Tryz.ntmps14
 go_upto_region 1 with (fail)
 refine ah (P:=fun u=>Code.wp _ _ _ _ u) (R:=fun u=>Blk u w.heap.size 39 #[.int .i64 lo,.int .i64 nx,.slice A es.length c]∧Blk u (w.heap.size+1) 39 #[.int .i64 lo,.int .i64 nx,.slice A' es.length c']∧Below w.heap.size w u) ⟨?_,?_,?_⟩ ?_
 ·exact(Blk.new _ _ _).alloc _
 ·exact Blk.new' spA
 ·exact ai
 rintro W ⟨hL,hL',hbW⟩
 have HL:=qh hL
 have HL':=qh hL'
 have hll:=hL.lt
 have UC:=hL'.lt
 have l0:=hL.cell 0
 have l1:=hL.cell 1
 have l2:=hL.cell 2
 have m0:=hL'.cell 0
 have m1:=hL'.cell 1
 have m2:=hL'.cell 2
 simp only[gE3]at l0 l1 l2 m0 m1 m2
 clear hL hL'
 go_wp2_with fail
 clear l0 l1 l2 m0 m1 m2
 go_loopw [5] (fun vi wr =>∃i:Nat,i≤es.length∧vi=.int .i64 i∧Below W.heap.size W wr) (fun vi _=>es.length-(intOf vi).toNat)
 case atStart=>exact⟨0,Nat.zero_le _,rfl,Below.refl _ _⟩
 case round =>
  obtain⟨i,hi,rfl,hbr⟩:=hrel
  have hwz:=hbr.size
  have hxr:=aa hbW hbr hbW.size
  have l2:=(HL.out.below hbr hll).cell 2
  have m2:=(HL'.out.below hbr UC).cell 2
  simp only[gE3]at l2 m2
  by_cases hlt:i<es.length
  ·have hlt':decide (i<es.length)=true:=by simpa using hlt
   have kG:decide ((i:Int)<(es.length:Int))=true:=by simp;omega
   have hlt2:i<es'.length:=by rw[HLL.out];exact hlt
   obtain⟨b7,o7,rfl,hb7,hc7⟩:=H1.out.1.get hlt
   obtain⟨b8,o8,rfl,hb8,hc8⟩:=H2.out.1.get hlt2
   have hr1:=H1.out.2 _ (lgm hlt)
   have hr2:=H2.out.2 _ (lgm hlt2)
   have hr8:=HR.out _ (lgm hlt)
   have hpj:Ent.p es[i]=Ent.p es'[i]:=by
    have h1:(es.map Ent.p)[i]?=(es'.map Ent.p)[i]?:= by rw[HP.out]
    rw[List.getElem?_map,List.getElem?_map,List.getElem?_eq_getElem hlt,List.getElem?_eq_getElem hlt2]at h1
    exact Option.some.inj h1
   obtain⟨⟨y,⟨kd,sq,dy,tb,QA,qc,row,key,cl,vl⟩⟩,hqr⟩:∃x,es[i]=x:=⟨_,rfl⟩
   obtain⟨⟨y',⟨kd',sq',dy',tb',PA,pc,row',key',cl',vl'⟩⟩,hpr⟩:∃x,es'[i]=x:=⟨_,rfl⟩
   rw[hqr]at hc7 hr1 hr8 hpj
   rw[hpr]at hc8 hr2 hpj
   simp only[Ent.p,unC,Prod.mk.injEq,Chg.mk.injEq]at hpj
   obtain⟨rfl,rfl,rfl,rfl,rfl,-,-,rfl,rfl,rfl,rfl⟩:=hpj
   simp only at hr1 hr2 hr8
   have HQ1:=qh hr1
   have HQ2:=qh hr2
   have HS7:Hid (∀V,Below W.heap.size W V→(V.cell? ⟨b7,o7+i*15,none⟩=some (.int .i64 y)∧V.cell? ⟨b7,o7+i*15+1,none⟩=some (.int .i64 kd)∧V.cell? ⟨b7,o7+i*15+2,none⟩=some (.int .i64 sq)∧V.cell? ⟨b7,o7+i*15+3,none⟩=some (.int .i64 dy)∧V.cell? ⟨b7,o7+i*15+4,none⟩=some (.int .i64 tb)∧V.cell? ⟨b7,o7+i*15+5,none⟩=some (.slice QA row.length qc)∧V.cell? ⟨b7,o7+i*15+6,none⟩=some (.int .i64 key.kind)∧V.cell? ⟨b7,o7+i*15+7,none⟩=some (.int .i64 key.num)∧V.cell? ⟨b7,o7+i*15+8,none⟩=some (.string key.text)∧V.cell? ⟨b7,o7+i*15+9,none⟩=some (.int .i64 cl)∧V.cell? ⟨b7,o7+i*15+10,none⟩=some (.int .i64 vl.kind)∧V.cell? ⟨b7,o7+i*15+11,none⟩=some (.int .i64 vl.num)∧V.cell? ⟨b7,o7+i*15+12,none⟩=some (.string vl.text)∧V.cell? ⟨b7,o7+i*15+13,none⟩=some (.slice none 0 0)∧V.cell? ⟨b7,o7+i*15+14,none⟩=some (.slice none 0 0))∧(V.cell? ⟨b8,o8+i*15,none⟩=some (.int .i64 y)∧V.cell? ⟨b8,o8+i*15+1,none⟩=some (.int .i64 kd)∧V.cell? ⟨b8,o8+i*15+2,none⟩=some (.int .i64 sq)∧V.cell? ⟨b8,o8+i*15+3,none⟩=some (.int .i64 dy)∧V.cell? ⟨b8,o8+i*15+4,none⟩=some (.int .i64 tb)∧V.cell? ⟨b8,o8+i*15+5,none⟩=some (.slice PA row.length pc)∧V.cell? ⟨b8,o8+i*15+6,none⟩=some (.int .i64 key.kind)∧V.cell? ⟨b8,o8+i*15+7,none⟩=some (.int .i64 key.num)∧V.cell? ⟨b8,o8+i*15+8,none⟩=some (.string key.text)∧V.cell? ⟨b8,o8+i*15+9,none⟩=some (.int .i64 cl)∧V.cell? ⟨b8,o8+i*15+10,none⟩=some (.int .i64 vl.kind)∧V.cell? ⟨b8,o8+i*15+11,none⟩=some (.int .i64 vl.num)∧V.cell? ⟨b8,o8+i*15+12,none⟩=some (.string vl.text)∧V.cell? ⟨b8,o8+i*15+13,none⟩=some (.slice none 0 0)∧V.cell? ⟨b8,o8+i*15+14,none⟩=some (.slice none 0 0))):=qh (fun V hV=>by
    have hwV:Below w.heap.size w V:=aa hbW hV hbW.size
    have hk7:∀j u,(Ent.cells ⟨y,⟨kd,sq,dy,tb,QA,qc,row,key,cl,vl⟩⟩)[j]?=some u→V.cell? ⟨b7,o7+i*15+j,none⟩=some u:=fun j u h=>(hwV.cell (p:=⟨b7,_,none⟩) hb7).trans (hc7 j u h)
    have hk8:∀j u,(Ent.cells ⟨y,⟨kd,sq,dy,tb,PA,pc,row,key,cl,vl⟩⟩)[j]?=some u→V.cell? ⟨b8,o8+i*15+j,none⟩=some u:=fun j u h=>(hwV.cell (p:=⟨b8,_,none⟩) hb8).trans (hc8 j u h)
    exact⟨⟨hk7 0 _ rfl,hk7 1 _ rfl,hk7 2 _ rfl,hk7 3 _ rfl,hk7 4 _ rfl,hk7 5 _ rfl,hk7 6 _ rfl,hk7 7 _ rfl,hk7 8 _ rfl,hk7 9 _ rfl,hk7 10 _ rfl,hk7 11 _ rfl,hk7 12 _ rfl,hk7 13 _ rfl,hk7 14 _ rfl⟩,hk8 0 _ rfl,hk8 1 _ rfl,hk8 2 _ rfl,hk8 3 _ rfl,hk8 4 _ rfl,hk8 5 _ rfl,hk8 6 _ rfl,hk8 7 _ rfl,hk8 8 _ rfl,hk8 9 _ rfl,hk8 10 _ rfl,hk8 11 _ rfl,hk8 12 _ rfl,hk8 13 _ rfl,hk8 14 _ rfl⟩)
   have HSS:Hid (∀V,Below wr.heap.size wr V→(V.cell? ⟨w.heap.size,2,none⟩=some (.slice (some ⟨b7,o7,none⟩) es.length c)∧V.cell? ⟨w.heap.size+1,2,none⟩=some (.slice (some ⟨b8,o8,none⟩) es.length c'))∧(V.cell? ⟨b7,o7+i*15,none⟩=some (.int .i64 y)∧V.cell? ⟨b7,o7+i*15+1,none⟩=some (.int .i64 kd)∧V.cell? ⟨b7,o7+i*15+2,none⟩=some (.int .i64 sq)∧V.cell? ⟨b7,o7+i*15+3,none⟩=some (.int .i64 dy)∧V.cell? ⟨b7,o7+i*15+4,none⟩=some (.int .i64 tb)∧V.cell? ⟨b7,o7+i*15+5,none⟩=some (.slice QA row.length qc)∧V.cell? ⟨b7,o7+i*15+6,none⟩=some (.int .i64 key.kind)∧V.cell? ⟨b7,o7+i*15+7,none⟩=some (.int .i64 key.num)∧V.cell? ⟨b7,o7+i*15+8,none⟩=some (.string key.text)∧V.cell? ⟨b7,o7+i*15+9,none⟩=some (.int .i64 cl)∧V.cell? ⟨b7,o7+i*15+10,none⟩=some (.int .i64 vl.kind)∧V.cell? ⟨b7,o7+i*15+11,none⟩=some (.int .i64 vl.num)∧V.cell? ⟨b7,o7+i*15+12,none⟩=some (.string vl.text)∧V.cell? ⟨b7,o7+i*15+13,none⟩=some (.slice none 0 0)∧V.cell? ⟨b7,o7+i*15+14,none⟩=some (.slice none 0 0))∧(V.cell? ⟨b8,o8+i*15,none⟩=some (.int .i64 y)∧V.cell? ⟨b8,o8+i*15+1,none⟩=some (.int .i64 kd)∧V.cell? ⟨b8,o8+i*15+2,none⟩=some (.int .i64 sq)∧V.cell? ⟨b8,o8+i*15+3,none⟩=some (.int .i64 dy)∧V.cell? ⟨b8,o8+i*15+4,none⟩=some (.int .i64 tb)∧V.cell? ⟨b8,o8+i*15+5,none⟩=some (.slice PA row.length pc)∧V.cell? ⟨b8,o8+i*15+6,none⟩=some (.int .i64 key.kind)∧V.cell? ⟨b8,o8+i*15+7,none⟩=some (.int .i64 key.num)∧V.cell? ⟨b8,o8+i*15+8,none⟩=some (.string key.text)∧V.cell? ⟨b8,o8+i*15+9,none⟩=some (.int .i64 cl)∧V.cell? ⟨b8,o8+i*15+10,none⟩=some (.int .i64 vl.kind)∧V.cell? ⟨b8,o8+i*15+11,none⟩=some (.int .i64 vl.num)∧V.cell? ⟨b8,o8+i*15+12,none⟩=some (.string vl.text)∧V.cell? ⟨b8,o8+i*15+13,none⟩=some (.slice none 0 0)∧V.cell? ⟨b8,o8+i*15+14,none⟩=some (.slice none 0 0))):=qh (fun V hV=>by
    have hV2:Below W.heap.size W V:=aa hbr hV hwz
    exact⟨⟨(HL.out.below hV2 hll).cell 2,(HL'.out.below hV2 UC).cell 2⟩,HS7.out V hV2⟩)
   clear hc7 hc8 hqr hpr hr1 hr2
   go_upto_region 6 with (fail)
   clear l2 m2
   have hbd:Below wr.heap.size wr wr.drew:=brf.drew
   obtain⟨RS,hRS⟩:∃RS:(Nat→Value)→World→Prop,RS=fun f w' =>∃g g':Nat,f 6=.pointer (some ⟨g,0,none⟩)∧f 7=.pointer (some ⟨g',0,none⟩)∧wr.heap.size≤g∧wr.heap.size≤g'∧Blk w' g 56 (Ent.cells ⟨y,⟨kd,sq,dy,tb,QA,qc,row,key,cl,vl⟩⟩).toArray∧Blk w' g' 56 (Ent.cells ⟨y,⟨kd,sq,dy,tb,PA,pc,row,key,cl,vl⟩⟩).toArray∧Below wr.heap.size wr w':=⟨_,rfl⟩
   have HRS:=qh hRS
   clear hRS
   refine gX .normal [6,7,36,37,38,39,40,41,42,43,44,45] RS ?_ ?_
   ·refine aJ (S:=fun u=>(u.cell? ⟨w.heap.size,2,none⟩=some (.slice (some ⟨b7,o7,none⟩) es.length c)∧u.cell? ⟨w.heap.size+1,2,none⟩=some (.slice (some ⟨b8,o8,none⟩) es.length c'))∧(u.cell? ⟨b7,o7+i*15,none⟩=some (.int .i64 y)∧u.cell? ⟨b7,o7+i*15+1,none⟩=some (.int .i64 kd)∧u.cell? ⟨b7,o7+i*15+2,none⟩=some (.int .i64 sq)∧u.cell? ⟨b7,o7+i*15+3,none⟩=some (.int .i64 dy)∧u.cell? ⟨b7,o7+i*15+4,none⟩=some (.int .i64 tb)∧u.cell? ⟨b7,o7+i*15+5,none⟩=some (.slice QA row.length qc)∧u.cell? ⟨b7,o7+i*15+6,none⟩=some (.int .i64 key.kind)∧u.cell? ⟨b7,o7+i*15+7,none⟩=some (.int .i64 key.num)∧u.cell? ⟨b7,o7+i*15+8,none⟩=some (.string key.text)∧u.cell? ⟨b7,o7+i*15+9,none⟩=some (.int .i64 cl)∧u.cell? ⟨b7,o7+i*15+10,none⟩=some (.int .i64 vl.kind)∧u.cell? ⟨b7,o7+i*15+11,none⟩=some (.int .i64 vl.num)∧u.cell? ⟨b7,o7+i*15+12,none⟩=some (.string vl.text)∧u.cell? ⟨b7,o7+i*15+13,none⟩=some (.slice none 0 0)∧u.cell? ⟨b7,o7+i*15+14,none⟩=some (.slice none 0 0))∧(u.cell? ⟨b8,o8+i*15,none⟩=some (.int .i64 y)∧u.cell? ⟨b8,o8+i*15+1,none⟩=some (.int .i64 kd)∧u.cell? ⟨b8,o8+i*15+2,none⟩=some (.int .i64 sq)∧u.cell? ⟨b8,o8+i*15+3,none⟩=some (.int .i64 dy)∧u.cell? ⟨b8,o8+i*15+4,none⟩=some (.int .i64 tb)∧u.cell? ⟨b8,o8+i*15+5,none⟩=some (.slice PA row.length pc)∧u.cell? ⟨b8,o8+i*15+6,none⟩=some (.int .i64 key.kind)∧u.cell? ⟨b8,o8+i*15+7,none⟩=some (.int .i64 key.num)∧u.cell? ⟨b8,o8+i*15+8,none⟩=some (.string key.text)∧u.cell? ⟨b8,o8+i*15+9,none⟩=some (.int .i64 cl)∧u.cell? ⟨b8,o8+i*15+10,none⟩=some (.int .i64 vl.kind)∧u.cell? ⟨b8,o8+i*15+11,none⟩=some (.int .i64 vl.num)∧u.cell? ⟨b8,o8+i*15+12,none⟩=some (.string vl.text)∧u.cell? ⟨b8,o8+i*15+13,none⟩=some (.slice none 0 0)∧u.cell? ⟨b8,o8+i*15+14,none⟩=some (.slice none 0 0))) [] krA (HSS.out _ hbd) (fun hHeld =>?_)
    refine tkT 0 hHeld ?_ (hQ:=hqA)
    refine tkT 1 hHeld ?_ (hQ:=hqA)
    refine tkT 2 hHeld ?_ (hQ:=hqA)
    refine tkT 3 hHeld ?_ (hQ:=hqA)
    refine tkT 4 hHeld ?_ (hQ:=hqA)
    refine tkT 5 hHeld ?_ (hQ:=hqA)
    refine tkT 6 hHeld ?_ (hQ:=hqA)
    refine tkT 7 hHeld ?_ (hQ:=hqA)
    refine tkT 8 hHeld ?_ (hQ:=hqA)
    refine tkT 9 hHeld ?_ (hQ:=hqA)
    refine r2T 10 11 (fun K hK =>?_) (fun K hK =>?_)
    ·go_simp
     refine hK.out _ _ _ (HSS.out _ ai) (fun hHeld =>?_)
     clear hK K
     generalize hg:wr.heap.size=g
     generalize hwe:World.drew (World.alloc wr _)=va
     have hva:Below wr.heap.size wr va:=by rw[←hwe];exact ai
     have HG:Hid (Blk va g 56 #[.int .i64 0,.int .i64 0,.int .i64 0,.int .i64 0,.int .i64 0,.slice none 0 0,.int .i64 0,.int .i64 0,.string ⟨#[]⟩,.int .i64 0,.int .i64 0,.int .i64 0,.string ⟨#[]⟩,.slice none 0 0,.slice none 0 0]):=qh fx
     have hgu:wr.heap.size≤g:=Nat.le_of_eq hg
     have hl1:=HG.out.lt
     clear hwe hg
     refine r1T 11 (fun K hK =>?_)
     go_simp
     refine hK.out _ _ _ (HSS.out _ ft) (fun hHeld =>?_)
     clear hK K
     generalize hg:va.heap.size=g'
     generalize hwe:World.alloc va _=vb
     have hab:Below va.heap.size va vb:=by rw[←hwe];exact ai
     have hvb:Below wr.heap.size wr vb:=aa hva hab hva.size
     have HG':Hid (Blk vb g' 56 #[.int .i64 0,.int .i64 0,.int .i64 0,.int .i64 0,.int .i64 0,.slice none 0 0,.int .i64 0,.int .i64 0,.string ⟨#[]⟩,.int .i64 0,.int .i64 0,.int .i64 0,.string ⟨#[]⟩,.slice none 0 0,.slice none 0 0]):=qh (by rw[←hwe];exact Blk.new' hg)
     have Dj:wr.heap.size≤g':=by rw[←hg];exact hva.size
     have hgg:g<g':=by rw[←hg];exact hl1
     (replace HG:=qh (HG.out.below hab hl1))
     exact l94_0
    ·go_simp
     refine hK.out _ _ _ (HSS.out _ ai) (fun hHeld =>?_)
     clear hK K
     generalize hg:wr.heap.size=g'
     generalize hwe:World.drew (World.alloc wr _)=va
     have hva:Below wr.heap.size wr va:=by rw[←hwe];exact ai
     have HG':Hid (Blk va g' 56 #[.int .i64 0,.int .i64 0,.int .i64 0,.int .i64 0,.int .i64 0,.slice none 0 0,.int .i64 0,.int .i64 0,.string ⟨#[]⟩,.int .i64 0,.int .i64 0,.int .i64 0,.string ⟨#[]⟩,.slice none 0 0,.slice none 0 0]):=qh fx
     have Dj:wr.heap.size≤g':=Nat.le_of_eq hg
     have hl1:=HG'.out.lt
     clear hwe hg
     refine r1T 10 (fun K hK =>?_)
     go_simp
     refine hK.out _ _ _ (HSS.out _ ft) (fun hHeld =>?_)
     clear hK K
     generalize hg:va.heap.size=g
     generalize hwe:World.alloc va _=vb
     have hab:Below va.heap.size va vb:=by rw[←hwe];exact ai
     have hvb:Below wr.heap.size wr vb:=aa hva hab hva.size
     have HG:Hid (Blk vb g 56 #[.int .i64 0,.int .i64 0,.int .i64 0,.int .i64 0,.int .i64 0,.slice none 0 0,.int .i64 0,.int .i64 0,.string ⟨#[]⟩,.int .i64 0,.int .i64 0,.int .i64 0,.string ⟨#[]⟩,.slice none 0 0,.slice none 0 0]):=qh (by rw[←hwe];exact Blk.new' hg)
     have hgu:wr.heap.size≤g:=by rw[←hg];exact hva.size
     have hgg:g'<g:=by rw[←hg];exact hl1
     (replace HG':=qh (HG'.out.below hab hl1))
     exact l94_0
   ·rintro f w4 hf
    rw[HRS.out]at hf
    obtain⟨g,g',hf6,hf7,hgu,Dj,hG,hG',hb4⟩:=hf
    simp only[setL,List.setIfInBounds_toArray,List.set_cons_zero,List.set_cons_succ]
    rw[hf6,hf7]
    have HG:=qh hG
    have HG':=qh hG'
    have hz4:=hb4.size
    have hW4:Below W.heap.size W w4:=aa hbr hb4 hwz
    have hw4:Below w.heap.size w w4:=aa hbW hW4 hbW.size
    have hgl:=hG.lt
    have Rz:=hG'.lt
    have HKG:Hid (∀V,Below w4.heap.size w4 V→(V.cell? ⟨g,13,none⟩=some (.slice none 0 0)∧V.cell? ⟨g,14,none⟩=some (.slice none 0 0))∧V.cell? ⟨g',13,none⟩=some (.slice none 0 0)∧V.cell? ⟨g',14,none⟩=some (.slice none 0 0)):=qh (fun V hV=>⟨⟨(HG.out.below hV hgl).cell 13,(HG.out.below hV hgl).cell 14⟩,(HG'.out.below hV Rz).cell 13,(HG'.out.below hV Rz).cell 14⟩)
    have a0:=(HG).out.cell 0
    have a1:=(HG).out.cell 1
    have a2:=(HG).out.cell 2
    have a3:=(HG).out.cell 3
    have a4:=(HG).out.cell 4
    have a5:=(HG).out.cell 5
    have a6:=(HG).out.cell 6
    have a7:=(HG).out.cell 7
    have a8:=(HG).out.cell 8
    have a9:=(HG).out.cell 9
    have a10:=(HG).out.cell 10
    have a11:=(HG).out.cell 11
    have a12:=(HG).out.cell 12
    simp only[Ent.cells,gE3]at a0 a1 a2 a3 a4 a5 a6 a7 a8 a9 a10 a11 a12
    have e0:=(HG').out.cell 0
    have e1:=(HG').out.cell 1
    have e2:=(HG').out.cell 2
    have e3:=(HG').out.cell 3
    have e4:=(HG').out.cell 4
    have e5:=(HG').out.cell 5
    have e6:=(HG').out.cell 6
    have e7:=(HG').out.cell 7
    have e8:=(HG').out.cell 8
    have e9:=(HG').out.cell 9
    have e10:=(HG').out.cell 10
    have e11:=(HG').out.cell 11
    have e12:=(HG').out.cell 12
    simp only[Ent.cells,gE3]at e0 e1 e2 e3 e4 e5 e6 e7 e8 e9 e10 e11 e12
    clear hG hG' hf6 hf7
    go_wp2_with (first
     | (go_at_call 19;(with_reducible refine(uV kd sq dy tb QA PA qc pc row key cl vl _ ((HQ1.out.below hw4).mono hw4.size) ((HQ2.out.below hw4).mono hw4.size) hr8).mono ?_);rintro e w5 ⟨rfl,hb5⟩;obtain⟨⟨a13,a14⟩,e13,e14⟩:=HKG.out w5 hb5)
     | (go_at_call 43;(with_reducible refine(qO _).mono ?_);rintro e w6 ⟨rfl,hb6⟩;obtain⟨⟨a13,a14⟩,e13,e14⟩:=HKG.out w6 (aa hb5 hb6 hb5.size))
     | (go_at_call 44;(with_reducible refine(rX _).mono ?_);rintro e w7 ⟨rfl,hb7⟩))
    go_roundw
    case rel=>exact⟨i+1,by omega,by go_num,aa hW4 (aa (aa hb5 hb6 hb5.size) hb7 (aa hb5 hb6 hb5.size).size) hW4.size⟩
    case measure=>exact meA
  ·have hlt':decide (i<es.length)=false:=by simpa using hlt
   have kG:decide ((i:Int)<(es.length:Int))=false:=by simp;omega
   go_wp2_with fail
   go_ret
   exact⟨rfl,hxr⟩
end Go.Proofs.YtjidligipoldeaaGreat
