/-
  Contracts and plain laws of this seat, part 87.
-/
import Derived.Test.YtjidligipoldeaaGreatT79
import Derived.Test.YtjidligipoldeaaGreatT86
import Derived.Test.YtjidligipoldeaaGreatT83
import Derived.RecoverIn
set_option linter.unusedVariables false
set_option linter.unusedSimpArgs false
set_option maxRecDepth 100000
set_option maxHeartbeats 16000000
set_option maxRecDepth 100000
namespace Go.Proofs.YtjidligipoldeaaGreat
open Go.RowKit Go Go.Shelf
theorem hqB{P:Prop}(h:P:=by exact fun c a w h=>nomatch h.1):P:=h
theorem eJ{P:Prop}(h:P:=by have:=HLu.out.lt;show z+1≠g;omega):P:=h
theorem eK{P:Prop}(h:P:=by have:=HCu.out.lt;show z≠g;omega):P:=h
theorem eL{P:Prop}(h:P:=by rw[←HB0.out];exact JU.out):P:=h
theorem eM{P:Prop}(h:P:=by have:=HZ.out;show w.heap.size≤z+2;omega):P:=h
theorem eN{P:Prop}(h:P:=by rw[←HB0.out];exact hgu):P:=h
theorem eR{P:Prop}(h:P:=by rw[←HB0.out];exact(hv3).setCell (show u1.heap.size≤g from hgu) _):P:=h
theorem eS{P:Prop}(h:P:=by rw[←HB0.out];exact(hv2).setCell (show u1.heap.size≤g from hgu) _):P:=h
theorem eV{P:Prop}(h:P:=by rw[←hva];exact Blk.new' hg):P:=h
theorem eW{P:Prop}(h:P:=by have:=HLL.out;omega):P:=h
attribute [local go_sem] Oper.semAt_some
theorem sZ(A:Option Addr)(cap n:Nat)(es:List Ent)(w:World)(hE:di w w.heap.size A es)(hn:es.length=n)(hlen:n≤1000)(h8:∀x∈es,x.chg.row.length≤8):
 Calls Tryz.prog 34 #[.slice A n cap] w fun e w' =>
  (∃A' c' l,e=.returned (.slice A' l.length c')∧l.map unC=(es.map Ent.chg).map unC∧jM w' w.heap.size A' c' l)∧Below w.heap.size w w':=by
 subst hn
 exact jW A cap es w hE hlen h8
theorem FP(T:List aG)(ps:List ja)(e:ja):ko T (ps ++ [e])=ko T ps++(bS T e.2).map fun y=>(e.1,y):=by
 unfold ko
 rw[List.flatMap_append]
 simp
theorem wC{α:Type}{w w':World}{base:Nat}{e:TypeId}{enc:α→List Value}{k:Nat}{v:Value}{l:List α}(h:aj w base e enc k v l)(hg:w.grownBy w' v.ownBlock):KeepsOthers w w':=
 KeepsOthers.of_grownBy hg fun j o hj ho=>by
  obtain⟨cs,hc⟩:=h.typ hj
  rw[hc]at ho
  cases ho
  rfl
theorem AO(A:Option Addr)(m cap:Nat)(w:World):
 Calls Tryz.prog 35 #[.slice A m cap] w fun e w'=>e=.returned (.func (.func 79) #[] #[.pointer (some ⟨w.heap.size,0,none⟩)])∧w'=w.alloc (.cells #[.slice A m cap] 37):=
 (callsIn_wide (n:= 1)).1 (vX 1 A m cap w)
theorem wX{w:World}{g:Nat}{x:Ent}(h:Blk w g 56 x.cells.toArray):(w.cell? ⟨g,0,none⟩=some (.int .i64 x.off)∧w.cell? ⟨g,1,none⟩=some (.int .i64 x.chg.kind)∧w.cell? ⟨g,2,none⟩=some (.int .i64 x.chg.seq)∧w.cell? ⟨g,3,none⟩=some (.int .i64 x.chg.day)∧w.cell? ⟨g,4,none⟩=some (.int .i64 x.chg.table)∧w.cell? ⟨g,5,none⟩=some (.slice x.chg.A x.chg.row.length x.chg.cap)∧w.cell? ⟨g,6,none⟩=some (.int .i64 x.chg.key.kind)∧w.cell? ⟨g,7,none⟩=some (.int .i64 x.chg.key.num)∧w.cell? ⟨g,8,none⟩=some (.string x.chg.key.text)∧w.cell? ⟨g,9,none⟩=some (.int .i64 x.chg.column)∧w.cell? ⟨g,10,none⟩=some (.int .i64 x.chg.val.kind)∧w.cell? ⟨g,11,none⟩=some (.int .i64 x.chg.val.num)∧w.cell? ⟨g,12,none⟩=some (.string x.chg.val.text)∧w.cell? ⟨g,13,none⟩=some (.slice none 0 0)∧w.cell? ⟨g,14,none⟩=some (.slice none 0 0)):=
 ⟨h.cell 0,h.cell 1,h.cell 2,h.cell 3,h.cell 4,h.cell 5,h.cell 6,h.cell 7,h.cell 8,h.cell 9,h.cell 10,h.cell 11,h.cell 12,h.cell 13,h.cell 14⟩
theorem ag.M9{α:Type}{w:World}{B:Nat}{enc:α→List Value}{k:Nat}{A:Option Addr}{l:List α}(h:ag w B enc k A l)(m:Nat):ag w B enc k (A.map fun x=>x.add (m*k)) (l.drop m):=by
 intro hl
 have hl':m<l.length:=by simp at hl;omega
 obtain⟨b,o,rfl,hb,hcell⟩:=h omA
 refine⟨b,o+m*k,by simp[Addr.add],hb,fun i hi j u hu =>?_⟩
 have:=hcell (m+i) (by simp at hi;omega) j u (by simpa using hu)
 rw[←this]
 congr 2
 rw[Nat.add_mul]
 omega
theorem wL(n:Nat)(p q:Addr)(w:World):CallsDIn Fence.wide n Tryz.prog 31 #[.pointer (some p),.pointer (some q)] .returning w fun e u' w'=>e=.returned (.tuple #[])∧u'=.returning∧w'=w:=by
 refine callsDIn_of_wpSIn Tryz.func31 rfl trivial fun c₀ cs hu =>?_
 apply wpSIn_seq
 apply wpSIn_region
 simp[wpOpsSIn,go_sem,recoverD,hu,Tryz.ntmps31,Exit.thenS]
 refine wpSIn_cond (t:=false) (by simp[Act.eval,Array.replicate]) ?_
 simp only[Bool.false_eq_true,if_false]
 refine wpSIn_of_wpIn rfl (wpIn_wide.2 (wp_skip ?_))
 cases c₀
 simp_all[bodyPostS,results,Tryz.results31]
theorem l87_0{P:Prop}(h:P:=by
 have hki:decide (k<ts.length)=true:=by simpa using hk
 have Rv:decide ((k:Int)<(ts.length:Int))=true:=by simp;omega
 have Va:=hb3.size
 clear hc5 hy hrt hru hpu hr3 hrl hkr hup
 go_wp2_with fail
 refine hK.out _ _ _ ⟨Cat.blk (HCu.out.below hv2 HCu.out.lt),(HLu.out.below hv2 HLu.out.lt).cell 2⟩ (fun hHeld =>?_)
 clear hK K
 (replace HG:=qh (HG.out.below hb3 hga))
 refine tkT 8 hHeld ?_ (hQ:=hqB)
 have iK:∀u,bU (v2.setCell ⟨g,0,none⟩ u) v2.heap.size TA recs:=fun u=>tV HR2.out (fun a ha=>Nat.lt_of_lt_of_le hga (HUP.out.1 a ha)) (fun x hx=>⟨fun a ha=>Nat.lt_of_lt_of_le hga ((HUP.out.2 x hx).1 a ha),fun a ha=>Nat.lt_of_lt_of_le hga ((HUP.out.2 x hx).2 a ha)⟩) u
 refine r1T 9 (fun K hK =>?_)
 go_simp
 refine hK.out _ _ _ ⟨Cat.blk (HCu.out.below hv2 HCu.out.lt),(HLu.out.below hv2 HLu.out.lt).cell 2⟩ (fun hHeld =>?_)
 clear hK K
 have hgl:=HG.out.lt
 have gc0:=HG.out.cell 0
 have gf0:=HG.out.frozen 0
 simp only[gE3]at gc0
 refine r1T 11 (fun K hK =>?_)
 go_simp
 refine hK.out _ _ _ ⟨Cat.blk ((HCu.out.below hv2 HCu.out.lt).far (p:=⟨g,0,none⟩) eK _),((HLu.out.below hv2 HLu.out.lt).far (p:=⟨g,0,none⟩) eJ _).cell 2⟩ (fun hHeld =>?_)
 clear hK K
 refine aI krA ?_ _
 clear hHeld
 refine⟨rfl,bD ?_ ?_⟩
 ·kernel_rfl
 refine⟨rfl,g,TA,tc,recs,rfl,eN,?_,?_,jr.out,eL,eS⟩
 ·have h:=HG.out.aH 0 (.slice TA recs.length tc)
  simpa using h
 ·have hsz:((v2).setCell ⟨g,0,none⟩ (.slice TA recs.length tc)).heap.size=(v2).heap.size:=by simp
  exact(iK _).mono (Nat.le_of_eq hsz.symm)):P:=h
theorem l87_1{P:Prop}(h:P:=by
 have hgl:=HG.out.lt
 have gc0:=HG.out.cell 0
 have gf0:=HG.out.frozen 0
 simp only[gE3]at gc0
 refine r1T 11 (fun K hK =>?_)
 go_simp
 refine hK.out _ _ _ ⟨Cat.blk ((HCu.out.below hv3 HCu.out.lt).far (p:=⟨g,0,none⟩) eK _),((HLu.out.below hv3 HLu.out.lt).far (p:=⟨g,0,none⟩) eJ _).cell 2⟩ (fun hHeld =>?_)
 clear hK K
 refine aI krA ?_ _
 clear hHeld
 refine⟨rfl,bD ?_ ?_⟩
 ·kernel_rfl
 refine⟨rfl,g,TA,tc,recs,rfl,eN,?_,?_,jr.out,eL,eR⟩
 ·have h:=HG.out.aH 0 (.slice TA recs.length tc)
  simpa using h
 ·have hsz:((v3).setCell ⟨g,0,none⟩ (.slice TA recs.length tc)).heap.size=(v3).heap.size:=by simp
  exact(iK _).mono (Nat.le_of_eq hsz.symm)):P:=h
theorem l87_2{P:Prop}(h:P:=by
 go_wp2_with fail
 (try refine⟨trivial,?_⟩)
 refine bD ?_ ?_
 ·kernel_rfl
 ·first
  | (rw[←HIE.out];rfl)
  | (refine⟨?_,hbr⟩;rw[←HIE.out];rfl)
  | (refine⟨trivial,?_,hbr⟩;rw[←HIE.out];rfl)):P:=h
theorem lU(A:Option Addr)(c m:Nat)(ts:List Tab)(k:Nat)(lo nx:Int)(EA:Option Addr)(ec en:Nat)(es:List Ent)(tO:Int)(w:World)(ht:aF w w.heap.size A ts)(hm:ts.length=m)(hs:aM ts)(hE:di w w.heap.size EA es)(hen:es.length=en)(hec:en≤ec)(hlo:dF ts k lo nx (es.map Ent.p))(h8:∀x∈es,x.chg.row.length≤8)
 (ht1:lo≤tO) (ht2:tO≤nx):
 Calls Tryz.prog 10 #[.agg #[.slice A m c,.slice none 0 0,.slice none 0 0,.slice none 0 0,.slice none 0 0,.slice none 0 0,.slice none 0 0,.slice none 0 0],.int .i64 k,.agg #[.int .i64 lo,.int .i64 nx,.slice EA en ec],.int .i64 tO] w fun e w' =>
  (∃A' c' l,e=.returned (.tuple #[.agg #[.int .i64 tO,.int .i64 nx,.slice A' l.length c'],.int .i64 0])∧l.map Ent.p=dR tO (es.map Ent.p)∧fK w' w.heap.size A' c' l)∧Below w.heap.size w w':=by
 subst hm hen
 obtain⟨ie,hie,uA,uz,uy⟩:=info_parts wU
 have hk:=hlo.lt
 have hl0:=hlo.log.EU
 have hln:=hlo.log.Im
 have h1:=hlo.cat.len
 have h5:=hlo.len'
 have HT:=qh ht
 have HS:=qh hs
 have HE:=qh hE
 have HLO:=qh hlo
 have H8:=qh h8
 have e1:decide (tO<lo)=false:=by simp;omega
 have e2:decide (nx<tO)=false:=by simp;omega
 clear ht hs hE hlo h8
 refine(callsIn_wide (n:= 9)).1 ?_
 refine callsIn_of_wp_marks Tryz.func10 rfl trivial ?_ rfl
 refine wpIn_wide.2 ?_
 simp only[Tryz.ntmps10,List.size_toArray,List.length_cons,List.length_nil,Nat.reduceAdd,Nat.reduceSub,Array.replicate_succ,Array.replicate_zero,List.push_toArray,List.append_toArray,List.nil_append,List.cons_append]
 go_upto_region 2 with (fail)
 obtain⟨z,hz⟩:∃z,w.heap.size=z:=⟨_,rfl⟩
 have HZ:=qh hz
 rw[hz]
 refine ah (P:=fun u=>Code.wp _ _ _ _ u) (R:=fun u=>Blk u z 33 #[.slice A ts.length c,.slice none 0 0,.slice none 0 0,.slice none 0 0,.slice none 0 0,.slice none 0 0,.slice none 0 0,.slice none 0 0]∧Blk u (z+1) 39 #[.int .i64 lo,.int .i64 nx,.slice EA es.length ec]∧Blk u (z+2) 39 #[.int .i64 0,.int .i64 0,.slice none 0 0]∧Blk u (z+3) 42 #[.int .i64 0]∧Below z w u) ⟨?_,?_,?_,?_,?_⟩ ?_
 ·exact(((Blk.new' hz).alloc _).alloc _).alloc _
 ·exact((Blk.new' smA).alloc _).alloc _
 ·exact(Blk.new' smA).alloc _
 ·exact Blk.new' smA
 ·rw[←hz];exact ai
 rintro W ⟨hC,hL,hR,hO,hbW⟩
 have HC:=qh hC
 have HL:=qh hL
 have HR:=qh hR
 have HOB:=qh hO
 have hcl:=hC.lt
 have hll:=hL.lt
 have hrl:=hR.lt
 have hol:=hO.lt
 obtain⟨p0,p1,p2,p3,p4,p5,p6,p7⟩:=Cat.blk hC
 have l0:=hL.cell 0
 have l1:=hL.cell 1
 have l2:=hL.cell 2
 simp only[gE3]at l0 l1 l2
 have hbW0:Below w.heap.size w W:=by rw[HZ.out];exact hbW
 clear hC hL hR hO hz
 go_upto_region 4 with (go_at_call 32;(with_reducible refine(uR A c ts.length ts k lo nx EA ec es.length es _ (HT.out.next hbW0) rfl HS.out (HE.out.next hbW0) rfl HLO.out H8.out).mono ?_);rintro e w1 ⟨rfl,hb1⟩;have HL1:=qh (HL.out.below hb1 hll);clear l0 l1 l2;have l0:=HL1.out.cell 0;have l1:=HL1.out.cell 1;have l2:=HL1.out.cell 2;simp only[gE3]at l0 l1 l2)
 have hx1:Below w.heap.size w w1:=aa hbW0 hb1 hbW0.size
 have HC1:=qh (HC.out.below hb1 hcl)
 have HR1:=qh (HR.out.below hb1 hrl)
 have HO1:=qh (HOB.out.below hb1 hol)
 have oo:=HL1.out.lt
 clear p0 p1 p2 p3 p4 p5 p6 p7 l0 l1 e1 e2
 go_upto_region 5 with (fail)
 clear l2
 have HCU:=qh (wY tO (es.map Ent.p))
 refine gX (.exit 0) [10,36,37,38,39,40,41,42,43,44,45,46,47,48,49,50,51,52] (fun f w'=>f 10=.int .i64 (dG tO (es.map Ent.p):Nat)∧Below w1.heap.size w1 w') ?_ ?_
 ·go_loopw [10] (fun vi wr =>∃i:Nat,i≤dG tO (es.map Ent.p)∧vi=.int .i64 i∧Below w1.heap.size w1 wr) (fun vi _=>es.length-(intOf vi).toNat)
  case atStart=>exact⟨0,Nat.zero_le _,rfl,Below.refl _ _⟩
  case round =>
   obtain⟨i,hi,rfl,hbr⟩:=hrel
   have hwz:=hbr.size
   have hxr:=aa hx1 hbr hx1.size
   have l2:=(HL1.out.below hbr oo).cell 2
   simp only[gE3]at l2
   have aad:dG tO (es.map Ent.p)≤es.length:=by simpa using HCU.out
   by_cases hlt:i<es.length
   ·have hlt':decide (i<es.length)=true:=by simpa using hlt
    have kG:decide ((i:Int)<(es.length:Int))=true:=by simp;omega
    obtain⟨b5,o5,he5,hb5,hc5⟩:=(HE.out.1.below hxr).get hlt
    have q0:=hc5 0 _ rfl
    simp only[Nat.add_zero]at q0
    have HCT:=qh (qG HLO.out.log.asc (b:=tO) (i:=i) (by simpa using hlt))
    rw[List.getElem_map]at HCT
    obtain⟨y,hy⟩:∃y,es[i].off=y:=⟨_,rfl⟩
    rw[hy]at q0
    have HY:Hid (i<dG tO (es.map Ent.p)↔y<tO):=qh (by rw[←hy];exact HCT.out)
    subst he5
    clear hc5 hy HCT
    by_cases hyt:y<tO
    ·have WJ:decide (y<tO)=true:=by simpa using hyt
     have hnx:i+1≤dG tO (es.map Ent.p):=HY.out.2 hyt
     go_wp2_with fail
     go_roundw
     case rel=>exact⟨i+1,hnx,by go_num,hbr⟩
     case measure=>exact meA
    ·have WJ:decide (y<tO)=false:=by simpa using hyt
     have hie:i=dG tO (es.map Ent.p):=by
      have h:=mt HY.out.1 hyt
      omega
     have HIE:=qh hie
     clear hie
     exact l87_2
   ·have hlt':decide (i<es.length)=false:=by simpa using hlt
    have kG:decide ((i:Int)<(es.length:Int))=false:=by simp;omega
    have HIE:Hid (i=dG tO (es.map Ent.p)):=qh omA
    exact l87_2
 rintro f u1 ⟨MH,hbu⟩
 simp only[setL,List.setIfInBounds_toArray,List.set_cons_zero,List.set_cons_succ]
 rw[MH]
 clear MH
 obtain⟨p,hp⟩:∃p,dG tO (es.map Ent.p)=p:=⟨_,rfl⟩
 have HP:=qh hp
 rw[hp]at HCU
 rw[hp]
 have hpl:p≤es.length:=by simpa using HCU.out
 have hpc:p≤ec:=by omega
 have hTL:Hid ((es.take p).length=p):=qh (by rw[List.length_take];omega)
 clear hp HCU
 have hxu:Below w.heap.size w u1:=aa hx1 hbu hx1.size
 have HCu:=qh (HC1.out.below hbu HC1.out.lt)
 have HLu:=qh (HL1.out.below hbu oo)
 have HRu:=qh (HR1.out.below hbu HR1.out.lt)
 have HOu:=qh (HO1.out.below hbu HO1.out.lt)
 have l2:=HLu.out.cell 2
 simp only[gE3]at l2
 clear HC HL HR HOB HC1 HL1 HR1 HO1 hbu hb1 oo
 have OX:Below u1.heap.size u1 u1.drew:=brf.drew
 have HTK:Hid (di u1 u1.heap.size EA (es.take p)):=qh ⟨(HE.out.next hxu).1.take p,fun x hx=>(HE.out.next hxu).2 x (List.mem_of_mem_take hx)⟩
 have HT8:Hid (∀x∈es.take p,x.chg.row.length≤8):=qh (fun x hx=>H8.out x (List.mem_of_mem_take hx))
 have HRE:Hid (∀l:List Chg,l.map unC=((es.take p).map Ent.chg).map unC→(bM ts l)[k]?=some (gG (es.map Ent.p) p)):=qh (fun l hl=>HLO.out.PV p (by rw[hl,←List.map_take,List.map_map,List.map_map];rfl))
 go_upto_region 7 with (fail)
 obtain⟨B0,hB0⟩:∃B0,u1.heap.size=B0:=⟨_,rfl⟩
 have HB0:=qh hB0
 clear hB0
 refine gX .normal [11,53,54,55,56,57,58,59,60,61,62] (fun f w' =>∃(g:Nat) (RA:Option Addr) (rc:Nat) (recs:List Rcd),f 11=.pointer (some ⟨g,0,none⟩)∧B0≤g∧Blk w' g 46 #[.slice RA recs.length rc]∧bU w' w'.heap.size RA recs∧recs.map aA=gG (es.map Ent.p) p∧((∀a,RA=some a→B0≤a.block) ∧ ∀x∈recs,(∀a,x.A=some a→B0≤a.block) ∧ ∀a,x.SA=some a→B0≤a.block)∧Below B0 u1 w') ?_ ?_
 ·refine aJ (S:=fun u=>(u.cell? ⟨z,0,none⟩=some (.slice A ts.length c)∧u.cell? ⟨z,1,none⟩=some (.slice none 0 0)∧u.cell? ⟨z,2,none⟩=some (.slice none 0 0)∧u.cell? ⟨z,3,none⟩=some (.slice none 0 0)∧u.cell? ⟨z,4,none⟩=some (.slice none 0 0)∧u.cell? ⟨z,5,none⟩=some (.slice none 0 0)∧u.cell? ⟨z,6,none⟩=some (.slice none 0 0)∧u.cell? ⟨z,7,none⟩=some (.slice none 0 0))∧u.cell? ⟨z+1,2,none⟩=some (.slice EA es.length ec)) [] krA ⟨Cat.blk HCu.out,l2⟩ (fun hHeld =>?_)
  refine tkT 0 hHeld ?_ (hQ:=hqB)
  refine tkT 1 hHeld ?_ (hQ:=hqB)
  refine tkT 2 hHeld ?_ (hQ:=hqB)
  refine tkT 3 hHeld ?_ (hQ:=hqB)
  refine tkT 4 hHeld ?_ (hQ:=hqB)
  refine tkT 7 hHeld ?_ (hQ:=hqB)
  refine r2T 5 10 (fun K hK =>?_) (fun K hK =>?_)
  ·go_simp
   (go_at_call 34;(with_reducible refine(sZ EA ec p (es.take p) _ (HTK.out.next OX) hTL.out omA HT8.out).mono ?_);rintro e v1 ⟨⟨LA,lc,l,rfl,hlm,hlo2⟩,hb2⟩)
   have hv1:Below u1.heap.size u1 v1:=aa OX hb2 (OX).size
   have mP:=qh (hlo2.mono (OX).size)
   have HLM:=qh hlm
   have HLL:Hid (l.length≤1000):=qh (by
    have h:=congrArg List.length hlm
    rw[List.length_map,List.length_map,List.length_map,List.length_take]at h
    omega)
   clear hlm hlo2
   go_wp2_with fail
   refine hK.out _ _ _ ⟨Cat.blk (HCu.out.below hv1 HCu.out.lt),(HLu.out.below hv1 HLu.out.lt).cell 2⟩ (fun hHeld =>?_)
   clear hK K
   refine r2T 6 10 (fun K hK =>?_) (fun K hK =>?_)
   ·go_simp
    (go_at_call 33;(with_reducible refine(lS A c ts.length ts LA lc l.length l _ (HT.out.next (aa hxu hv1 hxu.size)) rfl HS.out HLO.out.cat mP.out.read rfl eW (fun x hx=>Nat.le_trans (mP.out.len x hx) omA)).mono ?_);rintro e v2 ⟨⟨q,rt,rfl,hrl,hrt,hru,hpu⟩,hb3⟩)
    have hv2:Below u1.heap.size u1 v2:=aa hv1 hb3 (hv1).size
    have hkr:k<rt.length:=by omega
    have jr:=qh (qp hpu (HRE.out l HLM.out) hkr)
    obtain⟨b5,o5,e5,hb5,hc5⟩:=hrt.1.get hkr
    injection e5 with e5
    injection e5 with e6 e7
    subst e6 e7
    have t0:=hc5 0 _ rfl
    have hr3:=hrt.2 rt[k] (lgm hkr)
    have hup:=hru.2 rt[k] (lgm hkr)
    obtain⟨⟨TA,tc,recs⟩,hy⟩:∃x:RTab,rt[k]=x:=⟨_,rfl⟩
    rw[hy]at t0 hr3 jr hup
    simp only[Nat.mul_one,Nat.add_zero,Nat.zero_add]at t0 hr3 jr hup
    have HR2:Hid (bU v2 (v2).heap.size TA recs):=qh hr3
    have HUP:=qh hup
    have JU:Hid ((∀a,TA=some a→u1.heap.size≤a.block) ∧ ∀x∈recs,(∀a,x.A=some a→u1.heap.size≤a.block) ∧ ∀a,x.SA=some a→u1.heap.size≤a.block):=qh ⟨fun a ha=>Nat.le_trans (hv1).size (hup.1 a ha),fun x hx=>⟨fun a ha=>Nat.le_trans (hv1).size ((hup.2 x hx).1 a ha),fun a ha=>Nat.le_trans (hv1).size ((hup.2 x hx).2 a ha)⟩⟩
    have hki:decide (k<ts.length)=true:=by simpa using hk
    have Rv:decide ((k:Int)<(ts.length:Int))=true:=by simp;omega
    have Va:=hb3.size
    clear hc5 hy hrt hru hpu hr3 hrl hkr hup
    go_wp2_with fail
    refine hK.out _ _ _ ⟨Cat.blk (HCu.out.below hv2 HCu.out.lt),(HLu.out.below hv2 HLu.out.lt).cell 2⟩ (fun hHeld =>?_)
    clear hK K
    refine tkT 8 hHeld ?_ (hQ:=hqB)
    refine r2T 9 10 (fun K hK =>?_) (fun K hK =>?_)
    ·go_simp
     refine hK.out _ _ _ ⟨Cat.blk (HCu.out.below hv2 HCu.out.lt),(HLu.out.below hv2 HLu.out.lt).cell 2⟩ (fun hHeld =>?_)
     clear hK K
     refine r1T 10 (fun K hK =>?_)
     go_simp
     refine hK.out _ _ _ ⟨Cat.blk ((HCu.out.below hv2 HCu.out.lt).alloc _),((HLu.out.below hv2 HLu.out.lt).alloc _).cell 2⟩ (fun hHeld =>?_)
     clear hK K
     generalize hg:(v2).heap.size=g
     generalize hva:World.alloc v2 _=v3
     have hab:Below (v2).heap.size v2 v3:=by rw[←hva];exact ai
     have hv3:Below u1.heap.size u1 v3:=aa hv2 hab (hv2).size
     have HG:Hid (Blk v3 g 46 #[.slice none 0 0]):=qh eV
     have hgu:u1.heap.size≤g:=by rw[←hg];exact(hv2).size
     clear hva
     have hne:∀a,a<v2.heap.size→a≠g:=fun a ha=>by omega
     have HR3:Hid (bU v3 v3.heap.size TA recs):=qh (HR2.out.next hab)
     have iK:∀u,bU (v3.setCell ⟨g,0,none⟩ u) v3.heap.size TA recs:=fun u=>(HR2.out.below (hab.setCell (show v2.heap.size≤g by omega) u)).mono hab.size
     exact l87_1
    ·go_simp
     refine hK.out _ _ _ ⟨Cat.blk ((HCu.out.below hv2 HCu.out.lt).alloc _),((HLu.out.below hv2 HLu.out.lt).alloc _).cell 2⟩ (fun hHeld =>?_)
     clear hK K
     generalize hg:(v2).heap.size=g
     generalize hva:World.alloc v2 _=v3
     have hab:Below (v2).heap.size v2 v3:=by rw[←hva];exact ai
     have hv3:Below u1.heap.size u1 v3:=aa hv2 hab (hv2).size
     have HG:Hid (Blk v3 g 46 #[.slice none 0 0]):=qh eV
     have hgu:u1.heap.size≤g:=by rw[←hg];exact(hv2).size
     clear hva
     have iK:∀u,bU (v3.setCell ⟨g,0,none⟩ u) v3.heap.size TA recs:=fun u=>(HR2.out.below (hab.setCell (show v2.heap.size≤g by omega) u)).mono hab.size
     have t0:=(hab.cell (p:=⟨q,k,none⟩) hb5).trans t0
     refine r1T 9 (fun K hK =>?_)
     go_simp
     refine hK.out _ _ _ ⟨Cat.blk (HCu.out.below hv3 HCu.out.lt),(HLu.out.below hv3 HLu.out.lt).cell 2⟩ (fun hHeld =>?_)
     clear hK K
     exact l87_1
   ·go_simp
    refine hK.out _ _ _ ⟨Cat.blk ((HCu.out.below hv1 HCu.out.lt).alloc _),((HLu.out.below hv1 HLu.out.lt).alloc _).cell 2⟩ (fun hHeld =>?_)
    clear hK K
    generalize hg:(v1).heap.size=g
    generalize hva:World.alloc v1 _=va
    have hab:Below (v1).heap.size v1 va:=by rw[←hva];exact ai
    have yx:Below u1.heap.size u1 va:=aa hv1 hab (hv1).size
    have HG:Hid (Blk va g 46 #[.slice none 0 0]):=qh eV
    have hgu:u1.heap.size≤g:=by rw[←hg];exact(hv1).size
    clear hva
    (replace mP:=qh (mP.out.below hab))
    have hga:g<va.heap.size:=HG.out.lt
    refine r1T 6 (fun K hK =>?_)
    go_simp
    (go_at_call 33;(with_reducible refine(lS A c ts.length ts LA lc l.length l _ (HT.out.next (aa hxu yx hxu.size)) rfl HS.out HLO.out.cat mP.out.read rfl eW (fun x hx=>Nat.le_trans (mP.out.len x hx) omA)).mono ?_);rintro e v2 ⟨⟨q,rt,rfl,hrl,hrt,hru,hpu⟩,hb3⟩)
    have hv2:Below u1.heap.size u1 v2:=aa yx hb3 (yx).size
    have hkr:k<rt.length:=by omega
    have jr:=qh (qp hpu (HRE.out l HLM.out) hkr)
    obtain⟨b5,o5,e5,hb5,hc5⟩:=hrt.1.get hkr
    injection e5 with e5
    injection e5 with e6 e7
    subst e6 e7
    have t0:=hc5 0 _ rfl
    have hr3:=hrt.2 rt[k] (lgm hkr)
    have hup:=hru.2 rt[k] (lgm hkr)
    obtain⟨⟨TA,tc,recs⟩,hy⟩:∃x:RTab,rt[k]=x:=⟨_,rfl⟩
    rw[hy]at t0 hr3 jr hup
    simp only[Nat.mul_one,Nat.add_zero,Nat.zero_add]at t0 hr3 jr hup
    have HR2:Hid (bU v2 (v2).heap.size TA recs):=qh hr3
    have HUP:=qh hup
    have JU:Hid ((∀a,TA=some a→u1.heap.size≤a.block) ∧ ∀x∈recs,(∀a,x.A=some a→u1.heap.size≤a.block) ∧ ∀a,x.SA=some a→u1.heap.size≤a.block):=qh ⟨fun a ha=>Nat.le_trans (yx).size (hup.1 a ha),fun x hx=>⟨fun a ha=>Nat.le_trans (yx).size ((hup.2 x hx).1 a ha),fun a ha=>Nat.le_trans (yx).size ((hup.2 x hx).2 a ha)⟩⟩
    exact l87_0
  ·go_simp
   refine hK.out _ _ _ ⟨Cat.blk (HCu.out.drew.alloc _),(HLu.out.drew.alloc _).cell 2⟩ (fun hHeld =>?_)
   clear hK K
   generalize hg:u1.heap.size=g
   generalize hva:World.drew (World.alloc u1 _)=va
   have yx:Below u1.heap.size u1 va:=by rw[←hva];exact ai
   have HG:Hid (Blk va g 46 #[.slice none 0 0]):=qh (by rw[←hva];exact(Blk.new' hg).drew)
   have hgu:u1.heap.size≤g:=by rw[←hg];exact Nat.le_refl _
   clear hva hg
   have XE:g<va.heap.size:=HG.out.lt
   refine r1T 5 (fun K hK =>?_)
   go_simp
   (go_at_call 34;(with_reducible refine(sZ EA ec p (es.take p) _ (HTK.out.next yx) hTL.out omA HT8.out).mono ?_);rintro e vb ⟨⟨LA,lc,l,rfl,hlm,hlo2⟩,hb2⟩)
   have hvb:Below u1.heap.size u1 vb:=aa yx hb2 (yx).size
   have mP:=qh (hlo2.mono (yx).size)
   have HLM:=qh hlm
   have HLL:Hid (l.length≤1000):=qh (by
    have h:=congrArg List.length hlm
    rw[List.length_map,List.length_map,List.length_map,List.length_take]at h
    omega)
   clear hlm hlo2
   go_wp2_with fail
   refine hK.out _ _ _ ⟨Cat.blk (HCu.out.below hvb HCu.out.lt),(HLu.out.below hvb HLu.out.lt).cell 2⟩ (fun hHeld =>?_)
   clear hK K
   (replace HG:=qh (HG.out.below hb2 XE))
   have hga:g<vb.heap.size:=HG.out.lt
   refine r1T 6 (fun K hK =>?_)
   go_simp
   (go_at_call 33;(with_reducible refine(lS A c ts.length ts LA lc l.length l _ (HT.out.next (aa hxu hvb hxu.size)) rfl HS.out HLO.out.cat mP.out.read rfl eW (fun x hx=>Nat.le_trans (mP.out.len x hx) omA)).mono ?_);rintro e v2 ⟨⟨q,rt,rfl,hrl,hrt,hru,hpu⟩,hb3⟩)
   have hv2:Below u1.heap.size u1 v2:=aa hvb hb3 (hvb).size
   have hkr:k<rt.length:=by omega
   have jr:=qh (qp hpu (HRE.out l HLM.out) hkr)
   obtain⟨b5,o5,e5,hb5,hc5⟩:=hrt.1.get hkr
   injection e5 with e5
   injection e5 with e6 e7
   subst e6 e7
   have t0:=hc5 0 _ rfl
   have hr3:=hrt.2 rt[k] (lgm hkr)
   have hup:=hru.2 rt[k] (lgm hkr)
   obtain⟨⟨TA,tc,recs⟩,hy⟩:∃x:RTab,rt[k]=x:=⟨_,rfl⟩
   rw[hy]at t0 hr3 jr hup
   simp only[Nat.mul_one,Nat.add_zero,Nat.zero_add]at t0 hr3 jr hup
   have HR2:Hid (bU v2 (v2).heap.size TA recs):=qh hr3
   have HUP:=qh hup
   have JU:Hid ((∀a,TA=some a→u1.heap.size≤a.block) ∧ ∀x∈recs,(∀a,x.A=some a→u1.heap.size≤a.block) ∧ ∀a,x.SA=some a→u1.heap.size≤a.block):=qh ⟨fun a ha=>Nat.le_trans (hvb).size (hup.1 a ha),fun x hx=>⟨fun a ha=>Nat.le_trans (hvb).size ((hup.2 x hx).1 a ha),fun a ha=>Nat.le_trans (hvb).size ((hup.2 x hx).2 a ha)⟩⟩
   exact l87_0
 rintro f7 w7 ⟨g,RA,rc,recs,MG,hgu,hG,Vl,hpu,hup,hb7⟩
 simp only[setL,List.setIfInBounds_toArray,List.set_cons_zero,List.set_cons_succ]
 rw[MG]
 rw[←HB0.out]at hgu hb7 hup
 have hz7:=hb7.size
 have hx7:Below w.heap.size w w7:=aa hxu hb7 hxu.size
 have HG7:=qh hG
 have YF:=qh Vl
 have HPU:=qh hpu
 have JV:=qh hup
 have HL7:=qh (HLu.out.below hb7 HLu.out.lt)
 have HR7:=qh (HRu.out.below hb7 HRu.out.lt)
 have HO7:=qh (HOu.out.below hb7 HOu.out.lt)
 have PH:Hid (z+3<u1.heap.size):=qh HOu.out.lt
 clear MG hG Vl hpu hup l2 HCu HLu HRu HOu HTK
 have l1:=HL7.out.cell 1
 have l2:=HL7.out.cell 2
 have r0:=HR7.out.cell 0
 have r1:=HR7.out.cell 1
 have r2:=HR7.out.cell 2
 have rf:=fun j=>HR7.out.frozen j
 have UA:=HL7.out.lt
 have Rm:=HR7.out.lt
 simp only[gE3]at l1 l2 r0 r1 r2
 go_upto_region 9 with (fail)
 obtain⟨U,hU⟩:∃U,((w7.setCell ⟨z+2,0,none⟩ (.int .i64 tO)).setCell ⟨z+2,1,none⟩ (.int .i64 nx)).setCell ⟨z+2,2,none⟩ (.slice none 0 0)=U:=⟨_,rfl⟩
 rw[hU]
 have hzg:z+3<g:=by have:=PH.out;omega
 have HRU:Hid (Blk U (z+2) 39 #[.int .i64 tO,.int .i64 nx,.slice none 0 0]):=qh (by
  rw[←hU]
  have h:=((HR7.out.aH 0 (.int .i64 tO)).aH 1 (.int .i64 nx)).aH 2 (.slice none 0 0)
  simpa using h)
 have HLU:Hid (Blk U (z+1) 39 #[.int .i64 lo,.int .i64 nx,.slice EA es.length ec]):=qh (by
  rw[←hU]
  iterate 3 (refine Blk.far ?_ spA _)
  exact HL7.out)
 have HOU:Hid (Blk U (z+3) 42 #[.int .i64 0]):=qh (by
  rw[←hU]
  iterate 3 (refine Blk.far ?_ spA _)
  exact HO7.out)
 have HGU:Hid (Blk U g 46 #[.slice RA recs.length rc]):=qh (by
  rw[←hU]
  iterate 3 (refine Blk.far ?_ (by show g≠z+2;omega) _)
  exact HG7.out)
 have HUZ:Hid (U.heap.size=w7.heap.size):=qh (by rw[←hU];simp)
 have hUz:w7.heap.size≤U.heap.size:=Nat.le_of_eq HUZ.out.symm
 have RX:∀ {A:Option Addr},(∀a,A=some a→u1.heap.size≤a.block)→∀a,A=some a→z+2<a.block:=fun h a ha=>by have h1:=h a ha;have h2:=PH.out;omega
 have YE:Hid (bU U U.heap.size RA recs):=qh (by
  rw[HUZ.out,←hU]
  iterate 3 (refine tV ?_ (RX JV.out.1) (fun x hx=>⟨RX (JV.out.2 x hx).1,RX (JV.out.2 x hx).2⟩) _)
  exact YF.out)
 have HBU:Hid (Below w.heap.size w U):=qh (by
  rw[←hU]
  iterate 3 (refine Below.setCell ?_ eM _)
  exact hx7)
 have hlU:=HLU.out.lt
 clear hU r0 r1 r2 rf l1 l2 Rm UA
 have l2:=HLU.out.cell 2
 simp only[gE3]at l2
 go_wp2_with (go_at_call 35;refine(AO _ _ _ _).mono ?_;rintro e v ⟨rfl,rfl⟩)
 clear l2
 have bL:=Boxed.new U 37 (.slice EA p ec)
 have hBW:Below U.heap.size U (U.alloc (.cells #[.slice EA p ec] 37)):=brf.alloc nlr _
 have hsz:(U.alloc (.cells #[.slice EA p ec] 37)).heap.size=U.heap.size+1:=by simp
 obtain⟨W0,hW0⟩:∃W0,U.alloc (.cells #[.slice EA p ec] 37)=W0:=⟨_,rfl⟩
 rw[hW0]at bL hBW hsz ⊢
 clear hW0
 have hzW:w7.heap.size<W0.heap.size:=by omega
 have hUW:U.heap.size<W0.heap.size:=by omega
 have Zc:z+3<W0.heap.size:=by have:=PH.out;omega
 have HR0:=qh (HRU.out.below hBW HRU.out.lt)
 have HL0:=qh (HLU.out.below hBW hlU)
 have HO0:=qh (HOU.out.below hBW HOU.out.lt)
 have HG0:=qh (HGU.out.below hBW HGU.out.lt)
 have Sz:=qh (YE.out.next hBW)
 have PQ:=qh (aa HBU.out hBW HBU.out.size)
 have wN:w.heap.size≤W0.heap.size:=PQ.out.size
 have XT:W0.cell? ⟨U.heap.size,0,none⟩=some (.slice EA (es.take p).length ec):=by rw[hTL.out];exact bL.cell
 clear bL hBW hsz
 obtain⟨n,hn⟩:∃n,ts[k].ae.length=n:=⟨_,rfl⟩
 have HLN:Hid (∀r∈recs,r.seq.length=n∧r.row.length=n):=qh (by
  rw[←hn]
  obtain⟨q,hq⟩:=sj HLO.out.cat hk (lT HLO.out.ord HLO.out.tab) p
  exact uX hk hq HPU.out)
 have HCS:Hid (∀x∈es,(x.chg.kind=1∧x.chg.row.length=n)∨(x.chg.kind=2∧x.chg.row.length≤8∧bT x.chg.key=true∧x.chg.key.kind≠0 ∧ ∃j:Nat,x.chg.column=(j:Int)∧j<n)∨(x.chg.kind≠1∧x.chg.kind≠2)):=qh (fun x hx=>by
  rw[←hn]
  have hm:unC x.chg∈(es.map Ent.p).map Prod.snd:=List.mem_map_of_mem (f:=Prod.snd) (List.mem_map_of_mem (f:=Ent.p) hx)
  exact Aw (x:=unC x.chg) HLO.out.cat (iP HLO.out.ord _ hm) (HLO.out.tab _ hm) hk)
 have hn0:0<n:=by rw[←hn];exact(HLO.out.cat.ae hk).1
 have hn8:n≤8:=by rw[←hn];exact(HLO.out.cat.ae hk).2
 have Zw:recs.length≤64:=by
  obtain⟨q,hq⟩:=sj HLO.out.cat hk (lT HLO.out.ord HLO.out.tab) p
  have h:=hq.ok.len
  rw[←HPU.out,List.length_map]at h
  exact h
 clear hn
 refine(wpIn_wide (n:= 9)).1 ?_
 refine Pv (fun T D hT hD =>?_)
 refine wpIn_rangeFunc_ownH rfl omA (gf:= 79) (lb:= #[.pointer (some ⟨U.heap.size,0,none⟩)]) (by rw[hT];kernel_rfl) trivial (enters_of Tryz.func79 krA rfl)
  (zS 8 omA U.heap.size w.heap.size EA ec (es.take p) (by rw[hTL.out];omega) W0 omA wN XT ((HE.out.1.take p).below PQ.out)) belowK_t (belowK_b wN) brf (fun _=>rfl)
  (fun pre W=>(∃A' c' l,Blk W (z+2) 39 #[.int .i64 tO,.int .i64 nx,.slice A' l.length c']∧fK W W0.heap.size A' c' l∧l.map Ent.p=ko (gG (es.map Ent.p) p) (pre.map fun x=>Ent.p x.1))∧W0.grownBy W (some (z+2)))
  (fun _ _ _=>False)
  (fun s X Y row hs hg hr=>by
    obtain⟨⟨A',c',l,h1,h2,h3⟩,h4⟩:=hs
    exact⟨⟨A',c',l,h1.grown hg (fun e=>by have:=(hr _ e.symm).1;omega),Ac h2 hg (fun r e=>(hr r e).2),h3⟩,iq h4 hg (fun q e=>(hr q e).1)⟩)
  (fun _ _ _ _ _ hs _ _=>hs)
  ⟨⟨none,0,[],HR0.out,⟨aj.nil,(fun x h=>by cases h),(fun x h=>by cases h)⟩,rfl⟩,gL W0 _⟩
  (fun x a' W =>∃Bx,W0.heap.size≤Bx∧Blk W Bx 56 (Ent.cells x.1).toArray∧a'={ tmps:=(T.setIfInBounds 72 (Ent.val x.1)).setIfInBounds 12 (.pointer (some ⟨Bx,0,none⟩)),defers:= [] })
  (fun x a' s X Y row hs hg hr=>by obtain⟨Bx,h1,h2,h3⟩:=hs;exact⟨Bx,h1,h2.grown hg (fun e'=>by obtain⟨_,o,ho,hc⟩:=hr Bx e'.symm;rw[show X.heap[Bx]?=_ from h2]at ho;cases ho;cases hc),h3⟩)
  ?assign ?body ?done ?stop
 case assign =>
  rintro l pre x W K ⟨⟨A',c',l',h1,h2,h3⟩,hGW⟩ hK
  subst hT
  simp only[Ent.val]
  gi_wp2
  have hb:=(Below.refl w.heap.size W).alloc (Nat.le_trans wN hGW.size)
  exact hK _ _ ((KeepsOthers.alloc _ _).from _) (hb _) ⟨⟨A',c',l',h1.alloc _,h2.below (brf.alloc nlr _),h3⟩,bP hGW _⟩ ⟨W.heap.size,hGW.size,Blk.new _ _ _,rfl⟩
 case body =>
  rintro l pre x a' W hl ⟨r,hr⟩ ⟨⟨A',c',l',h1,h2,h3⟩,hGW⟩ ⟨Bx,hBx,hx,rfl⟩ hlt
  subst hT
  simp only[List.setIfInBounds_toArray,List.set_cons_zero,List.set_cons_succ,Ent.val]
  have L6:=hGW.size
  have H1:=qh h1
  have H2:=qh h2
  have H3:=qh h3
  have HGW:=qh hGW
  have HXB:=qh hx
  have hxl:=hx.lt
  have hrl:=h1.lt
  have hmem:x.1∈es:=List.mem_of_mem_take x.2
  have hbW1:Below w.heap.size w W:=Below.grown PQ.out hGW wN (fun q e=>by injection e with e;have:=HZ.out;omega)
  have hGg:=HG0.out.grown hGW inA
  have hgl:=hGg.lt
  have g0:=hGg.cell 0
  simp only[gE3]at g0
  have Rc:∀ {A:Option Addr},(∀a,A=some a→u1.heap.size≤a.block)→∀a,A=some a→some a.block≠some (z+2):=fun h a ha e=>by
   have h1:=h a ha
   have h2:=PH.out
   injection e with e
   omega
  have HRW:Hid (bU W W.heap.size RA recs):=qh ⟨Sz.out.1.grown hGW (Rc JV.out.1),fun y hy=>⟨(Sz.out.2 y hy).1.grown hGW (Rc (JV.out.2 y hy).1),(Sz.out.2 y hy).2.grown hGW (Rc (JV.out.2 y hy).2)⟩⟩
  obtain⟨c0,⟨c1,c2,c3,c4⟩,c5,⟨c6,c7,c8⟩,c9,⟨c10,c11,c12⟩,c13,c14⟩:=Ent.bZ (o:= 0) (x:=x.1) (w:=W) (b:=Bx) (fun j v hv=>by rw[Nat.zero_add,hx.cell];simpa using hv)
  simp only[Nat.zero_add]at c0 c1 c2 c3 c4 c5 c6 c7 c8 c9 c10 c11 c12 c13 c14
  have hrow:ag W W.heap.size Val.cells 3 x.1.chg.A x.1.chg.row:=(HE.out.next hbW1).2 x.1 hmem
  clear h1 h2 h3 hx hGg hGW
  gi_upto_region 12 with (refine⟨trivial,?_⟩;gi_at_call 36;refine(CallsIn.inRound l (callsIn_wide.2 (zl RA rc n recs x.1.chg.kind x.1.chg.seq x.1.chg.day x.1.chg.table x.1.chg.A x.1.chg.cap x.1.chg.row x.1.chg.key x.1.chg.column x.1.chg.val W HRW.out omA HLN.out hn0 hn8 hrow (HCS.out x.1 hmem)))).mono ?_;rintro e w5 ⟨⟨y,b,rfl,hcm,hyo,hy8⟩,hb5⟩;have HCM:=qh hcm;have HYO:=qh hyo;have HB5:=qh hb5;clear hcm hyo)
  generalize hV:World.alloc w5 _=V
  have RP:Below w5.heap.size w5 V:=by rw[←hV];exact ai
  have HBV:Hid (Below W.heap.size W V):=qh (aa HB5.out RP HB5.out.size)
  have HYB:Hid (Blk V w5.heap.size 52 y.cells.toArray):=qh (by rw[←hV];exact Blk.new' rfl)
  have HYV:Hid (aj V W.heap.size 50 Val.cells 3 (.slice y.A y.row.length y.cap) y.row):=qh (HYO.out.below RP nlr)
  have HRV:=qh (H1.out.below HBV.out hrl)
  have HXV:=qh (HXB.out.below HBV.out hxl)
  have HEV:=qh (H2.out.below HBV.out)
  have hzV:W.heap.size≤V.heap.size:=HBV.out.size
  have Zb:w5.heap.size<V.heap.size:=HYB.out.lt
  clear hV RP c0 c1 c2 c3 c4 c5 c6 c7 c8 c9 c10 c11 c12 c13 c14 g0 HRW hrow
  have HSN:Hid (∀L:List Ent,L.map Ent.p=l'.map Ent.p++(if b=true then [(x.1.off,unC y)] else [])→L.map Ent.p=ko (gG (es.map Ent.p) p) ((pre ++ [x]).map fun x=>Ent.p x.1)):=qh (fun L hL=>by
   rw[hL,List.map_append,List.map_singleton,FP,H3.out,←HPU.out]
   have h:bS (recs.map aA) (Ent.p x.1).2=if b=true then [unC y] else []:=HCM.out
   rw[h]
   cases b<;>rfl)
  cases b
  ·gi_wp2
   exact⟨(KeepsOthers.below' HBV.out).from _,HBV.out.mono (Nat.le_trans wN L6),⟨A',c',l',HRV.out,HEV.out,HSN.out l' spA⟩,l8 HGW.out HBV.out⟩
  ·have r2:=HRV.out.cell 2
   have rf2:=HRV.out.frozen 2
   have x0:=HXV.out.cell 0
   have Zq:=HRV.out.lt
   have Zg:=HXV.out.lt
   obtain⟨⟨q0,q1,q2,q3⟩,q4,⟨q5,q6,q7⟩,q8,q9,q10,q11⟩:=Chg.eF HYB.out
   simp only[Ent.cells,gE3]at r2 x0
   have HLB:Hid (l'.length≤1000):=qh (by
    have h:=congrArg List.length H3.out
    rw[List.length_map]at h
    have h2:=(nE (gG (es.map Ent.p) p) (pre.map fun x=>Ent.p x.1)).length_le
    rw[List.length_map,List.length_map,List.length_map]at h2
    have h3:=hlt
    rw[hTL.out]at h3
    omega)
   gi_wp2_with (gi_at_builtin;refine oZ _ rfl (.tmp 82) (.tmp 87) 37 rfl 56 ie _ Ent.cells 15 184 Tryz.underlying37 hie uA uz uy rfl omA iH jU W0.heap.size (.slice A' l'.length c') l' rfl (HEV.out.own.alloc _) _ _ _ [(⟨x.1.off,y⟩:Ent)] rfl rfl (Blk.one (enc:=Ent.cells) (x:=⟨x.1.off,y⟩) (Blk.new' rfl) spA) (by have:=HLB.out;simp;omega) (by have:=HLB.out;simp[maxLen];omega) smA ?_;intro v6 w6 hown6 hg6 j4;obtain⟨A6,c6,hv6,_,_⟩:=hown6.form;subst hv6;have HW6:=qh hown6;have HG6:=qh hg6;have HR6:=qh ((HRV.out.alloc (.cells (Ent.cells ⟨x.1.off,y⟩).toArray 56)).grown hg6 (fun e=>by have:=HEV.out.own.row _ e.symm;omega));clear hown6 hg6 j4 r2 rf2;have r2:=HR6.out.cell 2;have rf2:=HR6.out.frozen 2;have Zt:=HR6.out.lt;simp only[gE3]at r2)
   have HR7:Hid (Blk (w6.setCell ⟨z+2,2,none⟩ (.slice A6 (l'.length+1) c6)) (z+2) 39 #[.int .i64 tO,.int .i64 nx,.slice A6 (l' ++ [(⟨x.1.off,y⟩:Ent)]).length c6]):=qh (by
    have h:=HR6.out.aH 2 (.slice A6 (l'.length+1) c6)
    simpa using h)
   have HE6:Hid (fK w6 W0.heap.size A6 c6 (l' ++ [(⟨x.1.off,y⟩:Ent)])):=qh ((HEV.out.below (brf.alloc nlr _)).app HG6.out HW6.out ((HYV.out.mono L6).alloc _) hy8)
   have Qb:=HEV.out.own.row
   refine⟨((((KeepsOthers.below' HBV.out).trans (KeepsOthers.alloc _ _)).trans (wC (HEV.out.own.alloc _) HG6.out)).trans (KeepsOthers.setCell _ _ _)).from _,?_,⟨A6,c6,l' ++ [⟨x.1.off,y⟩],HR7.out,xW HE6.out HR6.out (by decide) (by decide) 2 _,(by have h:=HSN.out (l' ++ [⟨x.1.off,y⟩]) (by simp[Ent.p]);simpa using h)⟩,?_⟩
   ·refine Below.setCell ?_ eM _
    exact Below.grown ((HBV.out.mono (Nat.le_trans wN L6)).alloc (Nat.le_trans wN (Nat.le_trans L6 hzV)) _) HG6.out smA (fun q e=>Nat.le_trans wN (Qb q e))
   ·refine yH ?_ _ _
    exact iq (bP (l8 HGW.out HBV.out) _) HG6.out (fun q e=>Qb q e)
 case done =>
  rintro Dm ys W hDm hys ⟨⟨A',c',l',h1,h2,h3⟩,hGW⟩ hK
  subst hT
  subst hD
  have lN:Hid (l'.map Ent.p=ko (gG (es.map Ent.p) p) ((es.map Ent.p).take p)):=qh (by
   rw[h3]
   congr 1
   have h:=congrArg (List.map Ent.p) hys
   rw[List.map_map,List.map_take]at h
   exact h)
  have H1:=qh h1
  have H2:=qh h2
  have L6:=hGW.size
  have HGW:=qh hGW
  have HLW:=qh (HL0.out.grown hGW inA)
  have HOW:=qh (HO0.out.grown hGW inA)
  have hbW1:Below w.heap.size w W:=Below.grown PQ.out hGW wN (fun q e=>by injection e with e;have:=HZ.out;omega)
  have l2:=HLW.out.cell 2
  simp only[gE3]at l2
  have hlW:=HLW.out.lt
  have hrW:=h1.lt
  clear h1 h2 h3 hGW hys
  go_upto_region 14 with (fail)
  obtain⟨RR,hRR⟩:∃RR:(Nat→Value)→World→Prop,RR=fun f w'=>w'=W∧f 95=.int .i64 0∧f 94=.int .i64 ((es.length-p:Nat):Int) ∧ ∃DA dc,f 93=.slice DA (es.length-p) dc∧ag w w.heap.size Ent.cells 15 DA (es.drop p):=⟨_,rfl⟩
  have HRR:=qh hRR
  clear hRR
  refine gX .normal [90,91,92,93,94,95] RR ?_ ?_
  ·by_cases hep:ec=p
   ·have hdr:es.drop p=[]:=List.drop_eq_nil_of_le omA
    go_wp2_with fail
    (try refine⟨trivial,?_⟩)
    refine bD ?_ ?_
    ·kernel_rfl
    ·first
      | (rw[HRR.out];exact⟨rfl,rfl,rfl,EA,_,rfl,by rw[hdr];exact ag.nil⟩)
      | (refine⟨trivial,?_⟩;rw[HRR.out];exact⟨rfl,rfl,rfl,EA,_,rfl,by rw[hdr];exact ag.nil⟩)
   ·have hsl:=HE.out.1.M9 p
    go_wp2_with fail
    (try refine⟨trivial,?_⟩)
    refine bD ?_ ?_
    ·kernel_rfl
    ·first
      | (rw[HRR.out];exact⟨rfl,rfl,rfl,_,_,rfl,hsl⟩)
      | (refine⟨trivial,?_⟩;rw[HRR.out];exact⟨rfl,rfl,rfl,_,_,rfl,hsl⟩)
  rintro fd Wd hfd
  rw[HRR.out]at hfd
  obtain⟨rfl,UO,MF,DA,dc,UQ,hds⟩:=hfd
  simp only[setL,List.setIfInBounds_toArray,List.set_cons_zero,List.set_cons_succ]
  rw[UQ,MF,UO]
  have HDS:=qh hds
  clear UQ MF UO hds HRR l2
  obtain⟨es2,MI⟩:∃es2,es.drop p=es2:=⟨_,rfl⟩
  have YQ:=qh MI
  rw[MI]at HDS
  have hn2:es2.length=es.length-p:=by rw[←MI,List.length_drop]
  obtain⟨n2,Uw⟩:∃n2,es.length-p=n2:=⟨_,rfl⟩
  rw[Uw]
  have hnA:es2.length≤n2:=by omega
  have hnB:n2≤es2.length:=by omega
  have hn6:n2≤256:=by omega
  have HM2:Hid (∀x∈es2,x∈es):=qh (fun x hx=>by rw[←MI]at hx;exact List.mem_of_mem_drop hx)
  have HL6:Hid (l'.length≤256):=qh (by
   have h:=congrArg List.length lN.out
   rw[List.length_map]at h
   have h2:=(nE (gG (es.map Ent.p) p) ((es.map Ent.p).take p)).length_le
   rw[List.length_map,List.length_map,List.length_take,List.length_map]at h2
   omega)
  clear MI hn2 Uw
  go_upto_region 15 with (fail)
  go_loopw [95] (fun vi wr =>∃(j:Nat) (A2:Option Addr) (c2:Nat) (l2:List Ent),j≤n2∧vi=.int .i64 j∧Blk wr (z+2) 39 #[.int .i64 tO,.int .i64 nx,.slice A2 l2.length c2]∧fK wr W0.heap.size A2 c2 l2∧l2.map Ent.p=l'.map Ent.p++(es2.take j).map Ent.p∧Blk wr (z+3) 42 #[.int .i64 0]∧KeepsOthers Wd wr∧Below w.heap.size w wr) (fun vi _=>n2-(intOf vi).toNat)
  case atStart=>exact⟨0,A',c',l',Nat.zero_le _,rfl,H1.out,H2.out,by simp,HOW.out,KeepsOthers.refl _,hbW1⟩
  case round =>
   obtain⟨j,A2,c2,l2,hj,rfl,hB,hE2,hm2,hE3,hkp,hbr⟩:=hrel
   have HB:=qh hB
   have HE2:=qh hE2
   have HM:=qh hm2
   have HE3:=qh hE3
   have HKP:=qh hkp
   have hzr:=hkp.size
   have hbl:=hB.lt
   clear hB hE2 hm2 hE3 hkp
   by_cases hlt:j<n2
   ·have hlt':decide (j<n2)=true:=by simpa using hlt
    have kG:decide ((j:Int)<(n2:Int))=true:=by simp;omega
    have hjl:j<es2.length:=by omega
    have hbx:Below w.heap.size w wr:=hbr
    have hmm:=HM2.out _ (lgm hjl)
    have h88:=H8.out _ hmm
    have VG:Hid (es2.take (j+1)=es2.take j ++ [es2[j]]):=qh (List.take_succ_eq_append_getElem hjl)
    obtain⟨bd,od,rfl,hbd,hcd⟩:=(HDS.out.below hbr).get hjl
    have hrow:=((HE.out.2 _ hmm).below hbr).mono hbr.size
    obtain⟨x,hx⟩:∃x,es2[j]=x:=⟨_,rfl⟩
    rw[hx]at hcd h88 hrow VG
    clear hx hmm
    obtain⟨q0,⟨q1,q2,q3,q4⟩,q5,⟨q6,q7,q8⟩,q9,⟨q10,q11,q12⟩,q13,q14⟩:=Ent.bZ hcd
    have b2:=HB.out.cell 2
    simp only[gE3]at b2
    go_upto_region 17 with (fail)
    generalize hu:World.alloc wr _=u
    have hbu:Below wr.heap.size wr u:=by rw[←hu];exact ai
    have HU:Hid (Blk u wr.heap.size 56 (Ent.cells x).toArray):=qh (by rw[←hu];exact Blk.new _ _ _)
    clear hu q0 q1 q2 q3 q4 q5 q6 q7 q8 q9 q10 q11 q12 q13 q14 hcd b2
    have HBu:=qh (HB.out.below hbu hbl)
    have HEu:=qh (HE2.out.below hbu)
    have hul:=HU.out.lt
    have XR:=HBu.out.lt
    have hru:=hrow.next hbu
    have PE:=qh hru
    have b2:=HBu.out.cell 2
    simp only[gE3]at b2
    obtain⟨RS,hRS⟩:∃RS:(Nat→Value)→World→Prop,RS=fun _ w' =>∃(A3:Option Addr) (c3:Nat) (y:Ent),Blk w' (z+2) 39 #[.int .i64 tO,.int .i64 nx,.slice A3 (l2 ++ [y]).length c3]∧fK w' W0.heap.size A3 c3 (l2 ++ [y])∧Ent.p y=Ent.p x∧Blk w' (z+3) 42 #[.int .i64 0]∧KeepsOthers wr w'∧Below w.heap.size w w':=⟨_,rfl⟩
    have HRS:=qh hRS
    clear hRS
    refine gX .normal [99,100,101,102,103,104,105] RS ?_ ?_
    ·refine aJ (S:=fun v=>v.cell? ⟨z+2,2,none⟩=some (.slice A2 l2.length c2)∧(v.cell? ⟨wr.heap.size,0,none⟩=some (.int .i64 x.off)∧v.cell? ⟨wr.heap.size,1,none⟩=some (.int .i64 x.chg.kind)∧v.cell? ⟨wr.heap.size,2,none⟩=some (.int .i64 x.chg.seq)∧v.cell? ⟨wr.heap.size,3,none⟩=some (.int .i64 x.chg.day)∧v.cell? ⟨wr.heap.size,4,none⟩=some (.int .i64 x.chg.table)∧v.cell? ⟨wr.heap.size,5,none⟩=some (.slice x.chg.A x.chg.row.length x.chg.cap)∧v.cell? ⟨wr.heap.size,6,none⟩=some (.int .i64 x.chg.key.kind)∧v.cell? ⟨wr.heap.size,7,none⟩=some (.int .i64 x.chg.key.num)∧v.cell? ⟨wr.heap.size,8,none⟩=some (.string x.chg.key.text)∧v.cell? ⟨wr.heap.size,9,none⟩=some (.int .i64 x.chg.column)∧v.cell? ⟨wr.heap.size,10,none⟩=some (.int .i64 x.chg.val.kind)∧v.cell? ⟨wr.heap.size,11,none⟩=some (.int .i64 x.chg.val.num)∧v.cell? ⟨wr.heap.size,12,none⟩=some (.string x.chg.val.text)∧v.cell? ⟨wr.heap.size,13,none⟩=some (.slice none 0 0)∧v.cell? ⟨wr.heap.size,14,none⟩=some (.slice none 0 0))) [7] krA ⟨b2,wX HU.out⟩ (fun hHeld =>?_)
     have hud:Below u.heap.size u u.drew:=brf.drew
     refine tkT 0 hHeld ?_ (hQ:=hqB)
     refine tkT 1 hHeld ?_ (hQ:=hqB)
     refine tkT 2 hHeld ?_ (hQ:=hqB)
     refine r1T 3 (fun K hK =>?_)
     go_simp
     (go_at_call 37;(with_reducible refine(pz x _ (PE.out.next hud) omA).mono ?_);rintro e w5 ⟨⟨⟨yo,⟨yk,ys,yd,yt,yA,yc,qL,wI,ycl,yvl⟩⟩,he,hy1,hy2,hyo⟩,hb5⟩;simp only[Ent.val]at he;subst he)
     have OY:Below u.heap.size u w5:=hud.trans hb5
     have IP:Below wr.heap.size wr w5:=aa hbu OY hbu.size
     have HB5:=qh (HBu.out.below OY XR)
     have HU5:=qh (HU.out.below OY hul)
     have HE5:=qh (HEu.out.below OY)
     have HYO:Hid (aj w5 W0.heap.size 50 Val.cells 3 (.slice yA qL.length yc) qL):=qh (hyo.mono (by have:=hbu.size;show W0.heap.size≤u.heap.size;omega))
     have HYR:Hid (qL.length≤8):=qh (by have h:=congrArg Chg.row hy2;simp only[unC]at h;rw[h];exact h88)
     have HYP:Hid (Ent.p ⟨yo,⟨yk,ys,yd,yt,yA,yc,qL,wI,ycl,yvl⟩⟩=Ent.p x):=qh (by
      unfold Ent.p
      rw[show yo=x.off from hy1,hy2])
     clear hyo hy1 hy2 b2
     go_wp2_with fail
     refine hK.out _ _ _ ⟨HB5.out.cell 2,wX HU5.out⟩ (fun hHeld =>?_)
     clear hK K
     refine r1T 4 (fun K hK =>?_)
     go_simp
     refine hK.out _ _ _ ⟨(HB5.out.alloc _).cell 2,wX (HU5.out.alloc _)⟩ (fun hHeld =>?_)
     clear hK K
     have V6:Hid (l2.length≤1000):=qh (by
      have h:=congrArg List.length HM.out
      rw[List.length_append,List.length_map,List.length_map,List.length_map,List.length_take]at h
      have:=HL6.out
      omega)
     refine r1T 5 (fun K hK =>?_)
     refine av _ rfl (.tmp 100) (.tmp 103) 37 rfl 56 ie _ Ent.cells 15 184 Tryz.underlying37 hie uA uz uy rfl omA iH jU W0.heap.size (.slice A2 l2.length c2) l2 rfl (HE5.out.own.alloc _) _ _ _ [⟨yo,⟨yk,ys,yd,yt,yA,yc,qL,wI,ycl,yvl⟩⟩] rfl rfl (Blk.one (enc:=Ent.cells) (x:=⟨yo,⟨yk,ys,yd,yt,yA,yc,qL,wI,ycl,yvl⟩⟩) (Blk.new' rfl) spA) (by have:=V6.out;simp;omega) (by have:=V6.out;simp[maxLen];omega) (by have:=IP.size;simp;omega) ?_
     intro v3 wA pV hgA RU
     obtain⟨A3,c3,hv3,_,_⟩:=pV.form
     subst hv3
     obtain⟨L,hL⟩:∃L,l2 ++ [(⟨yo,⟨yk,ys,yd,yt,yA,yc,qL,wI,ycl,yvl⟩⟩:Ent)]=L:=⟨_,rfl⟩
     rw[hL]at pV ⊢
     have hne:=fun q (hq:(Value.slice A2 l2.length c2).ownBlock=some q)=>HE5.out.own.row q hq
     have aas:=HB5.out.lt
     have YT:=qh (HE3.out.below IP HE3.out.lt)
     have Xf:some wr.heap.size≠(Value.slice A2 l2.length c2).ownBlock:=fun e=>by
      obtain⟨cs,hc⟩:=HE2.out.own.typ e.symm
      have:=(Array.getElem?_eq_some_iff.1 hc).1
      omega
     have HBA:=qh ((HB5.out.alloc (.cells (Ent.cells ⟨yo,⟨yk,ys,yd,yt,yA,yc,qL,wI,ycl,yvl⟩⟩).toArray 56)).grown hgA (fun e=>by have:=hne _ e.symm;omega))
     have HUA:=qh ((HU5.out.alloc (.cells (Ent.cells ⟨yo,⟨yk,ys,yd,yt,yA,yc,qL,wI,ycl,yvl⟩⟩).toArray 56)).grown hgA Xf)
     have YR:=qh ((YT.out.alloc (.cells (Ent.cells ⟨yo,⟨yk,ys,yd,yt,yA,yc,qL,wI,ycl,yvl⟩⟩).toArray 56)).grown hgA (fun e=>by have:=hne _ e.symm;omega))
     have HEA:Hid (fK wA W0.heap.size A3 c3 L):=qh (by
      rw[←hL]at pV ⊢
      exact(HE5.out.below (brf.alloc nlr _)).app hgA pV (HYO.out.alloc _) HYR.out)
     have HKA:Hid (KeepsOthers wr wA):=qh (((KeepsOthers.below' IP).trans (KeepsOthers.alloc _ _)).trans (wC (HE5.out.own.alloc _) hgA))
     have hxA:Below w.heap.size w wA:=Below.grown ((aa hbr IP hbr.size).alloc (by have:=hbr.size;have:=IP.size;omega) _) hgA (by have:=hbr.size;have:=IP.size;simp;omega) (fun q e=>Nat.le_trans wN (hne q e))
     clear pV hgA RU
     refine hK.out _ _ _ ⟨HBA.out.cell 2,wX HUA.out⟩ (fun hHeld =>?_)
     clear hK K
     have b2:=HBA.out.cell 2
     have bf2:=HBA.out.frozen 2
     have hbA:=HBA.out.lt
     simp only[gE3]at b2
     refine tkT 6 hHeld ?_ (hQ:=hqB)
     refine rzT 7 (fun K hK =>?_)
     go_simp
     refine hK.out _ _ _ ?_
     clear hK K
     refine aI krA ?_ _
     clear hHeld
     refine⟨rfl,bD ?_ ?_⟩
     ·kernel_rfl
     refine⟨rfl,?_⟩
     rw[HRS.out]
     refine⟨A3,c3,⟨yo,⟨yk,ys,yd,yt,yA,yc,qL,wI,ycl,yvl⟩⟩,?_,?_,HYP.out,YR.out.far spA _,HKA.out.trans (KeepsOthers.setCell _ _ _),hxA.setCell eM _⟩
     ·rw[hL]
      have h:=HBA.out.aH 2 (.slice A3 L.length c3)
      simpa using h
     ·rw[hL]
      exact xW HEA.out HBA.out (by decide) (by decide) 2 _
    rintro f2 w2 hf2
    rw[HRS.out]at hf2
    obtain⟨A3,c3,y,hB3,hO3,hy3,Vq,hkp3,OV⟩:=hf2
    simp only[setL,List.setIfInBounds_toArray,List.set_cons_zero,List.set_cons_succ]
    have HB3:=qh hB3
    have HO3:=qh hO3
    have YS:=qh Vq
    have HY3:=qh hy3
    have YN:=qh (HKP.out.trans hkp3)
    clear hB3 hO3 hy3 Vq hkp3 b2
    go_wp2_with fail
    go_roundw
    case rel=>exact⟨j+1,A3,c3,l2 ++ [y],by omega,by go_num,HB3.out,HO3.out,by rw[VG.out,List.map_append,List.map_append,HM.out,List.append_assoc,List.map_singleton,List.map_singleton,HY3.out],YS.out,YN.out,OV⟩
    case measure=>exact meA
   ·have hlt':decide (j<n2)=false:=by simpa using hlt
    have kG:decide ((j:Int)<(n2:Int))=false:=by simp;omega
    have HFN:Hid (l2.map Ent.p=dR tO (es.map Ent.p)):=qh (by
     have ht2:es2.take j=es2:=List.take_of_length_le omA
     rw[HM.out,lN.out,ht2]
     unfold dR
     rw[HP.out]
     congr 1
     rw[←YQ.out,List.map_drop])
    have b0:=HB.out.cell 0
    have b1:=HB.out.cell 1
    have b2:=HB.out.cell 2
    have bf:=fun j=>HB.out.frozen j
    have o0:=HE3.out.cell 0
    have of0:=HE3.out.frozen 0
    have hol:=HE3.out.lt
    simp only[gE3]at b0 b1 b2 o0
    go_wp2_with fail
    generalize hW9:World.setCell _ _ _=W9
    have HB9:Hid (Blk W9 (z+2) 39 #[.int .i64 tO,.int .i64 nx,.slice A2 l2.length c2]):=qh (by
     rw[←hW9]
     refine Blk.far ?_ spA _
     have h:=((HB.out.aH 0 (.int .i64 tO)).aH 1 (.int .i64 nx)).aH 2 (.slice A2 l2.length c2)
     simpa using h)
    have HO9:Hid (Blk W9 (z+3) 42 #[.int .i64 0]):=qh (by
     rw[←hW9]
     have h:=(((HE3.out.far (p:=⟨z+2,0,none⟩) spA (.int .i64 tO)).far (p:=⟨z+2,1,none⟩) spA (.int .i64 nx)).far (p:=⟨z+2,2,none⟩) spA (.slice A2 l2.length c2)).aH 0 (.int .i64 0)
     simpa using h)
    have HE9:Hid (fK W9 W0.heap.size A2 c2 l2):=qh (by
     have n1:=HE2.out.own.aY HB.out (by decide)
     have n2:=HE2.out.own.aY HE3.out (by decide)
     rw[←hW9]
     refine⟨?_,fun x hx =>?_,HE2.out.len⟩
     ·refine aj.far ?_ n2 _
      iterate 3 (refine aj.far ?_ n1 _)
      exact HE2.out.own
     ·have m1:=(HE2.out.rows x hx).aY HB.out (by decide)
      have m2:=(HE2.out.rows x hx).aY HE3.out (by decide)
      refine aj.far ?_ m2 _
      iterate 3 (refine aj.far ?_ m1 _)
      exact HE2.out.rows x hx)
    have hK9:W9.heap[Dm]?=some (.deferred (some [])):=by
     rw[←hW9]
     exact((((HKP.out.trans (KeepsOthers.setCell _ _ _)).trans (KeepsOthers.setCell _ _ _)).trans (KeepsOthers.setCell _ _ _)).trans (KeepsOthers.setCell _ _ _)).same Dm _ hK rfl
    have hb9:Below w.heap.size w W9:=by
     have hz:=HZ.out
     rw[←hW9]
     refine Below.setCell ?_ (by show w.heap.size≤z+3;omega) _
     iterate 3 (refine Below.setCell ?_ (by show w.heap.size≤z+2;omega) _)
     exact hbr
    clear hW9 b0 b1 b2 bf o0 of0
    have BD:=grownBy_putObj' W9 Dm (.deferred none)
    have Sc:=HB9.out.grown BD inA
    have X8:=HO9.out.grown BD inA
    have b0:=Sc.cell 0
    have b1:=Sc.cell 1
    have b2:=Sc.cell 2
    have o0:=X8.cell 0
    simp only[gE3]at b0 b1 b2 o0
    refine⟨by simp,.inl ⟨_,_,rfl,run_takeDeferred hK9,?_⟩⟩
    refine⟨by simp,.inr ⟨fun _=>by omega,_,_,31,#[.pointer (some ⟨z+2,0,none⟩),.pointer (some ⟨z+3,0,none⟩)],rfl,by simp[go_sem],fun _ _=>trivial,?_⟩⟩
    refine(wL _ _ _ _).mono ?_
    rintro e u' w'' ⟨rfl,rfl,rfl⟩
    refine⟨.tuple #[.agg #[.int .i64 tO,.int .i64 nx,.slice A2 l2.length c2],.int .i64 0],by simp[results,Tryz.results10,go_sem,b0,b1,b2,o0],⟨A2,c2,l2,rfl,HFN.out,?_⟩,?_⟩
    ·exact(Ac HE9.out BD (fun r e=>by cases e;exact⟨_,hK9,rfl⟩)).mono wN
    ·exact hb9.trans (belowK_b (w:=w) nlr W9 Dm _ _ (Nat.le_trans wN hDm) hK9 rfl rfl)
 case stop =>
  rintro D c' pre W _ _ h _
  exact h.elim
end Go.Proofs.YtjidligipoldeaaGreat
