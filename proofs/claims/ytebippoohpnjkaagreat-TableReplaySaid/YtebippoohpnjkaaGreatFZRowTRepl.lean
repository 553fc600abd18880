/-
  For every list of numbers the law TableReplay returns true: Replay agrees with the definition for histories, spoilt histories and arbitrary lists of well-formed changes, and for spoilt catalogues. No condition.
-/
import Derived.Test.YtebippoohpnjkaaGreatF37
import Derived.Test.YtebippoohpnjkaaGreatF51
import Derived.Test.YtebippoohpnjkaaGreatF44
import Derived.Test.YtebippoohpnjkaaGreatF50
import Derived.Test.YtebippoohpnjkaaGreatRows
import Derived.ProofKit
import Derived.OpenShut
import Derived.ShutString
set_option linter.unusedVariables false
set_option linter.unusedSimpArgs false
set_option maxRecDepth 100000
set_option maxHeartbeats 16000000
namespace Go.Proofs.YtebippoohpnjkaaGreat
open Go.RowKit Go
theorem gi{P:Prop}(h:P:=by kernel_rfl):P:=h
theorem PR(A:Option Addr)(c m:Nat)(ts:List Tab)(LA:Option Addr)(lc n:Nat)(l:List Chg)(w:World)(ht:aJ w w.heap.size A ts)(hm:ts.length=m)(hs:aI ts)(hl:dh w w.heap.size LA l)(hn:l.length=n)(hn6:n≤1000000)(hrow:∀x∈l,x.row.length≤1000000):
 ∃pl,(∀u,Below w.heap.size w u→Calls Tryz.prog 26 #[.agg #[.slice A m c,.slice none 0 0,.slice none 0 0,.slice none 0 0,.slice none 0 0,.slice none 0 0,.slice none 0 0,.slice none 0 0],.slice LA n lc] u fun e u'=>vW u pl e u'∧Below u.heap.size u u') ∧
  (∀u,Below w.heap.size w u→Calls Tryz.prog 20 #[.agg #[.slice A m c,.slice none 0 0,.slice none 0 0,.slice none 0 0,.slice none 0 0,.slice none 0 0,.slice none 0 0,.slice none 0 0],.slice LA n lc] u fun e u'=>vW u pl e u'∧Below u.heap.size u u'):=
 Cg A c m ts Oth.nil LA lc n l w ht hm hs (bL.nil _ _) dN.nil gV.nil hl hn hn6 hrow
section
variable {w w':World}{q:Nat}
theorem ah.away{α:Type}{enc:α→List Value}{B k:Nat}{A:Option Addr}{l:List α}(h:ah w B enc k A l)(h0:∀x,∃y,(enc x)[0]?=some y ∧ ∀A n c,y≠.slice A n c)(hq:Blk w q 39 #[.slice none 0 0,.slice none 0 0,.slice none 0 0,.slice none 0 0,.slice none 0 0,.slice none 0 0,.slice none 0 0,.slice none 0 0])(hh:∀i,i≠q→w'.heap[i]?=w.heap[i]?):ah w' B enc k A l:=fun hl=>by
 obtain⟨b,o,rfl,hb,hc⟩:=h hl
 refine⟨b,o,rfl,hb,fun i hi j u hu =>?_⟩
 have hne:b≠q:=by
  rintro rfl
  obtain⟨y,hy,hn⟩:=h0 l[0]
  have h1:=hc 0 hl 0 y hy
  rw[hq.cell]at h1
  have h2:=Array.mem_of_getElem? h1
  simp at h2
  exact hn _ _ _ h2
 exact(World.cell?_of_block (hh b hne)).trans (hc i hi j u hu)
theorem aJ.away{B:Nat}{A:Option Addr}{ts:List Tab}(h:aJ w B A ts)(hq:Blk w q 39 #[.slice none 0 0,.slice none 0 0,.slice none 0 0,.slice none 0 0,.slice none 0 0,.slice none 0 0,.slice none 0 0,.slice none 0 0])(hh:∀i,i≠q→w'.heap[i]?=w.heap[i]?):aJ w' B A ts:=
 ⟨h.1.away (fun x=>⟨_,rfl,fun _ _ _ e=>by cases e⟩) hq hh,fun t ht=>⟨(h.2 t ht).1.away (fun x=>⟨_,rfl,fun _ _ _ e=>by cases e⟩) hq hh,fun x hx=>((h.2 t ht).2 x hx).away (fun x=>⟨_,rfl,fun _ _ _ e=>by cases e⟩) hq hh⟩⟩
theorem bL.away{B:Nat}{o:Oth}(h:bL w B o)(hq:Blk w q 39 #[.slice none 0 0,.slice none 0 0,.slice none 0 0,.slice none 0 0,.slice none 0 0,.slice none 0 0,.slice none 0 0,.slice none 0 0])(hh:∀i,i≠q→w'.heap[i]?=w.heap[i]?):bL w' B o:=
 ⟨h.idx.away (fun x=>⟨_,rfl,fun _ _ _ e=>by cases e⟩) hq hh,h.skt.away (fun x=>⟨_,rfl,fun _ _ _ e=>by cases e⟩) hq hh,h.cch.away (fun x=>⟨_,rfl,fun _ _ _ e=>by cases e⟩) hq hh,h.rel.away (fun x=>⟨_,rfl,fun _ _ _ e=>by cases e⟩) hq hh,h.str.away (fun x=>⟨_,rfl,fun _ _ _ e=>by cases e⟩) hq hh,h.bak.away (fun x=>⟨_,rfl,fun _ _ _ e=>by cases e⟩) hq hh⟩
theorem dh.away{B:Nat}{A:Option Addr}{l:List Chg}(h:dh w B A l)(hq:Blk w q 39 #[.slice none 0 0,.slice none 0 0,.slice none 0 0,.slice none 0 0,.slice none 0 0,.slice none 0 0,.slice none 0 0,.slice none 0 0])(hh:∀i,i≠q→w'.heap[i]?=w.heap[i]?):dh w' B A l:=
 ⟨h.1.away (fun x=>⟨_,rfl,fun _ _ _ e=>by cases e⟩) hq hh,fun x hx=>(h.2 x hx).away (fun x=>⟨_,rfl,fun _ _ _ e=>by cases e⟩) hq hh⟩
end
def V6(g:Nat)(v:Value)(u:World):Prop:= ∃DA dc td od,v=.agg #[.slice DA td.length dc,.slice od.vA 0 od.vc,.slice od.iA od.idx.length od.ic,.slice od.sA od.skt.length od.sc,.slice od.cA od.cch.length od.cc,.slice od.rA od.rel.length od.rc,.slice od.tA od.str.length od.tc,.slice od.bA od.bak.length od.bc]∧aJ u u.heap.size DA td∧nS g DA td∧aI td∧bL u u.heap.size od∧Af g od∧dN od∧gV od
def Na(B g:Nat)(LA:Option Addr)(lc n:Nat)(cat:Value):Nat→Value→World→Prop
 | 0,v,_=>v=.pointer (some ⟨g,0,none⟩)
 | 1,v,_=>v=.slice LA n lc
 | 2,v,u =>∃PA pc po,v=.slice PA po.length pc∧po.length≤10∧zD u B PA pc po
 | 3,v,_=>v=.pointer (some ⟨g,0,none⟩)
 | 4,v,_=>v=cat
 | 5,v,u =>∃PA pc po,v=.slice PA po.length pc∧po.length≤10∧zD u B PA pc po
 | 6,v,_=>v=.pointer (some ⟨g,0,none⟩)
 | 7,v,_=>v=cat
 | 8,v,u=>V6 g v u
 | 9,v,u =>∃q,v=.pointer (some ⟨q,0,none⟩)∧B≤q∧Blk u q 39 #[.slice none 0 0,.slice none 0 0,.slice none 0 0,.slice none 0 0,.slice none 0 0,.slice none 0 0,.slice none 0 0,.slice none 0 0]
 | 10,v,u =>∃PA pc po,v=.slice PA po.length pc∧po.length≤10∧zD u B PA pc po
 | 11,v,u =>∃PA pc po,v=.slice PA po.length pc∧po.length≤10∧zD u B PA pc po
 | _,_,_=>True
theorem Na.grown{B g:Nat}{LA:Option Addr}{lc n:Nat}{cat:Value}{k:Nat}{v:Value}{u u':World}(h:Na B g LA lc n cat k v u)(hg:u.grownBy u' (some g))(hgB:g<B):Na B g LA lc n cat k v u':=by
 rcases k with _|_|_|_|_|_|_|_|_|_|_|_|k
 ·exact h
 ·exact h
 ·obtain⟨a,c,l,h1,h2,h3⟩:=h;exact⟨a,c,l,h1,h2,h3.kept hg hgB⟩
 ·exact h
 ·exact h
 ·obtain⟨a,c,l,h1,h2,h3⟩:=h;exact⟨a,c,l,h1,h2,h3.kept hg hgB⟩
 ·exact h
 ·exact h
 ·obtain⟨DA,dc,td,od,h1,h2,h3,h4,h5,h6,h7⟩:=h
  exact⟨DA,dc,td,od,h1,h2.jh hg h3,h3,h4,h5.jh hg h6,h6,h7⟩
 ·obtain⟨q,h1,h2,h3⟩:=h;exact⟨q,h1,h2,h3.grown hg inA⟩
 ·obtain⟨a,c,l,h1,h2,h3⟩:=h;exact⟨a,c,l,h1,h2,h3.kept hg hgB⟩
 ·obtain⟨a,c,l,h1,h2,h3⟩:=h;exact⟨a,c,l,h1,h2,h3.kept hg hgB⟩
 ·trivial
structure F7 (W u:World) (g b:Nat):Prop where
 tape:aO u g b
 grown:W.grownBy u (some g)
theorem F7.call{W u v:World}{g b:Nat}(h:F7 W u g b)(hg:u.grownBy v (some g))(hk:aO v g b):F7 W v g b:=⟨hk,az h.grown hg⟩
theorem F7.below{W u v:World}{g b:Nat}(h:F7 W u g b)(hb:Below u.heap.size u v):F7 W v g b:=⟨h.tape.below hb,az h.grown (au _ hb)⟩
def Ug(B g:Nat)(e:Operand→Value)(u:World)(v:Value)(u':World):Prop:= ∃q DA dc td od,e (.tmp 8)=.pointer (some ⟨q,0,none⟩)∧B≤q∧Blk u q 39 #[.slice none 0 0,.slice none 0 0,.slice none 0 0,.slice none 0 0,.slice none 0 0,.slice none 0 0,.slice none 0 0,.slice none 0 0]∧Blk u' q 39 #[.slice DA td.length dc,.slice od.vA 0 od.vc,.slice od.iA od.idx.length od.ic,.slice od.sA od.skt.length od.sc,.slice od.cA od.cch.length od.cc,.slice od.rA od.rel.length od.rc,.slice od.tA od.str.length od.tc,.slice od.bA od.bak.length od.bc]∧(∀i,i≠q→u'.heap[i]?=u.heap[i]?)∧u'.heap.size=u.heap.size∧aJ u u.heap.size DA td∧aI td∧bL u u.heap.size od∧dN od∧gV od∧Below B u u'
theorem Ee(A:Option Addr)(c:Nat)(t:List Int)(w:World)(hl:ah w w.heap.size intCells 1 A t)(hn:t.length*8≤140737488351232):
 Calls Tryz.prog 5 #[.slice A t.length c] w fun e w'=>e=.returned (.bool true)∧Below w.heap.size w w':=by
 have HL0:=qh hl
 clear hl
 go_enter Tryz.func5,Tryz.ntmps5
 go_wp2_with fail
 refine(BS A c t _ HL0.out hn).mono ?_
 rintro e w1 ⟨⟨g,b,rfl,hg1,hb1,hk1⟩,hx1⟩
 have HK1:=qh hk1
 have wh:=hk1.ltg
 clear hk1 HL0
 go_wp2_with fail
 refine(ve g b 3 _ HK1.out (by omega) (by omega)).mono ?_
 rintro e w2 ⟨CA,cc,ts,rfl,ht2,hu2,QF,hs2,hok2,h02,UU,hk2,hg2⟩
 have HK2:=qh hk2
 have HT2:=qh ht2
 have HU:=qh hu2
 have HS:=qh hs2
 have HOK:=qh hok2
 have hx2:Below w.heap.size w w2:=Below.grown hx1 hg2 hx1.size inB
 have hz2:=hg2.size
 clear hk2 ht2 hu2 QF hs2 hok2 hg2 HK1
 go_upto_region 3 with (fail)
 refine ai (P:=fun u=>Code.wp _ _ _ _ u) (R:=fun u=>Blk u w2.heap.size 39 #[.slice CA ts.length cc,.slice none 0 0,.slice none 0 0,.slice none 0 0,.slice none 0 0,.slice none 0 0,.slice none 0 0,.slice none 0 0]∧Below w2.heap.size w2 u) ⟨?_,?_⟩ ?_
 ·exact Blk.new' rfl
 ·exact ak
 rintro W ⟨hC,hbW⟩
 have HC:=qh hC
 have hzC:=hC.lt
 have HKW:=qh (HK2.out.below hbW)
 have hxW:Below w.heap.size w W:=ae hx2 hbW hx2.size
 have HTW:=qh (HT2.out.next hbW)
 obtain⟨p0,p1,p2,p3,p4,p5,p6,p7⟩:=Cat.blk hC
 clear hC HK2 HT2
 go_upto_region 4 with (go_at_call 12;(refine(qD g b w1.heap.size 8 CA cc ts.length ts _ HKW.out wh HTW.out HU.out rfl HS.out HOK.out h02 (by omega)).mono ?_);rintro e u1 ⟨LA,lc,l,rfl,hll,hoc,hk3,hg3,C8⟩;have Ru:=hg3.size;have HC1:=qh (HC.out.grown hg3 inA);have HT1:=qh (HTW.out.grown HU.out wh hg3);have hx4:Below w.heap.size w u1:=Below.grown hxW hg3 hxW.size inB;have HK3:=qh hk3;have Ga:=qh hoc;have GR:=qh C8;have HL8:Hid (∀x∈l,x.row.length≤1000000):=qh (fun x hx=>Nat.le_trans (hoc.len x hx) (by omega));clear hk3 hg3 hoc C8 p0 p1 p2 p3 p4 p5 p6 p7;obtain⟨p0,p1,p2,p3,p4,p5,p6,p7⟩:=Cat.blk HC1.out)
 have hgW:g<W.heap.size:=by have:=HKW.out.ltg;omega
 have hpW:w2.heap.size<W.heap.size:=hzC
 have hgp:g≠w2.heap.size:=by omega
 have hln:l.length≤8:=hll
 clear p0 p1 p2 p3 p4 p5 p6 p7 GR HKW HTW HC hll
 refine uY 12 (fun u=>F7 u1 u g b) (fun u u'=>u.grownBy u' (some g)) (Ug W.heap.size g) (Na W.heap.size g LA lc l.length (.agg #[.slice CA ts.length cc,.slice none 0 0,.slice none 0 0,.slice none 0 0,.slice none 0 0,.slice none 0 0,.slice none 0 0,.slice none 0 0]))
  gi gi gi gi gi gi (fun k v u u' h _ hg=>h.grown hg hgW) ⟨HK3.out.below brf.drew,au _ brf.drew⟩ ?_ ?_ ?_
 ·intro i hi o ho e u hR hev
  have hz:=hR.grown.size
  have hWu:W.heap.size≤u.heap.size:=by omega
  have hCu:=HC1.out.grown hR.grown (fun e=>hgp (by injection e with e;exact e.symm))
  have hTu:=HT1.out.grown HU.out wh hR.grown
  have hOu:=Ga.out.kept hR.grown hgW
  rcases i with _|_|_|_|_|_|_|_|_|_|_|_|i
  ·(simp only[gE3,Option.some.injEq]at ho;subst ho;refine⟨rfl,?_⟩;have hec:=hev.const;have hef:=hev.func)
   have he3:e (.tmp 3)=.pointer (some ⟨g,0,none⟩):=(hev.far 3 gi).trans rfl
   clear hev
   go_simp
   exact⟨hR,au _ brf,rfl⟩
  ·(simp only[gE3,Option.some.injEq]at ho;subst ho;refine⟨rfl,?_⟩;have hec:=hev.const;have hef:=hev.func)
   have he5:e (.tmp 5)=.slice LA l.length lc:=(hev.far 5 gi).trans rfl
   clear hev
   go_simp
   exact⟨hR,au _ brf,rfl⟩
  ·(simp only[gE3,Option.some.injEq]at ho;subst ho;refine⟨rfl,?_⟩;have hec:=hev.const;have hef:=hev.func)
   have d1:e (.tmp 16)=_:=hev.dep 0 16 gi (by rfl)
   have d2:e (.tmp 17)=_:=hev.dep 1 17 gi (by rfl)
   clear hev
   go_simp
   simp only[gz]
   refine(ja g b W.heap.size LA lc l.length l u hR.tape hOu hgW hWu rfl (by omega)).mono ?_
   rintro y u' ⟨PA,pc,po,rfl,hpl,hpo,hk',hg'⟩
   exact⟨_,rfl,hR.call hg' hk',hg',PA,pc,po,rfl,by omega,hpo⟩
  ·(simp only[gE3,Option.some.injEq]at ho;subst ho;refine⟨rfl,?_⟩;have hec:=hev.const;have hef:=hev.func)
   have he3:e (.tmp 3)=.pointer (some ⟨g,0,none⟩):=(hev.far 3 gi).trans rfl
   clear hev
   go_simp
   exact⟨hR,au _ brf,rfl⟩
  ·(simp only[gE3,Option.some.injEq]at ho;subst ho;refine⟨rfl,?_⟩;have hec:=hev.const;have hef:=hev.func)
   have he4:e (.tmp 4)=.pointer (some ⟨w2.heap.size,0,none⟩):=(hev.far 4 gi).trans rfl
   obtain⟨p0,p1,p2,p3,p4,p5,p6,p7⟩:=Cat.blk hCu
   clear hev
   go_simp
   exact⟨hR,au _ brf,rfl⟩
  ·(simp only[gE3,Option.some.injEq]at ho;subst ho;refine⟨rfl,?_⟩;have hec:=hev.const;have hef:=hev.func)
   have d1:e (.tmp 19)=_:=hev.dep 3 19 gi (by rfl)
   have d2:e (.tmp 20)=_:=hev.dep 4 20 gi (by rfl)
   clear hev
   go_simp
   simp only[gz]
   refine(GY g b w1.heap.size 10 CA cc ts.length ts u hR.tape wh hTu HU.out rfl HS.out HOK.out h02 (by omega)).mono ?_
   rintro y u' ⟨QA,qc,qo,rfl,hql,hqo,hk',hg'⟩
   exact⟨_,rfl,hR.call hg' hk',hg',QA,qc,qo,rfl,hql,⟨hqo.own.mono hWu,fun x hx=>(hqo.rows x hx).mono hWu,fun x hx=>by have:=hqo.len x hx;omega⟩⟩
  ·(simp only[gE3,Option.some.injEq]at ho;subst ho;refine⟨rfl,?_⟩;have hec:=hev.const;have hef:=hev.func)
   have he3:e (.tmp 3)=.pointer (some ⟨g,0,none⟩):=(hev.far 3 gi).trans rfl
   clear hev
   go_simp
   exact⟨hR,au _ brf,rfl⟩
  ·(simp only[gE3,Option.some.injEq]at ho;subst ho;refine⟨rfl,?_⟩;have hec:=hev.const;have hef:=hev.func)
   have he4:e (.tmp 4)=.pointer (some ⟨w2.heap.size,0,none⟩):=(hev.far 4 gi).trans rfl
   obtain⟨p0,p1,p2,p3,p4,p5,p6,p7⟩:=Cat.blk hCu
   clear hev
   go_simp
   exact⟨hR,au _ brf,rfl⟩
  ·(simp only[gE3,Option.some.injEq]at ho;subst ho;refine⟨rfl,?_⟩;have hec:=hev.const;have hef:=hev.func)
   have d1:e (.tmp 22)=_:=hev.dep 6 22 gi (by rfl)
   have d2:e (.tmp 23)=_:=hev.dep 7 23 gi (by rfl)
   clear hev
   go_simp
   simp only[gz]
   refine(wK g b CA cc ts.length ts u hR.tape hTu (HU.out.ne wh) rfl HS.out HOK.out h02).mono ?_
   rintro y u' ⟨DA,dc,td,od,rfl,hTd,hNd,hSd,hOd,NW,Bu,Bz,hk',hg'⟩
   exact⟨_,rfl,hR.call hg' hk',hg',DA,dc,td,od,rfl,hTd,hNd,hSd,hOd,NW,Bu,Bz⟩
  ·(simp only[gE3,Option.some.injEq]at ho;subst ho;refine⟨rfl,?_⟩;have hec:=hev.const;have hef:=hev.func)
   clear hev
   go_simp
   exact⟨hR.below (brf.alloc nlr _),au _ (brf.alloc nlr _),u.heap.size,rfl,hWu,Blk.new' rfl⟩
  ·(simp only[gE3,Option.some.injEq]at ho;subst ho;refine⟨rfl,?_⟩;have hec:=hev.const;have hef:=hev.func)
   obtain⟨PA,pc,po,d1,hpl,hpo⟩:=hev.dep 2 18 gi (by rfl)
   clear hev
   go_simp
   exact⟨hR,au _ brf,PA,pc,po,rfl,hpl,hpo⟩
  ·(simp only[gE3,Option.some.injEq]at ho;subst ho;refine⟨rfl,?_⟩;have hec:=hev.const;have hef:=hev.func)
   obtain⟨PA,pc,po,d1,hpl,hpo⟩:=hev.dep 5 21 gi (by rfl)
   clear hev
   go_simp
   exact⟨hR,au _ brf,PA,pc,po,rfl,hpl,hpo⟩
  ·omega
 ·intro o ho e u hR hev
  (simp only[gE3,Option.some.injEq]at ho;subst ho;refine⟨rfl,?_⟩;have hec:=hev.const;have hef:=hev.func)
  obtain⟨q,d1,hqB,hqb⟩:=hev.dep 9 8 gi (by rfl)
  obtain⟨DA,dc,td,od,d2,hTd,hNd,hSd,hOd,NW,Bu,Bz⟩:=hev.dep 8 24 gi (by rfl)
  have c0:=hqb.cell 0
  have c1:=hqb.cell 1
  have c2:=hqb.cell 2
  have c3:=hqb.cell 3
  have c4:=hqb.cell 4
  have c5:=hqb.cell 5
  have c6:=hqb.cell 6
  have c7:=hqb.cell 7
  simp only[gE3]at c0 c1 c2 c3 c4 c5 c6 c7
  have hfr:=fun j=>hqb.frozen j
  have hd1:=d1
  clear hev
  go_simp
  refine⟨q,DA,dc,td,od,hd1,hqB,hqb,?_,?_,by simp,hTd,hSd,hOd,Bu,Bz,?_⟩
  ·have h:=(((((((hqb.bM 0 (.slice DA td.length dc)).bM 1 (.slice od.vA 0 od.vc)).bM 2 (.slice od.iA od.idx.length od.ic)).bM 3 (.slice od.sA od.skt.length od.sc)).bM 4 (.slice od.cA od.cch.length od.cc)).bM 5 (.slice od.rA od.rel.length od.rc)).bM 6 (.slice od.tA od.str.length od.tc)).bM 7 (.slice od.bA od.bak.length od.bc)
   exact Blk.eq h (by simp)
  ·intro i hi
   iterate 8 rw[Below.heap_setCell _ _ _ _ (by exact hi)]
  ·exact ak
 ·rintro x e u u' hR hx ⟨q,DA,dc,td,od,he8,hqB,hqb,hqd,hhe,hsz,hTd,hSd,hOd,Bu,Bz,hbu⟩
  obtain⟨_,PA,pc,po,Ry,hpl,hpo⟩:=hx 10 (by omega) 6 rfl
  obtain⟨_,QA,qc,qo,KY,hql,hqo⟩:=hx 11 (by omega) 7 rfl
  have hx9:=(hx 9 (by omega) 8 rfl).1.trans he8
  have hz:=hR.grown.size
  simp only[mg,fI,gE3,Option.bind_some,Act.put,List.setIfInBounds_toArray,List.set_cons_zero,List.set_cons_succ]
  rw[hx9,Ry,KY]
  have hCu:=HC1.out.grown hR.grown (fun e=>hgp (by injection e with e;exact e.symm))
  have HC5:Hid (Blk u' w2.heap.size 39 #[.slice CA ts.length cc,.slice none 0 0,.slice none 0 0,.slice none 0 0,.slice none 0 0,.slice none 0 0,.slice none 0 0,.slice none 0 0]):=qh (show u'.heap[w2.heap.size]?=_ from (hhe _ (by omega)).trans hCu)
  have HD5:=qh hqd
  have hTu:aJ u' u'.heap.size CA ts:=by rw[hsz];exact(HT1.out.grown HU.out wh hR.grown).away hqb hhe
  have hLu:dh u' u'.heap.size LA l:=by rw[hsz];exact(Ga.out.kept hR.grown hgW).read.away hqb hhe
  have hPu:dh u' u'.heap.size PA po:=by rw[hsz];exact hpo.read.away hqb hhe
  have hQu:dh u' u'.heap.size QA qo:=by rw[hsz];exact hqo.read.away hqb hhe
  have hDu:aJ u' u'.heap.size DA td:=by rw[hsz];exact hTd.away hqb hhe
  have hEu:bL u' u'.heap.size od:=by rw[hsz];exact hOd.away hqb hhe
  have hxu:Below w.heap.size w u':=(Below.grown hx4 hR.grown hx4.size inB).trans (hbu.mono (by have:=hxW.size;omega))
  obtain⟨pl1,h1a,h1b⟩:=PR CA cc ts.length ts LA lc l.length l u' hTu rfl HS.out hLu rfl (by omega) HL8.out
  obtain⟨pl2,h2a,h2b⟩:=PR CA cc ts.length ts PA pc po.length po u' hTu rfl HS.out hPu rfl (by omega) (fun x hx=>by have:=hpo.len x hx;omega)
  obtain⟨pl3,h3a,h3b⟩:=PR CA cc ts.length ts QA qc qo.length qo u' hTu rfl HS.out hQu rfl (by omega) (fun x hx=>by have:=hqo.len x hx;omega)
  obtain⟨pl4,h4a,h4b⟩:=Cg DA dc td.length td od LA lc l.length l u' hDu rfl hSd hEu Bu Bz hLu rfl (by omega) HL8.out
  have H1A:=qh h1a
  have H1B:=qh h1b
  have H2A:=qh h2a
  have H2B:=qh h2b
  have H3A:=qh h3a
  have H3B:=qh h3b
  have H4A:=qh h4a
  have H4B:=qh h4b
  clear h1a h1b h2a h2b h3a h3b h4a h4b hTu hLu hPu hQu hDu hEu hx9 Ry KY hx he8 hqb hqd hhe hsz hTd hSd hOd Bu Bz hbu hpo hqo hCu hR HC1 HT1 HK3 Ga HL8 HU HS HOK
  go_upto_region 5 with (fail)
  have hxv:Below u'.heap.size u' u'.drew:=brf.drew
  refine wp_region_held_drew (S:=fun u=>(u.cell? ⟨w2.heap.size,0,none⟩=some (.slice CA ts.length cc)∧u.cell? ⟨w2.heap.size,1,none⟩=some (.slice none 0 0)∧u.cell? ⟨w2.heap.size,2,none⟩=some (.slice none 0 0)∧u.cell? ⟨w2.heap.size,3,none⟩=some (.slice none 0 0)∧u.cell? ⟨w2.heap.size,4,none⟩=some (.slice none 0 0)∧u.cell? ⟨w2.heap.size,5,none⟩=some (.slice none 0 0)∧u.cell? ⟨w2.heap.size,6,none⟩=some (.slice none 0 0)∧u.cell? ⟨w2.heap.size,7,none⟩=some (.slice none 0 0))∧(u.cell? ⟨q,0,none⟩=some (.slice DA td.length dc)∧u.cell? ⟨q,1,none⟩=some (.slice od.vA 0 od.vc)∧u.cell? ⟨q,2,none⟩=some (.slice od.iA od.idx.length od.ic)∧u.cell? ⟨q,3,none⟩=some (.slice od.sA od.skt.length od.sc)∧u.cell? ⟨q,4,none⟩=some (.slice od.cA od.cch.length od.cc)∧u.cell? ⟨q,5,none⟩=some (.slice od.rA od.rel.length od.rc)∧u.cell? ⟨q,6,none⟩=some (.slice od.tA od.str.length od.tc)∧u.cell? ⟨q,7,none⟩=some (.slice od.bA od.bak.length od.bc))) gi ⟨Cat.blk HC5.out,Cat.aZ HD5.out⟩ (fun hHeld =>?_)
  refine tkH 0 hHeld ?_
  refine tkH 1 hHeld ?_
  refine tkH 3 hHeld ?_
  refine tkH 4 hHeld ?_
  refine wpAnyH_ready (rs:= [2]) gi (by simp) ?_
  refine AllReadyH.cons rfl (fun K hK =>?_) AllReadyH.nil
  go_simp
  (go_at_call 26;(with_reducible refine(H1A.out _ hxv).mono ?_))
  rintro e v1 ⟨⟨RA1,rc1,n1,rt1,rfl,hl1,hr1,hs1,hp1⟩,hb1⟩
  have jJ:=ae hxv hb1 hxv.size
  have HR1:=qh hr1
  have HS1:=qh hs1
  have HL1:=qh hl1
  have HP1:=qh hp1
  clear hr1 hs1 hl1 hp1 hb1
  go_wp2_with fail
  refine hK.out _ _ ⟨Cat.blk (HC5.out.below jJ HC5.out.lt),Cat.aZ (HD5.out.below jJ HD5.out.lt)⟩ (fun hHeld =>?_)
  clear hK K
  (try simp only[Act.put,gP6])
  refine wpAnyH_ready (rs:= [5]) gi (by simp) ?_
  refine AllReadyH.cons rfl (fun K hK =>?_) AllReadyH.nil
  go_simp
  (go_at_call 20;(with_reducible refine(H1B.out _ jJ).mono ?_))
  rintro e v2 ⟨⟨RA2,rc2,n2,rt2,rfl,hl2,hr2,hs2,hp2⟩,hb2⟩
  have ll:=ae jJ hb2 jJ.size
  have HR2:=qh hr2
  have HL2:=qh hl2
  have HP2:=qh hp2
  have HR3:=qh (HR1.out.next hb2)
  clear hr2 hs2 hl2 hp2 hb2 HR1 jJ
  go_wp2_with fail
  refine hK.out _ _ ⟨Cat.blk (HC5.out.below ll HC5.out.lt),Cat.aZ (HD5.out.below ll HD5.out.lt)⟩ (fun hHeld =>?_)
  clear hK K
  (try simp only[Act.put,gP6])
  refine wpAnyH_ready (rs:= [6]) gi (by simp) ?_
  refine AllReadyH.cons rfl (fun K hK =>?_) AllReadyH.nil
  go_simp
  (go_at_call 25;(with_reducible refine(kX RA1 RA2 rc1 rc2 n1 n2 rt1 rt2 _ HR3.out HR2.out HL1.out HL2.out HS1.out (HP1.out.trans HP2.out.symm)).mono ?_))
  rintro e v3 ⟨rfl,hb3⟩
  have nL:=ae ll hb3 ll.size
  clear hb3 HR3 HR2 HL1 HL2 HS1 HP1 HP2 hxv ll
  go_wp2_with fail
  refine hK.out _ _ ⟨Cat.blk (HC5.out.below nL HC5.out.lt),Cat.aZ (HD5.out.below nL HD5.out.lt)⟩ (fun hHeld =>?_)
  clear hK K
  (try simp only[Act.put,gP6])
  have hxv:=nL
  clear nL
  refine tkH 7 hHeld ?_
  refine tkH 8 hHeld ?_
  refine tkH 9 hHeld ?_
  refine tkH 11 hHeld ?_
  refine tkH 12 hHeld ?_
  refine wpAnyH_ready (rs:= [10]) gi (by simp) ?_
  refine AllReadyH.cons rfl (fun K hK =>?_) AllReadyH.nil
  go_simp
  (go_at_call 26;(with_reducible refine(H2A.out _ hxv).mono ?_))
  rintro e v1 ⟨⟨RA1,rc1,n1,rt1,rfl,hl1,hr1,hs1,hp1⟩,hb1⟩
  have jJ:=ae hxv hb1 hxv.size
  have HR1:=qh hr1
  have HS1:=qh hs1
  have HL1:=qh hl1
  have HP1:=qh hp1
  clear hr1 hs1 hl1 hp1 hb1
  go_wp2_with fail
  refine hK.out _ _ ⟨Cat.blk (HC5.out.below jJ HC5.out.lt),Cat.aZ (HD5.out.below jJ HD5.out.lt)⟩ (fun hHeld =>?_)
  clear hK K
  (try simp only[Act.put,gP6])
  refine wpAnyH_ready (rs:= [13]) gi (by simp) ?_
  refine AllReadyH.cons rfl (fun K hK =>?_) AllReadyH.nil
  go_simp
  (go_at_call 20;(with_reducible refine(H2B.out _ jJ).mono ?_))
  rintro e v2 ⟨⟨RA2,rc2,n2,rt2,rfl,hl2,hr2,hs2,hp2⟩,hb2⟩
  have ll:=ae jJ hb2 jJ.size
  have HR2:=qh hr2
  have HL2:=qh hl2
  have HP2:=qh hp2
  have HR3:=qh (HR1.out.next hb2)
  clear hr2 hs2 hl2 hp2 hb2 HR1 jJ
  go_wp2_with fail
  refine hK.out _ _ ⟨Cat.blk (HC5.out.below ll HC5.out.lt),Cat.aZ (HD5.out.below ll HD5.out.lt)⟩ (fun hHeld =>?_)
  clear hK K
  (try simp only[Act.put,gP6])
  refine wpAnyH_ready (rs:= [14]) gi (by simp) ?_
  refine AllReadyH.cons rfl (fun K hK =>?_) AllReadyH.nil
  go_simp
  (go_at_call 25;(with_reducible refine(kX RA1 RA2 rc1 rc2 n1 n2 rt1 rt2 _ HR3.out HR2.out HL1.out HL2.out HS1.out (HP1.out.trans HP2.out.symm)).mono ?_))
  rintro e v3 ⟨rfl,hb3⟩
  have nL:=ae ll hb3 ll.size
  clear hb3 HR3 HR2 HL1 HL2 HS1 HP1 HP2 hxv ll
  go_wp2_with fail
  refine hK.out _ _ ⟨Cat.blk (HC5.out.below nL HC5.out.lt),Cat.aZ (HD5.out.below nL HD5.out.lt)⟩ (fun hHeld =>?_)
  clear hK K
  (try simp only[Act.put,gP6])
  have hxv:=nL
  clear nL
  refine tkH 15 hHeld ?_
  refine tkH 16 hHeld ?_
  refine tkH 17 hHeld ?_
  refine tkH 18 hHeld ?_
  refine tkH 20 hHeld ?_
  refine tkH 21 hHeld ?_
  refine wpAnyH_ready (rs:= [19]) gi (by simp) ?_
  refine AllReadyH.cons rfl (fun K hK =>?_) AllReadyH.nil
  go_simp
  (go_at_call 26;(with_reducible refine(H3A.out _ hxv).mono ?_))
  rintro e v1 ⟨⟨RA1,rc1,n1,rt1,rfl,hl1,hr1,hs1,hp1⟩,hb1⟩
  have jJ:=ae hxv hb1 hxv.size
  have HR1:=qh hr1
  have HS1:=qh hs1
  have HL1:=qh hl1
  have HP1:=qh hp1
  clear hr1 hs1 hl1 hp1 hb1
  go_wp2_with fail
  refine hK.out _ _ ⟨Cat.blk (HC5.out.below jJ HC5.out.lt),Cat.aZ (HD5.out.below jJ HD5.out.lt)⟩ (fun hHeld =>?_)
  clear hK K
  (try simp only[Act.put,gP6])
  refine wpAnyH_ready (rs:= [22]) gi (by simp) ?_
  refine AllReadyH.cons rfl (fun K hK =>?_) AllReadyH.nil
  go_simp
  (go_at_call 20;(with_reducible refine(H3B.out _ jJ).mono ?_))
  rintro e v2 ⟨⟨RA2,rc2,n2,rt2,rfl,hl2,hr2,hs2,hp2⟩,hb2⟩
  have ll:=ae jJ hb2 jJ.size
  have HR2:=qh hr2
  have HL2:=qh hl2
  have HP2:=qh hp2
  have HR3:=qh (HR1.out.next hb2)
  clear hr2 hs2 hl2 hp2 hb2 HR1 jJ
  go_wp2_with fail
  refine hK.out _ _ ⟨Cat.blk (HC5.out.below ll HC5.out.lt),Cat.aZ (HD5.out.below ll HD5.out.lt)⟩ (fun hHeld =>?_)
  clear hK K
  (try simp only[Act.put,gP6])
  refine wpAnyH_ready (rs:= [23]) gi (by simp) ?_
  refine AllReadyH.cons rfl (fun K hK =>?_) AllReadyH.nil
  go_simp
  (go_at_call 25;(with_reducible refine(kX RA1 RA2 rc1 rc2 n1 n2 rt1 rt2 _ HR3.out HR2.out HL1.out HL2.out HS1.out (HP1.out.trans HP2.out.symm)).mono ?_))
  rintro e v3 ⟨rfl,hb3⟩
  have nL:=ae ll hb3 ll.size
  clear hb3 HR3 HR2 HL1 HL2 HS1 HP1 HP2 hxv ll
  go_wp2_with fail
  refine hK.out _ _ ⟨Cat.blk (HC5.out.below nL HC5.out.lt),Cat.aZ (HD5.out.below nL HD5.out.lt)⟩ (fun hHeld =>?_)
  clear hK K
  (try simp only[Act.put,gP6])
  have hxv:=nL
  clear nL
  refine tkH 24 hHeld ?_
  refine tkH 25 hHeld ?_
  refine tkH 26 hHeld ?_
  refine tkH 27 hHeld ?_
  refine tkH 29 hHeld ?_
  refine tkH 30 hHeld ?_
  refine wpAnyH_ready (rs:= [28]) gi (by simp) ?_
  refine AllReadyH.cons rfl (fun K hK =>?_) AllReadyH.nil
  go_simp
  (go_at_call 26;(with_reducible refine(H4A.out _ hxv).mono ?_))
  rintro e v1 ⟨⟨RA1,rc1,n1,rt1,rfl,hl1,hr1,hs1,hp1⟩,hb1⟩
  have jJ:=ae hxv hb1 hxv.size
  have HR1:=qh hr1
  have HS1:=qh hs1
  have HL1:=qh hl1
  have HP1:=qh hp1
  clear hr1 hs1 hl1 hp1 hb1
  go_wp2_with fail
  refine hK.out _ _ ⟨Cat.blk (HC5.out.below jJ HC5.out.lt),Cat.aZ (HD5.out.below jJ HD5.out.lt)⟩ (fun hHeld =>?_)
  clear hK K
  (try simp only[Act.put,gP6])
  refine wpAnyH_ready (rs:= [31]) gi (by simp) ?_
  refine AllReadyH.cons rfl (fun K hK =>?_) AllReadyH.nil
  go_simp
  (go_at_call 20;(with_reducible refine(H4B.out _ jJ).mono ?_))
  rintro e v2 ⟨⟨RA2,rc2,n2,rt2,rfl,hl2,hr2,hs2,hp2⟩,hb2⟩
  have ll:=ae jJ hb2 jJ.size
  have HR2:=qh hr2
  have HL2:=qh hl2
  have HP2:=qh hp2
  have HR3:=qh (HR1.out.next hb2)
  clear hr2 hs2 hl2 hp2 hb2 HR1 jJ
  go_wp2_with fail
  refine hK.out _ _ ⟨Cat.blk (HC5.out.below ll HC5.out.lt),Cat.aZ (HD5.out.below ll HD5.out.lt)⟩ (fun hHeld =>?_)
  clear hK K
  (try simp only[Act.put,gP6])
  refine wpAnyH_ready (rs:= [32]) gi (by simp) ?_
  refine AllReadyH.cons rfl (fun K hK =>?_) AllReadyH.nil
  go_simp
  (go_at_call 25;(with_reducible refine(kX RA1 RA2 rc1 rc2 n1 n2 rt1 rt2 _ HR3.out HR2.out HL1.out HL2.out HS1.out (HP1.out.trans HP2.out.symm)).mono ?_))
  rintro e v3 ⟨rfl,hb3⟩
  have nL:=ae ll hb3 ll.size
  clear hb3 HR3 HR2 HL1 HL2 HS1 HP1 HP2 hxv ll
  go_wp2_with fail
  refine hK.out _ _ ⟨Cat.blk (HC5.out.below nL HC5.out.lt),Cat.aZ (HD5.out.below nL HD5.out.lt)⟩ (fun hHeld =>?_)
  clear hK K
  (try simp only[Act.put,gP6])
  have hxv:=nL
  clear nL
  refine tkH 33 hHeld ?_
  refine tkH 34 hHeld ?_
  refine wpAnyH_ready (rs:= [35]) gi (by simp) ?_
  refine AllReadyH.cons rfl (fun K hK =>?_) AllReadyH.nil
  go_simp
  (go_at_call 27;(with_reducible refine(vN _).mono ?_))
  rintro e v9 ⟨rfl,hb9⟩
  have P9:=ae hxv hb9 hxv.size
  go_wp2_with fail
  refine hK.out _ _ ⟨Cat.blk (HC5.out.below P9 HC5.out.lt),Cat.aZ (HD5.out.below P9 HD5.out.lt)⟩ (fun hHeld =>?_)
  clear hK K
  (try simp only[Act.put,gP6])
  refine tkH 36 hHeld ?_
  refine tkH 37 hHeld ?_
  refine wpAnyH_done gi ?_ _
  clear hHeld
  go_wp2_with fail
  go_ret
  exact⟨rfl,ae hxu P9 hxu.size⟩
end Go.Proofs.YtebippoohpnjkaaGreat
namespace Go.Proofs.YtebippoohpnjkaaGreat.tableReplay
open Go.ChangeShapes Go.WideShapes Go.ChangeAt Go.RowKit
theorem own:ownKnob Tryz.prog.godebug=none:=by kernel_rfl
theorem laidOut:laidOutB Tryz.prog=true:=by kernel_rfl
theorem bytesInt:Tryz.prog.bytesOf 3=8:=by kernel_rfl
theorem lifted(os:Os)(started:os.Started)(H:Type)(enc:TypeId × Value→H):
 ReturnsInHanded {} Tryz.checked os 5 .any (Rows.tableReplaySpec.pre6 enc Tryz.prog Tryz.f5 Rows.tableReplayRow.domain false) (Rows.tableReplaySpec.post enc Tryz.prog Tryz.f5 false true false false):=by
 refine returnsInHanded_of_change_sized (C:=Tryz.checked) own started gi Tryz.func5
  (ChangeSpec.witness6 (enc:=enc) (C:=Tryz.checked) false ⟨#[],#[.slice none 0 0],[]⟩ 8 gi gi gi gi) ?_
 intro W base args ds gs before hval0 hW hcnd hsz0 _
 have hval:∀(j:Nat) t v,Tryz.f5.params[j]?=some t→args[j]?=some v→Value.okWide Tryz.prog W .any base t v:=hval0
 have hsz:(DataW.weightsEach Tryz.prog (Tryz.f5.params.toList++Rows.tableReplaySpec.plain.varTypes Tryz.prog) (ds++gs)).all (· ≤ reachBytes)=true:=hsz0
 have hW':=hW
 obtain⟨p,q,hA0,hV,rfl,hfz,hnd⟩:=hW
 have hA:DataW.TrodAll enc Tryz.prog W 0 (fun _=>true) true Tryz.f5.params.toList args.toList ds p:=hA0
 rw[Tryz.params5]at hA hval hsz
 obtain⟨v0,vs0,d0,ds0,p0,q0,hargs,rfl,rfl,h0,r0⟩:=trodAll_cons hA
 obtain⟨rfl,rfl,rfl⟩:=trodAll_nil r0
 obtain rfl:args=#[v0]:=by cases args;simp_all
 obtain⟨rfl,rfl⟩:=trodVars_none hV
 obtain⟨a0,KE,cap0,rfl⟩:=okWide_slice Tryz.underlying22 (hval 0 22 v0 rfl rfl)
 have k0:=h0
 have lt0:∀x∈p0,x.block<W.heap.size:=by obtain⟨m,hm⟩:=k0;exact DataW.trod_lt m _ _ _ hm
 obtain⟨t,htl,hts,ht8⟩:∃t:List Int,t.length=KE∧ah W W.heap.size intCells 1 a0 t∧t.length*8≤140737488351232:=by
  obtain⟨fuel,hf⟩:=h0
  rcases open_ints Tryz.underlying22 Tryz.underlying3 gi hf with ⟨hcs,_⟩|⟨x,l,c,zs,hcs,_,hl,hm,hz,hx,hcell,hwz⟩
  ·simp[Value.cells]at hcs
   obtain⟨rfl,rfl,rfl⟩:=hcs
   exact⟨[],rfl,ah.nil,by simp⟩
  ·simp[Value.cells]at hcs
   obtain⟨rfl,rfl,rfl⟩:=hcs
   simp only[Prod.mk.injEq]at hx
   obtain⟨rfl,_⟩:=hx
   have hs:=sized_slice hsz (j:= 0) (t:= 22) (e:= 3) rfl rfl Tryz.underlying22
   rw[bytesInt]at hs
   simp only[lits,List.length_map,List.length_take,List.length_drop,reachBytes]at hs
   have hzl:zs.length=cap0:=by simpa using hz
   refine⟨zs.take KE,by simp;omega,fun h =>?_,by simp;omega⟩
   have h1:0<zs.length:=by simp at h;omega
   obtain⟨xb,xo,xs⟩:=x
   have hc0:=hcell 0 h1
   have hsp:xs=none:=by
    cases xs with
    | none=>rfl
    | some y =>
      simp only[Addr.add,World.cell?,Option.isSome_some,if_true]at hc0
      split at hc0<;>simp at hc0
   subst hsp
   have hlt:xb<W.heap.size:=by
    rcases Nat.lt_or_ge xb W.heap.size with h|h
    ·exact h
    ·simp[Addr.add,World.cell?,Array.getElem?_eq_none h]at hc0
   refine⟨xb,xo,rfl,hlt,fun i hi j u hu =>?_⟩
   have hj:j=0:=by have:=(List.getElem?_eq_some_iff.1 hu).1;simp[intCells]at this;omega
   subst hj
   have hil:i<zs.length:=by simp at hi;omega
   have:=hcell i hil
   simp only[intCells,List.getElem?_cons_zero,Option.some.injEq]at hu
   subst hu
   rw[List.getElem_take]
   rw[List.getD_eq_getElem?_getD,List.getElem?_eq_getElem hil]at this
   unfold Addr.add at this
   split at this
   ·rename_i h0;subst h0;simpa using this
   ·simpa using this
 clear hA0 hval0
 subst htl
 refine(Ee a0 cap0 t W hts ht8).mono fun e W' ⟨he,bel⟩ =>?_
 subst he
 exact⟨_,rfl,_,_,_,[],_,[],hW',trodAll_mk1 (shut_bool Tryz.underlying4 _),(trodAll_cons_mk (Below.trod laidOut gi (of_decide_eq_true gi) k0 bel lt0) trodAll_mk0),rfl,bel.frame _,fun h=>by cases h⟩
theorem facts:joinedFacts Tryz.pinned.checked.prog 5 Tryz.f5 Rows.tableReplaySpec Rows.tableReplayRow=true:=by
 unfold joinedFacts
 repeat' (with_reducible refine(Bool.and_eq_true _ _).mpr ⟨?_,?_⟩)
 all_goals(as_aux_lemma=>kernel_rfl)
theorem over:Rows.tableReplayRow.holds Tryz.pinned (OpenSpec.ofChange Rows.tableReplaySpec):=
 OpenClaim.holds_of_wide 5 Tryz.f5 rfl rfl rfl rfl rfl rfl rfl ⟨rfl,rfl,rfl,rfl,rfl⟩ rfl rfl rfl rfl rfl gi Tryz.func5 facts
  (of_decide_eq_true gi) (by unfold Func.isWrapper;first|(rw[if_pos (by decide +kernel)];kernel_rfl)|(rw[if_neg (by decide +kernel)];exact⟨rfl,rfl⟩))
  (fun os started H enc _=>lifted os started H enc)
theorem proved:Rows.TableReplaySaid:=over
#print axioms proved
end Go.Proofs.YtebippoohpnjkaaGreat.tableReplay
