/-
  Contracts and plain laws of this seat, part 80.
-/
import Derived.Test.YtjidligipoldeaaGreatT78
set_option linter.unusedVariables false
set_option linter.unusedSimpArgs false
set_option maxRecDepth 100000
set_option maxHeartbeats 16000000
set_option maxRecDepth 100000
namespace Go.Proofs.YtjidligipoldeaaGreat
open Go.RowKit Go Go.Shelf
theorem eC{P:Prop}(h:P:=by have:=HZ.out;show w.heap.size≤z+3;omega):P:=h
theorem LD{P:Prop}(h:P:=by
 have hx2:Below w.heap.size w w2:=aa hx1 jZ hx1.size
 have PO:Hid (l.length=es.length):=qh (by
  have h:=congrArg List.length HLM.out
  simpa using h)
 have HC2:=qh (HC1.out.below jZ HC1.out.lt)
 have HL2:=qh (HL1.out.below jZ HL1.out.lt)
 have HX2:=qh (HX1.out.below jZ HX1.out.lt)
 refine r1T 11 (fun K hK =>?_)
 refine Ow krA ?_
 refine cu _ (.tmp 25) (.tmp 27) 34 rfl 52 ic _ Chg.cells 12 128 Tryz.underlying34 hic lL lK lJ rfl omA eu iI base (.slice LA l.length lc) l rfl mP.out.own _ _ _ [⟨kd,sq,dy,tb,XA,xc,row,key,cl,vl⟩] rfl rfl (Blk.one (enc:=Chg.cells) (x:=⟨kd,sq,dy,tb,XA,xc,row,key,cl,vl⟩) HGX.out HGX.out.lt) (by have:=PO.out;simp;omega) (by have:=PO.out;simp[maxLen];omega) U7 ?_
 intro v6 w6 hown6 hg6 j4
 obtain⟨A6,c6,hv6,_,_⟩:=hown6.form
 subst hv6
 obtain⟨L,hL⟩:∃L,l ++ [(⟨kd,sq,dy,tb,XA,xc,row,key,cl,vl⟩:Chg)]=L:=⟨_,rfl⟩
 rw[hL]at hown6 ⊢
 have hrow:=mP.out.own.row
 have hx6:Below w.heap.size w w6:=Below.grown hx2 hg6 hx2.size (fun q e=>Nat.le_trans hx1.size (Nat.le_trans sI (hrow q e)))
 have MW:Below w1.heap.size w1 w6:=Below.grown jZ hg6 jZ.size (fun q e=>Nat.le_trans sI (hrow q e))
 have HC6:=qh (HC1.out.below MW HC1.out.lt)
 have HL6:=qh (HL1.out.below MW HL1.out.lt)
 have HX6:=qh (HX1.out.below MW HX1.out.lt)
 have HLC:Hid (dQ w6 w6.heap.size A6 L):=qh ⟨dM eu hown6,fun y hy=>by
  rw[←hL]at hy
  rcases List.mem_append.1 hy with hy|hy
  ·exact dM bC ((mP.out.rows y hy).kept hg6 ((mP.out.rows y hy).eT mP.out.own (by decide)))
  ·rw[List.mem_singleton.1 hy]
   exact HX.out.next hx6⟩
 have qX:Hid (bK ts L):=qh (Bd (by
  rw[←hL,List.map_append,HLM.out]
  have h:=HO.out
  rw[List.map_map]at h ⊢
  exact h))
 clear hL hown6 hg6 j4 hrow
 refine hK.out _ _ _ ⟨Cat.blk HC6.out,HL6.out.cell 2,gY HX6.out⟩ (fun hHeld =>?_)
 clear hK K
 refine r1T 12 (fun K hK =>?_)
 go_simp
 (go_at_call 60;(with_reducible refine(sW A c ts.length ts A6 c6 L.length L _ (HT.out.next hx6) rfl HS.out HLC.out rfl qX.out).mono ?_);rintro e w7 ⟨rfl,hb7⟩)
 have hx7:Below w.heap.size w w7:=aa hx6 hb7 hx6.size
 have MV:Below w1.heap.size w1 w7:=aa MW hb7 MW.size
 have HC7:=qh (HC1.out.below MV HC1.out.lt)
 have HL7:=qh (HL1.out.below MV HL1.out.lt)
 have HX7:=qh (HX1.out.below MV HX1.out.lt)
 have HR7:=qh (HR1.out.below MV HR1.out.lt)
 have HO7:=qh (HO1.out.below MV HO1.out.lt)
 go_wp2_with fail
 refine hK.out _ _ _ ⟨Cat.blk HC7.out,HL7.out.cell 2,gY HX7.out⟩ (fun hHeld =>?_)
 clear hK K
 refine r1T 13 (fun K hK =>?_)
 go_simp
 refine hK.out _ _ _ ⟨Cat.blk HC7.out,HL7.out.cell 2,gY HX7.out⟩ (fun hHeld =>?_)
 clear hK K
 refine r1T 14 (fun K hK =>?_)
 go_simp
 refine hK.out _ _ _ ⟨Cat.blk HC7.out,HL7.out.cell 2,gY HX7.out⟩ (fun hHeld =>?_)
 clear hK K
 refine aI krA ?_ _
 clear hHeld e3 e3d
 have l0:=HL7.out.cell 0
 have l1:=HL7.out.cell 1
 have l2:=HL7.out.cell 2
 simp only[gE3]at l0 l1 l2
 have r0:=HR7.out.cell 0
 have r1:=HR7.out.cell 1
 have r2:=HR7.out.cell 2
 have rf:=fun j=>HR7.out.frozen j
 simp only[gE3]at r0 r1 r2
 have Rm:=HR7.out.lt
 have UA:=HL7.out.lt
 go_upto_region 9 with (go_at_call 61;(with_reducible refine(AP lo nx EA ec es _ (HE.out.next hx7) omA H8.out).mono ?_);rintro e w8 ⟨⟨BA,bc,lb,rfl,hbm,hbo⟩,hb8⟩;have HR8:=qh (HR7.out.below hb8 Rm);clear r0 r1 r2 rf;have r0:=HR8.out.cell 0;have r1:=HR8.out.cell 1;have r2:=HR8.out.cell 2;have rf:=fun j=>HR8.out.frozen j;simp only[gE3]at r0 r1 r2;have Fs:=HR8.out.lt)
 have WN:Below w.heap.size w w8:=aa hx7 hb8 hx7.size
 obtain⟨U,hU⟩:∃U,((w8.setCell ⟨z+3,0,none⟩ (.int .i64 lo)).setCell ⟨z+3,1,none⟩ (.int .i64 nx)).setCell ⟨z+3,2,none⟩ (.slice BA lb.length bc)=U:=⟨_,rfl⟩
 rw[hU]
 have HRU:Hid (Blk U (z+3) 39 #[.int .i64 lo,.int .i64 nx,.slice BA lb.length bc]):=qh (by
  rw[←hU]
  have h:=((HR8.out.aH 0 (.int .i64 lo)).aH 1 (.int .i64 nx)).aH 2 (.slice BA lb.length bc)
  simpa using h)
 have HLU:Hid (Blk U (z+1) 39 #[.int .i64 lo,.int .i64 nx,.slice EA es.length ec]):=qh (by
  rw[←hU]
  iterate 3 (refine Blk.far ?_ spA _)
  exact HL7.out.below hb8 HL7.out.lt)
 have HXU:Hid (Blk U (z+2) 52 #[.int .i64 kd,.int .i64 sq,.int .i64 dy,.int .i64 tb,.slice XA row.length xc,.int .i64 key.kind,.int .i64 key.num,.string key.text,.int .i64 cl,.int .i64 vl.kind,.int .i64 vl.num,.string vl.text]):=qh (by
  rw[←hU]
  iterate 3 (refine Blk.far ?_ spA _)
  exact HX7.out.below hb8 HX7.out.lt)
 have HOU:Hid (Blk U (z+4) 42 #[.int .i64 0]):=qh (by
  rw[←hU]
  iterate 3 (refine Blk.far ?_ spA _)
  exact HO7.out.below hb8 HO7.out.lt)
 have HEU:Hid (fK U w7.heap.size BA bc lb):=qh (by
  rw[←hU]
  have n1:=hbo.own.aY HR8.out (by decide)
  refine⟨?_,fun x hx =>?_,hbo.len⟩
  ·iterate 3 (refine aj.far ?_ n1 _)
   exact hbo.own
  ·have m1:=(hbo.rows x hx).aY HR8.out (by decide)
   iterate 3 (refine aj.far ?_ m1 _)
   exact hbo.rows x hx)
 have HBU:Hid (Below w.heap.size w U):=qh (by
  rw[←hU]
  iterate 3 (refine Below.setCell ?_ eC _)
  exact WN)
 have HBM:=qh hbm
 have hzU:w7.heap.size≤U.heap.size:=by
  rw[←hU]
  have:=hb8.size
  simpa using this
 clear hU hbm hbo r0 r1 r2 rf l0 l1 l2 e4 e4i e5 e5d
 have r2:=HRU.out.cell 2
 have l1:=HLU.out.cell 1
 simp only[gE3]at r2 l1
 have Zr:=HRU.out.lt
 have XW:Below w.heap.size w U.drew:=HBU.out.trans ((brf.drew).mono HBU.out.size)
 refine aJ (S:=fun u=>u.cell? ⟨z+3,2,none⟩=some (.slice BA lb.length bc)∧u.cell? ⟨z+1,1,none⟩=some (.int .i64 nx)∧(u.cell? ⟨z+2,0,none⟩=some (.int .i64 kd)∧u.cell? ⟨z+2,1,none⟩=some (.int .i64 sq)∧u.cell? ⟨z+2,2,none⟩=some (.int .i64 dy)∧u.cell? ⟨z+2,3,none⟩=some (.int .i64 tb)∧u.cell? ⟨z+2,4,none⟩=some (.slice XA row.length xc)∧u.cell? ⟨z+2,5,none⟩=some (.int .i64 key.kind)∧u.cell? ⟨z+2,6,none⟩=some (.int .i64 key.num)∧u.cell? ⟨z+2,7,none⟩=some (.string key.text)∧u.cell? ⟨z+2,8,none⟩=some (.int .i64 cl)∧u.cell? ⟨z+2,9,none⟩=some (.int .i64 vl.kind)∧u.cell? ⟨z+2,10,none⟩=some (.int .i64 vl.num)∧u.cell? ⟨z+2,11,none⟩=some (.string vl.text))) [10] krA ⟨r2,l1,gY HXU.out⟩ (fun hHeld =>?_)
 refine tkT 0 hHeld ?_ (hQ:=by exact fun c a w h=>fJ (d:= 45) (fC (by decide) (by decide)) c a w h)
 refine tkT 1 hHeld ?_ (hQ:=by exact fun c a w h=>fJ (d:= 46) (fC (by decide) (by decide)) c a w h)
 refine tkT 2 hHeld ?_ (hQ:=by exact fun c a w h=>fJ (d:= 47) (fC (by decide) (by decide)) c a w h)
 refine tkT 3 hHeld ?_ (hQ:=by exact fun c a w h=>fJ (d:= 48) (fC (by decide) (by decide)) c a w h)
 refine tkT 4 hHeld ?_ (hQ:=by exact fun c a w h=>fJ (d:= 49) (fC (by decide) (by decide)) c a w h)
 refine r1T 5 (fun K hK =>?_)
 go_simp
 (go_at_call 62;(with_reducible refine(cO kd sq dy tb XA xc row key cl vl _ (HX.out.next XW) omA).mono ?_);rintro e w9 ⟨⟨A5,k5,rfl,ho5⟩,hb9⟩)
 have Dr:Below U.heap.size U w9:=brf.drew.trans hb9
 have HR9:=qh (HRU.out.below Dr HRU.out.lt)
 have HL9:=qh (HLU.out.below Dr HLU.out.lt)
 have HX9:=qh (HXU.out.below Dr HXU.out.lt)
 have HO9:=qh (HOU.out.below Dr HOU.out.lt)
 have HE9:=qh (HEU.out.below Dr)
 have HY9:=qh (show aj w9 w7.heap.size 50 Val.cells 3 (.slice A5 row.length k5) row from ho5.mono hzU)
 have hx9:Below w.heap.size w w9:=aa HBU.out Dr HBU.out.size
 clear ho5 r2 l1
 go_wp2_with fail
 refine hK.out _ _ _ ⟨HR9.out.cell 2,HL9.out.cell 1,gY HX9.out⟩ (fun hHeld =>?_)
 clear hK K
 refine r1T 6 (fun K hK =>?_)
 go_simp
 refine hK.out _ _ _ ⟨HR9.out.cell 2,HL9.out.cell 1,gY HX9.out⟩ (fun hHeld =>?_)
 clear hK K
 refine r1T 7 (fun K hK =>?_)
 go_simp
 refine hK.out _ _ _ ⟨(HR9.out.alloc _).cell 2,(HL9.out.alloc _).cell 1,gY (HX9.out.alloc _)⟩ (fun hHeld =>?_)
 clear hK K
 have HBL:Hid (lb.length=es.length):=qh (by
  have h:=congrArg List.length HBM.out
  simpa using h)
 refine r1T 8 (fun K hK =>?_)
 refine av _ rfl (.tmp 46) (.tmp 52) 37 rfl 56 ie _ Ent.cells 15 184 Tryz.underlying37 hie uA uz uy rfl omA iH jU w7.heap.size (.slice BA lb.length bc) lb rfl (HE9.out.own.alloc _) _ _ _ [⟨nx,⟨kd,sq,dy,tb,A5,k5,row,key,cl,vl⟩⟩] rfl rfl (Blk.one (enc:=Ent.cells) (x:=⟨nx,⟨kd,sq,dy,tb,A5,k5,row,key,cl,vl⟩⟩) (Blk.new' rfl) spA) (by have:=HBL.out;simp;omega) (by have:=HBL.out;simp[maxLen];omega) (by have:=Dr.size;simp;omega) ?_
 intro v3 wA pV hgA RU
 obtain⟨A3,c3,hv3,_,_⟩:=pV.form
 subst hv3
 obtain⟨L,hL⟩:∃L,lb ++ [(⟨nx,⟨kd,sq,dy,tb,A5,k5,row,key,cl,vl⟩⟩:Ent)]=L:=⟨_,rfl⟩
 rw[hL]at pV ⊢
 have hne:=fun q (hq:(Value.slice BA lb.length bc).ownBlock=some q)=>HEU.out.own.row q hq
 have ZC:=HO7.out.lt
 have aap:=HR9.out.lt
 have aar:=HL9.out.lt
 have aal:=HX9.out.lt
 have aaq:=HO9.out.lt
 have HRA:=qh ((HR9.out.alloc (.cells (Ent.cells ⟨nx,⟨kd,sq,dy,tb,A5,k5,row,key,cl,vl⟩⟩).toArray 56)).grown hgA (fun e=>by have:=hne _ e.symm;have:=Dr.size;omega))
 have HLA:=qh ((HL9.out.alloc (.cells (Ent.cells ⟨nx,⟨kd,sq,dy,tb,A5,k5,row,key,cl,vl⟩⟩).toArray 56)).grown hgA (fun e=>by have:=hne _ e.symm;omega))
 have HXA:=qh ((HX9.out.alloc (.cells (Ent.cells ⟨nx,⟨kd,sq,dy,tb,A5,k5,row,key,cl,vl⟩⟩).toArray 56)).grown hgA (fun e=>by have:=hne _ e.symm;omega))
 have HOA:=qh ((HO9.out.alloc (.cells (Ent.cells ⟨nx,⟨kd,sq,dy,tb,A5,k5,row,key,cl,vl⟩⟩).toArray 56)).grown hgA (fun e=>by have:=hne _ e.symm;omega))
 have HEA:Hid (fK wA w7.heap.size A3 c3 L):=qh (by
  rw[←hL]at pV ⊢
  exact(HE9.out.below (brf.alloc nlr _)).app hgA pV (HY9.out.alloc _) hx8)
 have hxA:Below w.heap.size w wA:=Below.grown (hx9.alloc hx9.size _) hgA (by have:=hx9.size;simp;omega) (fun q e=>Nat.le_trans hx7.size (hne q e))
 clear pV hgA RU
 refine hK.out _ _ _ ⟨HRA.out.cell 2,HLA.out.cell 1,gY HXA.out⟩ (fun hHeld =>?_)
 clear hK K
 have r2:=HRA.out.cell 2
 have rf2:=HRA.out.frozen 2
 have hrA:=HRA.out.lt
 simp only[gE3]at r2
 refine tkT 9 hHeld ?_ (hQ:=by exact fun c a w h=>fJ (d:= 54) (fC (by decide) (by decide)) c a w h)
 refine rzT 10 (fun K hK =>?_)
 go_simp
 refine hK.out _ _ _ ?_
 clear hK K
 refine aI krA ?_ _
 clear hHeld r2 rf2
 obtain⟨V,hV⟩:∃V,wA.setCell ⟨z+3,2,none⟩ (.slice A3 L.length c3)=V:=⟨_,rfl⟩
 rw[hV]
 have HRV:Hid (Blk V (z+3) 39 #[.int .i64 lo,.int .i64 nx,.slice A3 L.length c3]):=qh (by
  rw[←hV]
  have h:=HRA.out.aH 2 (.slice A3 L.length c3)
  simpa using h)
 have HOV:Hid (Blk V (z+4) 42 #[.int .i64 0]):=qh (by
  rw[←hV]
  exact HOA.out.far spA _)
 have HEV:Hid (fK V w7.heap.size A3 c3 L):=qh (by
  rw[←hV]
  exact xW HEA.out HRA.out (by decide) (by decide) 2 _)
 have HBV:Hid (Below w.heap.size w V):=qh (by
  rw[←hV]
  exact hxA.setCell eC _)
 have HLV:Hid (L.map Ent.p=es.map Ent.p ++ [(nx,unC ⟨kd,sq,dy,tb,XA,xc,row,key,cl,vl⟩)]):=qh (by
  rw[←hL,List.map_append,show lb.map Ent.p=es.map Ent.p from HBM.out]
  rfl)
 clear hV hL
 have r0:=HRV.out.cell 0
 have r1:=HRV.out.cell 1
 have r2:=HRV.out.cell 2
 have rf:=fun j=>HRV.out.frozen j
 have o0:=HOV.out.cell 0
 have of0:=HOV.out.frozen 0
 have hrv:=HRV.out.lt
 have hov:=HOV.out.lt
 simp only[gE3]at r0 r1 r2 o0
 go_wp2_with fail
 refine leaves_cons (f:= 59) (args:= #[.pointer (some ⟨z+3,0,none⟩),.pointer (some ⟨z+4,0,none⟩)]) spA (by simp[go_sem]) ?_
 refine(yw _ _ _).mono ?_
 rintro e u' w'' ⟨rfl,rfl,rfl⟩
 refine⟨.tuple #[.agg #[.int .i64 lo,.int .i64 (nx+1),.slice A3 L.length c3],.int .i64 0],by simp[results,Tryz.results23,go_sem,r0,r1,r2,o0],⟨A3,c3,L,rfl,HLV.out,?_⟩,?_⟩
 ·have n1:=HEV.out.own.aY HRV.out (by decide)
  have n2:=HEV.out.own.aY HOV.out (by decide)
  refine⟨?_,fun x hx =>?_,HEV.out.len⟩
  ·refine aj.far ?_ n2 _
   iterate 4 (refine aj.far ?_ n1 _)
   exact HEV.out.own.mono hx7.size
  ·have m1:=(HEV.out.rows x hx).aY HRV.out (by decide)
   have m2:=(HEV.out.rows x hx).aY HOV.out (by decide)
   refine aj.far ?_ m2 _
   iterate 4 (refine aj.far ?_ m1 _)
   exact(HEV.out.rows x hx).mono hx7.size
 ·have hz:=HZ.out
  iterate 5 (refine Below.setCell ?_ smA _)
  exact HBV.out):P:=h
theorem Ow{b:Bool}{A B:Prop}(h:b=true)(ha:A):if b=true then A else B:=by rw[if_pos h];exact ha
theorem gY{w:World}{g:Nat}{kd sq dy tb:Int}{XA:Option Addr}{xc:Nat}{row:List Val}{key:Val}{cl:Int}{vl:Val}(h:Blk w g 52 #[.int .i64 kd,.int .i64 sq,.int .i64 dy,.int .i64 tb,.slice XA row.length xc,.int .i64 key.kind,.int .i64 key.num,.string key.text,.int .i64 cl,.int .i64 vl.kind,.int .i64 vl.num,.string vl.text]):(w.cell? ⟨g,0,none⟩=some (.int .i64 kd)∧w.cell? ⟨g,1,none⟩=some (.int .i64 sq)∧w.cell? ⟨g,2,none⟩=some (.int .i64 dy)∧w.cell? ⟨g,3,none⟩=some (.int .i64 tb)∧w.cell? ⟨g,4,none⟩=some (.slice XA row.length xc)∧w.cell? ⟨g,5,none⟩=some (.int .i64 key.kind)∧w.cell? ⟨g,6,none⟩=some (.int .i64 key.num)∧w.cell? ⟨g,7,none⟩=some (.string key.text)∧w.cell? ⟨g,8,none⟩=some (.int .i64 cl)∧w.cell? ⟨g,9,none⟩=some (.int .i64 vl.kind)∧w.cell? ⟨g,10,none⟩=some (.int .i64 vl.num)∧w.cell? ⟨g,11,none⟩=some (.string vl.text)):=
 ⟨h.cell 0,h.cell 1,h.cell 2,h.cell 3,h.cell 4,h.cell 5,h.cell 6,h.cell 7,h.cell 8,h.cell 9,h.cell 10,h.cell 11⟩
theorem yw(p q:Addr)(w:World):CallsD Tryz.prog 59 #[.pointer (some p),.pointer (some q)] .returning w fun e u' w'=>e=.returned (.tuple #[])∧u'=.returning∧w'=w:=by
 refine callsD_of_wpS Tryz.func59 rfl fun c₀ cs hu =>?_
 apply wpS_seq
 apply wpS_region
 simp[wpOpsS,go_sem,recoverD,hu,Tryz.ntmps59,Exit.thenS]
 refine wpS_cond (t:=false) (by simp[Act.eval,Array.replicate]) ?_
 simp only[Bool.false_eq_true,if_false]
 refine wpS_of_wp (wp_skip ?_)
 cases c₀
 simp_all[bodyPostS,results,Tryz.results59]
theorem fC{d:Nat}{v:Value}(hd:d≠8)(hd2:d≠9)(t:Array Value):results Tryz.f23 (t.setIfInBounds d v)=results Tryz.f23 t:=by
 simp[results,Tryz.results23,Array.getElem?_setIfInBounds_ne hd,Array.getElem?_setIfInBounds_ne hd2]
theorem rW(A:Option Addr)(c m:Nat)(ts:List Tab)(k:Nat)(lo nx:Int)(EA:Option Addr)(ec en:Nat)(es:List Ent)(kd sq dy tb:Int)(XA:Option Addr)(xc:Nat)(row:List Val)(key:Val)(cl:Int)(vl:Val)(w:World)(ht:aF w w.heap.size A ts)(hm:ts.length=m)(hs:aM ts)(hE:di w w.heap.size EA es)(hen:es.length=en)(hlo:dF ts k lo nx (es.map Ent.p))(h8:∀x∈es,x.chg.row.length≤8)
 (hx:ag w w.heap.size Val.cells 3 XA row) (hx8:row.length≤8) (htb:tb=(k:Int)) (ho:bK ts ((es.map Ent.p).map Prod.snd ++ [unC ⟨kd,sq,dy,tb,XA,xc,row,key,cl,vl⟩])) (hlt:es.length<256) (hnx:nx<1099511627776):
 Calls Tryz.prog 23 #[.agg #[.slice A m c,.slice none 0 0,.slice none 0 0,.slice none 0 0,.slice none 0 0,.slice none 0 0,.slice none 0 0,.slice none 0 0],.int .i64 k,.agg #[.int .i64 lo,.int .i64 nx,.slice EA en ec],.agg #[.int .i64 kd,.int .i64 sq,.int .i64 dy,.int .i64 tb,.slice XA row.length xc,.int .i64 key.kind,.int .i64 key.num,.string key.text,.int .i64 cl,.int .i64 vl.kind,.int .i64 vl.num,.string vl.text]] w fun e w' =>
  (∃A' c' l,e=.returned (.tuple #[.agg #[.int .i64 lo,.int .i64 (nx+1),.slice A' l.length c'],.int .i64 0])∧l.map Ent.p=es.map Ent.p ++ [(nx,unC ⟨kd,sq,dy,tb,XA,xc,row,key,cl,vl⟩)]∧fK w' w.heap.size A' c' l)∧Below w.heap.size w w':=by
 subst hm hen
 obtain⟨ic,hic,lL,lK,lJ⟩:=info_parts l7
 obtain⟨ie,hie,uA,uz,uy⟩:=info_parts wU
 have hk:=hlo.lt
 have hl0:=hlo.log.EU
 have hln:=hlo.log.Im
 have h1:=hlo.cat.len
 have HT:=qh ht
 have HS:=qh hs
 have HE:=qh hE
 have HLO:=qh hlo
 have H8:=qh h8
 have HX:=qh hx
 have HO:=qh ho
 have e3:(tb != (k:Int))=false:=by rw[htb];simp
 have e3d:decide (tb=(k:Int))=true:=by rw[htb];simp
 have e4:decide (256≤es.length)=false:=by simp;omega
 have e4i:decide ((256:Int)≤(es.length:Int))=false:=by simp;omega
 have e5:(nx==(1099511627776:Int))=false:=by simp;omega
 have e5d:decide (nx=(1099511627776:Int))=false:=by simp;omega
 have hwrap:IntKind.i64.wrap (nx+1)=nx+1:=IntWalk.i64_in _ omA
 clear ht hs hE hlo h8 hx ho htb
 go_enter_defers Tryz.func23,Tryz.ntmps23
 go_upto_region 2 with (fail)
 obtain⟨z,hz⟩:∃z,w.heap.size=z:=⟨_,rfl⟩
 have HZ:=qh hz
 rw[hz]
 refine ah (P:=fun u=>Code.wp _ _ _ _ u) (R:=fun u=>Blk u z 33 #[.slice A ts.length c,.slice none 0 0,.slice none 0 0,.slice none 0 0,.slice none 0 0,.slice none 0 0,.slice none 0 0,.slice none 0 0]∧Blk u (z+1) 39 #[.int .i64 lo,.int .i64 nx,.slice EA es.length ec]∧Blk u (z+2) 52 #[.int .i64 kd,.int .i64 sq,.int .i64 dy,.int .i64 tb,.slice XA row.length xc,.int .i64 key.kind,.int .i64 key.num,.string key.text,.int .i64 cl,.int .i64 vl.kind,.int .i64 vl.num,.string vl.text]∧Blk u (z+3) 39 #[.int .i64 0,.int .i64 0,.slice none 0 0]∧Blk u (z+4) 42 #[.int .i64 0]∧Below z w u) ⟨?_,?_,?_,?_,?_,?_⟩ ?_
 ·exact((((Blk.new' hz).alloc _).alloc _).alloc _).alloc _
 ·exact(((Blk.new' smA).alloc _).alloc _).alloc _
 ·exact((Blk.new' smA).alloc _).alloc _
 ·exact(Blk.new' smA).alloc _
 ·exact Blk.new' smA
 ·rw[←hz];exact ai
 rintro W ⟨hC,hL,hX,hR,hO,hbW⟩
 have HC:=qh hC
 have HL:=qh hL
 have HXB:=qh hX
 have HR:=qh hR
 have HOB:=qh hO
 have hcl:=hC.lt
 have hll:=hL.lt
 have hxl:=hX.lt
 have hrl:=hR.lt
 have hol:=hO.lt
 obtain⟨p0,p1,p2,p3,p4,p5,p6,p7⟩:=Cat.blk hC
 have l0:=hL.cell 0
 have l1:=hL.cell 1
 have l2:=hL.cell 2
 simp only[gE3]at l0 l1 l2
 have hbW0:Below w.heap.size w W:=by rw[HZ.out];exact hbW
 clear hC hL hX hR hO hz
 go_upto_region 4 with (go_at_call 32;(with_reducible refine(uR A c ts.length ts k lo nx EA ec es.length es _ (HT.out.next hbW0) rfl HS.out (HE.out.next hbW0) rfl HLO.out H8.out).mono ?_);rintro e w1 ⟨rfl,hb1⟩)
 have hx1:Below w.heap.size w w1:=aa hbW0 hb1 hbW0.size
 have HC1:=qh (HC.out.below hb1 hcl)
 have HL1:=qh (HL.out.below hb1 hll)
 have HX1:=qh (HXB.out.below hb1 hxl)
 have HR1:=qh (HR.out.below hb1 hrl)
 have HO1:=qh (HOB.out.below hb1 hol)
 clear p0 p1 p2 p3 p4 p5 p6 p7 l0 l1 l2
 have l2:=HL1.out.cell 2
 simp only[gE3]at l2
 have hz1:=hb1.size
 have hbd:Below w.heap.size w w1.drew:=hx1.trans ((brf.drew).mono hx1.size)
 refine aJ (S:=fun u=>(u.cell? ⟨z,0,none⟩=some (.slice A ts.length c)∧u.cell? ⟨z,1,none⟩=some (.slice none 0 0)∧u.cell? ⟨z,2,none⟩=some (.slice none 0 0)∧u.cell? ⟨z,3,none⟩=some (.slice none 0 0)∧u.cell? ⟨z,4,none⟩=some (.slice none 0 0)∧u.cell? ⟨z,5,none⟩=some (.slice none 0 0)∧u.cell? ⟨z,6,none⟩=some (.slice none 0 0)∧u.cell? ⟨z,7,none⟩=some (.slice none 0 0))∧u.cell? ⟨z+1,2,none⟩=some (.slice EA es.length ec)∧(u.cell? ⟨z+2,0,none⟩=some (.int .i64 kd)∧u.cell? ⟨z+2,1,none⟩=some (.int .i64 sq)∧u.cell? ⟨z+2,2,none⟩=some (.int .i64 dy)∧u.cell? ⟨z+2,3,none⟩=some (.int .i64 tb)∧u.cell? ⟨z+2,4,none⟩=some (.slice XA row.length xc)∧u.cell? ⟨z+2,5,none⟩=some (.int .i64 key.kind)∧u.cell? ⟨z+2,6,none⟩=some (.int .i64 key.num)∧u.cell? ⟨z+2,7,none⟩=some (.string key.text)∧u.cell? ⟨z+2,8,none⟩=some (.int .i64 cl)∧u.cell? ⟨z+2,9,none⟩=some (.int .i64 vl.kind)∧u.cell? ⟨z+2,10,none⟩=some (.int .i64 vl.num)∧u.cell? ⟨z+2,11,none⟩=some (.string vl.text))) [] krA ⟨Cat.blk HC1.out,l2,gY HX1.out⟩ (fun hHeld =>?_)
 refine tkT 0 hHeld ?_ (hQ:=by exact fun c a w h=>fJ (d:= 17) (fC (by decide) (by decide)) c a w h)
 refine tkT 1 hHeld ?_ (hQ:=by exact fun c a w h=>fJ (d:= 18) (fC (by decide) (by decide)) c a w h)
 refine tkT 2 hHeld ?_ (hQ:=by exact fun c a w h=>fJ (d:= 19) (fC (by decide) (by decide)) c a w h)
 refine tkT 3 hHeld ?_ (hQ:=by exact fun c a w h=>fJ (d:= 20) (fC (by decide) (by decide)) c a w h)
 refine tkT 4 hHeld ?_ (hQ:=by exact fun c a w h=>fJ (d:= 21) (fC (by decide) (by decide)) c a w h)
 refine tkT 5 hHeld ?_ (hQ:=by exact fun c a w h=>fJ (d:= 22) (fC (by decide) (by decide)) c a w h)
 refine tkT 6 hHeld ?_ (hQ:=by exact fun c a w h=>fJ (d:= 23) (fC (by decide) (by decide)) c a w h)
 refine tkT 7 hHeld ?_ (hQ:=by exact fun c a w h=>fJ (d:= 24) (fC (by decide) (by decide)) c a w h)
 refine tkT 9 hHeld ?_ (hQ:=by exact fun c a w h=>fJ (d:= 26) (fC (by decide) (by decide)) c a w h)
 refine r2T 8 10 (fun K hK =>?_) (fun K hK =>?_)
 ·go_simp
  (go_at_call 34;(with_reducible refine(jW EA ec es _ (HE.out.next hbd) omA H8.out).mono ?_);rintro e wa ⟨⟨LA,lc,l,rfl,hlm,hlo2⟩,hb2⟩)
  have HLM:=qh hlm
  have wM:Below w1.heap.size w1 wa:=brf.drew.trans hb2
  have HC2:=qh (HC1.out.below wM HC1.out.lt)
  have HL2:=qh (HL1.out.below wM HL1.out.lt)
  have HX2:=qh (HX1.out.below wM HX1.out.lt)
  go_wp2_with fail
  refine hK.out _ _ _ ⟨Cat.blk HC2.out,HL2.out.cell 2,gY HX2.out⟩ (fun hHeld =>?_)
  clear hK K
  refine r1T 10 (fun K hK =>?_)
  go_simp
  refine hK.out _ _ _ ⟨Cat.blk (HC2.out.alloc _),(HL2.out.alloc _).cell 2,gY (HX2.out.alloc _)⟩ (fun hHeld =>?_)
  clear hK K hHeld
  generalize hg:wa.heap.size=g
  generalize hw2:World.alloc wa _=w2
  have OZ:Below wa.heap.size wa w2:=by rw[←hw2];exact ai
  have jZ:Below w1.heap.size w1 w2:=aa wM OZ wM.size
  have HGX:Hid (Blk w2 g 52 #[.int .i64 kd,.int .i64 sq,.int .i64 dy,.int .i64 tb,.slice XA row.length xc,.int .i64 key.kind,.int .i64 key.num,.string key.text,.int .i64 cl,.int .i64 vl.kind,.int .i64 vl.num,.string vl.text]):=qh (by rw[←hw2];exact Blk.new' hg)
  obtain⟨base,hbs⟩:∃base,w1.drew.heap.size=base:=⟨_,rfl⟩
  rw[hbs]at hlo2
  have sI:w1.heap.size≤base:=by rw[←hbs];exact Nat.le_refl _
  have U7:base≤w2.heap.size:=by rw[←hbs];exact Nat.le_trans hb2.size OZ.size
  have mP:=qh (hlo2.below OZ)
  clear hlm hlo2 hg hw2 hbs OZ wM hb2 HC2 HL2 HX2
  exact LD
 ·go_simp
  refine hK.out _ _ _ ⟨Cat.blk (HC1.out.drew.alloc _),(HL1.out.drew.alloc _).cell 2,gY (HX1.out.drew.alloc _)⟩ (fun hHeld =>?_)
  clear hK K hHeld
  generalize hg:w1.heap.size=g
  generalize hwa:World.drew (World.alloc w1 _)=wa
  have wM:Below w1.heap.size w1 wa:=by rw[←hwa];exact ai
  have hxa:Below w.heap.size w wa:=aa hx1 wM hx1.size
  have HGA:Hid (Blk wa g 52 #[.int .i64 kd,.int .i64 sq,.int .i64 dy,.int .i64 tb,.slice XA row.length xc,.int .i64 key.kind,.int .i64 key.num,.string key.text,.int .i64 cl,.int .i64 vl.kind,.int .i64 vl.num,.string vl.text]):=qh (by rw[←hwa];exact(Blk.new' hg).drew)
  clear hg hwa
  refine r1T 8 (fun K hK =>?_)
  go_simp
  (go_at_call 34;(with_reducible refine(jW EA ec es _ (HE.out.next hxa) omA H8.out).mono ?_);rintro e w2 ⟨⟨LA,lc,l,rfl,hlm,hlo2⟩,hb2⟩)
  have HLM:=qh hlm
  have jZ:Below w1.heap.size w1 w2:=aa wM hb2 wM.size
  have HGX:=qh (HGA.out.below hb2 HGA.out.lt)
  obtain⟨base,hbs⟩:∃base,wa.heap.size=base:=⟨_,rfl⟩
  rw[hbs]at hlo2
  have sI:w1.heap.size≤base:=by rw[←hbs];exact wM.size
  have U7:base≤w2.heap.size:=by rw[←hbs];exact hb2.size
  have mP:=qh hlo2
  go_wp2_with fail
  refine hK.out _ _ _ ⟨Cat.blk (HC1.out.below jZ HC1.out.lt),(HL1.out.below jZ HL1.out.lt).cell 2,gY (HX1.out.below jZ HX1.out.lt)⟩ (fun hHeld =>?_)
  clear hK K hlm hlo2 hbs wM hb2 hxa HGA
  exact LD
end Go.Proofs.YtjidligipoldeaaGreat
