/-
  Contracts and plain laws of this seat, part 48.
-/
import Derived.Test.YtebippoohpnjkaaGreatF19
import Derived.Test.YtebippoohpnjkaaGreatF42
set_option linter.unusedVariables false
set_option linter.unusedSimpArgs false
set_option maxRecDepth 100000
set_option maxHeartbeats 16000000
namespace Go.Proofs.YtebippoohpnjkaaGreat
open Go.RowKit Go
theorem fc{P:Prop}(h:P:=by simp[results,Tryz.results30,go_sem,Chg.cells,c0,c1',c2,c3,c4,c5,c6,c7,c8,c9,c10,c11]):P:=h
theorem ff{P:Prop}(h:P:=by first|exact hxl|simp):P:=h
def GD(w:World)(g b n:Nat)(e:Ending)(w':World):Prop:=
 ∃x:Chg,e=.returned (.agg x.cells.toArray)∧x.row.length≤n+1∧ax w' w.heap.size 62 Val.cells 3 (.slice x.A x.row.length x.cap) x.row∧aO w' g b∧w.grownBy w' (some g)
structure SpX (w:World) (g b:Nat) (x:Chg) (u:World):Prop where
 box:Blk u w.heap.size 64 x.cells.toArray
 res:Blk u (w.heap.size+1) 64 #[.int .i64 0,.int .i64 0,.int .i64 0,.int .i64 0,.slice none 0 0,.int .i64 0,.int .i64 0,.string ⟨#[]⟩,.int .i64 0,.int .i64 0,.int .i64 0,.string ⟨#[]⟩]
 row:ax u (w.heap.size+2) 62 Val.cells 3 (.slice x.A x.row.length x.cap) x.row
 grow:aL w g b u
section
variable {w u v:World}{g b:Nat}{x:Chg}
theorem SpX.set(h:SpX w g b x u)(hg:g<w.heap.size)(hb:b<w.heap.size)(x':Chg){j:Nat}{y:Value}(hx:x'.cells=x.cells.set j y)(hr:x'.A=x.A∧x'.cap=x.cap∧x'.row=x.row):SpX w g b x' (u.setCell ⟨w.heap.size,j,none⟩ y):=by
 obtain⟨h1,h2,h3⟩:=hr
 refine⟨?_,h.res.far spA _,?_,h.grow.far nlr hb hg _⟩
 ·have h4:=h.box.bM j y
  rw[hx]
  simpa using h4
 ·rw[h1,h2,h3]
  exact h.row.iG (by have h:=h.box;unfold Blk at h;exact h) (by decide) _
theorem SpX.below(h:SpX w g b x u)(hb:Below u.heap.size u v):SpX w g b x v:=
 ⟨h.box.below hb h.box.lt,h.res.below hb h.res.lt,h.row.below hb nlr,h.grow.below hb⟩
theorem SpX.call(h:SpX w g b x u)(hg:g<w.heap.size)(hk:aO v g b)(hv:u.grownBy v (some g)):SpX w g b x v:=
 ⟨h.box.grown hv inA,h.res.grown hv inA,h.row.grown hv omA,h.grow.call hk hv⟩
theorem SpX.fin(h:SpX w g b x u)(hg:g<w.heap.size)(hb:b<w.heap.size){n:Nat}(hn:x.row.length≤n+1){a0 a1 a2 a3 a4 a5 a6 a7 a8 a9 a10 a11:Value}{e:Ending}(he:e=.returned (.agg x.cells.toArray)):GD w g b n e (nW u (w.heap.size+1) a0 a1 a2 a3 a4 a5 a6 a7 a8 a9 a10 a11):=by
 have hS:=h.grow.zO (g':=w.heap.size+1) (a0:=a0) (a1:=a1) (a2:=a2) (a3:=a3) (a4:=a4) (a5:=a5) (a6:=a6) (a7:=a7) (a8:=a8) (a9:=a9) (a10:=a10) (a11:=a11) omA hb hg
 exact⟨x,he,hn,(h.row.same fun q hq=>LB q (by have:=h.row.row q hq;omega)).mono omA,hS.tape,hS.grown⟩
end
def FX(h g:Nat)(A:Option Addr)(c n b1:Nat)(bv:Val):Nat→Value→World→Prop
 | 0,v,_=>v=.pointer (some ⟨h,4,none⟩)
 | 1,v,_=>v=.slice A n c
 | 2,v,_=>v=.pointer (some ⟨g,0,none⟩)
 | 3,v,_=>v=.pointer (some ⟨h,4,none⟩)
 | 4,v,_=>v=.slice A n c
 | 5,v,_=>v=.int .i64 n
 | 6,v,_ =>∃z:Nat,z<n∧v=.int .i64 z
 | 7,v,_=>v=.agg #[.int .i64 bv.kind,.int .i64 bv.num,.string bv.text]
 | 8,v,_ =>∃z:Nat,z<n∧v=.pointer (some ⟨b1,z*3,none⟩)
 | _,_,_=>True
theorem FX.any{h g:Nat}{A:Option Addr}{c n b1:Nat}{bv:Val}{k:Nat}{v:Value}{u u':World}(H:FX h g A c n b1 bv k v u):FX h g A c n b1 bv k v u':=by
 rcases k with _|_|_|_|_|_|_|_|_|k<;>exact H
theorem uj(g b:Nat)(kd sq dy tb:Int)(A0:Option Addr)(cp n:Nat)(row:List Val)(key:Val)(cl:Int)(vl:Val)(w:World)(hk:aO w g b)(hR:ah w w.heap.size Val.cells 3 A0 row)(hn:row.length=n)(hrl:n≤100000):
 Calls Tryz.prog 30 #[.pointer (some ⟨g,0,none⟩),.agg #[.int .i64 kd,.int .i64 sq,.int .i64 dy,.int .i64 tb,.slice A0 n cp,.int .i64 key.kind,.int .i64 key.num,.string key.text,.int .i64 cl,.int .i64 vl.kind,.int .i64 vl.num,.string vl.text]] w (GD w g b n):=by
 subst hn
 obtain⟨iv,hiv,sN,sM,sK⟩:=info_parts sI
 have hgl:=hk.ltg
 have hbl:=hk.lt
 have HK:=qh hk
 have HR:=qh hR
 clear hk hR
 go_enter Tryz.func30,Tryz.ntmps30
 go_upto_region 1 with (fail)
 refine ai (P:=fun u=>Code.wp _ _ _ _ u) (R:=fun u=>Blk u w.heap.size 64 (Chg.cells ⟨kd,sq,dy,tb,A0,cp,row,key,cl,vl⟩).toArray∧Blk u (w.heap.size+1) 64 #[.int .i64 0,.int .i64 0,.int .i64 0,.int .i64 0,.slice none 0 0,.int .i64 0,.int .i64 0,.string ⟨#[]⟩,.int .i64 0,.int .i64 0,.int .i64 0,.string ⟨#[]⟩]∧Below w.heap.size w u∧u.heap.size=w.heap.size+2) ⟨?_,?_,?_,?_⟩ ?_
 ·exact(Blk.new _ _ _).alloc _
 ·exact Blk.new' spA
 ·exact ak
 ·simp
 rintro W ⟨hX,hZ,hbW,hzW⟩
 obtain⟨⟨q0,q1,q2,q3⟩,q4,⟨q5,q6,q7⟩,q8,q9,q10,q11⟩:=Chg.blk hX
 simp only at q0 q1 q2 q3 q4 q5 q6 q7 q8 q9 q10 q11
 clear q0 q1 q2 q3 q5 q6 q7 q8 q9 q10 q11
 have hfz:=fun j=>hX.frozen j
 have HX:=qh hX
 have HZ:=qh hZ
 have HRW:=qh (HR.out.next hbW)
 clear hX hZ HR
 go_wp2_with ((at_builtin;go_must (refine aK _ rfl (.tmp 6) (.tmp 8) 60 rfl 62 iv _ Val.cells 3 32 Tryz.underlying60 hiv sN sM sK rfl omA bP val_one (w.heap.size+2) (.slice (some ⟨w.heap.size+2,0,none⟩) 0 0) [] rfl (ax.empty (Blk.new' omA) omA) _ _ _ row rfl rfl (HRW.out.next ak) smA mxA smA ?_);intro v' w1 hown' hg' hat';have hbel:Below W.heap.size W w1:=Below.grown ak hg' spA (bR omA);rw[List.nil_append]at hown';obtain⟨A1,c1,hv1,_,_⟩:=hown'.form;subst hv1;have hX1:=HX.out.below hbel HX.out.lt;have U5:=fun j=>hX1.frozen j;have c4:=hX1.cell 4;simp only[Chg.cells,gE3]at c4;have HS1:=qh (SpX.mk (w:=w) (g:=g) (b:=b) (x:=⟨kd,sq,dy,tb,A1,c1,row,key,cl,vl⟩) (by have h:=hX1.bM 4 (.slice A1 row.length c1);simpa[Chg.cells]using h) ((HZ.out.below hbel HZ.out.lt).far spA _) (hown'.iG (by have h:=hX1;unfold Blk at h;exact h) (by decide) _) (((aL.below ⟨HK.out.below hbW,au _ hbW⟩ hbel)).far nlr hbl hgl _));clear hown' hg' hat' hX1))
 have hz1:=hbel.size
 clear c4 U5 hbel q4 hfz HX HZ HRW
 refine ai (P:=fun u=>Calls _ _ _ u _) (R:=fun u=>SpX w g b ⟨kd,sq,dy,tb,A1,c1,row,key,cl,vl⟩ u∧Blk u w1.heap.size 62 #[.int .i64 0,.int .i64 0,.string ⟨#[]⟩,.int .i64 1,.int .i64 1,.string ⟨#[120]⟩,.int .i64 1,.int .i64 9,.string ⟨#[]⟩,.int .i64 2,.int .i64 0,.string ⟨#[122]⟩]) ⟨HS1.out.below (brf.alloc nlr _),Blk.new' spA⟩ ?_
 rintro u1 ⟨hS1,hA1⟩
 clear HS1
 refine(aA g b 4 _ hS1.grow.tape omA omA).mono ?_
 rintro e u2 ⟨r1,rfl,hr1,hk2,hg2⟩
 have hr1':r1<4:=by rcases hr1 with h|h<;>omega
 have HS2:=qh (hS1.call hgl hk2 hg2)
 have hA2:=hA1.grown hg2 inA
 obtain⟨bv,z0,z1,z2⟩:∃v:Val,u2.cell? ⟨w1.heap.size,r1*3,none⟩=some (.int .i64 v.kind)∧u2.cell? ⟨w1.heap.size,r1*3+1,none⟩=some (.int .i64 v.num)∧u2.cell? ⟨w1.heap.size,r1*3+2,none⟩=some (.string v.text):=by
  rw[hA2.cell,hA2.cell,hA2.cell]
  rcases(show r1=0∨r1=1∨r1=2∨r1=3 by omega) with rfl|rfl|rfl|rfl
  ·exact⟨⟨0,0,⟨#[]⟩⟩,rfl,rfl,rfl⟩
  ·exact⟨⟨1,1,⟨#[120]⟩⟩,rfl,rfl,rfl⟩
  ·exact⟨⟨1,9,⟨#[]⟩⟩,rfl,rfl,rfl⟩
  ·exact⟨⟨2,0,⟨#[122]⟩⟩,rfl,rfl,rfl⟩
 clear hS1 hA1 hk2 hg2 hA2 hr1
 go_wp2_with fail
 have hz2:=HS2.out.grow.size
 clear z0 z1 z2
 refine ai (P:=fun u=>Calls _ _ _ u _) (R:=fun u=>SpX w g b ⟨kd,sq,dy,tb,A1,c1,row,key,cl,vl⟩ u∧Blk u u2.heap.size 62 (Val.cells bv).toArray) ⟨HS2.out.below (brf.alloc nlr _),Blk.new' spA⟩ ?_
 rintro u3 ⟨hS3,hB3⟩
 clear HS2
 refine(aA g b 10 _ hS3.grow.tape omA omA).mono ?_
 rintro e u4 ⟨r2,rfl,hr2,hk4,hg4⟩
 have hr2':r2<10:=by rcases hr2 with h|h<;>omega
 have HS4:=qh (hS3.call hgl hk4 hg4)
 have HB4:=qh (hB3.grown hg4 inA)
 clear hS3 hB3 hk4 hg4 hr2
 rcases(show r2=0∨r2=1∨r2=2∨r2=3∨r2=4∨r2=5∨r2=6∨r2=7 ∨ 8≤r2 by omega) with rfl|rfl|rfl|rfl|rfl|rfl|rfl|rfl|h8
 ·go_wp2_with fail
  refine(aA g b 6 _ HS4.out.grow.tape omA omA).mono ?_
  rintro e u5 ⟨r3,rfl,hr3,hk5,hg5⟩
  have EZ:r3<6:=by rcases hr3 with h|h<;>omega
  have HS5:=qh (HS4.out.call hgl hk5 hg5)
  clear hk5 hg5 hr3 HS4 HB4
  obtain⟨⟨q0,q1,q2,q3⟩,q4,⟨q5,q6,q7⟩,q8,q9,q10,q11⟩:=Chg.blk HS5.out.box
  simp only at q0 q1 q2 q3 q4 q5 q6 q7 q8 q9 q10 q11
  have hfz:=fun j=>HS5.out.box.frozen j
  go_upto_region 22 with (fail)
  refine ai (P:=fun u=>Code.wp _ _ _ _ u) (R:=fun u=>SpX w g b ⟨(r3:Int)-1,sq,dy,tb,A1,c1,row,key,cl,vl⟩ u) (HS5.out.set hgl hbl ⟨(r3:Int)-1,sq,dy,tb,A1,c1,row,key,cl,vl⟩ rfl ⟨rfl,rfl,rfl⟩) ?_
  intro u6 hS6
  clear q0 q1 q2 q3 q4 q5 q6 q7 q8 q9 q10 q11 hfz HS5
  obtain⟨⟨q0,q1,q2,q3⟩,q4,⟨q5,q6,q7⟩,q8,q9,q10,q11⟩:=Chg.blk hS6.box
  simp only at q0 q1 q2 q3 q4 q5 q6 q7 q8 q9 q10 q11
  have c0:=hS6.res.cell 0
  have c1':=hS6.res.cell 1
  have c2:=hS6.res.cell 2
  have c3:=hS6.res.cell 3
  have c4:=hS6.res.cell 4
  have c5:=hS6.res.cell 5
  have c6:=hS6.res.cell 6
  have c7:=hS6.res.cell 7
  have c8:=hS6.res.cell 8
  have c9:=hS6.res.cell 9
  have c10:=hS6.res.cell 10
  have c11:=hS6.res.cell 11
  simp only[gE3]at c0 c1' c2 c3 c4 c5 c6 c7 c8 c9 c10 c11
  have hfr:=fun j=>hS6.res.frozen j
  have HS6:=qh hS6
  clear hS6
  go_wp2_with fail
  refine bodyPost_ret (v:= .agg (Chg.cells ⟨(r3:Int)-1,sq,dy,tb,A1,c1,row,key,cl,vl⟩).toArray) fc rfl ?_
  exact HS6.out.fin hgl hbl ff rfl
 ·go_wp2_with fail
  refine ai (P:=fun u=>Calls _ _ _ u _) (R:=fun u=>SpX w g b ⟨kd,sq,dy,tb,A1,c1,row,key,cl,vl⟩ u∧Blk u u4.heap.size 3 #[.int .i64 0,.int .i64 (-1),.int .i64 1073741824,.int .i64 1073741825]) ⟨HS4.out.below (brf.alloc nlr _),Blk.new' spA⟩ ?_
  rintro u6 ⟨hS6,hA6⟩
  have hz4:=HS4.out.grow.size
  clear HS4 HB4
  refine(aA g b 4 _ hS6.grow.tape omA omA).mono ?_
  rintro e u5 ⟨r3,rfl,hr3,hk5,hg5⟩
  have EZ:r3<4:=by rcases hr3 with h|h<;>omega
  have HS5:=qh (hS6.call hgl hk5 hg5)
  have hA5:=hA6.grown hg5 inA
  obtain⟨z,hz⟩:∃z:Int,u5.cell? ⟨u4.heap.size,r3,none⟩=some (.int .i64 z):=by
   rw[hA5.cell]
   rcases(show r3=0∨r3=1∨r3=2∨r3=3 by omega) with rfl|rfl|rfl|rfl<;>exact⟨_,rfl⟩
  clear hS6 hA6 hk5 hg5 hA5 hr3
  obtain⟨⟨q0,q1,q2,q3⟩,q4,⟨q5,q6,q7⟩,q8,q9,q10,q11⟩:=Chg.blk HS5.out.box
  simp only at q0 q1 q2 q3 q4 q5 q6 q7 q8 q9 q10 q11
  have hfz:=fun j=>HS5.out.box.frozen j
  go_upto_region 22 with (fail)
  refine ai (P:=fun u=>Code.wp _ _ _ _ u) (R:=fun u=>SpX w g b ⟨kd,z,dy,tb,A1,c1,row,key,cl,vl⟩ u) (HS5.out.set hgl hbl ⟨kd,z,dy,tb,A1,c1,row,key,cl,vl⟩ rfl ⟨rfl,rfl,rfl⟩) ?_
  intro u6 hS6
  clear q0 q1 q2 q3 q4 q5 q6 q7 q8 q9 q10 q11 hfz HS5
  obtain⟨⟨q0,q1,q2,q3⟩,q4,⟨q5,q6,q7⟩,q8,q9,q10,q11⟩:=Chg.blk hS6.box
  simp only at q0 q1 q2 q3 q4 q5 q6 q7 q8 q9 q10 q11
  have c0:=hS6.res.cell 0
  have c1':=hS6.res.cell 1
  have c2:=hS6.res.cell 2
  have c3:=hS6.res.cell 3
  have c4:=hS6.res.cell 4
  have c5:=hS6.res.cell 5
  have c6:=hS6.res.cell 6
  have c7:=hS6.res.cell 7
  have c8:=hS6.res.cell 8
  have c9:=hS6.res.cell 9
  have c10:=hS6.res.cell 10
  have c11:=hS6.res.cell 11
  simp only[gE3]at c0 c1' c2 c3 c4 c5 c6 c7 c8 c9 c10 c11
  have hfr:=fun j=>hS6.res.frozen j
  have HS6:=qh hS6
  clear hS6
  go_wp2_with fail
  refine bodyPost_ret (v:= .agg (Chg.cells ⟨kd,z,dy,tb,A1,c1,row,key,cl,vl⟩).toArray) fc rfl ?_
  exact HS6.out.fin hgl hbl ff rfl
 ·go_wp2_with fail
  refine ai (P:=fun u=>Calls _ _ _ u _) (R:=fun u=>SpX w g b ⟨kd,sq,dy,tb,A1,c1,row,key,cl,vl⟩ u∧Blk u u4.heap.size 3 #[.int .i64 (-1),.int .i64 1048576,.int .i64 1048577]) ⟨HS4.out.below (brf.alloc nlr _),Blk.new' spA⟩ ?_
  rintro u6 ⟨hS6,hA6⟩
  have hz4:=HS4.out.grow.size
  clear HS4 HB4
  refine(aA g b 3 _ hS6.grow.tape omA omA).mono ?_
  rintro e u5 ⟨r3,rfl,hr3,hk5,hg5⟩
  have EZ:r3<3:=by rcases hr3 with h|h<;>omega
  have HS5:=qh (hS6.call hgl hk5 hg5)
  have hA5:=hA6.grown hg5 inA
  obtain⟨z,hz⟩:∃z:Int,u5.cell? ⟨u4.heap.size,r3,none⟩=some (.int .i64 z):=by
   rw[hA5.cell]
   rcases(show r3=0∨r3=1∨r3=2 by omega) with rfl|rfl|rfl<;>exact⟨_,rfl⟩
  clear hS6 hA6 hk5 hg5 hA5 hr3
  obtain⟨⟨q0,q1,q2,q3⟩,q4,⟨q5,q6,q7⟩,q8,q9,q10,q11⟩:=Chg.blk HS5.out.box
  simp only at q0 q1 q2 q3 q4 q5 q6 q7 q8 q9 q10 q11
  have hfz:=fun j=>HS5.out.box.frozen j
  go_upto_region 22 with (fail)
  refine ai (P:=fun u=>Code.wp _ _ _ _ u) (R:=fun u=>SpX w g b ⟨kd,sq,z,tb,A1,c1,row,key,cl,vl⟩ u) (HS5.out.set hgl hbl ⟨kd,sq,z,tb,A1,c1,row,key,cl,vl⟩ rfl ⟨rfl,rfl,rfl⟩) ?_
  intro u6 hS6
  clear q0 q1 q2 q3 q4 q5 q6 q7 q8 q9 q10 q11 hfz HS5
  obtain⟨⟨q0,q1,q2,q3⟩,q4,⟨q5,q6,q7⟩,q8,q9,q10,q11⟩:=Chg.blk hS6.box
  simp only at q0 q1 q2 q3 q4 q5 q6 q7 q8 q9 q10 q11
  have c0:=hS6.res.cell 0
  have c1':=hS6.res.cell 1
  have c2:=hS6.res.cell 2
  have c3:=hS6.res.cell 3
  have c4:=hS6.res.cell 4
  have c5:=hS6.res.cell 5
  have c6:=hS6.res.cell 6
  have c7:=hS6.res.cell 7
  have c8:=hS6.res.cell 8
  have c9:=hS6.res.cell 9
  have c10:=hS6.res.cell 10
  have c11:=hS6.res.cell 11
  simp only[gE3]at c0 c1' c2 c3 c4 c5 c6 c7 c8 c9 c10 c11
  have hfr:=fun j=>hS6.res.frozen j
  have HS6:=qh hS6
  clear hS6
  go_wp2_with fail
  refine bodyPost_ret (v:= .agg (Chg.cells ⟨kd,sq,z,tb,A1,c1,row,key,cl,vl⟩).toArray) fc rfl ?_
  exact HS6.out.fin hgl hbl ff rfl
 ·go_wp2_with fail
  refine(aA g b 6 _ HS4.out.grow.tape omA omA).mono ?_
  rintro e u5 ⟨r3,rfl,hr3,hk5,hg5⟩
  have EZ:r3<6:=by rcases hr3 with h|h<;>omega
  have HS5:=qh (HS4.out.call hgl hk5 hg5)
  clear hk5 hg5 hr3 HS4 HB4
  obtain⟨⟨q0,q1,q2,q3⟩,q4,⟨q5,q6,q7⟩,q8,q9,q10,q11⟩:=Chg.blk HS5.out.box
  simp only at q0 q1 q2 q3 q4 q5 q6 q7 q8 q9 q10 q11
  have hfz:=fun j=>HS5.out.box.frozen j
  go_upto_region 22 with (fail)
  refine ai (P:=fun u=>Code.wp _ _ _ _ u) (R:=fun u=>SpX w g b ⟨kd,sq,dy,(r3:Int)-1,A1,c1,row,key,cl,vl⟩ u) (HS5.out.set hgl hbl ⟨kd,sq,dy,(r3:Int)-1,A1,c1,row,key,cl,vl⟩ rfl ⟨rfl,rfl,rfl⟩) ?_
  intro u6 hS6
  clear q0 q1 q2 q3 q4 q5 q6 q7 q8 q9 q10 q11 hfz HS5
  obtain⟨⟨q0,q1,q2,q3⟩,q4,⟨q5,q6,q7⟩,q8,q9,q10,q11⟩:=Chg.blk hS6.box
  simp only at q0 q1 q2 q3 q4 q5 q6 q7 q8 q9 q10 q11
  have c0:=hS6.res.cell 0
  have c1':=hS6.res.cell 1
  have c2:=hS6.res.cell 2
  have c3:=hS6.res.cell 3
  have c4:=hS6.res.cell 4
  have c5:=hS6.res.cell 5
  have c6:=hS6.res.cell 6
  have c7:=hS6.res.cell 7
  have c8:=hS6.res.cell 8
  have c9:=hS6.res.cell 9
  have c10:=hS6.res.cell 10
  have c11:=hS6.res.cell 11
  simp only[gE3]at c0 c1' c2 c3 c4 c5 c6 c7 c8 c9 c10 c11
  have hfr:=fun j=>hS6.res.frozen j
  have HS6:=qh hS6
  clear hS6
  go_wp2_with fail
  refine bodyPost_ret (v:= .agg (Chg.cells ⟨kd,sq,dy,(r3:Int)-1,A1,c1,row,key,cl,vl⟩).toArray) fc rfl ?_
  exact HS6.out.fin hgl hbl ff rfl
 ·have y0:=HB4.out.cell 0
  have y1:=HB4.out.cell 1
  have y2:=HB4.out.cell 2
  simp only[Val.cells,gE3]at y0 y1 y2
  have HS5:=HS4
  clear HS4 HB4
  obtain⟨⟨q0,q1,q2,q3⟩,q4,⟨q5,q6,q7⟩,q8,q9,q10,q11⟩:=Chg.blk HS5.out.box
  simp only at q0 q1 q2 q3 q4 q5 q6 q7 q8 q9 q10 q11
  have hfz:=fun j=>HS5.out.box.frozen j
  go_upto_region 22 with (fail)
  refine ai (P:=fun u=>Code.wp _ _ _ _ u) (R:=fun u=>SpX w g b ⟨kd,sq,dy,tb,A1,c1,row,bv,cl,vl⟩ u) (((HS5.out.set hgl hbl ⟨kd,sq,dy,tb,A1,c1,row,⟨bv.kind,key.num,key.text⟩,cl,vl⟩ rfl ⟨rfl,rfl,rfl⟩).set hgl hbl ⟨kd,sq,dy,tb,A1,c1,row,⟨bv.kind,bv.num,key.text⟩,cl,vl⟩ rfl ⟨rfl,rfl,rfl⟩).set hgl hbl ⟨kd,sq,dy,tb,A1,c1,row,bv,cl,vl⟩ rfl ⟨rfl,rfl,rfl⟩) ?_
  intro u6 hS6
  clear q0 q1 q2 q3 q4 q5 q6 q7 q8 q9 q10 q11 hfz HS5 y0 y1 y2
  obtain⟨⟨q0,q1,q2,q3⟩,q4,⟨q5,q6,q7⟩,q8,q9,q10,q11⟩:=Chg.blk hS6.box
  simp only at q0 q1 q2 q3 q4 q5 q6 q7 q8 q9 q10 q11
  have c0:=hS6.res.cell 0
  have c1':=hS6.res.cell 1
  have c2:=hS6.res.cell 2
  have c3:=hS6.res.cell 3
  have c4:=hS6.res.cell 4
  have c5:=hS6.res.cell 5
  have c6:=hS6.res.cell 6
  have c7:=hS6.res.cell 7
  have c8:=hS6.res.cell 8
  have c9:=hS6.res.cell 9
  have c10:=hS6.res.cell 10
  have c11:=hS6.res.cell 11
  simp only[gE3]at c0 c1' c2 c3 c4 c5 c6 c7 c8 c9 c10 c11
  have hfr:=fun j=>hS6.res.frozen j
  have HS6:=qh hS6
  clear hS6
  go_wp2_with fail
  refine bodyPost_ret (v:= .agg (Chg.cells ⟨kd,sq,dy,tb,A1,c1,row,bv,cl,vl⟩).toArray) fc rfl ?_
  exact HS6.out.fin hgl hbl ff rfl
 ·go_wp2_with fail
  refine(aA g b 8 _ HS4.out.grow.tape omA omA).mono ?_
  rintro e u5 ⟨r3,rfl,hr3,hk5,hg5⟩
  have EZ:r3<8:=by rcases hr3 with h|h<;>omega
  have HS5:=qh (HS4.out.call hgl hk5 hg5)
  clear hk5 hg5 hr3 HS4 HB4
  obtain⟨⟨q0,q1,q2,q3⟩,q4,⟨q5,q6,q7⟩,q8,q9,q10,q11⟩:=Chg.blk HS5.out.box
  simp only at q0 q1 q2 q3 q4 q5 q6 q7 q8 q9 q10 q11
  have hfz:=fun j=>HS5.out.box.frozen j
  go_upto_region 22 with (fail)
  refine ai (P:=fun u=>Code.wp _ _ _ _ u) (R:=fun u=>SpX w g b ⟨kd,sq,dy,tb,A1,c1,row,key,(r3:Int)-1,vl⟩ u) (HS5.out.set hgl hbl ⟨kd,sq,dy,tb,A1,c1,row,key,(r3:Int)-1,vl⟩ rfl ⟨rfl,rfl,rfl⟩) ?_
  intro u6 hS6
  clear q0 q1 q2 q3 q4 q5 q6 q7 q8 q9 q10 q11 hfz HS5
  obtain⟨⟨q0,q1,q2,q3⟩,q4,⟨q5,q6,q7⟩,q8,q9,q10,q11⟩:=Chg.blk hS6.box
  simp only at q0 q1 q2 q3 q4 q5 q6 q7 q8 q9 q10 q11
  have c0:=hS6.res.cell 0
  have c1':=hS6.res.cell 1
  have c2:=hS6.res.cell 2
  have c3:=hS6.res.cell 3
  have c4:=hS6.res.cell 4
  have c5:=hS6.res.cell 5
  have c6:=hS6.res.cell 6
  have c7:=hS6.res.cell 7
  have c8:=hS6.res.cell 8
  have c9:=hS6.res.cell 9
  have c10:=hS6.res.cell 10
  have c11:=hS6.res.cell 11
  simp only[gE3]at c0 c1' c2 c3 c4 c5 c6 c7 c8 c9 c10 c11
  have hfr:=fun j=>hS6.res.frozen j
  have HS6:=qh hS6
  clear hS6
  go_wp2_with fail
  refine bodyPost_ret (v:= .agg (Chg.cells ⟨kd,sq,dy,tb,A1,c1,row,key,(r3:Int)-1,vl⟩).toArray) fc rfl ?_
  exact HS6.out.fin hgl hbl ff rfl
 ·have y0:=HB4.out.cell 0
  have y1:=HB4.out.cell 1
  have y2:=HB4.out.cell 2
  simp only[Val.cells,gE3]at y0 y1 y2
  have HS5:=HS4
  clear HS4 HB4
  obtain⟨⟨q0,q1,q2,q3⟩,q4,⟨q5,q6,q7⟩,q8,q9,q10,q11⟩:=Chg.blk HS5.out.box
  simp only at q0 q1 q2 q3 q4 q5 q6 q7 q8 q9 q10 q11
  have hfz:=fun j=>HS5.out.box.frozen j
  go_upto_region 22 with (fail)
  refine ai (P:=fun u=>Code.wp _ _ _ _ u) (R:=fun u=>SpX w g b ⟨kd,sq,dy,tb,A1,c1,row,key,cl,bv⟩ u) (((HS5.out.set hgl hbl ⟨kd,sq,dy,tb,A1,c1,row,key,cl,⟨bv.kind,vl.num,vl.text⟩⟩ rfl ⟨rfl,rfl,rfl⟩).set hgl hbl ⟨kd,sq,dy,tb,A1,c1,row,key,cl,⟨bv.kind,bv.num,vl.text⟩⟩ rfl ⟨rfl,rfl,rfl⟩).set hgl hbl ⟨kd,sq,dy,tb,A1,c1,row,key,cl,bv⟩ rfl ⟨rfl,rfl,rfl⟩) ?_
  intro u6 hS6
  clear q0 q1 q2 q3 q4 q5 q6 q7 q8 q9 q10 q11 hfz HS5 y0 y1 y2
  obtain⟨⟨q0,q1,q2,q3⟩,q4,⟨q5,q6,q7⟩,q8,q9,q10,q11⟩:=Chg.blk hS6.box
  simp only at q0 q1 q2 q3 q4 q5 q6 q7 q8 q9 q10 q11
  have c0:=hS6.res.cell 0
  have c1':=hS6.res.cell 1
  have c2:=hS6.res.cell 2
  have c3:=hS6.res.cell 3
  have c4:=hS6.res.cell 4
  have c5:=hS6.res.cell 5
  have c6:=hS6.res.cell 6
  have c7:=hS6.res.cell 7
  have c8:=hS6.res.cell 8
  have c9:=hS6.res.cell 9
  have c10:=hS6.res.cell 10
  have c11:=hS6.res.cell 11
  simp only[gE3]at c0 c1' c2 c3 c4 c5 c6 c7 c8 c9 c10 c11
  have hfr:=fun j=>hS6.res.frozen j
  have HS6:=qh hS6
  clear hS6
  go_wp2_with fail
  refine bodyPost_ret (v:= .agg (Chg.cells ⟨kd,sq,dy,tb,A1,c1,row,key,cl,bv⟩).toArray) fc rfl ?_
  exact HS6.out.fin hgl hbl ff rfl
 ·have y0:=HB4.out.cell 0
  have y1:=HB4.out.cell 1
  have y2:=HB4.out.cell 2
  simp only[Val.cells,gE3]at y0 y1 y2
  have q4:=HS4.out.box.cell 4
  simp only[Chg.cells,gE3]at q4
  have hz4:=HS4.out.grow.size
  have hz5:=HS4.out.res.lt
  go_upto_region 22 with ((at_builtin;go_must (refine aK _ rfl (.tmp 80) (.tmp 82) 60 rfl 62 iv _ Val.cells 3 32 Tryz.underlying60 hiv sN sM sK rfl omA bP val_one (w.heap.size+2) (.slice A1 row.length c1) row rfl (HS4.out.row.alloc _) _ _ _ [bv] rfl rfl (Blk.one (enc:=Val.cells) (x:=bv) (Blk.new' rfl) spA) smA mxA smA ?_);intro v2 w2 hown2 hg2 zu;obtain⟨A2,cq,hv2,_,_⟩:=hown2.form;rw[show (row ++ [bv]).length=row.length+1 by simp]at hv2;subst hv2;have hX2:=(HS4.out.box.alloc _).grown hg2 (fun e=>by have:=HS4.out.row.row _ e.symm;omega);have hZ2:=(HS4.out.res.alloc _).grown hg2 (fun e=>by have:=HS4.out.row.row _ e.symm;omega);have hS2:=(HS4.out.grow.below (brf.alloc nlr _)).app hg2 (fun q hq=>by have:=HS4.out.row.row q hq;omega) hbl hgl;have c4:=hX2.cell 4;simp only[Chg.cells,gE3]at c4;have hfz:=fun j=>hX2.frozen j;have HX2:=qh hX2;have GQ:=qh hown2;clear hown2 hX2 y0 y1 y2 q4))
  refine ai (P:=fun u=>Code.wp _ _ _ _ u) (R:=fun u=>SpX w g b ⟨kd,sq,dy,tb,A2,cq,row ++ [bv],key,cl,vl⟩ u) ⟨(by have h:=HX2.out.bM 4 (.slice A2 (row.length+1) cq);simpa[Chg.cells]using h),hZ2.far spA _,(by have h:=HX2.out;unfold Blk at h;simpa using GQ.out.iG (i:= 4) h (by decide) (.slice A2 (row.length+1) cq)),hS2.far nlr hbl hgl _⟩ ?_
  intro u6 hS6
  clear c4 hfz HX2 GQ hZ2 hS2 zu hg2
  have hm3:(row ++ [bv]).length=row.length+1:=by simp
  obtain⟨⟨q0,q1,q2,q3⟩,q4,⟨q5,q6,q7⟩,q8,q9,q10,q11⟩:=Chg.blk hS6.box
  simp only at q0 q1 q2 q3 q4 q5 q6 q7 q8 q9 q10 q11
  rw[hm3]at q4
  have c0:=hS6.res.cell 0
  have c1':=hS6.res.cell 1
  have c2:=hS6.res.cell 2
  have c3:=hS6.res.cell 3
  have c4:=hS6.res.cell 4
  have c5:=hS6.res.cell 5
  have c6:=hS6.res.cell 6
  have c7:=hS6.res.cell 7
  have c8:=hS6.res.cell 8
  have c9:=hS6.res.cell 9
  have c10:=hS6.res.cell 10
  have c11:=hS6.res.cell 11
  simp only[gE3]at c0 c1' c2 c3 c4 c5 c6 c7 c8 c9 c10 c11
  have hfr:=fun j=>hS6.res.frozen j
  have HS6:=qh hS6
  clear hS6
  go_wp2_with fail
  refine bodyPost_ret (v:= .agg (Chg.cells ⟨kd,sq,dy,tb,A2,cq,row ++ [bv],key,cl,vl⟩).toArray) fc rfl ?_
  exact HS6.out.fin hgl hbl ff rfl
 ·have hne:((r2:Int) == 0)=false∧((r2:Int) == 1)=false∧((r2:Int) == 2)=false∧((r2:Int) == 3)=false∧((r2:Int) == 4)=false∧((r2:Int) == 5)=false∧((r2:Int) == 6)=false∧((r2:Int) == 7)=false:=by
   simp only[beq_eq_false_iff_ne]
   omega
  obtain⟨e0,e1,e2,e3,e4,e5,e6,e7⟩:=hne
  have q4:=HS4.out.box.cell 4
  simp only[Chg.cells,gE3]at q4
  by_cases h0:0<row.length
  ·have h0':decide (0<(row.length:Int))=true:=by simpa using h0
   go_upto_region 5 with (fail)
   obtain⟨b1,rfl⟩:∃b1,A1=some ⟨b1,0,none⟩:=by
    rcases HS4.out.row.2 with ⟨_,h⟩|⟨q,cap,cur,h,_⟩
    ·simp only at h
     rw[h]at h0
     simp at h0
    ·injection h with h
     exact⟨q,h⟩
   clear e0 e1 e2 e3 e4 e5 e6 e7 q4 h0'
   have hz4:=HS4.out.grow.size
   refine uX 9 (fun u=>SpX w g b ⟨kd,sq,dy,tb,some ⟨b1,0,none⟩,c1,row,key,cl,vl⟩ u∧Blk u u2.heap.size 62 (Val.cells bv).toArray) (fun _ _=>True) (fun _ u =>∃x:Chg,x.row.length≤row.length+1∧SpX w g b x u) (FX w.heap.size g (some ⟨b1,0,none⟩) c1 row.length b1 bv)
    krA krA krA krA krA krA (fun k v u u' h _ _=>h.any) ⟨HS4.out.below brf.drew,HB4.out.drew⟩ ?_ ?_ ?_
   ·intro i hi o ho e u hR hev
    have c4:=hR.1.box.cell 4
    simp only[Chg.cells,gE3]at c4
    rcases i with _|_|_|_|_|_|_|_|_|i
    ·(simp only[gE3,Option.some.injEq]at ho;subst ho;refine⟨rfl,?_⟩;have hec:=hev.const;have hef:=hev.func)
     have he3:e (.tmp 3)=.pointer (some ⟨w.heap.size,0,none⟩):=(hev.far 3 krA).trans rfl
     clear hev c4
     go_simp
     exact⟨hR,rfl⟩
    ·(simp only[gE3,Option.some.injEq]at ho;subst ho;refine⟨rfl,?_⟩;have hec:=hev.const;have hef:=hev.func)
     have d:e (.tmp 26)=_:=hev.dep 0 26 krA (by rfl)
     clear hev
     go_simp
     exact⟨hR,rfl⟩
    ·(simp only[gE3,Option.some.injEq]at ho;subst ho;refine⟨rfl,?_⟩;have hec:=hev.const;have hef:=hev.func)
     have he0:e (.tmp 0)=.pointer (some ⟨g,0,none⟩):=(hev.far 0 krA).trans rfl
     clear hev c4
     go_simp
     exact⟨hR,rfl⟩
    ·(simp only[gE3,Option.some.injEq]at ho;subst ho;refine⟨rfl,?_⟩;have hec:=hev.const;have hef:=hev.func)
     have he3:e (.tmp 3)=.pointer (some ⟨w.heap.size,0,none⟩):=(hev.far 3 krA).trans rfl
     clear hev c4
     go_simp
     exact⟨hR,rfl⟩
    ·(simp only[gE3,Option.some.injEq]at ho;subst ho;refine⟨rfl,?_⟩;have hec:=hev.const;have hef:=hev.func)
     have d:e (.tmp 29)=_:=hev.dep 3 29 krA (by rfl)
     clear hev
     go_simp
     exact⟨hR,rfl⟩
    ·(simp only[gE3,Option.some.injEq]at ho;subst ho;refine⟨rfl,?_⟩;have hec:=hev.const;have hef:=hev.func)
     have d:e (.tmp 30)=_:=hev.dep 4 30 krA (by rfl)
     clear hev c4
     go_simp
     exact⟨hR,rfl⟩
    ·(simp only[gE3,Option.some.injEq]at ho;subst ho;refine⟨rfl,?_⟩;have hec:=hev.const;have hef:=hev.func)
     have d1:e (.tmp 28)=_:=hev.dep 2 28 krA (by rfl)
     have d2:e (.tmp 31)=_:=hev.dep 5 31 krA (by rfl)
     clear hev c4
     go_simp
     simp only[gz]
     refine(aA g b (row.length:Int) _ hR.1.grow.tape omA omA).mono ?_
     rintro x u' ⟨z,rfl,hz,hk',hg'⟩
     exact⟨_,rfl,⟨hR.1.call hgl hk' hg',hR.2.grown hg' inA⟩,z,by rcases hz with h|h<;>omega,rfl⟩
    ·(simp only[gE3,Option.some.injEq]at ho;subst ho;refine⟨rfl,?_⟩;have hec:=hev.const;have hef:=hev.func)
     have he5:e (.tmp 5)=.pointer (some ⟨u2.heap.size,0,none⟩):=(hev.far 5 krA).trans rfl
     have y0:=hR.2.cell 0
     have y1:=hR.2.cell 1
     have y2:=hR.2.cell 2
     simp only[Val.cells,gE3]at y0 y1 y2
     clear hev c4
     go_simp
     exact⟨hR,rfl⟩
    ·(simp only[gE3,Option.some.injEq]at ho;subst ho;refine⟨rfl,?_⟩;have hec:=hev.const;have hef:=hev.func)
     have d1:e (.tmp 27)=_:=hev.dep 1 27 krA (by rfl)
     obtain⟨z,hz,d2⟩:=hev.dep 6 32 krA (by rfl)
     have hzi:(z:Int)<(row.length:Int):=by omega
     clear hev c4
     go_simp
     exact⟨hR,z,hz,rfl⟩
    ·exfalso
     omega
   ·intro o ho e u hR hev
    (simp only[gE3,Option.some.injEq]at ho;subst ho;refine⟨rfl,?_⟩;have hec:=hev.const;have hef:=hev.func)
    obtain⟨z,hz,d1⟩:=hev.dep 8 34 krA (by rfl)
    have d2:e (.tmp 33)=_:=hev.dep 7 33 krA (by rfl)
    have hrw:=hR.1.row
    simp only at hrw
    have k0:=hrw.pE bP hz (j:= 0) (u:= .int .i64 row[z].kind) rfl
    have k1:=hrw.pE bP hz (j:= 1) (u:= .int .i64 row[z].num) rfl
    have k2:=hrw.pE bP hz (j:= 2) (u:= .string row[z].text) rfl
    have hfz:=fun j=>hrw.frz j
    have hb1:=hrw.row b1 rfl
    simp only[Nat.add_zero]at k0
    have hX1:=fun u0 u1 u2=>((hR.1.box.far (p:=⟨b1,z*3,none⟩) smA u0).far (p:=⟨b1,z*3+1,none⟩) smA u1).far (p:=⟨b1,z*3+2,none⟩) smA u2
    have hX2:=fun u0 u1 u2=>((hR.1.res.far (p:=⟨b1,z*3,none⟩) smA u0).far (p:=⟨b1,z*3+1,none⟩) smA u1).far (p:=⟨b1,z*3+2,none⟩) smA u2
    have hX3:=fun u0 u1 u2=>((hR.1.grow.far (p:=⟨b1,z*3,none⟩) smA hbl hgl u0).far (p:=⟨b1,z*3+1,none⟩) smA hbl hgl u1).far (p:=⟨b1,z*3+2,none⟩) smA hbl hgl u2
    have hX4:=xz hrw rfl hz bv
    have HX1:=qh hX1
    have HX2:=qh hX2
    have HX3:=qh hX3
    have HX4:=qh hX4
    clear hev hX1 hX2 hX3 hX4
    go_simp
    exact⟨⟨kd,sq,dy,tb,some ⟨b1,0,none⟩,c1,row.set z bv,key,cl,vl⟩,by simp,⟨by simpa[Chg.cells]using HX1.out _ _ _,HX2.out _ _ _,by simpa using HX4.out,HX3.out _ _ _⟩⟩
   ·rintro x0 u ⟨x,hxl,hS6⟩
    simp only[mg,fI,gE3,Option.bind_some,Option.bind_none,Act.put,List.setIfInBounds_toArray,List.set_cons_zero,List.set_cons_succ]
    clear HS4 HB4
    go_upto_region 22 with (fail)
    obtain⟨kd',sq',dy',tb',A',cc',row',key',cl',vl'⟩:=x
    obtain⟨⟨q0,q1,q2,q3⟩,q4,⟨q5,q6,q7⟩,q8,q9,q10,q11⟩:=Chg.blk hS6.box
    simp only at q0 q1 q2 q3 q4 q5 q6 q7 q8 q9 q10 q11
    have c0:=hS6.res.cell 0
    have c1':=hS6.res.cell 1
    have c2:=hS6.res.cell 2
    have c3:=hS6.res.cell 3
    have c4:=hS6.res.cell 4
    have c5:=hS6.res.cell 5
    have c6:=hS6.res.cell 6
    have c7:=hS6.res.cell 7
    have c8:=hS6.res.cell 8
    have c9:=hS6.res.cell 9
    have c10:=hS6.res.cell 10
    have c11:=hS6.res.cell 11
    simp only[gE3]at c0 c1' c2 c3 c4 c5 c6 c7 c8 c9 c10 c11
    have hfr:=fun j=>hS6.res.frozen j
    have HS6:=qh hS6
    clear hS6
    go_wp2_with fail
    refine bodyPost_ret (v:= .agg (Chg.cells ⟨kd',sq',dy',tb',A',cc',row',key',cl',vl'⟩).toArray) fc rfl ?_
    exact HS6.out.fin hgl hbl ff rfl
  ·have h0':decide (0<(row.length:Int))=false:=by simpa using h0
   go_upto_region 22 with (fail)
   refine ai (P:=fun u=>Code.wp _ _ _ _ u) (R:=fun u=>SpX w g b ⟨kd,sq,dy,tb,A1,c1,row,key,cl,vl⟩ u) HS4.out ?_
   intro u6 hS6
   clear q4 HS4 HB4 e0 e1 e2 e3 e4 e5 e6 e7
   obtain⟨⟨q0,q1,q2,q3⟩,q4,⟨q5,q6,q7⟩,q8,q9,q10,q11⟩:=Chg.blk hS6.box
   simp only at q0 q1 q2 q3 q4 q5 q6 q7 q8 q9 q10 q11
   have c0:=hS6.res.cell 0
   have c1':=hS6.res.cell 1
   have c2:=hS6.res.cell 2
   have c3:=hS6.res.cell 3
   have c4:=hS6.res.cell 4
   have c5:=hS6.res.cell 5
   have c6:=hS6.res.cell 6
   have c7:=hS6.res.cell 7
   have c8:=hS6.res.cell 8
   have c9:=hS6.res.cell 9
   have c10:=hS6.res.cell 10
   have c11:=hS6.res.cell 11
   simp only[gE3]at c0 c1' c2 c3 c4 c5 c6 c7 c8 c9 c10 c11
   have hfr:=fun j=>hS6.res.frozen j
   have HS6:=qh hS6
   clear hS6
   go_wp2_with fail
   refine bodyPost_ret (v:= .agg (Chg.cells ⟨kd,sq,dy,tb,A1,c1,row,key,cl,vl⟩).toArray) fc rfl ?_
   exact HS6.out.fin hgl hbl ff rfl
end Go.Proofs.YtebippoohpnjkaaGreat
