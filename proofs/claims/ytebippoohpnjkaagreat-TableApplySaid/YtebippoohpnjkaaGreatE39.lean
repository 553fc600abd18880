/-
  Contracts and plain laws of this seat, part 39.
-/
import Derived.Test.YtebippoohpnjkaaGreatE35
import Derived.Test.YtebippoohpnjkaaGreatE36
set_option linter.unusedVariables false
set_option linter.unusedSimpArgs false
set_option maxRecDepth 100000
set_option maxHeartbeats 16000000
namespace Go.Proofs.YtebippoohpnjkaaGreat
open Go.RowKit
variable {o:Oth}
theorem zy(A:Option Addr)(c m:Nat)(ts:List Tab)(RA:Option Addr)(rc n:Nat)(rt:List RTab)(kd sq dy tb:Int)(A0:Option Addr)(cp:Nat)(row:List Val)(key:Val)(cl:Int)(vl:Val)(w:World)(ht:aM w w.heap.size A ts)(hm:ts.length=m)(hs:aK ts)(iw:aX ts)(hcg:fq w w.heap.size A c ts o)(hrt:aJ w w.heap.size RA rt)(hn:rt.length=n)(hsr:dQ rt)(hR:ai w w.heap.size Val.cells 3 A0 row)(hrl:row.length≤1000000){z:Int}(hz:dZ ts rt ⟨kd,sq,dy,tb,A0,cp,row,key,cl,vl⟩=z):
 Calls Tryz.prog 45 #[.agg #[.slice A m c,.slice o.vA 0 o.vc,.slice o.iA o.idx.length o.ic,.slice o.sA o.skt.length o.sc,.slice o.cA o.cch.length o.cc,.slice o.rA o.rel.length o.rc,.slice o.tA o.str.length o.tc,.slice o.bA o.bak.length o.bc],.slice RA n rc,.agg #[.int .i64 kd,.int .i64 sq,.int .i64 dy,.int .i64 tb,.slice A0 row.length cp,.int .i64 key.kind,.int .i64 key.num,.string key.text,.int .i64 cl,.int .i64 vl.kind,.int .i64 vl.num,.string vl.text]] w (fun e w'=>(∃A' c' m' l',e=.returned (.tuple #[.slice A' m' c',.int .i64 z])∧(z=0→m'=n∧l'.length=n∧aJ w' w'.heap.size A' l'∧RUp w.heap.size A' l'∧ed ts l'∧l'.map aG=aT (rt.map aG) ⟨kd,sq,dy,tb,A0,cp,row,key,cl,vl⟩)∧(z≠0→A'=none∧m'=0∧c'=0))∧Below w.heap.size w w'):=by
 subst hm hn
 have HZ:=qh hz
 have HT:=qh ht
 have uN:=qh iw
 have HCG:=qh hcg
 have HS:=qh hs
 have HRT:=qh hrt
 have HSR:=qh hsr
 have HR:=qh hR
 clear hz ht hs iw hcg hrt hsr hR
 go_enter Tryz.func45,Tryz.ntmps45
 go_upto_region 1 with (fail)
 refine aj (P:=fun u=>Code.wp _ _ _ _ u) (R:=fun u=>Blk u w.heap.size 39 #[.slice A ts.length c,.slice o.vA 0 o.vc,.slice o.iA o.idx.length o.ic,.slice o.sA o.skt.length o.sc,.slice o.cA o.cch.length o.cc,.slice o.rA o.rel.length o.rc,.slice o.tA o.str.length o.tc,.slice o.bA o.bak.length o.bc]∧Blk u (w.heap.size+1) 64 (Chg.cells ⟨kd,sq,dy,tb,A0,cp,row,key,cl,vl⟩).toArray∧Below w.heap.size w u) ⟨?_,?_,?_⟩ ?_
 ·exact(Blk.new _ _ _).alloc _
 ·exact Blk.new' spA
 ·exact ak
 rintro W ⟨hC,hX,hbW⟩
 have hzW:=hX.lt
 have HC:=qh hC
 have HX:=qh hX
 obtain⟨p0,p1,p2,p3,p4,p5,p6,p7⟩:=Cat.bG hC
 obtain⟨⟨q0,q1,q2,q3⟩,q4,⟨q5,q6,q7⟩,q8,q9,q10,q11⟩:=Chg.blk hX
 simp only at q0 q1 q2 q3 q4 q5 q6 q7 q8 q9 q10 q11
 clear hC hX
 go_wp2_with fail
 (with_reducible refine(ui A c ts.length ts RA rc rt.length rt kd sq dy tb A0 cp row key cl vl _ (HT.out.next (ae hbW brf hbW.size)) rfl HS.out uN.out (HCG.out.next (ae hbW brf hbW.size)) (HRT.out.next (ae hbW brf hbW.size)) rfl HSR.out (HR.out.next (ae hbW brf hbW.size)) hrl HZ.out).mono ?_)
 rintro e w1 ⟨rfl,hb1⟩
 clear p0 p1 p2 p3 p4 p5 p6 p7 q0 q1 q2 q3 q4 q5 q6 q7 q8 q9 q10 q11
 have hx1:=ae hbW hb1 hbW.size
 have hz1:=hb1.size
 by_cases hz0:z=0
 rotate_left
 ·have hz0':(z != 0)=true:=by simpa using hz0
  have HZ0:=qh hz0
  clear hz0
  go_wp2_with fail
  go_ret2
  exact⟨⟨none,0,0,[],rfl,fun h=>absurd h HZ0.out,fun _=>⟨rfl,rfl,rfl⟩⟩,hx1⟩
 have HCZ:=qh (lu (HZ.out.trans hz0))
 have HZ0:=qh hz0
 have hz0':(z != 0)=false:=by rw[hz0];rfl
 obtain⟨k,hin⟩:=iO HCZ.out.2
 have HIN:=qh hin
 have hX1:=HX.out.below hb1 hzW
 have hC1:=HC.out.below hb1 omA
 obtain⟨p0,p1,p2,p3,p4,p5,p6,p7⟩:=Cat.bG hC1
 obtain⟨⟨q0,q1,q2,q3⟩,q4,⟨q5,q6,q7⟩,q8,q9,q10,q11⟩:=Chg.blk hX1
 simp only at q0 q1 q2 q3 q4 q5 q6 q7 q8 q9 q10 q11
 clear hC1 hX1 hin hz0
 go_wp2_with fail
 (with_reducible refine(lI ts RA rc rt.length rt k kd sq dy tb A0 cp row key cl vl _ (HRT.out.next (ae hx1 brf hx1.size)) rfl HCZ.out.1.shape HCZ.out.1.cat (HR.out.next (ae hx1 brf hx1.size)) HIN.out).mono ?_)
 rintro e w2 ⟨⟨A',c',l',rfl,hl1,hl2,hl3,hl4⟩,hb2⟩
 have HL:=qh (And.intro hl1 (And.intro hl2 (And.intro hl3 hl4)))
 have HZZ:Hid (z=0):=HZ0
 clear hl1 hl2 hl3 hl4
 clear p0 p1 p2 p3 p4 p5 p6 p7 q0 q1 q2 q3 q4 q5 q6 q7 q8 q9 q10 q11
 go_wp2_with fail
 go_ret2
 have JL:=HZZ.out
 subst JL
 refine⟨⟨A',c',rt.length,l',rfl,fun _=>⟨rfl,HL.out.1,HL.out.2.1,HL.out.2.2.1.mono hx1.size,?_,HL.out.2.2.2⟩,fun h=>absurd rfl h⟩,ae hx1 hb2 hx1.size⟩
 show iU ts (l'.map aG)
 rw[HL.out.2.2.2]
 exact iU.Bi HCZ.out.1.shape HIN.out
open Go.RowKit Go
variable {o:Oth}
theorem Fq{ts:List Tab}{n:Nat}{A:Option Addr}{m c:Nat}{l:List RTab}{w:World}{z:Int}{pl:List (List cK)}{B:Nat}(hok:aX ts)(h0:z=0→m=n∧l.length=n∧aJ w w.heap.size A l∧RUp B A l∧ed ts l∧l.map aG=pl)(h1:z≠0→A=none∧m=0∧c=0):
 ∃l',l'.length=m∧aJ w w.heap.size A l'∧dQ l'∧l'.map aG=if z=0 then pl else []:=by
 by_cases hz:z=0
 ·obtain⟨rfl,h3,h4,_,h5,h6⟩:=h0 hz
  exact⟨l,h3,h4,h5.bH hok,by rw[if_pos hz,h6]⟩
 ·obtain⟨rfl,rfl,rfl⟩:=h1 hz
  refine⟨[],rfl,⟨fun h=>by simp at h,by simp⟩,⟨by simp,by simp,by simp,by simp⟩,by rw[if_neg hz];rfl⟩
theorem pI(A:Option Addr)(c m:Nat)(ts:List Tab)(RA:Option Addr)(rc n:Nat)(rt:List RTab)(kd sq dy tb:Int)(A0:Option Addr)(cp:Nat)(row:List Val)(key:Val)(cl:Int)(vl:Val)(w:World)(ht:aM w w.heap.size A ts)(hm:ts.length=m)(hs:aK ts)(hok:aX ts)(hcg:fq w w.heap.size A c ts o)(hrt:aJ w w.heap.size RA rt)(hn:rt.length=n)(hsr:dQ rt)(hR:ai w w.heap.size Val.cells 3 A0 row)(hrl:row.length≤1000000):
 Calls Tryz.prog 29 #[.agg #[.slice A m c,.slice o.vA 0 o.vc,.slice o.iA o.idx.length o.ic,.slice o.sA o.skt.length o.sc,.slice o.cA o.cch.length o.cc,.slice o.rA o.rel.length o.rc,.slice o.tA o.str.length o.tc,.slice o.bA o.bak.length o.bc],.slice RA n rc,.agg #[.int .i64 kd,.int .i64 sq,.int .i64 dy,.int .i64 tb,.slice A0 row.length cp,.int .i64 key.kind,.int .i64 key.num,.string key.text,.int .i64 cl,.int .i64 vl.kind,.int .i64 vl.num,.string vl.text]] w fun e w'=>e=.returned (.bool true)∧Below w.heap.size w w':=by
 subst hm hn
 obtain⟨z,hz⟩:∃z,dZ ts rt ⟨kd,sq,dy,tb,A0,cp,row,key,cl,vl⟩=z:=⟨_,rfl⟩
 have HZ:=qh hz
 have HT:=qh ht
 have HS:=qh hs
 have HOK:=qh hok
 have HCG:=qh hcg
 have HRT:=qh hrt
 have HSR:=qh hsr
 have HR:=qh hR
 clear hz ht hs hok hcg hrt hsr hR
 go_enter Tryz.func29,Tryz.ntmps29
 go_upto_region 1 with (fail)
 refine aj (P:=fun u=>Code.wp _ _ _ _ u) (R:=fun u=>Blk u w.heap.size 39 #[.slice A ts.length c,.slice o.vA 0 o.vc,.slice o.iA o.idx.length o.ic,.slice o.sA o.skt.length o.sc,.slice o.cA o.cch.length o.cc,.slice o.rA o.rel.length o.rc,.slice o.tA o.str.length o.tc,.slice o.bA o.bak.length o.bc]∧Blk u (w.heap.size+1) 64 (Chg.cells ⟨kd,sq,dy,tb,A0,cp,row,key,cl,vl⟩).toArray∧Below w.heap.size w u) ⟨?_,?_,?_⟩ ?_
 ·exact(Blk.new _ _ _).alloc _
 ·exact Blk.new' spA
 ·exact ak
 rintro W ⟨hC,hX,hbW⟩
 have hzW:=hX.lt
 have HC:=qh hC
 have HX:=qh hX
 obtain⟨p0,p1,p2,p3,p4,p5,p6,p7⟩:=Cat.bG hC
 obtain⟨⟨q0,q1,q2,q3⟩,q4,⟨q5,q6,q7⟩,q8,q9,q10,q11⟩:=Chg.blk hX
 simp only at q0 q1 q2 q3 q4 q5 q6 q7 q8 q9 q10 q11
 clear hC hX
 go_upto_region 2 with (go_at_call 72;(with_reducible refine(Dc A c ts.length ts RA rc rt.length rt kd sq dy tb A0 cp row key cl vl _ (HT.out.next hbW) rfl HS.out HOK.out (HCG.out.next hbW) (HRT.out.next hbW) rfl HSR.out (HR.out.next hbW) hrl HZ.out).mono ?_);rintro e w1 ⟨⟨A1,c1,m1,l1,rfl,h10,h11⟩,hb1⟩)
 obtain⟨l1',h12,h13,h14,h15⟩:=Fq HOK.out h10 h11
 have H12:=qh h12
 have H13:=qh h13
 have H14:=qh h14
 have H15:=qh h15
 clear h10 h11 h12 h13 h14 h15
 clear p0 p1 p2 p3 p4 p5 p6 p7 q0 q1 q2 q3 q4 q5 q6 q7 q8 q9 q10 q11
 have hx1:=ae hbW hb1 hbW.size
 have hz1:=hb1.size
 have hC1:=HC.out.below hb1 omA
 have hX1:=HX.out.below hb1 hzW
 obtain⟨p0,p1,p2,p3,p4,p5,p6,p7⟩:=Cat.bG hC1
 obtain⟨⟨q0,q1,q2,q3⟩,q4,⟨q5,q6,q7⟩,q8,q9,q10,q11⟩:=Chg.blk hX1
 simp only at q0 q1 q2 q3 q4 q5 q6 q7 q8 q9 q10 q11
 clear hC1 hX1
 go_upto_region 3 with (go_at_call 45;(with_reducible refine(zy A c ts.length ts RA rc rt.length rt kd sq dy tb A0 cp row key cl vl _ (HT.out.next hx1) rfl HS.out HOK.out (HCG.out.next hx1) (HRT.out.next hx1) rfl HSR.out (HR.out.next hx1) hrl HZ.out).mono ?_);rintro e w2 ⟨⟨A2,c2,m2,l2,rfl,h20,h21⟩,hb2⟩)
 obtain⟨l2',h22,h23,h24,h25⟩:=Fq HOK.out h20 h21
 have H22:=qh h22
 have H23:=qh h23
 have H25:=qh h25
 clear h20 h21 h22 h23 h24 h25
 clear p0 p1 p2 p3 p4 p5 p6 p7 q0 q1 q2 q3 q4 q5 q6 q7 q8 q9 q10 q11
 have hx2:=ae hx1 hb2 hx1.size
 have hy2:=ae hb1 hb2 hb1.size
 have hz2:=hb2.size
 have hC2:=HC.out.below hy2 omA
 have hX2:=HX.out.below hy2 hzW
 obtain⟨p0,p1,p2,p3,p4,p5,p6,p7⟩:=Cat.bG hC2
 obtain⟨⟨q0,q1,q2,q3⟩,q4,⟨q5,q6,q7⟩,q8,q9,q10,q11⟩:=Chg.blk hX2
 simp only at q0 q1 q2 q3 q4 q5 q6 q7 q8 q9 q10 q11
 clear hC2 hX2
 go_wp2_with (first
  | (go_at_call 69;(with_reducible refine(vv A c ts.length ts RA rc rt.length rt kd sq dy tb A0 cp row key cl vl _ (HT.out.next hx2) rfl HS.out HOK.out (HCG.out.next hx2) (HRT.out.next hx2) rfl HSR.out (HR.out.next hx2) hrl HZ.out).mono ?_);rintro e w3 ⟨rfl,hb3⟩;have hx3:=ae hx2 hb3 hx2.size;have hz3:=hb3.size)
  | (go_at_call 25;(with_reducible refine(pX A1 A2 c1 c2 m1 m2 l1' l2' _ (H13.out.next (ae hb2 hb3 hb2.size)) (H23.out.next hb3) H12.out H22.out H14.out (H15.out.trans H25.out.symm)).mono ?_);rintro e w4 ⟨rfl,hb4⟩;have hx4:=ae hx3 hb4 hx3.size))
 go_ret
 exact⟨rfl,hx4⟩
theorem kE(A:Option Addr)(c m:Nat)(ts:List Tab)(RA:Option Addr)(rc n:Nat)(rt:List RTab)(kd sq dy tb:Int)(A0:Option Addr)(cp:Nat)(row:List Val)(key:Val)(cl:Int)(vl:Val)(w:World)(ht:aM w w.heap.size A ts)(hm:ts.length=m)(hs:aK ts)(hok:aX ts)(hrt:aJ w w.heap.size RA rt)(hn:rt.length=n)(hsr:dQ rt)(hR:ai w w.heap.size Val.cells 3 A0 row)(hrl:row.length≤1000000):
 Calls Tryz.prog 29 #[.agg #[.slice A m c,.slice none 0 0,.slice none 0 0,.slice none 0 0,.slice none 0 0,.slice none 0 0,.slice none 0 0,.slice none 0 0],.slice RA n rc,.agg #[.int .i64 kd,.int .i64 sq,.int .i64 dy,.int .i64 tb,.slice A0 row.length cp,.int .i64 key.kind,.int .i64 key.num,.string key.text,.int .i64 cl,.int .i64 vl.kind,.int .i64 vl.num,.string vl.text]] w fun e w'=>e=.returned (.bool true)∧Below w.heap.size w w':=
 pI (o:=Oth.nil) A c m ts RA rc n rt kd sq dy tb A0 cp row key cl vl w ht hm hs hok (fq.nil ht hs hok) hrt hn hsr hR hrl
end Go.Proofs.YtebippoohpnjkaaGreat
