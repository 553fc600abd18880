/-
  Contracts and plain laws of this seat, part 81.
-/
import Derived.Test.YtjidligipoldeaaGreatT7
set_option linter.unusedVariables false
set_option linter.unusedSimpArgs false
set_option maxRecDepth 100000
set_option maxHeartbeats 16000000
namespace Go.Proofs.YtjidligipoldeaaGreat
open Go.RowKit Go
theorem rz(A A':Option Addr)(c c' n:Nat)(l:List Val)(w:World)(h1:ag w w.heap.size Val.cells 3 A l)(h2:ag w w.heap.size Val.cells 3 A' l)(hn:l.length=n)(hn6:n≤1000000):
 Calls Tryz.prog 92 #[.slice A n c,.slice A' n c'] w fun e w'=>e=.returned (.bool true)∧Below w.heap.size w w':=by
 subst hn
 have hg:Tryz.prog.eqGuardType Tryz.prog.depth 50=false:=by kernel_rfl
 have H1:=qh h1
 have H2:=qh h2
 clear h1 h2
 go_enter Tryz.func92,Tryz.ntmps92
 go_wp2_with fail
 go_loopw [5] (fun vi wr =>∃i:Nat,i≤l.length∧vi=.int .i64 i∧Below w.heap.size w wr) (fun vi _=>l.length-(intOf vi).toNat)
 case atStart=>exact⟨0,Nat.zero_le _,rfl,Below.refl _ _⟩
 case round =>
  obtain⟨i,hi,rfl,hbr⟩:=hrel
  have hwz:=hbr.size
  by_cases hlt:i<l.length
  ·obtain⟨b5,o5,rfl,hb5,hc5⟩:=(H1.out.below hbr).get hlt
   obtain⟨b6,o6,rfl,hb6,hc6⟩:=(H2.out.below hbr).get hlt
   obtain⟨p0,p1,p2⟩:=Val.cells3 hc5
   obtain⟨q0,q1,q2⟩:=Val.cells3 hc6
   have heq:=bu (x:=l[i]) (y:=l[i]) (b:=true) spA
   have hk0:=az (w:=wr) b5 omA
   have hk1:=az (w:=wr) b6 omA
   clear hc5 hc6
   go_upto_region 3 with (fail)
   refine af krA krA ?_;(repeat(go_big_quiet_step (fail)));refine wpQuiet_nil ?_;intro wq hq
   clear hk0 hk1 p0 p1 p2 q0 q1 q2 heq
   go_wp2_with fail
   go_roundw
   case rel=>exact⟨i+1,by omega,by go_num,aa hbr hq hwz⟩
   case measure=>exact meA
  ·have hlt':decide (i<l.length)=false:=by simpa using hlt
   go_wp2_with fail
   go_ret
   exact⟨rfl,hbr⟩
theorem xO(A A':Option Addr)(c c' n:Nat)(l:List Int)(w:World)(h1:ag w w.heap.size intCells 1 A l)(h2:ag w w.heap.size intCells 1 A' l)(hn:l.length=n)(hn6:n≤1000000):
 Calls Tryz.prog 127 #[.slice A n c,.slice A' n c'] w fun e w'=>e=.returned (.bool true)∧Below w.heap.size w w':=by
 subst hn
 have H1:=qh h1
 have H2:=qh h2
 clear h1 h2
 go_enter Tryz.func127,Tryz.ntmps127
 go_wp2_with fail
 go_loopw [5] (fun vi wr =>∃i:Nat,i≤l.length∧vi=.int .i64 i∧Below w.heap.size w wr) (fun vi _=>l.length-(intOf vi).toNat)
 case atStart=>exact⟨0,Nat.zero_le _,rfl,Below.refl _ _⟩
 case round =>
  obtain⟨i,hi,rfl,hbr⟩:=hrel
  have hwz:=hbr.size
  by_cases hlt:i<l.length
  ·obtain⟨b5,o5,rfl,hb5,hc5⟩:=(H1.out.below hbr).get hlt
   obtain⟨b6,o6,rfl,hb6,hc6⟩:=(H2.out.below hbr).get hlt
   have x0:=hc5 0 _ rfl
   have y0:=hc6 0 _ rfl
   simp only[Nat.mul_one,Nat.add_zero]at x0 y0
   obtain⟨z,hz⟩:∃z,l[i]=z:=⟨_,rfl⟩
   rw[hz]at x0 y0
   have hk0:=az (w:=wr) b5 omA
   have hk1:=az (w:=wr) b6 omA
   have hlt':decide (i<l.length)=true:=by simpa using hlt
   clear hc5 hc6 hz
   go_upto_region 3 with (fail)
   refine af krA krA ?_;(repeat(go_big_quiet_step (fail)));refine wpQuiet_nil ?_;intro wq hq
   clear hk0 hk1 x0 y0
   go_wp2_with fail
   go_roundw
   case rel=>exact⟨i+1,by omega,by go_num,aa hbr hq hwz⟩
   case measure=>exact meA
  ·have hlt':decide (i<l.length)=false:=by simpa using hlt
   go_wp2_with fail
   go_ret
   exact⟨rfl,hbr⟩
theorem uW(A A':Option Addr)(c c':Nat)(row:List Val)(SA SA':Option Addr)(sc sc':Nat)(sq:List Int)(dy:Int)(w:World)(h1:ag w w.heap.size Val.cells 3 A row)(h2:ag w w.heap.size Val.cells 3 A' row)(h3:ag w w.heap.size intCells 1 SA sq)(h4:ag w w.heap.size intCells 1 SA' sq)(hl:row.length≤1000000)(hs:sq.length≤1000000):
 Calls Tryz.prog 83 #[.agg #[.slice A row.length c,.slice SA sq.length sc,.int .i64 dy],.agg #[.slice A' row.length c',.slice SA' sq.length sc',.int .i64 dy]] w fun e w'=>e=.returned (.bool true)∧Below w.heap.size w w':=by
 have H1:=qh h1
 have H2:=qh h2
 have H3:=qh h3
 have H4:=qh h4
 clear h1 h2 h3 h4
 go_enter Tryz.func83,Tryz.ntmps83
 go_upto_region 1 with (fail)
 refine ah (P:=fun u=>Code.wp _ _ _ _ u) (R:=fun u=>Blk u w.heap.size 66 #[.slice A row.length c,.slice SA sq.length sc,.int .i64 dy]∧Blk u (w.heap.size+1) 66 #[.slice A' row.length c',.slice SA' sq.length sc',.int .i64 dy]∧Below w.heap.size w u) ⟨?_,?_,?_⟩ ?_
 ·exact(Blk.new _ _ _).alloc _
 ·exact Blk.new' spA
 ·exact ai
 rintro W ⟨hB,hB',hbW⟩
 have hzB:=hB'.lt
 have HB:=qh hB
 have HB':=qh hB'
 have p0:=hB.cell 0
 have p1:=hB.cell 1
 have p2:=hB.cell 2
 have q0:=hB'.cell 0
 have q1:=hB'.cell 1
 have q2:=hB'.cell 2
 simp only[gE3]at p0 p1 p2 q0 q1 q2
 clear hB hB'
 go_wp2_with (first
  | (go_at_call 92;(with_reducible refine(rz A A' c c' row.length row _ (H1.out.next hbW) (H2.out.next hbW) rfl hl).mono ?_);rintro e w1 ⟨rfl,hb1⟩;have hx1:=aa hbW hb1 hbW.size;have kk0:=bN hb1 w.heap.size omA;have kk1:=bN hb1 (w.heap.size+1) hzB;replace p1:=(kk0.1 _).trans p1;replace q1:=(kk1.1 _).trans q1;replace p2:=(kk0.1 _).trans p2;replace q2:=(kk1.1 _).trans q2;have hz1:=hb1.size;clear kk0 kk1)
  | (go_at_call 127;(with_reducible refine(xO SA SA' sc sc' sq.length sq _ (H3.out.next hx1) (H4.out.next hx1) rfl hs).mono ?_);rintro e w2 ⟨rfl,hb2⟩;have hx2:=aa hx1 hb2 hx1.size;have kk0:=bN hb2 w.heap.size omA;have kk1:=bN hb2 (w.heap.size+1) omA;replace p2:=(kk0.1 _).trans p2;replace q2:=(kk1.1 _).trans q2;clear kk0 kk1))
 go_ret
 exact⟨rfl,hx2⟩
theorem tJ(A A':Option Addr)(c c' n n':Nat)(recs lX:List Rcd)(w:World)(h1:bU w w.heap.size A recs)(h2:bU w w.heap.size A' lX)(hn:recs.length=n)(hn':lX.length=n')(hn6:n≤1000000)(hsr:∀x∈recs,x.row.length≤1000000∧x.seq.length≤1000000)(he:recs.map aA=lX.map aA):
 Calls Tryz.prog 38 #[.slice A n c,.slice A' n' c'] w fun e w'=>e=.returned (.bool true)∧Below w.heap.size w w':=by
 have hll:lX.length=recs.length:=by
  have h:=congrArg List.length he
  simpa using h.symm
 subst hn
 obtain rfl:n'=recs.length:=by omega
 have HR1:=qh h1
 have HR2:=qh h2
 have HS:=qh hsr
 have HP:=qh he
 have HL2:=qh hll
 clear h1 h2 hsr he hll hn'
 go_enter Tryz.func38,Tryz.ntmps38
 go_wp2_with fail
 go_loopw [5] (fun vj wr =>∃j:Nat,j≤recs.length∧vj=.int .i64 j∧Below w.heap.size w wr) (fun vj _=>recs.length-(intOf vj).toNat)
 case atStart=>exact⟨0,Nat.zero_le _,rfl,Below.refl _ _⟩
 case round =>
  obtain⟨j,hj,rfl,hbr⟩:=hrel
  have hwz:=hbr.size
  by_cases hjt:j<recs.length
  ·have Rx:j<lX.length:=by rw[HL2.out];exact hjt
   obtain⟨b7,o7,rfl,hb7,hc7⟩:=HR1.out.1.get hjt
   obtain⟨b8,o8,rfl,hb8,hc8⟩:=HR2.out.1.get Rx
   obtain⟨d0,d1,d2⟩:=Rcd.cells3 hc7
   obtain⟨e0,e1,e2⟩:=Rcd.cells3 hc8
   have hpj:aA recs[j]=aA lX[j]:=by
    have h1:(recs.map aA)[j]?=(lX.map aA)[j]?:= by rw[HP.out]
    rw[List.getElem?_map,List.getElem?_map,List.getElem?_eq_getElem hjt,List.getElem?_eq_getElem Rx]at h1
    exact Option.some.inj h1
   obtain⟨hrl,hsl⟩:=HS.out recs[j] (lgm hjt)
   obtain⟨r1,r2⟩:=HR1.out.2 recs[j] (lgm hjt)
   obtain⟨r3,r4⟩:=HR2.out.2 lX[j] (lgm Rx)
   obtain⟨⟨QA,qc,fM,QS,qs,su,qd⟩,hqr⟩:∃x:Rcd,recs[j]=x:=⟨_,rfl⟩
   obtain⟨⟨PA,pc,NZ,PS,ps,Wx,pd⟩,hpr⟩:∃x:Rcd,lX[j]=x:=⟨_,rfl⟩
   rw[hqr]at d0 d1 d2 hpj hrl hsl r1 r2
   rw[hpr]at e0 e1 e2 hpj r3 r4
   obtain⟨rfl,rfl,rfl⟩:fM=NZ∧su=Wx∧qd=pd:=⟨congrArg (fun z=>z.1) hpj,congrArg (fun z=>z.2.1) hpj,congrArg (fun z=>z.2.2) hpj⟩
   simp only at d0 d1 d2 e0 e1 e2 hrl hsl r1 r2 r3 r4
   replace d0:=(hbr.cell (p:=⟨b7,_,none⟩) hb7).trans d0
   replace d1:=(hbr.cell (p:=⟨b7,_,none⟩) hb7).trans d1
   replace d2:=(hbr.cell (p:=⟨b7,_,none⟩) hb7).trans d2
   replace e0:=(hbr.cell (p:=⟨b8,_,none⟩) hb8).trans e0
   replace e1:=(hbr.cell (p:=⟨b8,_,none⟩) hb8).trans e1
   replace e2:=(hbr.cell (p:=⟨b8,_,none⟩) hb8).trans e2
   have HQ1:=qh r1
   have HQ2:=qh r2
   have HQ3:=qh r3
   have HQ4:=qh r4
   have hk2:=az (w:=wr) b7 omA
   have hk3:=az (w:=wr) b8 omA
   have Xr:decide (j<recs.length)=true:=by simpa using hjt
   clear hc7 hc8 hqr hpr hpj r1 r2 r3 r4
   go_upto_region 3 with (fail)
   refine af krA krA ?_;(repeat(go_big_quiet_step ((go_at_call 83;with_reducible exact dN (uW QA PA qc pc fM QS PS qs ps su qd _ (HQ1.out.next (aa hbr (cZ.h _) hwz)) (HQ3.out.next (aa hbr (cZ.h _) hwz)) (HQ2.out.next (aa hbr (cZ.h _) hwz)) (HQ4.out.next (aa hbr (cZ.h _) hwz)) hrl hsl)))));refine wpQuiet_nil ?_;intro wq hq
   clear hk2 hk3 d0 d1 d2 e0 e1 e2
   go_wp2_with fail
   go_roundw
   case rel=>exact⟨j+1,by omega,by go_num,aa hbr hq hwz⟩
   case measure=>exact meA
  ·have Xr:decide (j<recs.length)=false:=by simpa using hjt
   go_wp2_with fail
   go_ret
   exact⟨rfl,hbr⟩
theorem lV(A A':Option Addr)(c c' n n':Nat)(recs lX:List Rcd)(w:World)(h1:bU w w.heap.size A recs)(h2:bU w w.heap.size A' lX)(hn:recs.length=n)(hn':lX.length=n')(hn6:n≤1000000)(hsr:∀x∈recs,x.row.length≤1000000∧x.seq.length≤1000000)(he:recs.map aA=lX.map aA):
 Calls Tryz.prog 11 #[.slice A n c,.slice A' n' c'] w fun e w'=>e=.returned (.bool true)∧Below w.heap.size w w':=by
 have H1:=qh h1
 have H2:=qh h2
 go_enter Tryz.func11,Tryz.ntmps11
 go_wp2_with (go_at_call 38;(with_reducible refine(tJ A A' c c' n n' recs lX _ H1.out H2.out hn hn' hn6 hsr he).mono ?_);rintro e w1 ⟨rfl,hb1⟩)
 go_ret
 exact⟨rfl,hb1⟩
theorem zo(A A':Option Addr)(c c' n:Nat)(l:List Val)(w:World)(h1:ag w w.heap.size Val.cells 3 A l)(h2:ag w w.heap.size Val.cells 3 A' l)(hn:l.length=n)(hn6:n≤1000000):
 Calls Tryz.prog 47 #[.slice A n c,.slice A' n c'] w fun e w'=>e=.returned (.bool true)∧Below w.heap.size w w':=by
 have H1:=qh h1
 have H2:=qh h2
 go_enter Tryz.func47,Tryz.ntmps47
 go_wp2_with (go_at_call 92;(with_reducible refine(rz A A' c c' n l _ H1.out H2.out hn hn6).mono ?_);rintro e w1 ⟨rfl,hb1⟩)
 go_ret
 exact⟨rfl,hb1⟩
theorem uV(kd sq dy tb:Int)(A0 A1:Option Addr)(cp cp1:Nat)(row:List Val)(key:Val)(cl:Int)(vl:Val)(w:World)(h1:ag w w.heap.size Val.cells 3 A0 row)(h2:ag w w.heap.size Val.cells 3 A1 row)(hl:row.length≤1000000):
 Calls Tryz.prog 19 #[.agg #[.int .i64 kd,.int .i64 sq,.int .i64 dy,.int .i64 tb,.slice A0 row.length cp,.int .i64 key.kind,.int .i64 key.num,.string key.text,.int .i64 cl,.int .i64 vl.kind,.int .i64 vl.num,.string vl.text],.agg #[.int .i64 kd,.int .i64 sq,.int .i64 dy,.int .i64 tb,.slice A1 row.length cp1,.int .i64 key.kind,.int .i64 key.num,.string key.text,.int .i64 cl,.int .i64 vl.kind,.int .i64 vl.num,.string vl.text]] w fun e w'=>e=.returned (.bool true)∧Below w.heap.size w w':=by
 have H1:=qh h1
 have H2:=qh h2
 have hgt:Tryz.prog.eqGuardType Tryz.prog.depth 50=false:=by kernel_rfl
 have eq1:=bu (x:=key) (y:=key) (decide_eq_true rfl)
 have eq2:=bu (x:=vl) (y:=vl) (decide_eq_true rfl)
 clear h1 h2
 go_enter Tryz.func19,Tryz.ntmps19
 go_upto_region 1 with (fail)
 refine ah (P:=fun u=>Code.wp _ _ _ _ u) (R:=fun u=>Blk u w.heap.size 52 #[.int .i64 kd,.int .i64 sq,.int .i64 dy,.int .i64 tb,.slice A0 row.length cp,.int .i64 key.kind,.int .i64 key.num,.string key.text,.int .i64 cl,.int .i64 vl.kind,.int .i64 vl.num,.string vl.text]∧Blk u (w.heap.size+1) 52 #[.int .i64 kd,.int .i64 sq,.int .i64 dy,.int .i64 tb,.slice A1 row.length cp1,.int .i64 key.kind,.int .i64 key.num,.string key.text,.int .i64 cl,.int .i64 vl.kind,.int .i64 vl.num,.string vl.text]∧Below w.heap.size w u) ⟨?_,?_,?_⟩ ?_
 ·exact(Blk.new _ _ _).alloc _
 ·exact Blk.new' spA
 ·exact ai
 rintro W ⟨hB,hB',hbW⟩
 have hzA:=hB.lt
 have hzB:=hB'.lt
 have HB:=qh hB
 have HB':=qh hB'
 obtain⟨⟨a0,a1,a2,a3⟩,a4,⟨a5,a6,a7⟩,a8,a9,a10,a11⟩:=Chg.eF (x:=⟨kd,sq,dy,tb,A0,cp,row,key,cl,vl⟩) hB
 obtain⟨⟨e0,e1,e2,e3⟩,e4,⟨e5,e6,e7⟩,e8,e9,e10,e11⟩:=Chg.eF (x:=⟨kd,sq,dy,tb,A1,cp1,row,key,cl,vl⟩) hB'
 simp only at a0 a1 a2 a3 a4 a5 a6 a7 a8 a9 a10 a11 e0 e1 e2 e3 e4 e5 e6 e7 e8 e9 e10 e11
 clear hB hB'
 go_wp2_with (focus (
  (go_at_call 47;(with_reducible refine(zo A0 A1 cp cp1 row.length row _ (H1.out.next hbW) (H2.out.next hbW) rfl hl).mono ?_))
  rintro e w1 ⟨rfl,hb1⟩
  have hx1:=aa hbW hb1 hbW.size
  clear a0 a1 a2 a3 a4 a5 a6 a7 a8 a9 a10 a11 e0 e1 e2 e3 e4 e5 e6 e7 e8 e9 e10 e11
  obtain⟨⟨a0,a1,a2,a3⟩,a4,⟨a5,a6,a7⟩,a8,a9,a10,a11⟩:=Chg.eF (x:=⟨kd,sq,dy,tb,A0,cp,row,key,cl,vl⟩) (HB.out.below hb1 hzA)
  obtain⟨⟨e0,e1,e2,e3⟩,e4,⟨e5,e6,e7⟩,e8,e9,e10,e11⟩:=Chg.eF (x:=⟨kd,sq,dy,tb,A1,cp1,row,key,cl,vl⟩) (HB'.out.below hb1 hzB)
  simp only at a0 a1 a2 a3 a4 a5 a6 a7 a8 a9 a10 a11 e0 e1 e2 e3 e4 e5 e6 e7 e8 e9 e10 e11))
 go_ret
 exact⟨rfl,hx1⟩
end Go.Proofs.YtjidligipoldeaaGreat
