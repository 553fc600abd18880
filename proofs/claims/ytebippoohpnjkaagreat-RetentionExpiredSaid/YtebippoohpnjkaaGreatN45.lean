/-
  Contracts and plain laws of this seat, part 45.
-/
import Derived.Test.YtebippoohpnjkaaGreatN26
set_option linter.unusedVariables false
set_option linter.unusedSimpArgs false
set_option maxRecDepth 100000
set_option maxHeartbeats 16000000
namespace Go.Proofs.YtebippoohpnjkaaGreat
open Go.RowKit Go
theorem AY(A:Option Addr)(c m:Nat)(ts:List Tab)(o:Oth)(x:aF)(w:World)(ht:aM w w.heap.size A ts)(hm:ts.length=m)(hs:aL ts)(ho:bO w w.heap.size o)(hso:cZ o)(h16:fD o){r:Int}(hr:utE ts o x=r):
 Calls Tryz.prog 16 #[.agg #[.slice A m c,.slice o.vA 0 o.vc,.slice o.iA o.idx.length o.ic,.slice o.sA o.skt.length o.sc,.slice o.cA o.cch.length o.cc,.slice o.rA o.rel.length o.rc,.slice o.tA o.str.length o.tc,.slice o.bA o.bak.length o.bc],.agg #[.int .i64 x.table,.int .i64 x.col,.int .i64 x.seq,.int .i64 x.record,.int .i64 x.day,.slice x.A x.own.length x.cap,.bool x.null,.bool x.last]] w fun e w'=>e=.returned (.int .i64 r)∧Below w.heap.size w w':=by
 subst hm hr
 obtain⟨r0,hr0⟩:∃b,pb (bT ts o)=b:=⟨_,rfl⟩
 have yT:=qh fun(u:World) (hu:Below w.heap.size w u)=>kr A c ts.length ts o u (ht.next hu) rfl hs (ho.next hu) hso h16 hr0
 have HT:=qh ht.1
 have HT2:=qh ht.2
 have HR0:=qh hr0
 clear ht hs ho hso h16 hr0
 go_enter Tryz.func16,Tryz.ntmps16
 go_upto_region 2 with (fail)
 refine au (P:=fun u=>Code.wp _ _ _ _ u) (R:=fun u=>Blk u w.heap.size 39 #[.slice A ts.length c,.slice o.vA 0 o.vc,.slice o.iA o.idx.length o.ic,.slice o.sA o.skt.length o.sc,.slice o.cA o.cch.length o.cc,.slice o.rA o.rel.length o.rc,.slice o.tA o.str.length o.tc,.slice o.bA o.bak.length o.bc]∧Blk u (w.heap.size+1) 27 #[.int .i64 x.table,.int .i64 x.col,.int .i64 x.seq,.int .i64 x.record,.int .i64 x.day,.slice x.A x.own.length x.cap,.bool x.null,.bool x.last]∧Blk u (w.heap.size+1+1) 24 #[.int .i64 x.table,.int .i64 x.col,.int .i64 x.seq]∧Below w.heap.size w u) ⟨?_,?_,?_,?_⟩ ?_
 ·exact((Blk.new _ _ _).alloc _).alloc _
 ·exact(Blk.new' spA).alloc _
 ·exact Blk.new' spA
 ·exact av
 rintro W ⟨hC,hO,hV,hbW⟩
 obtain⟨p0,p1,p2,p3,p4,p5,p6,p7⟩:=Cat.bF hC
 have d4:=hO.cell 4
 have v0:=hV.cell 0
 have v1:=hV.cell 1
 simp only[gE3]at d4 v0 v1
 have hVz:=hV.lt
 have hk0:=aK (w:=W) w.heap.size omA
 have hk1:=aK (w:=W) (w.heap.size+1) omA
 have hk2:=aK (w:=W) (w.heap.size+1+1) omA
 clear hC hO hV
 cases r0
 ·have HE0:Hid (utE ts o x=0):=qh (Ja x fun h=>by(have h1:=HR0.out;rw[aW h]at h1;cases h1))
  refine ag krA krA ?_;(repeat(go_big_quiet_step ((go_at_call 37;with_reducible exact bI (yT.out _ (ae hbW (bG.h _) hbW.size))))));refine wpQuiet_nil ?_;intro wq hq
  go_wp2_with fail
  go_ret
  exact⟨az HE0.out.symm,ae hbW hq hbW.size⟩
 have SQ:=qh (eF.1 HR0.out)
 have HOK:=qh SQ.out.1
 have HU:=qh (Av x SQ.out)
 cases e1:decide (x.table<0)
 case true =>
  have HE0:Hid (utE ts o x=0):=qh (by rw[HU.out,nN (.inl (of_decide_eq_true e1))])
  refine ag krA krA ?_;(repeat(go_big_quiet_step ((go_at_call 37;with_reducible exact bI (yT.out _ (ae hbW (bG.h _) hbW.size))))));refine wpQuiet_nil ?_;intro wq hq
  go_wp2_with fail
  go_ret
  exact⟨az HE0.out.symm,ae hbW hq hbW.size⟩
 cases e2:decide ((ts.length:Int)≤x.table)
 case true =>
  have HE0:Hid (utE ts o x=0):=qh (by rw[HU.out,nN (.inr (.inl (of_decide_eq_true e2)))])
  refine ag krA krA ?_;(repeat(go_big_quiet_step ((go_at_call 37;with_reducible exact bI (yT.out _ (ae hbW (bG.h _) hbW.size))))));refine wpQuiet_nil ?_;intro wq hq
  go_wp2_with fail
  go_ret
  exact⟨az HE0.out.symm,ae hbW hq hbW.size⟩
 cases e3:decide (x.col<0)
 case true =>
  have HE0:Hid (utE ts o x=0):=qh (by
   rw[HU.out]
   unfold endE
   split
   ·split
    ·rw[if_neg (by have:=of_decide_eq_true e3;omega)]
    ·rfl
   ·rfl)
  refine ag krA krA ?_;(repeat(go_big_quiet_step ((go_at_call 37;with_reducible exact bI (yT.out _ (ae hbW (bG.h _) hbW.size))))));refine wpQuiet_nil ?_;intro wq hq
  go_wp2_with fail
  go_ret
  exact⟨az HE0.out.symm,ae hbW hq hbW.size⟩
 have g1:=of_decide_eq_false e1
 have g2:=of_decide_eq_false e2
 have g3:=of_decide_eq_false e3
 obtain⟨k,hk⟩:∃k:Nat,x.table=(k:Int):=⟨x.table.toNat,by omega⟩
 obtain⟨j,hj⟩:∃j:Nat,x.col=(j:Int):=⟨x.col.toNat,by omega⟩
 have hkl:k<ts.length:=by omega
 obtain⟨b5,o5,rfl,hb5,hc5⟩:=(HT.out.below hbW).get hkl
 obtain⟨t0,t1,t2,t3⟩:=Tab.df hc5
 have HCS:Hid (ah w w.heap.size Col.cells 7 ts[k].A ts[k].af):=qh (HT2.out ts[k] (lgm hkl)).1
 obtain⟨b6,o6,he6,hb6,_⟩:=(HCS.out.below hbW).get (HOK.out.af hkl).1
 rw[he6]at t1
 have hk5:=aK (w:=W) b5 omA
 have hk6:=aK (w:=W) b6 (by have:=hbW.size;omega)
 rw[hk]at v0 e1 e2
 rw[hj]at v1 e3
 have HK:=qh hk
 have HJ:=qh hj
 obtain⟨cl,hcl⟩:∃cl,ts[k].af.length=cl:=⟨_,rfl⟩
 rw[hcl]at t1
 have HCL:=qh hcl
 clear hc5 t0 t2 t3 hk hj hcl g1 g2 g3
 have hkt:k<ts.length:=hkl
 have e2n:decide (ts.length≤k)=false:=by simp;omega
 by_cases hjl:j<cl
 case neg =>
  have e4:decide ((cl:Int)≤(j:Int))=true:=by simp;omega
  have e4n:decide (cl≤j)=true:=by simp;omega
  have HE0:Hid (utE ts o x=0):=qh (by
   rw[HU.out]
   unfold endE
   split
   ·rw[HK.out,Int.toNat_natCast,List.getElem?_eq_getElem hkl,HJ.out]
    simp only
    rw[Int.toNat_natCast,List.getElem?_eq_none (by rw[HCL.out];omega)]
    simp
   ·rfl)
  clear hjl
  refine ag krA krA ?_;(repeat(go_big_quiet_step ((go_at_call 37;with_reducible exact bI (yT.out _ (ae hbW (bG.h _) hbW.size))))));refine wpQuiet_nil ?_;intro wq hq
  go_wp2_with fail
  go_ret
  exact⟨az HE0.out.symm,ae hbW hq hbW.size⟩
 have e4:decide ((cl:Int)≤(j:Int))=false:=by simp;omega
 have e4n:decide (cl≤j)=false:=by simp;omega
 cases e5:decide (x.day<0)
 case true =>
  have HE0:Hid (utE ts o x=0):=qh (by rw[HU.out,nN (.inr (.inr (.inl (of_decide_eq_true e5))))])
  refine ag krA krA ?_;(repeat(go_big_quiet_step ((go_at_call 37;with_reducible exact bI (yT.out _ (ae hbW (bG.h _) hbW.size))))));refine wpQuiet_nil ?_;intro wq hq
  go_wp2_with fail
  go_ret
  exact⟨az HE0.out.symm,ae hbW hq hbW.size⟩
 cases e6:decide (1048576<x.day)
 case true =>
  have HE0:Hid (utE ts o x=0):=qh (by rw[HU.out,nN (.inr (.inr (.inr (of_decide_eq_true e6))))])
  refine ag krA krA ?_;(repeat(go_big_quiet_step ((go_at_call 37;with_reducible exact bI (yT.out _ (ae hbW (bG.h _) hbW.size))))));refine wpQuiet_nil ?_;intro wq hq
  go_wp2_with fail
  go_ret
  exact⟨az HE0.out.symm,ae hbW hq hbW.size⟩
 have d1:0≤x.day:=by have:=of_decide_eq_false e5;omega
 have d2:x.day≤1048576:=by have:=of_decide_eq_false e6;omega
 have zG:j<ts[k].af.length:=by rw[HCL.out];exact hjl
 obtain⟨b6',o6',BQ,_,hc6⟩:=(HCS.out.below hbW).get zG
 rw[he6]at BQ
 injection BQ with BQ
 injection BQ with he1 he2
 subst he1 he2
 obtain⟨_,_,_,_,_,_,c6⟩:=Col.dz hc6
 have HE0:Hid (utE ts o x=if ts[k].af[j].cu=0 then 0 else x.day+ts[k].af[j].cu):=qh (by
  rw[HU.out,Gj hkl HK.out d1 d2,if_pos (by rw[HJ.out];omega),HJ.out,Int.toNat_natCast,List.getElem?_eq_getElem zG])
 have hdu:=(HOK.out.Ny hkl zG).cu
 rw[aG,Bool.and_eq_true,decide_eq_true_iff,decide_eq_true_iff]at hdu
 obtain⟨du,hd⟩:∃du,ts[k].af[j].cu=du:=⟨_,rfl⟩
 rw[hd]at c6 hdu HE0
 clear hc6 hd he6
 refine ag krA krA ?_;(repeat(go_big_quiet_step ((go_at_call 37;with_reducible exact bI (yT.out _ (ae hbW (bG.h _) hbW.size))))));refine wpQuiet_nil ?_;intro wq hq
 have hbq:=ae hbW hq hbW.size
 have q0:=(hq.cell (p:=⟨w.heap.size,0,none⟩) (show w.heap.size<W.heap.size by omega)).trans p0
 have q1:=(hq.cell (p:=⟨b5,_,none⟩) (show b5<W.heap.size by omega)).trans t1
 have q2:=(hq.cell (p:=⟨b6,_,none⟩) (show b6<W.heap.size by have:=hbW.size;omega)).trans c6
 have q3:=(hq.cell (p:=⟨w.heap.size+1+1,0,none⟩) (show w.heap.size+1+1<W.heap.size by omega)).trans v0
 have q4:=(hq.cell (p:=⟨w.heap.size+1+1,1,none⟩) (show w.heap.size+1+1<W.heap.size by omega)).trans v1
 have q5:=(hq.cell (p:=⟨w.heap.size+1,4,none⟩) (show w.heap.size+1<W.heap.size by omega)).trans d4
 have hqz:=hq.size
 clear hk0 hk1 hk2 hk5 hk6 p0 p1 p2 p3 p4 p5 p6 p7 t1 c6 v0 v1 d4
 have hk0:=aK (w:=wq) w.heap.size omA
 have hk1:=aK (w:=wq) (w.heap.size+1) omA
 have hk2:=aK (w:=wq) (w.heap.size+1+1) omA
 have hk5:=aK (w:=wq) b5 omA
 have hk6:=aK (w:=wq) b6 (by have:=hbW.size;omega)
 go_upto_region 4 with (fail)
 refine ag krA krA ?_;(repeat(go_big_quiet_step (fail)));refine wpQuiet_nil ?_;intro wq2 hq2
 have s5:=(hq2.cell (p:=⟨w.heap.size+1,4,none⟩) (show w.heap.size+1<wq.heap.size by omega)).trans q5
 have hbz:=ae hbq hq2 hbq.size
 clear hk0 hk1 hk2 hk5 hk6 q0 q1 q2 q3 q4 q5
 by_cases hd0:du=0
 ·have HZ:=qh hd0
  have e7:decide (0<du)=false:=by simp;omega
  clear hd0
  go_wp2_with fail
  go_ret
  exact⟨az (by rw[HE0.out,if_pos HZ.out]),hbz⟩
 ·have HZ:=qh hd0
  have e7:decide (0<du)=true:=by simp;omega
  clear hd0
  go_wp2_with fail
  go_ret
  exact⟨az (by rw[HE0.out,if_neg HZ.out]),hbz⟩
theorem C8(A:Option Addr)(c m:Nat)(ts:List Tab)(o:Oth)(x:aF)(day:Int)(w:World)(ht:aM w w.heap.size A ts)(hm:ts.length=m)(hs:aL ts)(ho:bO w w.heap.size o)(hso:cZ o)(h16:fD o){r:Bool}(hr:dS (utE ts o x) day=r):
 Calls Tryz.prog 18 #[.agg #[.slice A m c,.slice o.vA 0 o.vc,.slice o.iA o.idx.length o.ic,.slice o.sA o.skt.length o.sc,.slice o.cA o.cch.length o.cc,.slice o.rA o.rel.length o.rc,.slice o.tA o.str.length o.tc,.slice o.bA o.bak.length o.bc],.agg #[.int .i64 x.table,.int .i64 x.col,.int .i64 x.seq,.int .i64 x.record,.int .i64 x.day,.slice x.A x.own.length x.cap,.bool x.null,.bool x.last],.int .i64 day] w fun e w'=>e=.returned (.bool r)∧Below w.heap.size w w':=by
 subst hm hr
 obtain⟨u0,hu0⟩:∃u,utE ts o x=u:=⟨_,rfl⟩
 have HUN:=qh fun(u:World) (hu:Below w.heap.size w u)=>AY A c ts.length ts o x u (ht.next hu) rfl hs (ho.next hu) hso h16 hu0
 rw[hu0]
 clear ht hs ho hso h16 hu0
 cases h1:(u0 != 0)
 ·go_enter Tryz.func18,Tryz.ntmps18
  go_wp2_with (go_at_call 16;(with_reducible refine(HUN.out _ av).mono ?_);rintro e w1 ⟨rfl,hb1⟩;have hx1:Below w.heap.size w w1:=ae av hb1 leA)
  go_ret
  exact⟨aC (by simp only[dS,h1];rfl),hx1⟩
 ·cases h2:decide (day<u0)
  ·go_enter Tryz.func18,Tryz.ntmps18
   go_wp2_with (go_at_call 16;(with_reducible refine(HUN.out _ av).mono ?_);rintro e w1 ⟨rfl,hb1⟩;have hx1:Below w.heap.size w w1:=ae av hb1 leA)
   go_ret
   exact⟨aC (by simp only[dS,h1,h2];rfl),hx1⟩
  ·go_enter Tryz.func18,Tryz.ntmps18
   go_wp2_with (go_at_call 16;(with_reducible refine(HUN.out _ av).mono ?_);rintro e w1 ⟨rfl,hb1⟩;have hx1:Below w.heap.size w w1:=ae av hb1 leA)
   go_ret
   exact⟨aC (by simp only[dS,h1,h2];rfl),hx1⟩
end Go.Proofs.YtebippoohpnjkaaGreat
