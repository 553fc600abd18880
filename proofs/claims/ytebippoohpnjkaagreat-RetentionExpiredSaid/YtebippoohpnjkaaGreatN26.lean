/-
  Contracts and plain laws of this seat, part 26.
-/
import Derived.Test.YtebippoohpnjkaaGreatSortLay
import Derived.Shelf.SlSortCmp.NoneTotal
import Derived.Test.YtebippoohpnjkaaGreatN24
import Derived.DeepKeys4
import Derived.Test.YtebippoohpnjkaaGreatN25
set_option linter.unusedVariables false
set_option linter.unusedSimpArgs false
set_option maxRecDepth 100000
set_option maxHeartbeats 16000000
namespace Go.Proofs.YtebippoohpnjkaaGreat
open Go.RowKit Go
theorem tZ{P:Prop}(h:P:=by
 go_wp2_with fail
 go_meet
 exact⟨rfl,rfl⟩):P:=h
theorem nN{ts:List Tab}{x:aF}(h:x.table<0∨(ts.length:Int)≤x.table∨x.day<0 ∨ 1048576<x.day):endE ts x=0:=by
 unfold endE
 split
 ·rename_i h0
  rw[List.getElem?_eq_none omA]
 ·rfl
theorem Gj{ts:List Tab}{x:aF}{k:Nat}(hk:k<ts.length)(ht:x.table=(k:Int))(h0:0≤x.day)(h1:x.day≤1048576):endE ts x=if 0≤x.col then (match ts[k].af[x.col.toNat]? with
 | some c=>if c.cu=0 then 0 else x.day+c.cu
 | none =>0) else 0:=by
 unfold endE
 rw[if_pos ⟨by omega,h0,h1⟩,ht,Int.toNat_natCast,List.getElem?_eq_getElem hk]
 rfl
theorem CY(A:Option Addr)(c m:Nat)(ts:List Tab)(o:Oth)(x:aF)(w:World)(ht:aM w w.heap.size A ts)(hm:ts.length=m)(hs:aL ts)(hok:aY ts){r:Int}(hr:endE ts x=r):
 Calls Tryz.prog 49 #[.agg #[.slice A m c,.slice o.vA 0 o.vc,.slice o.iA o.idx.length o.ic,.slice o.sA o.skt.length o.sc,.slice o.cA o.cch.length o.cc,.slice o.rA o.rel.length o.rc,.slice o.tA o.str.length o.tc,.slice o.bA o.bak.length o.bc],.agg #[.int .i64 x.table,.int .i64 x.col,.int .i64 x.seq,.int .i64 x.record,.int .i64 x.day,.slice x.A x.own.length x.cap,.bool x.null,.bool x.last]] w fun e w'=>e=.returned (.int .i64 r)∧Below w.heap.size w w':=by
 subst hm hr
 have h8:=hok.len
 have HT:=qh ht.1
 have HT2:=qh ht.2
 have HOK:=qh hok
 clear ht hs hok
 go_enter Tryz.func49,Tryz.ntmps49
 go_upto_region 2 with (fail)
 refine au (P:=fun u=>Code.wp _ _ _ _ u) (R:=fun u=>Blk u w.heap.size 39 #[.slice A ts.length c,.slice o.vA 0 o.vc,.slice o.iA o.idx.length o.ic,.slice o.sA o.skt.length o.sc,.slice o.cA o.cch.length o.cc,.slice o.rA o.rel.length o.rc,.slice o.tA o.str.length o.tc,.slice o.bA o.bak.length o.bc]∧Blk u (w.heap.size+1) 27 #[.int .i64 x.table,.int .i64 x.col,.int .i64 x.seq,.int .i64 x.record,.int .i64 x.day,.slice x.A x.own.length x.cap,.bool x.null,.bool x.last]∧Blk u (w.heap.size+1+1) 24 #[.int .i64 x.table,.int .i64 x.col,.int .i64 x.seq]∧Below w.heap.size w u) ⟨?_,?_,?_,?_⟩ ?_
 ·exact((Blk.new _ _ _).alloc _).alloc _
 ·exact(Blk.new' spA).alloc _
 ·exact Blk.new' spA
 ·exact av
 rintro W ⟨hC,hO,hV,hbW⟩
 obtain⟨p0,_⟩:=Cat.bF hC
 have d4:=hO.cell 4
 have v0:=hV.cell 0
 have v1:=hV.cell 1
 simp only[gE3]at d4 v0 v1
 have hVz:=hV.lt
 clear hC hO hV
 obtain⟨r1,hr1⟩:∃b,decide (x.table<0)=b:=⟨_,rfl⟩
 obtain⟨r2,hr2⟩:∃b,decide ((ts.length:Int)≤x.table)=b:=⟨_,rfl⟩
 obtain⟨r3,hr3⟩:∃b,decide (x.day<0)=b:=⟨_,rfl⟩
 obtain⟨r4,hr4⟩:∃b,decide (1048576<x.day)=b:=⟨_,rfl⟩
 go_cut [29] (fun v wc=>v=.bool (r1||(r2||(r3||r4)))∧W=wc)
 case first =>
  cases r1
  ·cases r2
   ·cases r3
    ·cases r4
     ·exact tZ
     ·exact tZ
    ·exact tZ
   ·exact tZ
  ·exact tZ
 case rest =>
  obtain⟨rfl,rfl⟩:=hcut
  cases hb:(r1||(r2||(r3||r4)))
  ·simp only[Bool.or_eq_false_iff]at hb
   obtain⟨rfl,rfl,rfl,rfl⟩:=hb
   rw[decide_eq_false_iff_not]at hr1 hr2 hr3 hr4
   obtain⟨k,hk⟩:∃k:Nat,x.table=(k:Int):=⟨x.table.toNat,by omega⟩
   have hkl:k<ts.length:=by omega
   have HE:=qh (Gj hkl hk omA omA)
   obtain⟨b5,o5,rfl,hb5,hc5⟩:=(HT.out.below hbW).get hkl
   obtain⟨t0,t1,t2,t3⟩:=Tab.df hc5
   have hcs:ah w w.heap.size Col.cells 7 ts[k].A ts[k].af:=(HT2.out ts[k] (lgm hkl)).1
   have HCS:=qh hcs
   rw[hk]at v0
   have d1:0≤x.day:=by omega
   have d2:x.day≤1048576:=by omega
   obtain⟨b6,o6,he6,hb6,_⟩:=(HCS.out.below hbW).get (HOK.out.af hkl).1
   rw[he6]at t1
   clear hcs hc5 t0 t2 t3 hr1 hr2 hr3 hr4
   go_upto_region 5 with (fail)
   by_cases hc0:x.col<0
   ·have e0:decide (x.col<0)=true:=by simpa using hc0
    have HE0:Hid (endE ts x=0):=qh (by rw[HE.out,if_neg omA])
    clear hc0
    go_wp2_with fail
    go_ret
    exact⟨az HE0.out.symm,hbW⟩
   ·have e0:decide (x.col<0)=false:=by simpa using hc0
    obtain⟨j,hj⟩:∃j:Nat,x.col=(j:Int):=⟨x.col.toNat,by omega⟩
    rw[hj]at v1 e0
    by_cases hjl:j<ts[k].af.length
    ·obtain⟨b6',o6',BQ,_,hc6⟩:=(HCS.out.below hbW).get hjl
     rw[he6]at BQ
     injection BQ with BQ
     injection BQ with he1 he2
     subst he1 he2
     obtain⟨_,_,_,_,_,_,c6⟩:=Col.dz hc6
     have HE0:Hid (endE ts x=if ts[k].af[j].cu=0 then 0 else x.day+ts[k].af[j].cu):=qh (by
      rw[HE.out,if_pos omA,hj,Int.toNat_natCast,List.getElem?_eq_getElem hjl])
     have hdu:=(HOK.out.Ny hkl hjl).cu
     rw[aG,Bool.and_eq_true,decide_eq_true_iff,decide_eq_true_iff]at hdu
     obtain⟨du,hd⟩:∃du,ts[k].af[j].cu=du:=⟨_,rfl⟩
     rw[hd]at c6 hdu
     have HD:=qh hd
     have e1:decide ((ts[k].af.length:Int)≤(j:Int))=false:=by simp;omega
     clear hc6 hd he6 HE hj hc0
     by_cases hd0:du=0
     ·have e2:(du == 0)=true:=by simpa using hd0
      have HZ:=qh hd0
      clear hd0
      go_wp2_with fail
      go_ret
      exact⟨az (by rw[HE0.out,HD.out,if_pos HZ.out]),hbW⟩
     ·have e2:(du == 0)=false:=by simpa using hd0
      have HZ:=qh hd0
      clear hd0
      go_upto_region 7 with (fail)
      have hk0:=aK (w:=W) (w.heap.size+1) omA
      have hk1:=aK (w:=W) (w.heap.size+1+1) omA
      have hk2:=aK (w:=W) b6 (by have:=hbW.size;omega)
      refine ag krA krA ?_;(repeat(go_big_quiet_step (fail)));refine wpQuiet_nil ?_;intro wq hq
      go_wp2_with fail
      go_ret
      exact⟨az (by rw[HE0.out,HD.out,if_neg HZ.out]),ae hbW hq hbW.size⟩
    ·have HE0:Hid (endE ts x=0):=qh (by rw[HE.out,if_pos omA,hj,Int.toNat_natCast,List.getElem?_eq_none omA])
     have e1:decide ((ts[k].af.length:Int)≤(j:Int))=true:=by simp;omega
     clear hj hc0 HE
     go_wp2_with fail
     go_ret
     exact⟨az HE0.out.symm,hbW⟩
  ·have HE0:Hid (endE ts x=0):=qh (nN (by
    rw[←hr1,←hr2,←hr3,←hr4]at hb
    simpa[Bool.or_eq_true]using hb))
   go_wp2_with fail
   go_ret
   exact⟨az HE0.out.symm,hbW⟩
theorem uM(u day:Int)(w:World){r:Bool}(hr:dS u day=r):Calls Tryz.prog 51 #[.int .i64 u,.int .i64 day] w fun e w'=>e=.returned (.bool r)∧w=w':=by
 subst hr
 cases h1:(u != 0)
 ·go_enter Tryz.func51,Tryz.ntmps51
  go_wp2_with fail
  go_ret
  exact⟨aC (by simp only[dS,h1];rfl),rfl⟩
 ·cases h2:decide (day<u)
  ·go_enter Tryz.func51,Tryz.ntmps51
   go_wp2_with fail
   go_ret
   exact⟨aC (by simp only[dS,h1,h2];rfl),rfl⟩
  ·go_enter Tryz.func51,Tryz.ntmps51
   go_wp2_with fail
   go_ret
   exact⟨aC (by simp only[dS,h1,h2];rfl),rfl⟩
open Go.RowKit Go
noncomputable def utE(ts:List Tab)(o:Oth)(x:aF):Int:=bif pb (bT ts o) then endE ts x else 0
theorem Av{ts:List Tab}{o:Oth}(x:aF)(h:bT ts o):utE ts o x=endE ts x:=by unfold utE;rw[aW h];rfl
theorem Ja{ts:List Tab}{o:Oth}(x:aF)(h:¬ bT ts o):utE ts o x=0:=by unfold utE;rw[aP h];rfl
theorem rQ(w:World):CallsD Tryz.prog 47 #[] .returning w fun e u' w'=>e=.returned (.tuple #[])∧u'=.returning∧w'=w:=by
 refine callsD_of_wpS Tryz.func47 rfl fun c₀ cs hu =>?_
 apply wpS_region
 cases c₀
 simp_all[wpOpsS,go_sem,recoverD,Tryz.ntmps47,bodyPostS,results,Tryz.results47]
theorem ED(A:Option Addr)(c m:Nat)(ts:List Tab)(o:Oth)(x:aF)(w:World)(ht:aM w w.heap.size A ts)(hm:ts.length=m)(hs:aL ts)(ho:bO w w.heap.size o)(hso:cZ o)(h16:fD o){r:Int}(hr:utE ts o x=r):
 Calls Tryz.prog 15 #[.agg #[.slice A m c,.slice o.vA 0 o.vc,.slice o.iA o.idx.length o.ic,.slice o.sA o.skt.length o.sc,.slice o.cA o.cch.length o.cc,.slice o.rA o.rel.length o.rc,.slice o.tA o.str.length o.tc,.slice o.bA o.bak.length o.bc],.agg #[.int .i64 x.table,.int .i64 x.col,.int .i64 x.seq,.int .i64 x.record,.int .i64 x.day,.slice x.A x.own.length x.cap,.bool x.null,.bool x.last]] w fun e w'=>e=.returned (.int .i64 r)∧Below w.heap.size w w':=by
 subst hm
 have HT:=qh ht
 have HS:=qh hs
 by_cases hok:bT ts o
 ·have HOK:=qh hok.1
  have HCG:=qh (fu.of (c:=c) ht hs ho hso h16 hok)
  rw[Av x hok]at hr
  clear ht hs hok ho hso h16
  go_enter_defers Tryz.func15,Tryz.ntmps15
  go_upto_region 2 with (fail)
  refine au (P:=fun u=>Code.wp _ _ _ _ u) (R:=fun u=>Blk u w.heap.size 39 #[.slice A ts.length c,.slice o.vA 0 o.vc,.slice o.iA o.idx.length o.ic,.slice o.sA o.skt.length o.sc,.slice o.cA o.cch.length o.cc,.slice o.rA o.rel.length o.rc,.slice o.tA o.str.length o.tc,.slice o.bA o.bak.length o.bc]∧Blk u (w.heap.size+1) 27 #[.int .i64 x.table,.int .i64 x.col,.int .i64 x.seq,.int .i64 x.record,.int .i64 x.day,.slice x.A x.own.length x.cap,.bool x.null,.bool x.last]∧Below w.heap.size w u) ⟨?_,?_,?_⟩ ?_
  ·exact(Blk.new _ _ _).alloc _
  ·exact Blk.new' spA
  ·exact av
  rintro W ⟨hB,hO,hbW⟩
  have hzW:=hO.lt
  have HB:=qh hB
  have HO:=qh hO
  obtain⟨p0,p1,p2,p3,p4,p5,p6,p7⟩:=Cat.bF hB
  clear hB hO
  go_wp2_with (first
   | (go_at_call 48;(with_reducible refine(HCG.out.prog _ hbW).mono ?_);rintro e w1 ⟨rfl,hb1⟩;have hx1:Below w.heap.size w w1:=ae hbW hb1 hbW.size;clear p0 p1 p2 p3 p4 p5 p6 p7;obtain⟨p0,p1,p2,p3,p4,p5,p6,p7⟩:=Cat.bF (HB.out.below hb1 omA);obtain⟨q0,q1,q2,q3,q4,q5,q6,q7⟩:=aF.blk (HO.out.below hb1 hzW))
   | (go_at_call 49;(with_reducible refine(CY A c ts.length ts o x _ (HT.out.next hx1) rfl HS.out HOK.out hr).mono ?_);rintro e w2 ⟨rfl,hb2⟩;have hx2:Below w.heap.size w w2:=ae hx1 hb2 hx1.size))
  refine leaves_cons (f:= 47) (args:= #[]) spA (by simp[go_sem]) ?_;refine(rQ _).mono ?_;rintro e u' w'' ⟨rfl,rfl,rfl⟩;refine⟨_,results_tmp rfl _ _ _,?_⟩
  exact⟨rfl,hx2⟩
 ·have HNO:=qh (fun u hu=>(fu.no (c:=c) ht hs ho hso h16 hok u hu).1)
  rw[Ja x hok]at hr
  subst hr
  clear ht hs hok ho hso h16
  go_enter_defers Tryz.func15,Tryz.ntmps15
  go_upto_region 2 with (fail)
  refine au (P:=fun u=>Code.wp _ _ _ _ u) (R:=fun u=>Blk u w.heap.size 39 #[.slice A ts.length c,.slice o.vA 0 o.vc,.slice o.iA o.idx.length o.ic,.slice o.sA o.skt.length o.sc,.slice o.cA o.cch.length o.cc,.slice o.rA o.rel.length o.rc,.slice o.tA o.str.length o.tc,.slice o.bA o.bak.length o.bc]∧Blk u (w.heap.size+1) 27 #[.int .i64 x.table,.int .i64 x.col,.int .i64 x.seq,.int .i64 x.record,.int .i64 x.day,.slice x.A x.own.length x.cap,.bool x.null,.bool x.last]∧Below w.heap.size w u) ⟨?_,?_,?_⟩ ?_
  ·exact(Blk.new _ _ _).alloc _
  ·exact Blk.new' spA
  ·exact av
  rintro W ⟨hB,hO,hbW⟩
  have hzW:=hO.lt
  have HB:=qh hB
  have HO:=qh hO
  obtain⟨p0,p1,p2,p3,p4,p5,p6,p7⟩:=Cat.bF hB
  clear hB hO
  go_wp2_with (go_at_call 48;(with_reducible refine(HNO.out _ hbW).mono ?_);rintro e w1 ⟨rfl,hb1⟩;have hx1:Below w.heap.size w w1:=ae hbW hb1 hbW.size)
  refine leaves_cons (f:= 47) (args:= #[]) spA (by simp[go_sem]) ?_;refine(rQ _).mono ?_;rintro e u' w'' ⟨rfl,rfl,rfl⟩;refine⟨_,results_tmp rfl _ _ _,?_⟩
  exact⟨rfl,hx1⟩
theorem BB(w:World):CallsD Tryz.prog 50 #[] .returning w fun e u' w'=>e=.returned (.tuple #[])∧u'=.returning∧w'=w:=by
 refine callsD_of_wpS Tryz.func50 rfl fun c₀ cs hu =>?_
 apply wpS_region
 cases c₀
 simp_all[wpOpsS,go_sem,recoverD,Tryz.ntmps50,bodyPostS,results,Tryz.results50]
theorem Hw(A:Option Addr)(c m:Nat)(ts:List Tab)(o:Oth)(x:aF)(day:Int)(w:World)(ht:aM w w.heap.size A ts)(hm:ts.length=m)(hs:aL ts)(ho:bO w w.heap.size o)(hso:cZ o)(h16:fD o){r:Bool}(hr:dS (utE ts o x) day=r):
 Calls Tryz.prog 17 #[.agg #[.slice A m c,.slice o.vA 0 o.vc,.slice o.iA o.idx.length o.ic,.slice o.sA o.skt.length o.sc,.slice o.cA o.cch.length o.cc,.slice o.rA o.rel.length o.rc,.slice o.tA o.str.length o.tc,.slice o.bA o.bak.length o.bc],.agg #[.int .i64 x.table,.int .i64 x.col,.int .i64 x.seq,.int .i64 x.record,.int .i64 x.day,.slice x.A x.own.length x.cap,.bool x.null,.bool x.last],.int .i64 day] w fun e w'=>e=.returned (.bool r)∧Below w.heap.size w w':=by
 subst hm
 have HT:=qh ht
 have HS:=qh hs
 have HO:=qh ho
 have HSO:=qh hso
 have H16:=qh h16
 clear ht hs ho hso h16
 go_enter_defers Tryz.func17,Tryz.ntmps17
 go_wp2_with (first
  | (go_at_call 15;(with_reducible refine(ED A c ts.length ts o x _ (HT.out.next av) rfl HS.out (HO.out.next av) HSO.out H16.out rfl).mono ?_);rintro e w1 ⟨rfl,hb1⟩;have hx1:Below w.heap.size w w1:=ae av hb1 leA)
  | (go_at_call 51;(with_reducible refine(uM (utE ts o x) day _ hr).mono ?_);rintro e w2 ⟨rfl,rfl⟩))
 refine leaves_cons (f:= 50) (args:= #[]) spA (by simp[go_sem]) ?_;refine(BB _).mono ?_;rintro e u' w'' ⟨rfl,rfl,rfl⟩;refine⟨_,results_tmp rfl _ _ _,?_⟩
 exact⟨rfl,hx1⟩
theorem JB(A:Option Addr)(c m:Nat)(ts:List Tab)(x:aF)(day:Int)(w:World)(ht:aM w w.heap.size A ts)(hm:ts.length=m)(hs:aL ts)(hok:aY ts){r:Bool}(hr:dS (endE ts x) day=r):
 Calls Tryz.prog 17 #[.agg #[.slice A m c,.slice none 0 0,.slice none 0 0,.slice none 0 0,.slice none 0 0,.slice none 0 0,.slice none 0 0,.slice none 0 0],.agg #[.int .i64 x.table,.int .i64 x.col,.int .i64 x.seq,.int .i64 x.record,.int .i64 x.day,.slice x.A x.own.length x.cap,.bool x.null,.bool x.last],.int .i64 day] w fun e w'=>e=.returned (.bool r)∧Below w.heap.size w w':=
 Hw A c m ts Oth.nil x day w ht hm hs (bO.nil _ _) cZ.nil fD.nil (by rw[Av x (bT.nil hok)];exact hr)
open Go.RowKit Go.Shelf Go.Sort
theorem DZ{α:Type}[Inhabited α]{enc:α→List Value}{k:Nat}(hk:∀x,(enc x).length=k)(l:List α):flatK enc k l.toArray=(l.flatMap enc).toArray:=by
 apply ext_get!
 ·simp[dD hk]
 ·intro t ht
  have ht:t<l.length*k:=by simpa using ht
  have hk0:0<k:=by
   rcases Nat.eq_zero_or_pos k with h|h
   ·rw[h]at ht;omega
   ·exact h
  have hi:t / k<l.length:=Nat.div_lt_of_lt_mul (by rw[Nat.mul_comm];exact ht)
  have hj:t % k<(enc l[t / k]).length:=by rw[hk];exact Nat.mod_lt _ hk0
  rw[get_flatK enc k _ t (by simpa using ht)]
  have h1:=flat_get hk l (t / k) hi (t % k) _ (List.getElem?_eq_getElem hj)
  rw[Nat.div_add_mod' t k]at h1
  have e1:l.toArray[t / k]! = l[t / k]:=by rw[getElem!_pos _ _ (by simpa using hi)];simp
  have hfl:t<(l.flatMap enc).length:=by rw[dD hk];exact ht
  rw[e1,getElem!_pos (enc l[t / k]) (t % k) hj,getElem!_pos (l.flatMap enc).toArray t (by simpa using hfl)]
  rw[List.getElem?_eq_getElem hfl]at h1
  simpa using(Option.some.inj h1).symm
theorem Ey(cur:Array Value)(ts:List Value)(h:ts.length≤cur.size):(putCells id 0 ts.toArray cur).toList.take ts.length=ts:=by
 apply List.ext_getElem?
 intro j
 by_cases hj:j<ts.length
 ·rw[List.getElem?_take_of_lt hj,Array.getElem?_toList]
  simp[putCells,hj,show j<cur.size by omega]
 ·rw[List.getElem?_take_eq_none omA,List.getElem?_eq_none omA]
theorem FL:SWO (ltOf vw) where
 irrefl x:=by simp only[ltOf,decide_eq_false_iff_not];rw[qN];exact tV x
 trans x y z h1 h2:=by
  simp only[ltOf,decide_eq_true_eq,qN]at *
  exact jo h1 h2
 ntrans x y z h1 h2:=by
  simp only[ltOf,decide_eq_false_iff_not,qN]at *
  unfold dK at *
  omega
theorem LY(x y:Src)(w:World):
 Calls Tryz.prog 94 #[.agg #[.int .i64 x.tab,.int .i64 x.seq],.agg #[.int .i64 y.tab,.int .i64 y.seq]] w fun e w' =>
  e=.returned (.int .i64 (vw x y))∧Ext w w':=by
 go_enter Tryz.func94,Tryz.ntmps94
 go_upto_region 1 with (fail)
 obtain⟨W,hW⟩:∃W,W=(w.alloc (.cells #[.int .i64 x.tab,.int .i64 x.seq] 170)).alloc (.cells #[.int .i64 y.tab,.int .i64 y.seq] 170):=⟨_,rfl⟩
 rw[←hW]
 have hb0:Blk W w.heap.size 170 #[.int .i64 x.tab,.int .i64 x.seq]:=by rw[hW];exact(Blk.new _ _ _).alloc _
 have hb1:Blk W (w.heap.size+1) 170 #[.int .i64 y.tab,.int .i64 y.seq]:=by rw[hW];exact Blk.new' spA
 have hxW:Ext w W:=by rw[hW];exact qi
 have e0:=hb0.cell 0
 have e1:=hb0.cell 1
 have e2:=hb1.cell 0
 have e3:=hb1.cell 1
 simp only[gE3]at e0 e1 e2 e3
 have mz0:=hb0.lt
 have mz1:=hb1.lt
 clear hb0 hb1 hW
 refine wp_region_held_drew (S:=(fun w'=>w'.cell? ⟨w.heap.size,0,none⟩=some (.int .i64 x.tab)∧w'.cell? ⟨w.heap.size,1,none⟩=some (.int .i64 x.seq)∧w'.cell? ⟨w.heap.size+1,0,none⟩=some (.int .i64 y.tab)∧w'.cell? ⟨w.heap.size+1,1,none⟩=some (.int .i64 y.seq))) krA ⟨e0,e1,e2,e3⟩ (fun hHeld =>?_)
 refine tkH 0 hHeld ?_
 refine tkH 1 hHeld ?_
 refine tkH 2 hHeld ?_
 refine tkH 3 hHeld ?_
 refine tkH 5 hHeld ?_
 refine tkH 6 hHeld ?_
 refine tkH 7 hHeld ?_
 refine tkH 8 hHeld ?_
 refine wpAnyH_ready (rs:= [4]) krA spA ?_
 refine AllReadyH.cons rfl (fun K hK =>?_) AllReadyH.nil
 go_simp
 (go_at_call 149;(with_reducible refine(BZ _ _ _).mono ?_);rintro e w1 ⟨rfl,rfl⟩)
 go_wp2_with fail
 refine hK.out _ _ ⟨?_,?_,?_,?_⟩ (fun hHeld =>?_)
 iterate 4 (simp only[*])
 clear hK K
 (try simp only[Act.put,gP6])
 refine wpAnyH_ready (rs:= [9]) krA spA ?_
 refine AllReadyH.cons rfl (fun K hK =>?_) AllReadyH.nil
 go_simp
 (go_at_call 149;(with_reducible refine(BZ _ _ _).mono ?_);rintro e w1 ⟨rfl,rfl⟩)
 go_wp2_with fail
 refine hK.out _ _ ⟨?_,?_,?_,?_⟩ (fun hHeld =>?_)
 iterate 4 (simp only[*])
 clear hK K
 (try simp only[Act.put,gP6])
 refine wpAnyH_ready (rs:= [10]) krA spA ?_
 refine AllReadyH.cons rfl (fun K hK =>?_) AllReadyH.nil
 go_simp
 go_wp2_with fail
 refine hK.out _ _ ⟨?_,?_,?_,?_⟩ (fun hHeld =>?_)
 iterate 4 (go_simp)
 clear hK K
 (try simp only[Act.put,gP6])
 refine wpAnyH_ready (rs:= [11]) krA spA ?_
 refine AllReadyH.cons rfl (fun K hK =>?_) AllReadyH.nil
 go_simp
 (go_at_call 148;(with_reducible refine(Pn _ 2 2 [gP x.tab y.tab,gP x.seq y.seq] _ ?_ spA omA).mono ?_);(exact Blk.two (t:= 3) (by with_reducible first|exact(Blk.new' spA).drew|exact Blk.new' spA) spA);rintro e w2 ⟨rfl,rfl⟩)
 go_wp2_with fail
 refine hK.out _ _ ⟨?_,?_,?_,?_⟩ (fun hHeld =>?_)
 iterate 4 (simp only[*])
 clear hK K
 (try simp only[Act.put,gP6])
 refine tkH 12 hHeld ?_
 refine wpAnyH_done krA ?_ _
 go_wp2_with fail
 go_ret
 exact⟨az (by rw[JI];rfl),by exact qi⟩
theorem Jv(base g c:Nat)(l:List Src)(w:World)(h:aB w base 170 Src.cells 2 (.slice (some ⟨g,0,none⟩) l.length c) l)(hn:l.length≤1000000):
 Calls Tryz.prog 93 #[.slice (some ⟨g,0,none⟩) l.length c,.func (.func 94) #[] #[]] w fun e w' =>
  e=.returned (.tuple #[]) ∧ ∃l':List Src,l'.Perm l∧l'.Pairwise (fun a b=>dK a b∨a=b)∧aB w' base 170 Src.cells 2 (.slice (some ⟨g,0,none⟩) l.length c) l'∧w.grownBy w' (some g):=by
 have eg:∀args w,(callFunc 94 args).run Tryz.prog w=.ok (.enter 94 args) w:=enters_of Tryz.func94 krA rfl
 have hcmp:CmpLays Tryz.prog 94 #[] Src.cells 2 vw g 0 l.toArray.size w:=fun m os dk _ x y =>
  (LY x y _).mono fun e w' ⟨he,hx⟩=>⟨he,hx.grow⟩
 have hg:=h.qw
 have hH:HoldsK Src.cells 2 w g 0 l.toArray:=by
  intro j hj
  rw[DZ dw]at hj ⊢
  have hj:j<(l.flatMap Src.cells).length:=by simpa using hj
  refine⟨?_,h.frz _⟩
  rw[Nat.zero_add,World.ownsRow.cellAt h _ (by rw[←dD dw];exact hj),List.getElem?_eq_getElem hj,getElem!_pos _ _ (by simpa using hj)]
  simp
 have hcon:=AnyQ.slices_SortFunc Tryz.sortSrcL 2 Tryz.isAgg170 Tryz.sizeOf170 Src.cells dw (fun x v hv=>fU x v hv) vw FL 94 #[] g 0 c l.toArray w eg hcmp hH hg.2 smA
 change Calls Tryz.prog 93 _ _ _ at hcon
 refine hcon.mono ?_
 rintro e w' ⟨rfl,d',n,os,⟨hp1,_,hp2⟩,hs,rfl⟩
 have hlen:d'.toList.length=l.length:=by simpa using hp1
 refine⟨rfl,d'.toList,?_,?_,?_,?_⟩
 ·have e1:(d'.extract 0 l.toArray.size).toList=d'.toList:=by rw[←hp1];simp
  have e2:(l.toArray.extract 0 l.toArray.size).toList=l:=by simp
  rw[e1,e2]at hp2
  exact hp2
 ·refine List.pairwise_iff_getElem.2 fun i j hi hj hij =>?_
  have h1:=hs i j (Nat.zero_le _) hij (by rw[List.size_toArray,←hlen];exact hj)
  rw[getElem!_pos d' j (by simpa using hj),getElem!_pos d' i (by simpa using hi)]at h1
  simp only[ltOf,decide_eq_false_iff_not,qN]at h1
  rcases uU d'[i] d'[j]with h2|h2|h2
  ·exact .inl h2
  ·exact .inr h2
  ·exact absurd h2 h1
 ·rcases h.2 with ⟨h',_⟩|⟨g',cap',cur,h',hb,hgb,hnc,hcm,hcs,ht⟩
  ·simp at h'
  ·injection h' with h1 _ h3
   injection h1 with h1
   injection h1 with h1
   subst h1 h3
   have hfl:(d'.toList.flatMap Src.cells).length=l.length*2:=by rw[dD dw,hlen]
   refine⟨by rw[dD dw],.inr ⟨g,c,putCells id 0 (flatK Src.cells 2 d') cur,by rw[hlen],hb,?_,by omega,hcm,by simp[putCells,hcs],?_⟩⟩
   ·unfold sortWorldK putRowK
    rw[heap_grow_old _ _ (by simpa using hg.2)]
    simp[putRow,mapBlock,Sort.ahead,Array.getElem?_modify,hgb,onCells]
   ·have e3:flatK Src.cells 2 d'=(d'.toList.flatMap Src.cells).toArray:=DZ dw d'.toList
    rw[e3,hlen,←hfl]
    exact Ey _ _ (by rw[hfl,hcs];omega)
 ·unfold sortWorldK putRowK
  refine⟨rfl,rfl,rfl,by simp,fun k hk hne =>?_⟩
  rw[heap_grow_old _ _ (by simpa using hk)]
  have:g≠k:=fun e=>hne (by rw[e])
  simp[putRow,mapBlock,Sort.ahead,Array.getElem?_modify,this]
theorem AL(w:World):
 Calls Tryz.prog 93 #[.slice none 0 0,.func (.func 94) #[] #[]] w fun e w'=>e=.returned (.tuple #[])∧w=w':=by
 go_enter Tryz.func93,Tryz.ntmps93
 go_wp2_with (first
  | (go_at_call 147;(with_reducible refine(Tryz.bits_Len 0 _ omA omA).mono ?_);rintro e w1 ⟨rfl,rfl⟩)
  | (go_at_call 146;(refine(Mc _ _).mono ?_);rintro e w1 ⟨rfl,rfl⟩))
 first|go_end0|(refine bodyPost_ret (results_none rfl _ _ _) rfl ?_)
 exact⟨rfl,rfl⟩
theorem Hm(base g c n:Nat)(l:List Src)(w:World)(hln:l.length=n)(h:aB w base 170 Src.cells 2 (.slice (some ⟨g,0,none⟩) n c) l)(hn:n≤1000000):
 Calls Tryz.prog 93 #[.slice (some ⟨g,0,none⟩) n c,.func (.func 94) #[] #[]] w fun e w' =>
  e=.returned (.tuple #[]) ∧ ∃l':List Src,l'.Perm l∧l'.Pairwise (fun a b=>dK a b∨a=b)∧aB w' base 170 Src.cells 2 (.slice (some ⟨g,0,none⟩) n c) l'∧w.grownBy w' (some g):=by
 subst hln
 exact Jv base g c l w h hn
open Go.RowKit Go
theorem zS:Maps.Keyed Tryz.prog 170:=Maps.Keyed.of_law (deep_law_laid (m:= 5) krA (by decide) (of_decide_eq_true krA) krA krA)
theorem DC{d:Nat}{a:Int}(ha:0≤a∧a≤1073741824):Tryz.prog.keyLits (d+1) 3 [.int .i64 a]=some [.int .i64 a]:=by
 have hw:(Lit.int .i64 a).wf=true:=by
  have h1:IntKind.i64.min≤a:=Int.le_trans (by decide) ha.1
  simp[Lit.wf,h1];omega
 unfold Program.keyLits
 rw[Tryz.underlying3]
 simp[hw]
theorem F4{a b:Int}(ha:0≤a∧a≤1073741824)(hb:0≤b∧b≤1073741824):∃kl,Go.keyOf Tryz.prog 170 (.agg #[.int .i64 a,.int .i64 b])=some kl:=by
 have hsz:Tryz.prog.cellsOf 170=2:=by kernel_rfl
 have hs3:Tryz.prog.cellsOf 3=1:=by kernel_rfl
 have hkt:Tryz.prog.keyType 170=true:=by kernel_rfl
 obtain⟨n,hn⟩:∃n,Tryz.prog.types.size=n+1:=⟨Tryz.prog.types.size-1,by kernel_rfl⟩
 have hf:(Value.agg #[.int .i64 a,.int .i64 b]).formed Tryz.prog 170=true:=by
  unfold Value.formed
  rw[Tryz.underlying170,hsz]
  rfl
 have hl:Tryz.prog.keyLits (Tryz.prog.types.size+1) 170 [.int .i64 a,.int .i64 b]=some [.int .i64 a,.int .i64 b]:=by
  rw[hn]
  unfold Program.keyLits
  rw[Tryz.underlying170]
  simp[hsz,hs3,DC ha,DC hb]
 refine⟨.string (keyBytes [.int .i64 a,.int .i64 b]),?_⟩
 unfold Go.keyOf
 rw[Tryz.underlying170,hkt,hf]
 show Option.map (fun ls=>Lit.string (keyBytes ls)) (Tryz.prog.keyLits (Tryz.prog.types.size+1) 170 [.int .i64 a,.int .i64 b])=_
 rw[hl]
 rfl
noncomputable def iY(ts:List Tab)(o:List aF)(day:Int)(m:Nat):Value→Option Value:=fun v=>if pb (∃j,∃h:j<o.length,j<m∧(o[j].last&&dS (endE ts o[j]) day)=true∧v=.agg #[.int .i64 o[j].table,.int .i64 o[j].record])=true then some (.bool true) else none
theorem Im{ts:List Tab}{o:List aF}{day:Int}{m:Nat}(hm:m<o.length)(hk:(o[m].last&&dS (endE ts o[m]) day)=true):iY ts o day (m+1) (.agg #[.int .i64 o[m].table,.int .i64 o[m].record])=some (.bool true):=by
 unfold iY
 rw[if_pos (aW ⟨m,hm,by omega,hk,rfl⟩)]
theorem uV{ts:List Tab}{o:List aF}{day:Int}{m:Nat}(hm:m<o.length){u:Value}(hu:(o[m].last&&dS (endE ts o[m]) day)=false∨u≠.agg #[.int .i64 o[m].table,.int .i64 o[m].record]):iY ts o day (m+1) u=iY ts o day m u:=by
 unfold iY
 have e:(∃j,∃h:j<o.length,j<m+1∧(o[j].last&&dS (endE ts o[j]) day)=true∧u=.agg #[.int .i64 o[j].table,.int .i64 o[j].record]) ↔ ∃j,∃h:j<o.length,j<m∧(o[j].last&&dS (endE ts o[j]) day)=true∧u=.agg #[.int .i64 o[j].table,.int .i64 o[j].record]:=by
  constructor
  ·rintro⟨j,h1,h2,h3,h4⟩
   rcases Nat.lt_or_ge j m with h5|h5
   ·exact⟨j,h1,h5,h3,h4⟩
   ·obtain rfl:j=m:=by omega
    rcases hu with hu|hu
    ·rw[h3]at hu;cases hu
    ·exact absurd h4 hu
  ·rintro⟨j,h1,h2,h3,h4⟩
   exact⟨j,h1,by omega,h3,h4⟩
 rw[propext e]
theorem J2{ts:List Tab}{o:List aF}{day:Int}(s:Src):(iY ts o day o.length (.agg #[.int .i64 s.tab,.int .i64 s.seq])).getD (.bool false)=.bool (jq ts o day s):=by
 unfold iY
 by_cases h:jq ts o day s=true
 ·have h1:=h
  unfold jq at h1
  rw[List.any_eq_true]at h1
  obtain⟨x,hx,h2⟩:=h1
  obtain⟨j,hj,rfl⟩:=List.getElem_of_mem hx
  simp only[Bool.and_eq_true,beq_iff_eq]at h2
  rw[if_pos (aW ⟨j,hj,hj,by rw[h2.1.1,h2.1.2];rfl,by rw[h2.2.1,h2.2.2]⟩),h]
  rfl
 ·rw[if_neg,Bool.eq_false_iff.2 h]
  ·rfl
  ·rw[eF]
   rintro⟨j,hj,_,h3,h4⟩
   refine h ?_
   unfold jq
   rw[List.any_eq_true]
   refine⟨o[j],lgm hj,?_⟩
   injection h4 with h4
   simp only[Array.mk.injEq,List.cons.injEq,Value.int.injEq,true_and,and_true]at h4
   rw[h3,h4.1,h4.2]
   simp
theorem Ik(w:World)(ts:List Tab)(o:List aF)(day:Int):cO Tryz.prog 170 4 (w.alloc (.map #[] 0)) w.heap.size 0 (iY ts o day 0):=
 (cO.made w _ _ _).eqf fun x kl _=>by
   unfold iY
   rw[aP (by rintro⟨j,_,h,_⟩;omega)]
   rfl
open Go.RowKit Go
variable {oo:Oth}
theorem J3{ts:List Tab}{x:aF}{day:Int}(h:dS (endE ts x) day=true):0≤x.table∧x.table<ts.length:=by
 refine Classical.byContradiction fun hc =>?_
 have h0:endE ts x=0:=nN omA
 rw[h0]at h
 simp[dS]at h
theorem D8(ts:List Tab)(o:List aF)(day:Int)(i:Nat)(ret:Int)(recs:List Rcd):(sJ ts o day i ret recs).length≤recs.length:=by
 unfold sJ
 rw[List.length_map]
 exact List.length_filter_le _ _
theorem uy{ts:List Tab}{rt:List RTab}{o:List aF}{day:Int}(h:∀i (h:i<rt.length),rt[i].recs.length≤64):∀n,(expE ts rt o day n).length≤64*n
 | 0=>by simp[expE]
 | n + 1=>by
   have h1:=uy (ts:=ts) (o:=o) (day:=day) h n
   have h2:(Aj ts rt o day n).length≤64:=by
    unfold Aj
    split
    ·simp
    ·refine Nat.le_trans (D8 ..) ?_
     unfold nJ
     by_cases hn:n<rt.length
     ·rw[List.getElem?_eq_getElem hn];exact h n hn
     ·rw[List.getElem?_eq_none omA];simp
   rw[expE,List.length_append]
   omega
theorem IL{ts:List Tab}{rt:List RTab}{o:List aF}{day:Int}{i:Nat}(h:i<ts.length)(h':i<rt.length):Aj ts rt o day i=if ts[i].cK=0 then [] else sJ ts o day i ts[i].cK rt[i].recs:=by
 unfold Aj gU nJ
 rw[List.getElem?_eq_getElem h,List.getElem?_eq_getElem h']
theorem IJ(ts:List Tab)(o:List aF)(day:Int)(i:Nat)(ret:Int){recs:List Rcd}{j:Nat}(hj:j<recs.length):sJ ts o day i ret (recs.take (j+1))=sJ ts o day i ret (recs.take j)++(if (decide (recs[j].day+ret≤day) && !jq ts o day (nX i recs[j]))=true then [nX i recs[j]] else []):=by
 unfold sJ
 rw[List.take_succ_eq_append_getElem hj,List.filter_append,List.map_append]
 congr 1
 split
 ·rename_i h
  simp only[List.filter_cons,h,List.filter_nil]
  rfl
 ·rename_i h
  simp only[List.filter_cons,h,List.filter_nil]
  rfl
noncomputable def iH(ts:List Tab)(rt:List RTab)(o:List aF)(day:Int):List Src:=if pb (bX ts rt)=true then expE ts rt o day rt.length else []
theorem ik(w:World):CallsD Tryz.prog 91 #[] .returning w fun e u' w'=>e=.returned (.tuple #[])∧u'=.returning∧w'=w:=by
 refine callsD_of_wpS Tryz.func91 rfl fun c₀ cs hu =>?_
 apply wpS_region
 cases c₀
 simp_all[wpOpsS,go_sem,recoverD,Tryz.ntmps91,bodyPostS,results,Tryz.results91]
theorem vM(A:Option Addr)(c m:Nat)(ts:List Tab)(RA:Option Addr)(rc n:Nat)(rt:List RTab)(OA:Option Addr)(oc k:Nat)(o:List aF)(day:Int)(w:World)(ht:aM w w.heap.size A ts)(hm:ts.length=m)(hs:aL ts)(hok:aY ts)(hcg:fu w w.heap.size A c ts oo)(hR:aQ w w.heap.size RA rt)(hn:rt.length=n)(hsr:dQ rt)(hO:ah w w.heap.size aF.cells 8 OA o)(hol:o.length=k)(hk:k≤1000000)(hrec:∀x∈o,0≤x.record∧x.record≤1073741824):
 Calls Tryz.prog 54 #[.agg #[.slice A m c,.slice oo.vA 0 oo.vc,.slice oo.iA oo.idx.length oo.ic,.slice oo.sA oo.skt.length oo.sc,.slice oo.cA oo.cch.length oo.cc,.slice oo.rA oo.rel.length oo.rc,.slice oo.tA oo.str.length oo.tc,.slice oo.bA oo.bak.length oo.bc],.slice RA n rc,.slice OA k oc,.int .i64 day] w fun e w' =>
  (∃EA ec l,e=.returned (.slice EA l.length ec)∧ah w' w'.heap.size Src.cells 2 EA l∧(∀a,EA=some a→w.heap.size≤a.block)∧l.Perm (iH ts rt o day)∧l.Pairwise (fun a b=>dK a b∨a=b))∧Below w.heap.size w w':=by
 subst hm hn hol
 obtain⟨i0,hi0,hz0,hz1,hz2⟩:=info_parts Bw
 have h8:=hok.len
 have HT:=qh ht
 have HT1:=qh ht.1
 have HS:=qh hs
 have HOK:=qh hok
 have HCG:=qh hcg
 have HR:=qh hR
 have HR1:=qh hR.1
 have HR2:=qh hR.2
 have HSR:=qh hsr
 have HO:=qh hO
 have oL:=qh hrec
 have hmm:= @run_makeMap Tryz.prog
 clear ht hs hok hcg hR hsr hO hrec
 go_enter_defers Tryz.func54,Tryz.ntmps54
 go_upto_region 2 with (fail)
 refine au (P:=fun u=>Code.wp _ _ _ _ u) (R:=fun u=>Blk u w.heap.size 39 #[.slice A ts.length c,.slice oo.vA 0 oo.vc,.slice oo.iA oo.idx.length oo.ic,.slice oo.sA oo.skt.length oo.sc,.slice oo.cA oo.cch.length oo.cc,.slice oo.rA oo.rel.length oo.rc,.slice oo.tA oo.str.length oo.tc,.slice oo.bA oo.bak.length oo.bc]∧Below w.heap.size w u) ⟨?_,?_⟩ ?_
 ·exact Blk.new _ _ _
 ·exact av
 rintro W ⟨hB,hbW⟩
 have hzW:=hB.lt
 have HB:=qh hB
 obtain⟨p0,p1,p2,p3,p4,p5,p6,p7⟩:=Cat.bF hB
 clear hB
 cases hv:pb (bX ts rt)
 ·have HV:=qh hv
  clear hv hmm
  go_wp2_with (go_at_call 92;(with_reducible refine(zR A c ts.length ts RA rc rt.length rt _ (HT.out.next hbW) rfl HS.out HOK.out (HCG.out.next hbW) (HR.out.next hbW) rfl HSR.out HV.out).mono ?_);rintro e w1 ⟨rfl,hb1⟩;have hx1:Below w.heap.size w w1:=ae hbW hb1 hbW.size)
  refine leaves_cons (f:= 91) (args:= #[]) spA (by simp[go_sem]) ?_;refine(ik _).mono ?_;rintro e u' w'' ⟨rfl,rfl,rfl⟩;refine⟨_,results_tmp rfl _ _ _,?_⟩
  exact⟨⟨none,0,[],rfl,ah.nil,(fun a ha=>by cases ha),by unfold iH;rw[HV.out];exact List.Perm.refl _,List.Pairwise.nil⟩,hx1⟩
 ·have HV:=qh hv
  have HVV:=qh (eF.1 hv)
  clear hv
  go_upto_region 4 with (go_at_call 92;(with_reducible refine(zR A c ts.length ts RA rc rt.length rt _ (HT.out.next hbW) rfl HS.out HOK.out (HCG.out.next hbW) (HR.out.next hbW) rfl HSR.out HV.out).mono ?_);rintro e w1 ⟨rfl,hb1⟩)
  refine au (P:=fun u=>Code.wp _ _ _ _ u) (R:=fun u=>Below W.heap.size W u) hb1 ?_
  ·clear hb1 p0 p1 p2 p3 p4 p5 p6 p7
   rintro W1 hb1
   have hx1:=ae hbW hb1 hbW.size
   have hz1':=hb1.size
   go_upto_region 6 with (fail)
   clear hmm
   go_loopw [26] (fun vi wr =>∃i:Nat,i≤o.length∧vi=.int .i64 i∧cO Tryz.prog 170 4 wr W1.heap.size i (iY ts o day i)∧Below W1.heap.size W1 wr) (fun vi _=>o.length-(intOf vi).toNat)
   case atStart=>exact⟨0,Nat.zero_le _,rfl,Ik W1 ts o day,by exact av⟩
   case round =>
    obtain⟨i,hi,rfl,hM,hbr⟩:=hrel
    have hwz:=hbr.size
    have hMl:=hM.lt
    have HM:=qh hM
    have hxr:=ae hx1 hbr hx1.size
    have HBr:=qh (HB.out.below (ae hb1 hbr hb1.size) hzW)
    clear hM
    by_cases hlt:i<o.length
    ·obtain⟨b5,o5,rfl,hb5,hc5⟩:=(HO.out.below hxr).get hlt
     obtain⟨q0,q1,q2,q3,q4,q5,q6,q7⟩:=aF.iQ hc5
     have hrc:=oL.out o[i] (lgm hlt)
     obtain⟨x,hx⟩:∃x,o[i]=x:=⟨_,rfl⟩
     have HX:=qh hx
     rw[hx]at q0 q1 q2 q3 q4 q5 q6 q7 hrc
     clear hc5 hx
     go_upto_region 8 with (fail)
     refine au (P:=fun u=>Code.wp _ _ _ _ u) (R:=fun u=>Blk u wr.heap.size 27 #[.int .i64 x.table,.int .i64 x.col,.int .i64 x.seq,.int .i64 x.record,.int .i64 x.day,.slice x.A x.own.length x.cap,.bool x.null,.bool x.last]∧Below wr.heap.size wr u) ⟨?_,?_⟩ ?_
     ·exact Blk.new _ _ _
     ·exact av
     rintro U ⟨hD,hbU⟩
     have hDl:=hD.lt
     have hyU:=ae hbr hbU hwz
     have hxU:=ae hx1 hyU hx1.size
     have hUz:=hbU.size
     have HD:=qh hD
     have HMU:=qh (HM.out.below hbU hMl)
     clear q0 q1 q2 q3 q4 q5 q6 q7
     obtain⟨q0,q1,q2,q3,q4,q5,q6,q7⟩:=aF.blk hD
     obtain⟨p0,p1,p2,p3,p4,p5,p6,p7⟩:=Cat.bF (HBr.out.below hbU omA)
     clear hD
     cases hl:x.last
     ·have HF:Hid (iY ts o day (i+1)=iY ts o day i):=qh (funext fun u=>uV hlt (.inl (by rw[HX.out,hl];rfl)))
      rw[hl]at q7
      clear hl
      go_wp2_with fail
      go_roundw
      case rel=>exact⟨i+1,by omega,by go_num,by rw[HF.out];exact HMU.out.mono (Nat.le_succ i),hyU⟩
      case measure=>exact meA
     ·have hend:=fun u (hu:Below U.heap.size U u)=>CY A c ts.length ts oo x u (HT.out.next (ae hxU hu hxU.size)) rfl HS.out HOK.out rfl
      rw[hl]at hend q7
      have Ti:=qh hend
      clear hend
      cases hkp:dS (endE ts x) day
      ·have HF:Hid (iY ts o day (i+1)=iY ts o day i):=qh (funext fun u=>uV hlt (.inl (by rw[HX.out,hkp];simp)))
       have HKP:=qh hkp
       clear hl hkp
       go_wp2_with (first
        | (go_at_call 49;(with_reducible refine(Ti.out _ brf).mono ?_);rintro e w1 ⟨rfl,hb2⟩)
        | (go_at_call 51;(with_reducible refine(uM (endE ts x) day _ HKP.out).mono ?_);rintro e w2 ⟨rfl,rfl⟩))
       go_roundw
       case rel=>exact⟨i+1,by omega,by go_num,by rw[HF.out];exact(HMU.out.below hb2 HMU.out.lt).mono (Nat.le_succ i),ae hyU hb2 hyU.size⟩
       case measure=>exact meA
      ·have htb:=J3 hkp
       obtain⟨kl,hkl⟩:=F4 (a:=x.table) (b:=x.record) ⟨by omega,by omega⟩ ⟨by omega,by omega⟩
       have hnew:iY ts o day (i+1) (.agg #[.int .i64 x.table,.int .i64 x.record])=some (.bool true):=by have h:=Im (ts:=ts) (day:=day) hlt (by rw[HX.out,hl,hkp];rfl);rw[HX.out]at h;exact h
       have hold:∀u,u≠.agg #[.int .i64 x.table,.int .i64 x.record]→iY ts o day (i+1) u=iY ts o day i u:=fun u hu=>uV hlt (.inr (by rw[HX.out];exact hu))
       have zP:=qh hnew
       have HOLD:=qh hold
       have HKP:=qh hkp
       clear hl hkp hnew hold
       go_wp2_with (first
        | (go_at_call 49;(with_reducible refine(Ti.out _ brf).mono ?_);rintro e w1 ⟨rfl,hb2⟩;clear q0 q1 q2 q3 q4 q5 q6 q7;obtain⟨q0,q1,q2,q3,q4,q5,q6,q7⟩:=aF.blk (HD.out.below hb2 hDl))
        | (go_at_call 51;(with_reducible refine(uM (endE ts x) day _ HKP.out).mono ?_);rintro e w2 ⟨rfl,rfl⟩)
        | (at_mapUpdate;refine mV _ rfl _ _ _ _ rfl 170 4 zS Tryz.underlying168 W1.heap.size i _ rfl (HMU.out.below hb2 HMU.out.lt) (by unfold maxLen;omega) (.agg #[.int .i64 x.table,.int .i64 x.record]) _ rfl hkl (.bool true) rfl _ (mO _) (iY ts o day (i+1)) zP.out HOLD.out ?_;intro w3 hM3 hg3))
       go_roundw
       case rel=>exact⟨i+1,by omega,by go_num,hM3,Below.grown (ae hyU hb2 hyU.size) hg3 (by have:=hb2.size;omega) (fun q e=>by injection e with e;omega)⟩
       case measure=>exact meA
    ·have hlt':decide (i<o.length)=false:=by simpa using hlt
     obtain rfl:i=o.length:=by omega
     have HBV:=HBr
     obtain⟨V,rfl⟩:∃V:World,V=wr:=⟨_,rfl⟩
     clear hlt hi
     go_upto_region 13 with (fail)
     go_loopw [12,49] (fun vo vi wr =>∃i:Nat,i≤rt.length∧vi=.int .i64 i∧aB wr V.heap.size 170 Src.cells 2 vo (expE ts rt o day i)∧Below V.heap.size V wr) (fun _ vi _=>rt.length-(intOf vi).toNat)
     case atStart=>exact⟨0,Nat.zero_le _,rfl,aB.nil,Below.refl _ _⟩
     case round =>
      obtain⟨i,hi,rfl,hown,hbi⟩:=hrel
      have hiz:=hbi.size
      have hxi:=ae hxr hbi hxr.size
      have HOWN:=qh hown
      clear hown
      by_cases hlt:i<rt.length
      ·have hlts:i<ts.length:=by have:=HVV.out.len;omega
       obtain⟨b5,o5,rfl,hb5,hc5⟩:=(HT1.out.below hxi).get hlts
       obtain⟨_,_,_,t3⟩:=Tab.df hc5
       obtain⟨b6,o6,rfl,hb6,hc6⟩:=(HR1.out.below hxi).get hlt
       have r0:=hc6 0 _ rfl
       simp only[Nat.mul_one,Nat.add_zero]at r0
       obtain⟨p0,_⟩:=Cat.bF (HBV.out.below hbi omA)
       have hsh:=HOK.out.shape hlts
       simp only[eD,aG,Bool.and_eq_true,decide_eq_true_eq]at hsh
       obtain⟨_,hr1,hr2⟩:=hsh
       have jg:gD w w.heap.size rt[i].A rt[i].recs:=HR2.out rt[i] (lgm hlt)
       have htab:=HVV.out.tab i hlt hlts
       have Ej:=qh (IL (o:=o) (day:=day) hlts hlt)
       obtain⟨ret,hret⟩:∃r,ts[i].cK=r:=⟨_,rfl⟩
       obtain⟨recs,bN⟩:∃l,rt[i].recs=l:=⟨_,rfl⟩
       obtain⟨RI,hRI⟩:∃a,rt[i].A=a:=⟨_,rfl⟩
       have PD:=qh hret
       have oP:=qh bN
       have Ns:=uy (ts:=ts) (rt:=rt) (o:=o) (day:=day) (fun i h=>(HVV.out.tab i h (by have:=HVV.out.len;omega)).len) i
       rw[hret]at t3 hr1 hr2
       rw[bN]at r0 jg htab
       rw[hRI]at r0 jg
       have HRI:=qh jg.1
       have Lr:=qh jg.2
       have Lh:=qh htab
       have h64:=htab.len
       have Ag:=(HOK.out.af hlts).1
       clear hc5 hc6 jg hret bN htab hRI
       go_upto_region 16 with (fail)
       by_cases hr0:ret=0
       ·have e0:(ret == 0)=true:=by simpa using hr0
        have PH:Hid (expE ts rt o day (i+1)=expE ts rt o day i):=qh (by rw[expE,Ej.out,if_pos (by rw[PD.out];exact hr0),List.append_nil])
        clear hr0
        go_wp2_with fail
        go_roundw
        case rel=>exact⟨i+1,by omega,by go_num,by rw[PH.out];exact HOWN.out,hbi⟩
        case measure=>exact meA
       ·have e0:(ret == 0)=false:=by simpa using hr0
        have yU:Hid (expE ts rt o day (i+1)=expE ts rt o day i++sJ ts o day i ret recs):=qh (by rw[expE,Ej.out,if_neg (by rw[PD.out];exact hr0),PD.out,oP.out])
        clear hr0
        go_upto_region 18 with (fail)
        obtain⟨Y,rfl⟩:∃Y:World,Y=wr:=⟨_,rfl⟩
        go_loopw [12,64] (fun vo vj wi =>∃j:Nat,j≤recs.length∧vj=.int .i64 j∧aB wi V.heap.size 170 Src.cells 2 vo (expE ts rt o day i++sJ ts o day i ret (recs.take j))∧Below V.heap.size V wi) (fun _ vj _=>recs.length-(intOf vj).toNat)
        case atStart=>exact⟨0,Nat.zero_le _,rfl,by(have h:=HOWN.out;simpa[sJ]using h),hbi⟩
        case round =>
         obtain⟨j,hj,rfl,hown,hbj⟩:=hrel
         have hjz:=hbj.size
         have hxj:=ae hxr hbj hxr.size
         have VW:=hxj.size
         have hrow:=hown.row
         have HOW:=qh hown
         clear hown
         by_cases hjl:j<recs.length
         ·obtain⟨b7,o7,rfl,hb7,hc7⟩:=(HRI.out.below hxj).get hjl
          obtain⟨g0,g1,g2⟩:=Rcd.cells3 hc7
          have hat:=(Lh.out.at_ j hjl).ok
          have hsl:0<recs[j].seq.length:=by rw[hat.yY];exact Ag
          have hpos:=(hat.cell 0 Ag).pos hsl
          have DT:=hat.day
          rw[aG,Bool.and_eq_true,decide_eq_true_iff,decide_eq_true_iff]at hpos DT
          obtain⟨b8,o8,hA8,hb8,hc8⟩:=((Lr.out recs[j] (lgm hjl)).2.below hxj).get hsl
          have s0:=hc8 0 _ rfl
          rw[hA8]at g1
          have hhd:recs[j].seq[0]=cB recs[j]:=jA hsl
          rw[hhd]at s0 hpos
          simp only[Nat.zero_mul,Nat.add_zero]at s0
          have NC:=qh (IJ ts o day i ret hjl)
          obtain⟨hd,hhe⟩:∃q,cB recs[j]=q:=⟨_,rfl⟩
          obtain⟨dy,hdy⟩:∃q,recs[j].day=q:=⟨_,rfl⟩
          rw[hhe]at s0 hpos
          rw[hdy]at g2 DT
          have hsrc:nX i recs[j]=⟨(i:Int),hd⟩:=by unfold nX;rw[hhe]
          have Sj:=qh hsrc
          have HDY:=qh hdy
          have hLl:=D8 ts o day i ret (recs.take j)
          rw[List.length_take]at hLl
          clear hc7 hc8 hat hhd hA8 hhe hdy hsrc
          go_upto_region 20 with (fail)
          refine au (P:=fun u=>Code.wp _ _ _ _ u) (R:=fun u=>Blk u wr.heap.size 126 #[.slice recs[j].A recs[j].row.length recs[j].cap,.slice (some ⟨b8,o8,none⟩) recs[j].seq.length recs[j].kg,.int .i64 dy]∧Below wr.heap.size wr u) ⟨?_,?_⟩ ?_
          ·exact Blk.new _ _ _
          ·exact av
          rintro U0 ⟨hD,OZ⟩
          have hDl:=hD.lt
          have w1:=hD.cell 1
          have w2:=hD.cell 2
          simp only[gE3]at w1 w2
          replace s0:=(OZ.cell (p:=⟨b8,o8,none⟩) (show b8<wr.heap.size by omega)).trans s0
          have HD:=qh hD
          clear g0 g1 g2 hD
          go_upto_region 21 with (fail)
          refine au (P:=fun u=>Code.wp _ _ _ _ u) (R:=fun u=>Blk u wr.heap.size 126 #[.slice recs[j].A recs[j].row.length recs[j].cap,.slice (some ⟨b8,o8,none⟩) recs[j].seq.length recs[j].kg,.int .i64 dy]∧Blk u U0.heap.size 170 #[.int .i64 i,.int .i64 hd]∧Below wr.heap.size wr u) ⟨?_,?_,?_⟩ ?_
          ·exact HD.out.alloc _
          ·exact Blk.new _ _ _
          ·exact OZ.alloc OZ.size _
          rintro U ⟨hD,hS,hbU⟩
          have u2:=hD.cell 2
          simp only[gE3]at u2
          clear hD w1 w2
          have hUz:=hbU.size
          have hyU:=ae hbj hbU hjz
          have v0:=hS.cell 0
          have v1:=hS.cell 1
          simp only[gE3]at v0 v1
          obtain⟨kl,hkl⟩:=F4 (a:=(i:Int)) (b:=hd) ⟨by omega,by omega⟩ ⟨by omega,by omega⟩
          have hlk:(Instr.lookup 168 (.map (some W1.heap.size)) (.agg #[.int .i64 i,.int .i64 hd]) false).run Tryz.prog U=.ok (.bool (jq ts o day ⟨(i:Int),hd⟩)) U:=by
           have h:=(HM.out.below hyU omA).look zS Tryz.underlying168 (nD U) (mO false) hkl
           rw[J2 ⟨(i:Int),hd⟩]at h
           exact h
          have HOU:=qh (HOW.out.below hbU nlr)
          obtain⟨kp,hkp⟩:∃b,jq ts o day ⟨(i:Int),hd⟩=b:=⟨_,rfl⟩
          rw[hkp]at hlk
          have HKP:=qh hkp
          clear s0 hS hkl hkp
          have hno:∀(hc:(decide (dy+ret≤day) && !kp)=false),aB U V.heap.size 170 Src.cells 2 u12 (expE ts rt o day i++sJ ts o day i ret (recs.take (j+1))):=fun hc=>by
           rw[NC.out,HDY.out,Sj.out,HKP.out,hc]
           simpa using HOU.out
          have HNO:=qh hno
          clear hno
          by_cases hd0:dy+ret≤day
          ·have e1:decide (dy+ret≤day)=true:=by simpa using hd0
           cases kp
           ·have iV:Hid (sJ ts o day i ret (recs.take (j+1))=sJ ts o day i ret (recs.take j) ++ [⟨(i:Int),hd⟩]):=qh (by rw[NC.out,HDY.out,Sj.out,HKP.out,e1];rfl)
            obtain⟨L,hL⟩:∃L,expE ts rt o day i++sJ ts o day i ret (recs.take j)=L:=⟨_,rfl⟩
            have hLL:L.length≤1000:=by rw[←hL,List.length_append];omega
            have ho:=HOU.out
            rw[hL]at ho
            have HO2:=qh ho
            have HL:=qh hL
            have hVU:=hyU.size
            clear hd0 ho hL
            go_wp2_with (at_builtin;go_must (refine aJ _ rfl (.tmp 86) (.tmp 88) 129 rfl 170 i0 _ Src.cells 2 16 Tryz.underlying129 hi0 hz0 hz1 hz2 rfl omA dw fU V.heap.size u12 L rfl (HO2.out.alloc _) _ _ _ [⟨(i:Int),hd⟩] rfl rfl (Blk.one (enc:=Src.cells) (x:=⟨(i:Int),hd⟩) (Blk.new' rfl) spA) smA mxA smA ?_);intro v' w3 hown' hg' hat';have HOWN':=qh hown';clear hown';have hbel:Below V.heap.size V w3:=Below.grown (hyU.alloc omA _) hg' smA hrow)
            go_roundw
            case rel=>exact⟨j+1,by omega,by go_num,by rw[iV.out,←List.append_assoc,HL.out];exact HOWN'.out,hbel⟩
            case measure=>exact meA
           ·clear hd0
            go_wp2_with fail
            go_roundw
            case rel=>exact⟨j+1,by omega,by go_num,HNO.out (by rw[e1];rfl),hyU⟩
            case measure=>exact meA
          ·have e1:decide (dy+ret≤day)=false:=by simpa using hd0
           clear hd0 hlk
           go_wp2_with fail
           go_roundw
           case rel=>exact⟨j+1,by omega,by go_num,HNO.out (by rw[e1];rfl),hyU⟩
           case measure=>exact meA
         ·have zG:decide (j<recs.length)=false:=by simpa using hjl
          obtain rfl:j=recs.length:=by omega
          have PI:Hid (aB wr V.heap.size 170 Src.cells 2 u12 (expE ts rt o day (i+1))):=qh (by have h:=HOW.out;rw[List.take_length]at h;rw[yU.out];exact h)
          clear hjl
          go_wp2_with fail
          go_roundw
          case rel=>exact⟨i+1,by omega,by go_num,PI.out,hbj⟩
          case measure=>exact meA
      ·have hlt':decide (i<rt.length)=false:=by simpa using hlt
       obtain rfl:i=rt.length:=by omega
       have Ns:=uy (ts:=ts) (rt:=rt) (o:=o) (day:=day) (fun i h=>(HVV.out.tab i h (by have:=HVV.out.len;omega)).len) rt.length
       have Fw:rt.length≤8:=by rw[HVV.out.len];exact h8
       obtain⟨L,hL⟩:∃L,expE ts rt o day rt.length=L:=⟨_,rfl⟩
       have HEX:Hid (iH ts rt o day=L):=qh (by unfold iH;rw[HV.out,if_pos rfl,hL])
       have ho:=HOWN.out
       rw[hL]at ho Ns
       have HO2:=qh ho
       clear hL HOWN
       rcases ho.2 with ⟨rfl,hz⟩|⟨g,cap,cur,rfl,hgb,_,_⟩
       ·obtain rfl:L=[]:=List.eq_nil_of_length_eq_zero hz
        clear ho
        go_wp2_with (go_at_call 93;(with_reducible refine(AL _).mono ?_);rintro e w3 ⟨rfl,rfl⟩)
        refine leaves_cons (f:= 91) (args:= #[]) spA (by simp[go_sem]) ?_;refine(ik _).mono ?_;rintro e u' w'' ⟨rfl,rfl,rfl⟩;refine⟨_,results_tmp rfl _ _ _,?_⟩
        exact⟨⟨none,0,[],rfl,ah.nil,(fun a ha=>by cases ha),by rw[HEX.out],List.Pairwise.nil⟩,hxi⟩
       ·clear ho
        go_wp2_with (go_at_call 93;(with_reducible refine(Hm V.heap.size g cap L.length L _ rfl HO2.out omA).mono ?_);rintro e w3 ⟨rfl,l',hp,hso,hO3,hg3⟩;have HP:=qh hp;have HSO:=qh hso;have HO3:=qh hO3;clear hp hso hO3)
        refine leaves_cons (f:= 91) (args:= #[]) spA (by simp[go_sem]) ?_;refine(ik _).mono ?_;rintro e u' w'' ⟨rfl,rfl,rfl⟩;refine⟨_,results_tmp rfl _ _ _,?_⟩
        refine⟨⟨some ⟨g,0,none⟩,cap,l',by rw[HP.out.length_eq];rfl,bJ (base:=V.heap.size) (c:=cap) (e:= 170) dw (by rw[HP.out.length_eq];exact HO3.out),(fun a ha=>by injection ha with ha;subst ha;exact Nat.le_trans hxr.size hgb),by rw[HEX.out];exact HP.out,HSO.out⟩,Below.grown hxi hg3 hxi.size (fun q e=>by injection e with e;have:=hxr.size;omega)⟩
theorem ko(A:Option Addr)(c m:Nat)(ts:List Tab)(RA:Option Addr)(rc n:Nat)(rt:List RTab)(OA:Option Addr)(oc k:Nat)(o:List aF)(day:Int)(w:World)(ht:aM w w.heap.size A ts)(hm:ts.length=m)(hs:aL ts)(hok:aY ts)(hR:aQ w w.heap.size RA rt)(hn:rt.length=n)(hsr:dQ rt)(hO:ah w w.heap.size aF.cells 8 OA o)(hol:o.length=k)(hk:k≤1000000)(hrec:∀x∈o,0≤x.record∧x.record≤1073741824):
 Calls Tryz.prog 54 #[.agg #[.slice A m c,.slice none 0 0,.slice none 0 0,.slice none 0 0,.slice none 0 0,.slice none 0 0,.slice none 0 0,.slice none 0 0],.slice RA n rc,.slice OA k oc,.int .i64 day] w fun e w' =>
  (∃EA ec l,e=.returned (.slice EA l.length ec)∧ah w' w'.heap.size Src.cells 2 EA l∧(∀a,EA=some a→w.heap.size≤a.block)∧l.Perm (iH ts rt o day)∧l.Pairwise (fun a b=>dK a b∨a=b))∧Below w.heap.size w w':=
 vM (oo:=Oth.nil) A c m ts RA rc n rt OA oc k o day w ht hm hs hok (fu.nil ht hs hok) hR hn hsr hO hol hk hrec
end Go.Proofs.YtebippoohpnjkaaGreat
