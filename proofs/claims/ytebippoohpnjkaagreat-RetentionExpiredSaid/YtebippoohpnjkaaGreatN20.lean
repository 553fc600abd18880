/-
  Contracts and plain laws of this seat, part 20.
-/
import Derived.Test.YtebippoohpnjkaaGreatN8
import Derived.Test.YtebippoohpnjkaaGreatN19
import Derived.Test.YtebippoohpnjkaaGreatN18
set_option linter.unusedVariables false
set_option linter.unusedSimpArgs false
set_option maxRecDepth 100000
set_option maxHeartbeats 16000000
namespace Go.Proofs.YtebippoohpnjkaaGreat
open Go.RowKit
variable {o:Oth}
theorem bX.shape{ts:List Tab}{rt:List RTab}(h:bX ts rt):eu ts rt:=by
 refine⟨by rw[List.length_map];exact h.len,fun i hi hi' =>?_⟩
 rw[List.getElem_map]
 have hi2:i<rt.length:=by simpa using hi
 have h1:=h.tab i hi2 hi'
 refine⟨by simpa[aS]using h1.len,fun r hr =>?_⟩
 obtain⟨x,hx,rfl⟩:=List.mem_map.1 hr
 obtain⟨j,hj,rfl⟩:=List.getElem_of_mem hx
 have h2:=(h1.at_ j hj).ok
 exact⟨h2.len,h2.yY⟩
theorem Ec{ts:List Tab}{rt:List RTab}{x:Chg}(h:sN ts rt x=0):bX ts rt∧iZ ts x=0:=by
 unfold sN at h
 split at h
 ·cases h
 ·rename_i h1
  split at h
  ·rename_i h2
   rw[h]at h2
   cases h2
  ·rename_i h2
   refine⟨eF.1 (by simpa using h1),by simpa using h2⟩
theorem rH(ts:List Tab)(RA:Option Addr)(rc n:Nat)(rt:List RTab)(k:Nat)(kd sq dy tb:Int)(A0:Option Addr)(cp:Nat)(row:List Val)(key:Val)(cl:Int)(vl:Val)(w:World)(hrt:aQ w w.heap.size RA rt)(hn:rt.length=n)(hsh:eu ts rt)(hok:aY ts)(hR:ah w w.heap.size Val.cells 3 A0 row)(hin:sU ts ⟨kd,sq,dy,tb,A0,cp,row,key,cl,vl⟩ k):
 Calls Tryz.prog 56 #[.slice RA n rc,.agg #[.int .i64 kd,.int .i64 sq,.int .i64 dy,.int .i64 tb,.slice A0 row.length cp,.int .i64 key.kind,.int .i64 key.num,.string key.text,.int .i64 cl,.int .i64 vl.kind,.int .i64 vl.num,.string vl.text]] w (iC w n (bW (rt.map aS) ⟨kd,sq,dy,tb,A0,cp,row,key,cl,vl⟩)):=by
 have htb:tb=(k:Int):=hin.tab
 subst htb
 have hk:k<rt.length:=by rw[hsh.len];exact hin.lt
 have hkt:=hin.lt
 have hsr:=hsh.bH hok
 have hcs:=hok.af hkt
 have hca:=gB hkt
 have h1:kd=1→row.length=ts[k].af.length:=fun h=>by
  have:=hin.ins h
  rw[hca]at this
  exact this
 have hr0:kd=1→0<row.length:=fun h=>by rw[h1 h];exact hcs.1
 have hrl:row.length≤1000000:=by
  by_cases hkd:kd=1
  ·rw[h1 hkd];omega
  ·have:row.length=0:=hin.rest hkd
   omega
 have htab:=hsh.tab hk hkt
 obtain⟨z,hz⟩:∃z,gL (aS rt[k]) (keyOf ⟨kd,sq,dy,(k:Int),A0,cp,row,key,cl,vl⟩)=z:=⟨_,rfl⟩
 by_cases hkd:kd=1
 ·by_cases h64:z<0 ∧ 64≤rt[k].recs.length
  ·exact tT RA rc n rt k kd sq dy A0 cp row key cl vl w hrt hn hsr hk hR hrl hr0 hz (.inr ⟨hkd,h64.1,h64.2⟩)
  ·exact Dj RA rc n rt k kd sq dy A0 cp row key cl vl w hrt hn hsr hk hR hrl hr0 hz hkd (fun h=>by omega) (fun r hr=>by rw[(htab.2 r hr).1];exact hcs.1)
 ·by_cases hz0:z<0
  ·exact tT RA rc n rt k kd sq dy A0 cp row key cl vl w hrt hn hsr hk hR hrl hr0 hz (.inl ⟨hkd,hz0⟩)
  ·by_cases hk2:kd=2
   ·obtain⟨j,hj,hjl⟩:=hin.upd hk2
    rw[hca]at hjl
    exact Di RA rc n rt k kd sq dy A0 cp row key cl vl w hrt hn hsr hk hR hrl hr0 hz hk2 omA ⟨j,hj,fun r hr=>by rw[(htab.2 r hr).1,(htab.2 r hr).2];exact⟨hjl,hjl⟩⟩
   ·exact Dk RA rc n rt k kd sq dy A0 cp row key cl vl w hrt hn hsr hk hR hrl hr0 hz hkd hk2 omA
theorem De(A:Option Addr)(c m:Nat)(ts:List Tab)(RA:Option Addr)(rc n:Nat)(rt:List RTab)(kd sq dy tb:Int)(A0:Option Addr)(cp:Nat)(row:List Val)(key:Val)(cl:Int)(vl:Val)(w:World)(ht:aM w w.heap.size A ts)(hm:ts.length=m)(hs:aL ts)(gy:aY ts)(hcg:fu w w.heap.size A c ts o)(hrt:aQ w w.heap.size RA rt)(hn:rt.length=n)(hsr:dQ rt)(hR:ah w w.heap.size Val.cells 3 A0 row)(hrl:row.length≤1000000){z:Int}(hz:sN ts rt ⟨kd,sq,dy,tb,A0,cp,row,key,cl,vl⟩=z):
 Calls Tryz.prog 45 #[.agg #[.slice A m c,.slice o.vA 0 o.vc,.slice o.iA o.idx.length o.ic,.slice o.sA o.skt.length o.sc,.slice o.cA o.cch.length o.cc,.slice o.rA o.rel.length o.rc,.slice o.tA o.str.length o.tc,.slice o.bA o.bak.length o.bc],.slice RA n rc,.agg #[.int .i64 kd,.int .i64 sq,.int .i64 dy,.int .i64 tb,.slice A0 row.length cp,.int .i64 key.kind,.int .i64 key.num,.string key.text,.int .i64 cl,.int .i64 vl.kind,.int .i64 vl.num,.string vl.text]] w (fun e w'=>(∃A' c' m' l',e=.returned (.tuple #[.slice A' m' c',.int .i64 z])∧(z=0→m'=n∧l'.length=n∧aQ w' w'.heap.size A' l'∧RUp w.heap.size A' l'∧eu ts l'∧l'.map aS=bW (rt.map aS) ⟨kd,sq,dy,tb,A0,cp,row,key,cl,vl⟩))∧Below w.heap.size w w'):=by
 subst hm hn
 have HZ:=qh hz
 have HT:=qh ht
 have vI:=qh gy
 have HCG:=qh hcg
 have HS:=qh hs
 have HRT:=qh hrt
 have HSR:=qh hsr
 have HR:=qh hR
 clear hz ht hs gy hcg hrt hsr hR
 go_enter Tryz.func45,Tryz.ntmps45
 go_upto_region 1 with (fail)
 refine au (P:=fun u=>Code.wp _ _ _ _ u) (R:=fun u=>Blk u w.heap.size 39 #[.slice A ts.length c,.slice o.vA 0 o.vc,.slice o.iA o.idx.length o.ic,.slice o.sA o.skt.length o.sc,.slice o.cA o.cch.length o.cc,.slice o.rA o.rel.length o.rc,.slice o.tA o.str.length o.tc,.slice o.bA o.bak.length o.bc]∧Blk u (w.heap.size+1) 64 (Chg.cells ⟨kd,sq,dy,tb,A0,cp,row,key,cl,vl⟩).toArray∧Below w.heap.size w u) ⟨?_,?_,?_⟩ ?_
 ·exact(Blk.new _ _ _).alloc _
 ·exact Blk.new' spA
 ·exact av
 rintro W ⟨hC,hX,hbW⟩
 have hzW:=hX.lt
 have HC:=qh hC
 have HX:=qh hX
 obtain⟨p0,p1,p2,p3,p4,p5,p6,p7⟩:=Cat.bF hC
 obtain⟨⟨q0,q1,q2,q3⟩,q4,⟨q5,q6,q7⟩,q8,q9,q10,q11⟩:=Chg.blk hX
 simp only at q0 q1 q2 q3 q4 q5 q6 q7 q8 q9 q10 q11
 clear hC hX
 go_wp2_with fail
 (with_reducible refine(Dc A c ts.length ts RA rc rt.length rt kd sq dy tb A0 cp row key cl vl _ (HT.out.next (ae hbW brf hbW.size)) rfl HS.out vI.out (HCG.out.next (ae hbW brf hbW.size)) (HRT.out.next (ae hbW brf hbW.size)) rfl HSR.out (HR.out.next (ae hbW brf hbW.size)) hrl HZ.out).mono ?_)
 rintro e w1 ⟨rfl,hb1⟩
 clear p0 p1 p2 p3 p4 p5 p6 p7 q0 q1 q2 q3 q4 q5 q6 q7 q8 q9 q10 q11
 have hx1:=ae hbW hb1 hbW.size
 have hz1:=hb1.size
 by_cases hz0:z=0
 rotate_left
 ·have hz0':(z != 0)=true:=by simpa using hz0
  have HZ0:=qh hz0
  clear hz0
  go_wp2_with fail
  go_ret2
  exact⟨⟨none,0,0,[],rfl,fun h=>absurd h HZ0.out⟩,hx1⟩
 have HCZ:=qh (Ec (HZ.out.trans hz0))
 have HZ0:=qh hz0
 have hz0':(z != 0)=false:=by rw[hz0];rfl
 obtain⟨k,hin⟩:=uq HCZ.out.2
 have HIN:=qh hin
 have hX1:=HX.out.below hb1 hzW
 have hC1:=HC.out.below hb1 omA
 obtain⟨p0,p1,p2,p3,p4,p5,p6,p7⟩:=Cat.bF hC1
 obtain⟨⟨q0,q1,q2,q3⟩,q4,⟨q5,q6,q7⟩,q8,q9,q10,q11⟩:=Chg.blk hX1
 simp only at q0 q1 q2 q3 q4 q5 q6 q7 q8 q9 q10 q11
 clear hC1 hX1 hin hz0
 go_wp2_with fail
 (with_reducible refine(rH ts RA rc rt.length rt k kd sq dy tb A0 cp row key cl vl _ (HRT.out.next (ae hx1 brf hx1.size)) rfl HCZ.out.1.shape HCZ.out.1.cat (HR.out.next (ae hx1 brf hx1.size)) HIN.out).mono ?_)
 rintro e w2 ⟨⟨A',c',l',rfl,hl1,hl2,hl3,hl4⟩,hb2⟩
 have HL:=qh (And.intro hl1 (And.intro hl2 (And.intro hl3 hl4)))
 have HZZ:Hid (z=0):=HZ0
 clear hl1 hl2 hl3 hl4
 clear p0 p1 p2 p3 p4 p5 p6 p7 q0 q1 q2 q3 q4 q5 q6 q7 q8 q9 q10 q11
 go_wp2_with fail
 go_ret2
 have TI:=HZZ.out
 subst TI
 refine⟨⟨A',c',rt.length,l',rfl,fun _=>⟨rfl,HL.out.1,HL.out.2.1,HL.out.2.2.1.mono hx1.size,?_,HL.out.2.2.2⟩⟩,ae hx1 hb2 hx1.size⟩
 show nC ts (l'.map aS)
 rw[HL.out.2.2.2]
 exact nC.Ma HCZ.out.1.shape HIN.out
theorem Bb(A:Option Addr)(c m:Nat)(ts:List Tab)(RA:Option Addr)(rc n:Nat)(rt:List RTab)(kd sq dy tb:Int)(A0:Option Addr)(cp:Nat)(row:List Val)(key:Val)(cl:Int)(vl:Val)(w:World)(ht:aM w w.heap.size A ts)(hm:ts.length=m)(hs:aL ts)(gy:aY ts)(hrt:aQ w w.heap.size RA rt)(hn:rt.length=n)(hsr:dQ rt)(hR:ah w w.heap.size Val.cells 3 A0 row)(hrl:row.length≤1000000){z:Int}(hz:sN ts rt ⟨kd,sq,dy,tb,A0,cp,row,key,cl,vl⟩=z):
 Calls Tryz.prog 45 #[.agg #[.slice A m c,.slice none 0 0,.slice none 0 0,.slice none 0 0,.slice none 0 0,.slice none 0 0,.slice none 0 0,.slice none 0 0],.slice RA n rc,.agg #[.int .i64 kd,.int .i64 sq,.int .i64 dy,.int .i64 tb,.slice A0 row.length cp,.int .i64 key.kind,.int .i64 key.num,.string key.text,.int .i64 cl,.int .i64 vl.kind,.int .i64 vl.num,.string vl.text]] w (fun e w'=>(∃A' c' m' l',e=.returned (.tuple #[.slice A' m' c',.int .i64 z])∧(z=0→m'=n∧l'.length=n∧aQ w' w'.heap.size A' l'∧RUp w.heap.size A' l'∧eu ts l'∧l'.map aS=bW (rt.map aS) ⟨kd,sq,dy,tb,A0,cp,row,key,cl,vl⟩))∧Below w.heap.size w w'):=
 De (o:=Oth.nil) A c m ts RA rc n rt kd sq dy tb A0 cp row key cl vl w ht hm hs gy (fu.nil ht hs gy) hrt hn hsr hR hrl hz
theorem fT.mono{B B':Nat}{A:Option Addr}{ts:List Tab}(h:fT B A ts)(hb:B'≤B):fT B' A ts:=⟨fun a ha=>Nat.le_trans hb (h.1 a ha),fun t ht=>⟨fun a ha=>Nat.le_trans hb ((h.2 t ht).1 a ha),fun x hx a ha=>Nat.le_trans hb ((h.2 t ht).2 x hx a ha)⟩⟩
theorem aQ.oC{w w':World}{A:Option Addr}{rt:List RTab}{B:Nat}{row:Option Nat}(h:aQ w w.heap.size A rt)(hu:RUp B A rt)(hr:∀q,row=some q→q<B)(hg:w.grownBy w' row):aQ w' w'.heap.size A rt:=by
 have hne:∀ {A:Option Addr},(∀a,A=some a→B≤a.block)→∀a,A=some a→some a.block≠row:=fun h a ha e=>by
  have h1:=h a ha
  have h2:=hr a.block e.symm
  omega
 exact⟨ah.grown h.1 hg (hne hu.1),fun t ht=>⟨ah.grown (h.2 t ht).1 hg (hne (hu.2 t ht).1),fun x hx=>⟨ah.grown ((h.2 t ht).2 x hx).1 hg (hne ((hu.2 t ht).2 x hx).1),ah.grown ((h.2 t ht).2 x hx).2 hg (hne ((hu.2 t ht).2 x hx).2)⟩⟩⟩
structure vG (w:World) (base:Nat) (A:Option Addr) (c:Nat) (l:List Chg):Prop where
 own:aB w base 64 Chg.cells 12 (.slice A l.length c) l
 rows:∀x∈l,aB w base 62 Val.cells 3 (.slice x.A x.row.length x.cap) x.row
 len:∀x∈l,x.row.length≤8
theorem vG.kept{w w':World}{base g:Nat}{A:Option Addr}{c:Nat}{l:List Chg}(h:vG w base A c l)(hg:w.grownBy w' (some g))(hb:g<base):vG w' base A c l:=
 ⟨h.own.kept hg fun q hq e=>by have:=h.own.row q hq;injection e with e;omega,fun x hx=>(h.rows x hx).kept hg fun q hq e=>by have:=(h.rows x hx).row q hq;injection e with e;omega,h.len⟩
theorem vG.below{w w':World}{base:Nat}{A:Option Addr}{c:Nat}{l:List Chg}(h:vG w base A c l)(hb:Below w.heap.size w w'):vG w' base A c l:=
 ⟨h.own.below hb nlr,fun x hx=>(h.rows x hx).below hb nlr,h.len⟩
theorem vG.app{w w':World}{base:Nat}{A A':Option Addr}{c c':Nat}{l:List Chg}{x:Chg}(h:vG w base A c l)(hg:w.grownBy w' (Value.slice A l.length c).ownBlock)(ho:aB w' base 64 Chg.cells 12 (.slice A' (l ++ [x]).length c') (l ++ [x]))
 (hx:aB w base 62 Val.cells 3 (.slice x.A x.row.length x.cap) x.row) (hl:x.row.length≤8):vG w' base A' c' (l ++ [x]):=by
 refine⟨ho,fun y hy =>?_,fun y hy =>?_⟩
 ·rcases List.mem_append.1 hy with h1|h1
  ·exact(h.rows y h1).kept hg ((h.rows y h1).dH h.own (by decide))
  ·rw[List.mem_singleton.1 h1]
   exact hx.kept hg (hx.dH h.own (by decide))
 ·rcases List.mem_append.1 hy with h1|h1
  ·exact h.len y h1
  ·rw[List.mem_singleton.1 h1]
   exact hl
theorem vG.read{w:World}{base:Nat}{A:Option Addr}{c:Nat}{l:List Chg}(h:vG w base A c l):iD w w.heap.size A l:=⟨bJ Gl h.own,fun x hx=>bJ dE (h.rows x hx)⟩
theorem El(ts:List Tab):eu ts (List.replicate ts.length dA):=by
 refine⟨by simp,fun i hi hi' =>?_⟩
 rw[List.getElem_map,List.getElem_replicate]
 exact⟨by simp[aS,dA],fun r hr=>by simp[aS,dA]at hr⟩
theorem LM{B q:Nat}(hq:B≤q)(n:Nat):RUp B (some ⟨q,0,none⟩) (List.replicate n dA):=by
 have hz:∀t∈List.replicate n dA,t=dA:=fun t ht=>(List.mem_replicate.1 ht).2
 refine⟨fun a ha=>by injection ha with ha;subst ha;exact hq,fun t ht =>?_⟩
 rw[hz t ht]
 exact⟨fun a ha=>by simp[dA]at ha,fun x hx=>by simp[dA]at hx⟩
theorem AJ(g b B n:Nat)(A:Option Addr)(c m:Nat)(ts:List Tab)(w:World)(hk:aO w g b)(hgB:g<B)(ht:aM w w.heap.size A ts)(hu:fT B A ts)(hm:ts.length=m)(hs:aL ts)(hok:aY ts)(h0:0<ts.length)(hn:n≤1000):
 Calls Tryz.prog 12 #[.pointer (some ⟨g,0,none⟩),.agg #[.slice A m c,.slice none 0 0,.slice none 0 0,.slice none 0 0,.slice none 0 0,.slice none 0 0,.slice none 0 0,.slice none 0 0],.int .i64 n] w fun e w' =>
  ∃A' c' l,e=.returned (.slice A' l.length c')∧l.length≤n∧vG w' w.heap.size A' c' l∧aO w' g b∧w.grownBy w' (some g):=by
 subst hm
 have hgl:=hk.ltg
 have hbl:=hk.lt
 obtain⟨ic,hic,Fq,Fp,Fj⟩:=info_parts Mq
 obtain⟨n2,hn2⟩:∃n2,2*n=n2:=⟨_,rfl⟩
 have hw2:IntKind.i64.wrap (2*(n:Int))=(n2:Int):=by rw[show 2*(n:Int)=(n2:Int) by omega];exact IntWalk.i64_in _ omA
 have Ww:n2≤2000:=by omega
 have HK:=qh hk
 have HT:=qh ht
 have HU:=qh (hu.mono (B':=g+1) hgB)
 have HS:=qh hs
 have HOK:=qh hok
 clear hk ht hu hs hok hn2
 go_enter Tryz.func12,Tryz.ntmps12
 go_upto_region 1 with (fail)
 refine au (P:=fun u=>Code.wp _ _ _ _ u) (R:=fun u=>Blk u w.heap.size 39 #[.slice A ts.length c,.slice none 0 0,.slice none 0 0,.slice none 0 0,.slice none 0 0,.slice none 0 0,.slice none 0 0,.slice none 0 0]∧Below w.heap.size w u) ⟨?_,?_⟩ ?_
 ·exact Blk.new _ _ _
 ·exact av
 rintro W ⟨hC,hbW⟩
 have hzW:=hC.lt
 have hS0:aN W g b W:=⟨HK.out.below hbW,ay _ brf⟩
 have kC:b<W.heap.size:=by omega
 have jy:g<W.heap.size:=by omega
 have HC:=qh hC
 have HTW:=qh (HT.out.next hbW)
 obtain⟨p0,p1,p2,p3,p4,p5,p6,p7⟩:=Cat.blk hC
 clear hC
 go_wp2_with fail
 (with_reducible refine(EF A c ts.length ts _ HTW.out rfl HS.out HOK.out).mono ?_)
 rintro e w1 ⟨⟨q,rfl,hq,hrt⟩,hb1⟩
 have hS1:=hS0.below hb1
 have Sv:=qh hrt
 clear hrt
 clear p0 p1 p2 p3 p4 p5 p6 p7
 go_wp2_with fail
 go_loopw [7,8,9,10,11] (fun v7 v8 v9 v10 v11 wr =>∃(i:Nat) (RA:Option Addr) (rc:Nat) (rt:List RTab) (LA:Option Addr) (lc:Nat) (l:List Chg) (sq dy:Int),i≤n2∧v11=.int .i64 i∧v9=.int .i64 sq∧v10=.int .i64 dy∧v7=.slice RA ts.length rc∧rt.length=ts.length∧aQ wr wr.heap.size RA rt∧RUp (g+1) RA rt∧eu ts rt∧v8=.slice LA l.length lc∧vG wr W.heap.size LA lc l∧l.length≤n∧aN W g b wr) (fun _ _ _ _ v11 _=>n2-(intOf v11).toNat)
 case atStart=>exact⟨0,_,_,_,none,0,[],0,0,Nat.zero_le _,rfl,rfl,rfl,rfl,by simp,Sv.out,LM omA _,El ts,rfl,⟨aB.nil,fun x hx=>by simp at hx,fun x hx=>by simp at hx⟩,Nat.zero_le _,hS1⟩
 case round =>
  clear hS1 Sv hb1 hq
  obtain⟨i,RA,rc,rt,LA,lc,l,sq,dy,hi,rfl,rfl,rfl,rfl,hrl,hrt,hru,hsh,rfl,hoc,hln,hSr⟩:=hrel
  have HRL:=qh hrl
  have HRT:=qh hrt
  have HRU:=qh hru
  have HSH:=qh hsh
  have HOC:=qh hoc
  have HSR:=qh hSr
  have hzr:=hSr.size
  have hgw:w.grownBy W (some g):=ay _ hbW
  clear hrl hrt hru hsh hoc
  by_cases h1:i<n2
  rotate_left
  ·have h1':decide (i<n2)=false:=by simpa using h1
   have h1i:decide ((i:Int)<(n2:Int))=false:=by simp;omega
   go_wp2_with fail
   go_ret
   exact⟨LA,lc,l,rfl,hln,⟨HOC.out.own.mono omA,fun x hx=>(HOC.out.rows x hx).mono omA,HOC.out.len⟩,HSR.out.tape,ax hgw HSR.out.grown⟩
  have h1':decide (i<n2)=true:=by simpa using h1
  have h1i:decide ((i:Int)<(n2:Int))=true:=by simp;omega
  by_cases h2:l.length<n
  rotate_left
  ·have h2':decide (l.length<n)=false:=by simpa using h2
   have h2i:decide ((l.length:Int)<(n:Int))=false:=by simp;omega
   go_wp2_with fail
   go_ret
   exact⟨LA,lc,l,rfl,hln,⟨HOC.out.own.mono omA,fun x hx=>(HOC.out.rows x hx).mono omA,HOC.out.len⟩,HSR.out.tape,ax hgw HSR.out.grown⟩
  have h2':decide (l.length<n)=true:=by simpa using h2
  have h2i:decide ((l.length:Int)<(n:Int))=true:=by simp;omega
  go_wp2_with fail
  (with_reducible refine(aD g b 3 _ HSR.out.tape omA omA).mono ?_)
  rintro e u1 ⟨r1,rfl,hr1,hk1,hg1⟩
  have HS1:=qh (HSR.out.call hk1 hg1)
  go_wp2_with fail
  (with_reducible refine(aD g b 3 _ HS1.out.tape omA omA).mono ?_)
  rintro e u2 ⟨r2,rfl,hr2,hk2,hg2⟩
  have HS2:=qh (HS1.out.call hk2 hg2)
  have Tg:Hid (wr.grownBy u2 (some g)):=qh (ax hg1 hg2)
  clear hk1 hk2 hg1 hg2
  have hC2:=HS2.out.blk HC.out omA
  obtain⟨p0,p1,p2,p3,p4,p5,p6,p7⟩:=Cat.blk hC2
  clear hC2
  go_wp2_with fail
  (with_reducible refine(CS g b (g+1) A c ts.length ts RA rc ts.length rt _ _ _ HS2.out.tape (Nat.lt_succ_self g) (HT.out.grown HU.out (Nat.lt_succ_self g) (ax hgw HS2.out.grown)) HU.out rfl HS.out HOK.out h0 (HRT.out.grown HRU.out (Nat.lt_succ_self g) Tg.out) HRU.out HRL.out HSH.out).mono ?_)
  intro e w3 hch
  obtain⟨⟨kd,sq2,dy2,tb,A0,cp,row,key,cl,vl⟩,he,TM,Uu,Fw,hrow,hk3,hg3⟩:=hch
  clear TM Uu
  rw[show (Chg.cells ⟨kd,sq2,dy2,tb,A0,cp,row,key,cl,vl⟩).toArray=#[.int .i64 kd,.int .i64 sq2,.int .i64 dy2,.int .i64 tb,.slice A0 row.length cp,.int .i64 key.kind,.int .i64 key.num,.string key.text,.int .i64 cl,.int .i64 vl.kind,.int .i64 vl.num,.string vl.text] from rfl]at he
  subst he
  simp only at Fw hrow
  have hS3:=HS2.out.call hk3 hg3
  have sG:=HS2.out.size
  have HG3:Hid (wr.grownBy w3 (some g)):=qh (ax Tg.out hg3)
  have qB:=qh (hrow.mono (b':=W.heap.size) sG)
  have HS3:=qh hS3
  have hz3:=hS3.size
  clear p0 p1 p2 p3 p4 p5 p6 p7
  clear hk3 hg3 hrow hS3
  go_upto_region 10 with (fail)
  refine au (P:=fun u=>Code.wp _ _ _ _ u) (R:=fun u=>Blk u w3.heap.size 64 #[.int .i64 kd,.int .i64 sq2,.int .i64 dy2,.int .i64 tb,.slice A0 row.length cp,.int .i64 key.kind,.int .i64 key.num,.string key.text,.int .i64 cl,.int .i64 vl.kind,.int .i64 vl.num,.string vl.text]∧Below w3.heap.size w3 u) ⟨?_,?_⟩ ?_
  ·exact Blk.new' rfl
  ·exact av
  rintro w4 ⟨hX4,hb4⟩
  have ML:=hX4.lt
  have hz4:=hb4.size
  have HX4:=qh hX4
  have HS4:=qh (HS3.out.below hb4)
  have hC4:=HS4.out.blk HC.out omA
  obtain⟨p0,p1,p2,p3,p4,p5,p6,p7⟩:=Cat.blk hC4
  obtain⟨⟨q0,q1,q2,q3⟩,q4,⟨q5,q6,q7⟩,q8,q9,q10,q11⟩:=Chg.iR (x:=⟨kd,sq2,dy2,tb,A0,cp,row,key,cl,vl⟩) hX4
  simp only at q0 q1 q2 q3 q4 q5 q6 q7 q8 q9 q10 q11
  have SX:=qh ((HOC.out.kept HG3.out jy).below hb4)
  have ND:=qh (qB.out.below hb4 nlr)
  have nQ:Hid (aQ w4 w4.heap.size RA rt):=qh ((HRT.out.grown HRU.out (Nat.lt_succ_self g) HG3.out).next hb4)
  obtain⟨z,hz⟩:∃z,sN ts rt ⟨kd,sq2,dy2,tb,A0,cp,row,key,cl,vl⟩=z:=⟨_,rfl⟩
  have HZ:=qh hz
  clear hC4 hX4 hz
  go_wp2_with fail
  (with_reducible refine(Bb A c ts.length ts RA rc ts.length rt kd sq2 dy2 tb A0 cp row key cl vl _ (HT.out.grown HU.out (Nat.lt_succ_self g) (ax hgw HS4.out.grown)) rfl HS.out HOK.out nQ.out HRL.out (HSH.out.bH HOK.out) (bJ dE ND.out) omA HZ.out).mono ?_)
  rintro e w5 ⟨⟨A2,c2,m2,rt2,rfl,hzz⟩,hb5⟩
  have hz5:=hb5.size
  have HS5:=qh (HS4.out.below hb5)
  have M9:=qh (SX.out.below hb5)
  have Sw:=qh (ND.out.below hb5 nlr)
  have hX5:=HX4.out.below hb5 ML
  have HZZ:=qh hzz
  clear p0 p1 p2 p3 p4 p5 p6 p7
  clear q0 q1 q2 q3 q4 q5 q6 q7 q8 q9 q10 q11 hzz
  by_cases hz0:z=0
  ·have hz0':(z == 0)=true:=by rw[hz0];rfl
   obtain⟨rfl,hrl2,QH,QG,QE,_⟩:=HZZ.out hz0
   have Ve:=qh hrl2
   have Vd:=qh QH
   have Sr:=qh QG
   have U8:=qh QE
   have HX5:=qh hX5
   obtain⟨⟨q0,q1,q2,q3⟩,q4,⟨q5,q6,q7⟩,q8,q9,q10,q11⟩:=Chg.iR (x:=⟨kd,sq2,dy2,tb,A0,cp,row,key,cl,vl⟩) hX5
   simp only at q0 q1 q2 q3 q4 q5 q6 q7 q8 q9 q10 q11
   clear hrl2 QH QG QE hX5 hz0 HZZ
   go_wp2_with (at_builtin;go_must (refine aJ _ rfl (.tmp 54) (.tmp 56) 44 rfl 64 ic _ Chg.cells 12 128 Tryz.underlying44 hic Fq Fp Fj rfl omA Gl MU W.heap.size (.slice LA l.length lc) l rfl (M9.out.own.alloc _) _ _ _ [(⟨kd,sq2,dy2,tb,A0,cp,row,key,cl,vl⟩:Chg)] rfl rfl (Blk.one (enc:=Chg.cells) (x:=⟨kd,sq2,dy2,tb,A0,cp,row,key,cl,vl⟩) (Blk.new' rfl) spA) smA mxA smA ?_);intro v2 w6 hown6 hg6 Xd;obtain⟨LA6,lc6,hv6,_,_⟩:=hown6.form;subst hv6;have Vm:=qh ((M9.out.below (brf.alloc nlr _)).app hg6 hown6 (Sw.out.alloc _) Fw);have HS6:=qh ((HS5.out.below (brf.alloc nlr _)).app hg6 M9.out.own.row kC jy);have Vb:Hid (aQ w6 w6.heap.size A2 rt2):=qh ((Vd.out.next (brf.alloc nlr _)).oC Sr.out (fun q hq=>SX.out.own.lt q hq) hg6);clear hown6)
   go_roundw
   case rel=>exact⟨i+1,A2,c2,rt2,LA6,lc6,l ++ [⟨kd,sq2,dy2,tb,A0,cp,row,key,cl,vl⟩],_,_,by omega,by go_num,rfl,rfl,rfl,Ve.out,Vb.out,Sr.out.mono omA,U8.out,by simp,Vm.out,by simp;omega,HS6.out⟩
   case measure=>exact meA
  ·have hz0':(z == 0)=false:=by simpa using hz0
   have qA:=qh (nQ.out.next hb5)
   clear hz0 hX5 HZZ
   go_wp2_with fail
   go_roundw
   case rel=>exact⟨i+1,RA,rc,rt,LA,lc,l,_,_,by omega,by go_num,rfl,rfl,rfl,HRL.out,qA.out,HRU.out,HSH.out,rfl,M9.out,hln,HS5.out⟩
   case measure=>exact meA
theorem wS:(Tryz.prog.info? 92).map (fun i=>(i.zero,i.size,i.bytes))=some (some (.agg #[.int .i64 0,.int .i64 0,.string ⟨#[]⟩,.int .i64 0,.slice none 0 0,.slice none 0 0]),6,88):=by kernel_rfl
theorem Mo:(Tryz.prog.info? 25).map (fun i=>(i.zero,i.size,i.bytes))=some (some (.slice none 0 0),1,24):=by kernel_rfl
theorem wU:∀x:Option Addr × Nat × List Ident,(jK x).length=1:=fun _=>rfl
theorem MW:∀x:Option Addr × Nat × List Ident,∀u∈jK x,u.oneCell'=true:=by
 intro x u hu
 simp only[jK,List.mem_cons,List.not_mem_nil,or_false]at hu
 rcases hu with rfl
 rfl
theorem lv:∀x:Alv,∀u∈Alv.cells x,u.oneCell'=true:=by
 intro x u hu
 simp only[Alv.cells,List.mem_cons,List.not_mem_nil,or_false]at hu
 rcases hu with rfl|rfl|rfl|rfl|rfl|rfl<;>rfl
structure dh (w:World) (base n B:Nat) (x:Alv):Prop where
 own:aB w base 85 Ident.cells 4 (.slice x.A x.own.length x.cap) x.own
 EP:x.own.length≤B
 by_:aB w base 25 jK 1 (.slice x.BA x.by_.length x.Pp) x.by_
 each:∀y∈x.by_,aB w base 85 Ident.cells 4 (.slice y.1 y.2.2.length y.2.1) y.2.2∧y.2.2.length≤B
 FO:x.by_.length=n
 sq:1≤x.seq∧x.seq≤1073741824
theorem dh.same{w w':World}{base n B:Nat}{x:Alv}(h:dh w base n B x)(hh:∀g,base≤g→w'.heap[g]?=w.heap[g]?):dh w' base n B x:=
 ⟨h.own.same fun g hg=>hh g (h.own.row g hg),h.EP,h.by_.same fun g hg=>hh g (h.by_.row g hg),fun y hy=>⟨(h.each y hy).1.same fun g hg=>hh g ((h.each y hy).1.row g hg),(h.each y hy).2⟩,h.FO,h.sq⟩
theorem dh.below{w w':World}{base n B:Nat}{x:Alv}(h:dh w base n B x)(hb:Below w.heap.size w w'):dh w' base n B x:=
 ⟨h.own.below hb nlr,h.EP,h.by_.below hb nlr,fun y hy=>⟨(h.each y hy).1.below hb nlr,(h.each y hy).2⟩,h.FO,h.sq⟩
theorem dh.mono{w:World}{base base' n B:Nat}{x:Alv}(h:dh w base n B x)(hb:base'≤base):dh w base' n B x:=
 ⟨h.own.mono hb,h.EP,h.by_.mono hb,fun y hy=>⟨(h.each y hy).1.mono hb,(h.each y hy).2⟩,h.FO,h.sq⟩
theorem dh.read{w:World}{base n B:Nat}{x:Alv}(h:dh w base n B x)(hB:B≤100000):wB w w.heap.size x:=
 ⟨bJ bM h.own,iK h.own,Nat.le_trans h.EP hB,bJ wU h.by_,fun y hy=>⟨bJ bM (h.each y hy).1,Nat.le_trans (h.each y hy).2 hB⟩⟩
theorem dh.kept{α:Type}{enc:α→List Value}{s base':Nat}{e:TypeId}{v:Value}{m:List α}{w w':World}{base n B:Nat}{x:Alv}(h:dh w base n B x)(hv:aB w base' e enc s v m)(h1:85≠e)(h2:25≠e)(hg:w.grownBy w' v.ownBlock):dh w' base n B x:=
 ⟨h.own.kept hg (h.own.dH hv h1),h.EP,h.by_.kept hg (h.by_.dH hv h2),fun y hy=>⟨(h.each y hy).1.kept hg ((h.each y hy).1.dH hv h1),(h.each y hy).2⟩,h.FO,h.sq⟩
theorem dh.di{w:World}{base n B q i:Nat}{x:Alv}{e:TypeId}{cs:Array Value}(h:dh w base n B x)(hq:w.heap[q]?=some (.cells cs e (0,0)))(h1:e≠85)(h2:e≠25)(u:Value):dh (w.setCell ⟨q,i,none⟩ u) base n B x:=
 ⟨h.own.di hq h1 u,h.EP,h.by_.di hq h2 u,fun y hy=>⟨(h.each y hy).1.di hq h1 u,(h.each y hy).2⟩,h.FO,h.sq⟩
def LK(al:List fM):Prop:= ∀i (h:i<al.length),∀x∈al[i].recs,x.own.length≤8 ^ (i+1)
theorem MX{ts:List Tab}{al:List fM}(hok:aY ts)(hlen:al.length=ts.length)(hb:LK al){k:Nat}(hk:k<ts.length){x:Col}(hx:x∈ts[k].af)(hn:¬ (x.ns=⟨#[]⟩∧x.refs=⟨#[]⟩))(v:Val):(byE ts al x v).length≤8 ^ k:=by
 have hp:1≤8 ^ k:=Nat.one_le_pow _ _ omA
 unfold byE
 split
 ·exact Nat.zero_le _
 ·split
  ·exact hp
  ·rename_i h1 h2
   have hns:x.ns=⟨#[]⟩:=Decidable.byContradiction fun h=>h2 (kE h)
   have hrf:x.refs≠⟨#[]⟩:=fun h=>hn ⟨hns,h⟩
   obtain⟨j,hj,hjk,hname,_⟩:=hok.ref hk hx hrf
   have hfi:eX (ts.map Tab.name) x.refs ts.length=(j:Int):=by
    have h:=hok.find hj
    rwa [hname]at h
   have hja:j<al.length:=by omega
   rw[hfi,Ar hja]
   have hpw:8 ^ (j+1)≤8 ^ k:=Nat.pow_le_pow_right omA omA
   unfold ownAt
   split
   ·split
    ·rename_i y hy
     exact Nat.le_trans (hb j hja y (List.mem_of_getElem? hy)) hpw
    ·exact Nat.zero_le _
   ·exact Nat.zero_le _
theorem Le{ts:List Tab}{al:List fM}(hok:aY ts)(hlen:al.length=ts.length){k:Nat}(hk:k<ts.length){x:Col}(hx:x∈ts[k].af)(hn:¬ (x.ns=⟨#[]⟩∧x.refs=⟨#[]⟩))(he:x.ns.toList.isEmpty=true):∃j:Nat,j<al.length∧eX (ts.map Tab.name) x.refs ts.length=(j:Int):=by
 have hns:x.ns=⟨#[]⟩:=Decidable.byContradiction fun h=>by have:=kE h;rw[he]at this;cases this
 have hrf:x.refs≠⟨#[]⟩:=fun h=>hn ⟨hns,h⟩
 obtain⟨j,hj,hjk,hname,_⟩:=hok.ref hk hx hrf
 refine⟨j,by omega,?_⟩
 have h:=hok.find hj
 rwa [hname]at h
theorem Dn{ts:List Tab}(hok:aY ts){k:Nat}(hk:k<ts.length){q:Col}(hq:q∈ts[k].af){z:Int}(hz:z∈q.own):∃j:Nat,∃hj:j<ts[k].af.length,z=(j:Int) ∧ ¬ (ts[k].af[j].ns=⟨#[]⟩∧ts[k].af[j].refs=⟨#[]⟩):=by
 obtain⟨i,hi,rfl⟩:=List.getElem_of_mem hz
 have h:=hok.EN hk hq i hi
 have h1:=h.lo
 exact⟨q.own[i].toNat,h.hi,by omega,h.some_⟩
theorem Bl{ts:List Tab}(hok:aY ts){k:Nat}(hk:k<ts.length){out:List Int}(ho:gZ [] ts[k].af [] out):(∀z∈out,∃j:Nat,∃hj:j<ts[k].af.length,z=(j:Int) ∧ ¬ (ts[k].af[j].ns=⟨#[]⟩∧ts[k].af[j].refs=⟨#[]⟩))∧out.length≤8:=by
 have h1:∀z∈out,∃j:Nat,∃hj:j<ts[k].af.length,z=(j:Int) ∧ ¬ (ts[k].af[j].ns=⟨#[]⟩∧ts[k].af[j].refs=⟨#[]⟩):=fun z hz=>by
  rcases(ho.2 z).1 hz with h|⟨q,hq,h⟩|h
  ·cases h
  ·exact Dn hok hk hq h
  ·cases h
 refine⟨h1,?_⟩
 have hc:=(hok.af hk).2
 rcases Nat.lt_or_ge ts[k].af.length out.length with h|h
 ·have h2:=FP ho.1 (fun z hz=>by obtain⟨j,_,hj,_⟩:=h1 z hz;omega) ts[k].af.length h
  obtain⟨j,hj,hje,_⟩:=h1 _ (lgm h)
  omega
 ·omega
theorem keepW{W v:World}(h:Below W.heap.size W v)(x:Nat)(hx:x<W.heap.size):∀o,v.cell? ⟨x,o,none⟩=W.cell? ⟨x,o,none⟩:=(bg h x hx).1
theorem Ip{w:World}{B q j:Nat}{A:Option Addr}{l:List Int}{A0:Option Addr}{n c:Nat}(h:ah w B intCells 1 A l)(hc:w.cell? ⟨q,j,none⟩=some (.slice A0 n c))(u:Value):ah (w.setCell ⟨q,j,none⟩ u) B intCells 1 A l:=by
 intro hl
 obtain⟨b,o,hA,hB,hg⟩:=h hl
 refine⟨b,o,hA,hB,fun i hi m v hv =>?_⟩
 have h1:=hg i hi m v hv
 have hm:m=0∧v=.int .i64 l[i]:=by
  cases m with
  | zero=>exact⟨rfl,by simpa[intCells]using hv.symm⟩
  | succ m=>simp[intCells]at hv
 rw[hm.2]at h1 ⊢
 by_cases he:b=q∧o+(i*1+m)=j
 ·rw[he.1,he.2,hc]at h1
  cases h1
 ·have hne:(⟨q,j,none⟩:Addr)≠⟨b,o+(i*1+m),none⟩:=fun e=>he (by injection e with e1 e2;exact⟨e1.symm,e2.symm⟩)
  exact(World.cell?_setCell_other (h:=hne) ..).trans h1
theorem Da(A:Option Addr)(c m:Nat)(ts:List Tab)(RA:Option Addr)(rc n:Nat)(al:List fM)(k:Nat)(sq dy:Int)(A0:Option Addr)(cp:Nat)(row:List Val)(key:Val)(cl:Int)(vl:Val)(w:World)
 (ht:aM w w.heap.size A ts) (hm:ts.length=m) (hs:aL ts) (hok:aY ts) (hr:iw w w.heap.size RA al) (hn:al.length=n) (hlen:al.length=ts.length) (hbd:LK al) (h5:ts.length≤5) (hin:sU ts ⟨1,sq,dy,(k:Int),A0,cp,row,key,cl,vl⟩ k) (hR:ah w w.heap.size Val.cells 3 A0 row):
 Calls Tryz.prog 41 #[.agg #[.slice A m c,.slice none 0 0,.slice none 0 0,.slice none 0 0,.slice none 0 0,.slice none 0 0,.slice none 0 0,.slice none 0 0],.slice RA n rc,.agg #[.int .i64 1,.int .i64 sq,.int .i64 dy,.int .i64 (k:Int),.slice A0 row.length cp,.int .i64 key.kind,.int .i64 key.num,.string key.text,.int .i64 cl,.int .i64 vl.kind,.int .i64 vl.num,.string vl.text]] w fun e w'=>(∃x:Alv,e=.returned (.agg x.cells.toArray)∧dh w' w.heap.size (dB ts (k:Int)).length (8 ^ (k+1)) x)∧Below w.heap.size w w':=by
 subst hm hn
 have hk:=hin.lt
 have HSQ:Hid (1≤sq∧sq≤1073741824):=qh (by have h1:=hin.seq;simp only[aG,Bool.and_eq_true,decide_eq_true_eq]at h1;exact h1)
 have hcs:=hok.af hk
 have hca:=gB hk
 have hrl:row.length=ts[k].af.length:=by
  have:=hin.ins rfl
  rw[hca]at this
  exact this
 rw[hca]
 obtain⟨bd,KL⟩:∃bd,8 ^ k=bd:=⟨_,rfl⟩
 have RB:1≤bd:=by rw[←KL];exact Nat.one_le_pow _ _ omA
 have WZ:bd≤4096:=by rw[←KL];exact Nat.le_trans (Nat.pow_le_pow_right omA (show k≤4 by omega)) (by decide)
 have Rz:8 ^ (k+1)=8*bd:=by rw[←KL,Nat.pow_succ,Nat.mul_comm]
 rw[Rz]
 obtain⟨cb,co,rfl,hcb,hcc⟩:=ht.1.get hk
 obtain⟨t0,t1,t2,t3⟩:=Tab.df hcc
 have dC:=ht.2 ts[k] (lgm hk)
 obtain⟨is,his,TB,Tz,Ty⟩:=info_parts Mo
 have HBE:=qh (fun(x:Col) (hx:x∈ts[k].af) hn v=>MX (al:=al) hok hlen hbd hk hx hn v)
 have HBY:=qh (fun(x:Col) (hx:x∈ts[k].af) hn he=>Le (al:=al) hok hlen hk hx hn he)
 have HOF:=qh (fun(out:List Int) (ho:gZ [] ts[k].af [] out)=>Bl hok hk ho)
 have HOQ:=qh (fun(q:Col) (hq:q∈ts[k].af) (z:Int) (hz:z∈q.own)=>Dn hok hk hq hz)
 have HOL:=qh (fun(q:Col) (hq:q∈ts[k].af)=>hok.wP hk hq)
 have uk:∀x∈ts[k].af,x.own.length≤100:=fun x hx=>by have:=hok.wP hk hx;omega
 have PQ:=qh uk
 obtain⟨⟨tn,CA,cc,af,ter,trt⟩,hy⟩:∃x:Tab,ts[k]=x:=⟨_,rfl⟩
 have HY:Hid (ts[k].af=af):=qh (by rw[hy])
 rw[hy]at t0 t1 t2 t3 dC hcs hrl HBE HBY HOF HOQ HOL PQ
 simp only[KL]at t0 t1 t2 t3 dC hcs hrl HBE HBY HOF HOQ HOL PQ
 rw[HY.out]
 have hc0:=hcs.1
 have hc8:=hcs.2
 have rW:=qh dC
 have HT1:=qh (And.intro t0 (And.intro t1 (And.intro t2 t3)))
 have hk':decide (k<ts.length)=true:=by simpa using hk
 have HT:=qh ht
 have HS:=qh hs
 have HOK:=qh hok
 have HR:=qh hr
 have HRV:=qh hR
 have HRL:=qh hrl
 have hr0:0<row.length:=by omega
 have pU:decide (0<row.length)=true:=by simpa using hr0
 have hc0':decide (0<af.length)=true:=by simpa using hc0
 obtain⟨b5,o5,hRe,hb5,hc5⟩:=hR.get hr0
 obtain⟨v0,v1,v2⟩:=Val.cells3 hc5
 obtain⟨⟨kk,kn,kt⟩,hkv⟩:∃v:Val,row[0]=v:=⟨_,rfl⟩
 rw[hkv]at v0 v1 v2
 simp only[Nat.zero_mul,Nat.add_zero]at v0 v1 v2
 subst hRe
 clear hcc hy dC hcs hrl t0 t1 t2 t3 ht hs hok hr hR hc5 hkv KL Rz hca hin hlen hbd uk
 go_enter Tryz.func41,Tryz.ntmps41
 go_upto_region 1 with (fail)
 refine au (P:=fun u=>Code.wp _ _ _ _ u) (R:=fun u=>Blk u w.heap.size 39 #[.slice (some ⟨cb,co,none⟩) ts.length c,.slice none 0 0,.slice none 0 0,.slice none 0 0,.slice none 0 0,.slice none 0 0,.slice none 0 0,.slice none 0 0]∧Blk u (w.heap.size+1) 64 #[.int .i64 1,.int .i64 sq,.int .i64 dy,.int .i64 (k:Int),.slice (some ⟨b5,o5,none⟩) row.length cp,.int .i64 key.kind,.int .i64 key.num,.string key.text,.int .i64 cl,.int .i64 vl.kind,.int .i64 vl.num,.string vl.text]∧Blk u (w.heap.size+2) 92 #[.int .i64 0,.int .i64 0,.string ⟨#[]⟩,.int .i64 0,.slice none 0 0,.slice none 0 0]∧Below w.heap.size w u) ⟨?_,?_,?_,?_⟩ ?_
 ·exact((Blk.new _ _ _).alloc _).alloc _
 ·exact(Blk.new' spA).alloc _
 ·exact Blk.new' spA
 ·exact av
 rintro W ⟨hC,hX,hE,hbW⟩
 have hzW:=hE.lt
 have HC:=qh hC
 have HX:=qh hX
 have HE:=qh hE
 have q1:=hX.cell 1
 have q3:=hX.cell 3
 have q4:=hX.cell 4
 simp only[gE3]at q1 q3 q4
 have v0:=(hbW.cell (p:=⟨b5,_,none⟩) hb5).trans v0
 have v1:=(hbW.cell (p:=⟨b5,_,none⟩) hb5).trans v1
 have v2:=(hbW.cell (p:=⟨b5,_,none⟩) hb5).trans v2
 clear hC hX hE
 refine aT (S:=(fun v=>Below W.heap.size W v)) [8] krA (brf.drew) (fun hHeld =>?_)
 refine tkT 0 hHeld ?_
 refine tkT 1 hHeld ?_ (hy:=by intro v hSv;(try dsimp only at hSv);have k1:=keepW hSv (w.heap.size+1) omA;go_simp;first|done|with_reducible rfl)
 refine tkT 2 hHeld ?_
 refine tkT 3 hHeld ?_ (hy:=by intro v hSv;(try dsimp only at hSv);have k1:=keepW hSv b5 omA;go_simp;first|done|with_reducible rfl)
 refine tkT 4 hHeld ?_
 refine tkT 5 hHeld ?_ (hy:=by intro v hSv;(try dsimp only at hSv);have k1:=keepW hSv (w.heap.size+1) omA;go_simp;first|done|with_reducible rfl)
 refine tkT 6 hHeld ?_
 refine r1T 7 (fun K hK =>?_)
 go_simp
 refine hK.out _ _ _ av (fun hHeld =>?_)
 clear hK K
 refine rzT 8 (fun K hK =>?_)
 go_simp
 refine hK.out _ _ _ ?_
 clear hK K
 refine bf krA ?_ _
 clear hHeld v0 v1 v2 q1 q3 q4
 go_upto_region 2 with (fail)
 refine au (P:=fun u=>Code.wp _ _ _ _ u) (R:=fun u=>Blk u W.heap.size 92 #[.int .i64 kk,.int .i64 kn,.string kt,.int .i64 sq,.slice none 0 0,.slice none 0 0]∧Below W.heap.size W u) ⟨?_,?_⟩ ?_
 ·exact Blk.new' rfl
 ·exact av
 rintro U ⟨hYU,hbU⟩
 have hzU:=hYU.lt
 have hxU:=ae hbW hbU hbW.size
 have hCU:=HC.out.below hbU omA
 have hXU:=HX.out.below hbU omA
 have q3:=hXU.cell 3
 simp only[gE3]at q3
 obtain⟨p0,p1,p2,p3,p4,p5,p6,p7⟩:=Cat.blk hCU
 obtain⟨t0,t1,t2,t3⟩:=HT1.out
 have t1:=(hxU.cell (p:=⟨cb,_,none⟩) hcb).trans t1
 have HYU:=qh hYU
 clear hYU hCU hXU t0 t2 t3
 go_wp2_with fail
 (with_reducible refine(sj (some ⟨cb,co,none⟩) c ts.length ts k af _ (HT.out.next hxU) rfl hk HY.out omA PQ.out).mono ?_)
 rintro e U1 ⟨⟨OWA,owc,own,rfl,Wu,Q0,Q3⟩,hb1⟩
 have hof:=HOF.out own Q3
 have SV:=qh hof.1
 have Wv:=hof.2
 have KO:=ae hbU hb1 hbU.size
 have HY1:=qh (HYU.out.below hb1 hzU)
 have SC:=qh Q0
 clear hof Q3 Q0 t1 q3 HYU hb1 hxU
 clear p0 p1 p2 p3 p4 p5 p6 p7
 go_wp2_with fail
 go_loopw [10] (fun vi wr =>∃(i:Nat) (OA:Option Addr) (oc:Nat) (ol:List Ident),i≤own.length∧vi=.int .i64 i∧Blk wr W.heap.size 92 #[.int .i64 kk,.int .i64 kn,.string kt,.int .i64 sq,.slice OA ol.length oc,.slice none 0 0]∧aB wr W.heap.size 85 Ident.cells 4 (.slice OA ol.length oc) ol∧ol.length≤i*bd∧ah wr wr.heap.size intCells 1 OWA own∧Below W.heap.size W wr) (fun vi _=>own.length-(intOf vi).toNat)
 case atStart=>exact⟨0,none,0,[],Nat.zero_le _,rfl,HY1.out,aB.nil,by simp,SC.out,KO⟩
 case round =>
  clear KO HY1 SC hzU hbU
  obtain⟨i,OA,oc,ol,hi,rfl,hYr,hor,hol,hwr,hbr⟩:=hrel
  have hxr:=ae hbW hbr hbW.size
  have hzr:=hbr.size
  have hYl:=hYr.lt
  have hmul:i*bd≤8*bd:=Nat.mul_le_mul_right _ omA
  have HYR:=qh hYr
  have HOR:=qh hor
  have HWR:=qh hwr
  have hCr:=HC.out.below hbr omA
  have hXr:=HX.out.below hbr omA
  have q4:=hXr.cell 4
  simp only[gE3]at q4
  obtain⟨p0,p1,p2,p3,p4,p5,p6,p7⟩:=Cat.blk hCr
  clear hor hCr hXr
  by_cases hlt:i<own.length
  ·have hlt':decide (i<own.length)=true:=by simpa using hlt
   obtain⟨j,hj,hje,hns⟩:=SV.out own[i] (lgm hlt)
   obtain⟨b7,o7,hWe,hb7,hc7⟩:=HWR.out.get hlt
   have w0:=hc7 0 _ rfl
   rw[hje]at w0
   simp only[Nat.mul_one,Nat.add_zero]at w0
   subst hWe
   obtain⟨xb,xo',hCe,hxb,hxc⟩:=rW.out.1.get hj
   obtain⟨x0,x1,x2,x3,x4,x5,x6⟩:=Col.dz hxc
   have hmem:af[j]∈af:=lgm hj
   obtain⟨rv,hrv⟩:∃v,row[j]'(by rw[HRL.out];exact hj)=v:=⟨_,rfl⟩
   obtain⟨b8,o8,FE,hb8,hc8⟩:=HRV.out.get (i:=j) (by rw[HRL.out];exact hj)
   rw[hrv]at hc8
   injection FE with FE
   injection FE with O4 KS
   subst O4 KS
   obtain⟨v0,v1,v2⟩:=Val.cells3 hc8
   obtain⟨⟨xn,xt,xs,xr,xA,xc,xo,xj,xd⟩,hxe⟩:∃x:Col,af[j]=x:=⟨_,rfl⟩
   rw[hxe]at x0 x1 x2 x3 x4 x5 x6 hmem hns
   simp only at x0 x1 x2 x3 x4 x5 x6 hns
   obtain⟨r,hr⟩:∃r,byE ts al ⟨xn,xt,xs,xr,xA,xc,xo,xj,xd⟩ rv=r:=⟨_,rfl⟩
   have uY:r.length≤bd:=by rw[←hr];exact HBE.out _ hmem hns rv
   have HBR:=qh hr
   have HBL:=qh (HBY.out ⟨xn,xt,xs,xr,xA,xc,xo,xj,xd⟩ hmem hns)
   subst hCe
   have x0:=(hxr.cell (p:=⟨xb,_,none⟩) hxb).trans x0
   have x1:=(hxr.cell (p:=⟨xb,_,none⟩) hxb).trans x1
   have x2:=(hxr.cell (p:=⟨xb,_,none⟩) hxb).trans x2
   have x3:=(hxr.cell (p:=⟨xb,_,none⟩) hxb).trans x3
   have x4:=(hxr.cell (p:=⟨xb,_,none⟩) hxb).trans x4
   have x5:=(hxr.cell (p:=⟨xb,_,none⟩) hxb).trans x5
   have x6:=(hxr.cell (p:=⟨xb,_,none⟩) hxb).trans x6
   have v0:=(hxr.cell (p:=⟨b5,_,none⟩) hb8).trans v0
   have v1:=(hxr.cell (p:=⟨b5,_,none⟩) hb8).trans v1
   have v2:=(hxr.cell (p:=⟨b5,_,none⟩) hb8).trans v2
   have hj':decide (j<af.length)=true:=by simpa using hj
   have hjr:j<row.length:=by rw[HRL.out];exact hj
   have Un:decide (j<row.length)=true:=by simpa using hjr
   have y4:=hYr.cell 4
   simp only[gE3]at y4
   clear hc7 hxc hrv hc8 hxe hr hmem hns hje hYr
   go_upto_region 7 with (fail)
   refine aT (S:=(fun v=>Below wr.heap.size wr v)) [22] krA (brf.drew) (fun hHeld =>?_)
   refine tkT 0 hHeld ?_
   refine tkT 1 hHeld ?_ (hy:=by intro v hSv;(try dsimp only at hSv);have k1:=keepW hSv W.heap.size hYl;go_simp;first|done|with_reducible rfl)
   refine tkT 2 hHeld ?_ (hy:=by intro v hSv;(try dsimp only at hSv);have k1:=keepW hSv w.heap.size omA;go_simp;first|done|with_reducible rfl)
   refine tkT 3 hHeld ?_
   refine tkT 4 hHeld ?_
   refine tkT 5 hHeld ?_
   refine tkT 6 hHeld ?_
   refine tkT 7 hHeld ?_
   refine tkT 8 hHeld ?_ (hy:=by intro v hSv;(try dsimp only at hSv);have k1:=keepW hSv b7 hb7;go_simp;first|done|with_reducible rfl)
   refine tkT 9 hHeld ?_
   refine tkT 10 hHeld ?_ (hy:=by intro v hSv;(try dsimp only at hSv);have k1:=keepW hSv xb omA;go_simp;first|done|with_reducible rfl)
   refine tkT 11 hHeld ?_
   refine tkT 12 hHeld ?_ (hy:=by intro v hSv;(try dsimp only at hSv);have k1:=keepW hSv (w.heap.size+1) omA;go_simp;first|done|with_reducible rfl)
   refine tkT 13 hHeld ?_
   refine tkT 14 hHeld ?_
   refine tkT 15 hHeld ?_
   refine tkT 16 hHeld ?_ (hy:=by intro v hSv;(try dsimp only at hSv);have k1:=keepW hSv b7 hb7;go_simp;first|done|with_reducible rfl)
   refine tkT 17 hHeld ?_
   refine tkT 18 hHeld ?_ (hy:=by intro v hSv;(try dsimp only at hSv);have k1:=keepW hSv b5 omA;go_simp;first|done|with_reducible rfl)
   refine au (P:=fun v=>wpT _ _ _ _ _ _ _ _ _ v) (R:=fun v=>Below wr.heap.size wr v) hHeld ?_
   clear hHeld
   rintro u0 hU0
   have hHeld:=hU0
   refine r1T 19 (fun K hK =>?_)
   go_simp
   (go_at_call 83;(with_reducible refine(C9 (some ⟨cb,co,none⟩) c ts.length ts RA rc al.length al xn xt xs xr xA xc xo xj xd rv u0 (HT.out.next (ae hxr hU0 hxr.size)) rfl HS.out HOK.out (HR.out.next (ae hxr hU0 hxr.size)) rfl HBL.out HBR.out).mono ?_))
   rintro e u1 ⟨⟨BA,bc,rfl,hbc,hbs⟩,BR⟩
   have hU1:=ae hU0 BR hU0.size
   refine hK.out _ _ _ hU1 (fun hHeld =>?_)
   clear hK K
   refine r1T 20 (fun K hK =>?_)
   go_simp
   (go_at_call 82;(with_reducible refine(tC OA oc ol.length ol BA bc r.length r u1 (HOR.out.below hU1 nlr) (by have:=hU1.size;omega) rfl hbs rfl omA).mono ?_))
   rintro e u2 ⟨⟨NA,nc,rfl,hno⟩,OV⟩
   have hU2:=ae hU1 OV hU1.size
   refine hK.out _ _ _ hU2 (fun hHeld =>?_)
   clear hK K
   refine tkT 21 hHeld ?_
   have hY2:=HYR.out.below hU2 hYl
   have y4:=hY2.cell 4
   have yf:=hY2.frozen
   simp only[gE3]at y4
   refine rzT 22 (fun K hK =>?_)
   go_simp
   refine hK.out _ _ _ ?_
   clear hK K
   refine bf krA ?_ _
   have HY2:=qh hY2
   have HNO:=qh hno
   have HW2:=qh (HWR.out.next hU2)
   have HY4:=qh y4
   clear hHeld x0 x1 x2 x3 x4 x5 x6 v0 v1 v2 w0 y4 yf hno hY2 q4 hbs
   clear p0 p1 p2 p3 p4 p5 p6 p7
   go_wp2_with fail
   go_roundw
   case rel=>exact⟨i+1,NA,nc,gM ol r,by omega,by go_num,HY2.out.bV 4 _,HNO.out.di (by have h:=HY2.out;unfold Blk at h;exact h) (by decide) _,by have:=nT r ol;rw[Nat.succ_mul];omega,(Ip HW2.out HY4.out _).mono spA,(ae hbr hU2 hbr.size).setCell nlr _⟩
   case measure=>exact meA
  ·have hlt':decide (i<own.length)=false:=by simpa using hlt
   have Vl:=qh (Nat.le_trans hol hmul)
   clear HWR SV hol hmul
   have U5:=HYR
   obtain⟨wo,rfl⟩:∃wo:World,wo=wr:=⟨_,rfl⟩
   clear p0 p1 p2 p3 p4 p5 p6 p7
   clear q4
   go_wp2_with fail
   go_loopw [11] (fun vi wr =>∃(i:Nat) (BA:Option Addr) (bc:Nat) (bl:List (Option Addr × Nat × List Ident)),i≤af.length∧vi=.int .i64 i∧bl.length=i∧Blk wr W.heap.size 92 #[.int .i64 kk,.int .i64 kn,.string kt,.int .i64 sq,.slice OA ol.length oc,.slice BA i bc]∧aB wr W.heap.size 85 Ident.cells 4 (.slice OA ol.length oc) ol∧aB wr W.heap.size 25 jK 1 (.slice BA i bc) bl∧(∀y∈bl,aB wr W.heap.size 85 Ident.cells 4 (.slice y.1 y.2.2.length y.2.1) y.2.2∧y.2.2.length≤8*bd)∧Below W.heap.size W wr) (fun vi _=>af.length-(intOf vi).toNat)
   case atStart=>exact⟨0,none,0,[],Nat.zero_le _,rfl,rfl,HYR.out,HOR.out,aB.nil,fun y hy=>by simp at hy,hbr⟩
   case round =>
    clear hbr hxr hzr hYl HYR U5 HOR hlt hlt'
    obtain⟨i,BA,bc,bl,hi,rfl,hbl,hYr,hor,hob,hea,hbr⟩:=hrel
    have hxr:=ae hbW hbr hbW.size
    have hzr:=hbr.size
    have hYl:=hYr.lt
    have FR:=qh hbl
    have HYR:=qh hYr
    have HOR:=qh hor
    have HOB:=qh hob
    have HEA:=qh hea
    clear hbl hor hob hea
    by_cases hlt:i<af.length
    ·have hlt':decide (i<af.length)=true:=by simpa using hlt
     obtain⟨xb,xo',hCe,hxb,hxc⟩:=rW.out.1.get hlt
     obtain⟨_,_,_,_,z4,_,_⟩:=Col.dz hxc
     have DJ:af[i]∈af:=lgm hlt
     have hao:=rW.out.2 af[i] DJ
     have RQ:=HOL.out af[i] DJ
     obtain⟨⟨an,at_,as_,ar,aA,ac,ao,aj,ad⟩,hae⟩:∃x:Col,af[i]=x:=⟨_,rfl⟩
     rw[hae]at z4 DJ hao RQ
     simp only at z4 hao RQ
     have HM2:=qh DJ
     have HAO:=qh hao
     have HZ4:=qh z4
     subst hCe
     have z4:=(hxr.cell (p:=⟨xb,_,none⟩) hxb).trans z4
     clear hxc DJ hao hae hYr
     go_wp2_with fail
     obtain⟨wp,rfl⟩:∃wp:World,wp=wr:=⟨_,rfl⟩
     go_loopw [12,13] (fun vl vj wr =>∃(jj:Nat) (LA:Option Addr) (lc:Nat) (ll:List Ident),jj≤ao.length∧vj=.int .i64 jj∧vl=.slice LA ll.length lc∧aB wr W.heap.size 85 Ident.cells 4 (.slice LA ll.length lc) ll∧ll.length≤jj*bd∧Below wp.heap.size wp wr) (fun _ vj _=>ao.length-(intOf vj).toNat)
     case atStart=>exact⟨0,none,0,[],Nat.zero_le _,rfl,rfl,aB.nil,by simp,Below.refl _ _⟩
     case round =>
      clear z4
      obtain⟨jj,LA,lc,ll,hjj,rfl,rfl,hoq,hlq,hbp⟩:=hrel
      have pY:=ae hbr hbp hbr.size
      have hxr:=ae hbW pY hbW.size
      have oV:=pY.size
      have hzp:=hbp.size
      have hmul:jj*bd≤8*bd:=Nat.mul_le_mul_right _ omA
      have PG:=qh hoq
      have z4:=(hxr.cell (p:=⟨xb,_,none⟩) hxb).trans HZ4.out
      clear hoq
      by_cases hjl:jj<ao.length
      ·have zG:decide (jj<ao.length)=true:=by simpa using hjl
       obtain⟨j,hj,hje,hns⟩:=HOQ.out _ HM2.out ao[jj] (lgm hjl)
       obtain⟨b7,o7,hWe,hb7,hc7⟩:=HAO.out.get hjl
       have w0:=hc7 0 _ rfl
       rw[hje]at w0
       simp only[Nat.mul_one,Nat.add_zero]at w0
       subst hWe
       have w0:=(hxr.cell (p:=⟨b7,_,none⟩) hb7).trans w0
       obtain⟨xb2,xo2,FH,Qu,hxc⟩:=rW.out.1.get hj
       injection FH with FH
       injection FH with O9 O8
       subst O9 O8
       obtain⟨x0,x1,x2,x3,x4,x5,x6⟩:=Col.dz hxc
       have hmem:af[j]∈af:=lgm hj
       obtain⟨rv,hrv⟩:∃v,row[j]'(by rw[HRL.out];exact hj)=v:=⟨_,rfl⟩
       obtain⟨b8,o8,FE,hb8,hc8⟩:=HRV.out.get (i:=j) (by rw[HRL.out];exact hj)
       rw[hrv]at hc8
       injection FE with FE
       injection FE with O4 KS
       subst O4 KS
       obtain⟨v0,v1,v2⟩:=Val.cells3 hc8
       obtain⟨⟨xn,xt,xs,xr,xA,xc,xo,xj,xd⟩,hxe⟩:∃x:Col,af[j]=x:=⟨_,rfl⟩
       rw[hxe]at x0 x1 x2 x3 x4 x5 x6 hmem hns
       simp only at x0 x1 x2 x3 x4 x5 x6 hns
       obtain⟨r,hr⟩:∃r,byE ts al ⟨xn,xt,xs,xr,xA,xc,xo,xj,xd⟩ rv=r:=⟨_,rfl⟩
       have uY:r.length≤bd:=by rw[←hr];exact HBE.out _ hmem hns rv
       have HBR:=qh hr
       have HBL:=qh (HBY.out ⟨xn,xt,xs,xr,xA,xc,xo,xj,xd⟩ hmem hns)
       have x0:=(hxr.cell (p:=⟨xb,_,none⟩) hxb).trans x0
       have x1:=(hxr.cell (p:=⟨xb,_,none⟩) hxb).trans x1
       have x2:=(hxr.cell (p:=⟨xb,_,none⟩) hxb).trans x2
       have x3:=(hxr.cell (p:=⟨xb,_,none⟩) hxb).trans x3
       have x4:=(hxr.cell (p:=⟨xb,_,none⟩) hxb).trans x4
       have x5:=(hxr.cell (p:=⟨xb,_,none⟩) hxb).trans x5
       have x6:=(hxr.cell (p:=⟨xb,_,none⟩) hxb).trans x6
       have v0:=(hxr.cell (p:=⟨b5,_,none⟩) hb8).trans v0
       have v1:=(hxr.cell (p:=⟨b5,_,none⟩) hb8).trans v1
       have v2:=(hxr.cell (p:=⟨b5,_,none⟩) hb8).trans v2
       have hj':decide (j<af.length)=true:=by simpa using hj
       have hjr:j<row.length:=by rw[HRL.out];exact hj
       have Un:decide (j<row.length)=true:=by simpa using hjr
       have hCr:=HC.out.below pY omA
       have hXr:=HX.out.below pY omA
       have q4:=hXr.cell 4
       simp only[gE3]at q4
       obtain⟨p0,p1,p2,p3,p4,p5,p6,p7⟩:=Cat.blk hCr
       clear hc7 hxc hrv hc8 hxe hr hmem hns hje hCr hXr
       go_upto_region 16 with (fail)
       refine aT (S:=(fun v=>Below wr.heap.size wr v)) [] krA (brf.drew) (fun hHeld =>?_)
       refine tkT 0 hHeld ?_
       refine tkT 1 hHeld ?_ (hy:=by intro v hSv;(try dsimp only at hSv);have k1:=keepW hSv w.heap.size omA;go_simp;first|done|with_reducible rfl)
       refine tkT 2 hHeld ?_
       refine tkT 3 hHeld ?_
       refine tkT 4 hHeld ?_
       refine tkT 5 hHeld ?_
       refine tkT 6 hHeld ?_ (hy:=by intro v hSv;(try dsimp only at hSv);have k1:=keepW hSv xb omA;go_simp;first|done|with_reducible rfl)
       refine tkT 7 hHeld ?_
       refine tkT 8 hHeld ?_ (hy:=by intro v hSv;(try dsimp only at hSv);have k1:=keepW hSv (w.heap.size+1) omA;go_simp;first|done|with_reducible rfl)
       refine tkT 9 hHeld ?_
       refine tkT 10 hHeld ?_
       refine tkT 11 hHeld ?_ (hy:=by intro v hSv;(try dsimp only at hSv);have k1:=keepW hSv b5 omA;go_simp;first|done|with_reducible rfl)
       refine au (P:=fun v=>wpT _ _ _ _ _ _ _ _ _ v) (R:=fun v=>Below wr.heap.size wr v) hHeld ?_
       clear hHeld
       rintro u0 hU0
       have hHeld:=hU0
       refine r1T 12 (fun K hK =>?_)
       go_simp
       (go_at_call 83;(with_reducible refine(C9 (some ⟨cb,co,none⟩) c ts.length ts RA rc al.length al xn xt xs xr xA xc xo xj xd rv u0 (HT.out.next (ae hxr hU0 hxr.size)) rfl HS.out HOK.out (HR.out.next (ae hxr hU0 hxr.size)) rfl HBL.out HBR.out).mono ?_))
       rintro e u1 ⟨⟨BA1,bc1,rfl,hbc,hbs⟩,BR⟩
       have hU1:=ae hU0 BR hU0.size
       refine hK.out _ _ _ hU1 (fun hHeld =>?_)
       clear hK K
       refine r1T 13 (fun K hK =>?_)
       go_simp
       (go_at_call 82;(with_reducible refine(tC LA lc ll.length ll BA1 bc1 r.length r u1 (PG.out.below hU1 nlr) (by have:=hU1.size;omega) rfl hbs rfl omA).mono ?_))
       rintro e u2 ⟨⟨NA,nc,rfl,hno⟩,OV⟩
       have hU2:=ae hU1 OV hU1.size
       refine hK.out _ _ _ hU2 (fun hHeld =>?_)
       clear hK K
       refine r1T 14 (fun K hK =>?_)
       go_simp
       refine hK.out _ _ _ hU2 (fun hHeld =>?_)
       clear hK K
       refine bf krA ?_ _
       have HNO:=qh hno
       clear hHeld x0 x1 x2 x3 x4 x5 x6 v0 v1 v2 w0 hno q4 hbs z4
       clear p0 p1 p2 p3 p4 p5 p6 p7
       go_wp2_with fail
       go_roundw
       case rel=>exact⟨jj+1,NA,nc,gM ll r,by omega,by go_num,rfl,HNO.out,by have:=nT r ll;rw[Nat.succ_mul];omega,ae hbp hU2 hbp.size⟩
       case measure=>exact meA
      ·have zG:decide (jj<ao.length)=false:=by simpa using hjl
       have Uh:ll.length≤8*bd:=Nat.le_trans hlq hmul
       have hY1:=HYR.out.below hbp hYl
       have Xg:=hY1.lt
       have y5:=hY1.cell 5
       have yf:=hY1.frozen
       simp only[gE3]at y5
       have HY1:=qh hY1
       have SN:=qh (HOR.out.below hbp nlr)
       have I8:=qh (HOB.out.below hbp nlr)
       have PK:Hid (∀y∈bl,aB wr W.heap.size 85 Ident.cells 4 (.slice y.1 y.2.2.length y.2.1) y.2.2∧y.2.2.length≤8*bd):=qh fun y hy=>⟨(HEA.out y hy).1.below hbp nlr,(HEA.out y hy).2⟩
       clear hY1
       go_wp2_with (at_builtin;go_must (refine aJ _ rfl (.tmp 100) (.tmp 102) 90 rfl 25 is _ jK 1 24 Tryz.underlying90 his TB Tz Ty rfl omA wU MW W.heap.size (.slice BA i bc) bl rfl (I8.out.alloc _) _ _ _ [(LA,lc,ll)] rfl rfl (Blk.one (enc:=jK) (x:=(LA,lc,ll)) (Blk.new' rfl) spA) (by have:=FR.out;simp;omega) (by have:=FR.out;simp[maxLen];omega) smA ?_);intro v2 w2 hown2 hg2 oW;obtain⟨BA3,bc3,hv2,_,_⟩:=hown2.form;rw[show (bl ++ [(LA,lc,ll)]).length=i+1 by simp[FR.out]]at hv2;subst hv2;have hY2:=(HY1.out.alloc _).grown hg2 (fun e=>I8.out.bP HY1.out (by decide) W.heap.size e.symm rfl);have y5:=hY2.cell 5;have yf:=hY2.frozen;simp only[gE3]at y5;have HY2:=qh hY2;have Vn:=qh hown2;have Vk:=qh ((SN.out.alloc _).kept hg2 (SN.out.dH I8.out (by decide)));have Tj:Hid (∀y∈bl ++ [(LA,lc,ll)],aB w2 W.heap.size 85 Ident.cells 4 (.slice y.1 y.2.2.length y.2.1) y.2.2∧y.2.2.length≤8*bd):=qh (fun y hy=>(List.mem_append.1 hy).elim (fun h=>⟨((PK.out y h).1.alloc _).kept hg2 ((PK.out y h).1.dH I8.out (by decide)),(PK.out y h).2⟩) (fun h=>by rw[List.mem_singleton.1 h];exact⟨(PG.out.alloc _).kept hg2 (PG.out.dH I8.out (by decide)),Uh⟩));have hx2:Below W.heap.size W w2:=Below.grown (pY.alloc pY.size _) hg2 smA I8.out.row;clear hY2 hown2)
       go_roundw
       case rel=>exact⟨i+1,BA3,bc3,bl ++ [(LA,lc,ll)],by omega,by go_num,by simp[FR.out],HY2.out.bV 5 _,Vk.out.di (by have h:=HY2.out;unfold Blk at h;exact h) (by decide) _,Vn.out.di (by have h:=HY2.out;unfold Blk at h;exact h) (by decide) _,fun y hy=>⟨(Tj.out y hy).1.di (by have h:=HY2.out;unfold Blk at h;exact h) (by decide) _,(Tj.out y hy).2⟩,hx2.setCell nlr _⟩
       case measure=>exact meA
    ·have hlt':decide (i<af.length)=false:=by simpa using hlt
     have hie:i=af.length:=by omega
     have HIE:=qh hie
     have hEr:=HE.out.below hbr omA
     have c0:=hEr.cell 0
     have c1:=hEr.cell 1
     have c2:=hEr.cell 2
     have c3:=hEr.cell 3
     have c4:=hEr.cell 4
     have c5:=hEr.cell 5
     have cf:=hEr.frozen
     simp only[gE3]at c0 c1 c2 c3 c4 c5
     have y0:=hYr.cell 0
     have y1:=hYr.cell 1
     have y2:=hYr.cell 2
     have y3:=hYr.cell 3
     have y4:=hYr.cell 4
     have y5:=hYr.cell 5
     have yf:=hYr.frozen
     simp only[gE3]at y0 y1 y2 y3 y4 y5
     clear hie hEr hYr
     go_wp2_with fail
     refine bodyPost_ret (v:= .agg #[.int .i64 kk,.int .i64 kn,.string kt,.int .i64 sq,.slice OA ol.length oc,.slice BA i bc]) (by simp[results,Tryz.results41,go_sem,c0,c1,c2,c3,c4,c5]) rfl ⟨⟨⟨⟨kk,kn,kt⟩,sq,OA,oc,ol,BA,bc,bl⟩,by simp[Alv.cells,FR.out],?_⟩,?_⟩
     ·have hob:=HOB.out
      rw[←FR.out]at hob
      have h:dh wr W.heap.size af.length (8*bd) ⟨⟨kk,kn,kt⟩,sq,OA,oc,ol,BA,bc,bl⟩:=⟨HOR.out,Vl.out,hob,HEA.out,by rw[←HIE.out];exact FR.out,HSQ.out⟩
      refine(h.same fun g hg =>?_).mono hbW.size
      iterate 6 rw[Below.heap_setCell _ _ _ _ (by show g≠w.heap.size+2;omega)]
     ·iterate 6 (refine Below.setCell ?_ (by show w.heap.size≤w.heap.size+2;omega) _)
      exact hxr
theorem qx:∀x:fM,(fM.cells x).length=1:=fun _=>rfl
def vK:fM:=⟨none,0,[]⟩
theorem Az:92≠89:=by decide
theorem Et:85≠92:=by decide
theorem Jq:25≠92:=by decide
theorem wZ:89≠85:=by decide
theorem Ay:89≠25:=by decide
theorem NU:27≠92:=by decide
theorem NT:89≠27:=by decide
structure fI (w:World) (base:Nat) (ts:List Tab) (Q:Nat) (al:List fM) (r:Nat):Prop where
 Ao:base≤w.heap.size
 tabs:aB w base 89 fM.cells 1 (.slice (some ⟨Q,0,none⟩) al.length al.length) al
 len:al.length=ts.length
 recs:∀i (h:i<al.length),aB w base 92 Alv.cells 6 (.slice al[i].A al[i].recs.length al[i].cap) al[i].recs∧al[i].recs.length≤r
 each:∀i (h:i<al.length),∀x∈al[i].recs,dh w base (dB ts (i:Int)).length (8 ^ (i+1)) x
 apart:∀i j (hi:i<al.length) (hj:j<al.length),i≠j→jk al[i].A al[j].A
structure fe (w:World) (base:Nat) (A:Option Addr) (c:Nat) (o:List aF) (N:Nat):Prop where
 own:aB w base 27 aF.cells 8 (.slice A o.length c) o
 len:o.length≤N
 each:∀x∈o,aB w base 85 Ident.cells 4 (.slice x.A x.own.length x.cap) x.own∧x.own.length≤100000 ∧ 1≤x.record∧x.record≤1073741824
section
variable {w w':World}{base Q r k:Nat}{ts:List Tab}{al:List fM}
theorem fI.below(h:fI w base ts Q al r)(hb:Below w.heap.size w w'):fI w' base ts Q al r:=
 ⟨Nat.le_trans h.Ao hb.size,h.tabs.below hb nlr,h.len,fun i hi=>⟨(h.recs i hi).1.below hb nlr,(h.recs i hi).2⟩,fun i hi x hx=>(h.each i hi x hx).below hb,h.apart⟩
theorem fI.mono{r':Nat}(h:fI w base ts Q al r)(hr:r≤r'):fI w base ts Q al r':=
 ⟨h.Ao,h.tabs,h.len,fun i hi=>⟨(h.recs i hi).1,Nat.le_trans (h.recs i hi).2 hr⟩,h.each,h.apart⟩
theorem fI.zero{n:Nat}(hb:Blk w Q 89 (madeCells #[.slice none 0 0] n))(hQ:base≤Q)(hn:n=ts.length)(hml:n≤maxLen):fI w base ts Q (List.replicate n vK) 0:=by
 have ho:=aB.made (x:=vK) (n:=n) (base:=base) qx (by decide) (by rw[Nat.mul_one];exact hb) hQ hml
 have hz:∀i (h:i<(List.replicate n vK).length),(List.replicate n vK)[i]=vK:=fun i h=>List.getElem_replicate ..
 refine⟨Nat.le_trans hQ (Nat.le_of_lt hb.lt),by simpa using ho,by simpa using hn,fun i h =>?_,fun i h x hx =>?_,fun i j hi hj _ =>?_⟩
 ·rw[hz i h]
  exact⟨aB.nil,Nat.le_refl _⟩
 ·rw[hz i h]at hx
  cases hx
 ·rw[hz i hi]
  intro a b ha
  simp[vK]at ha
theorem fI.bd(h:fI w base ts Q al r):LK al:=fun i hi x hx=>(h.each i hi x hx).EP
theorem fI.read(h:fI w base ts Q al r)(h5:ts.length≤5)(hr:r≤100000):iw w w.heap.size (some ⟨Q,0,none⟩) al:=by
 have hl:=h.len
 refine⟨bJ qx h.tabs,by omega,fun t ht =>?_,fun t ht x hx =>?_⟩
 ·obtain⟨i,hi,rfl⟩:=List.getElem_of_mem ht
  exact⟨bJ gJ (h.recs i hi).1,Nat.le_trans (h.recs i hi).2 hr⟩
 ·obtain⟨i,hi,rfl⟩:=List.getElem_of_mem ht
  exact(h.each i hi x hx).read (Nat.le_trans (Nat.pow_le_pow_right omA (show i+1≤5 by omega)) (by decide))
theorem fI.cell(h:fI w base ts Q al r)(hk:k<al.length):w.cell? ⟨Q,k,none⟩=some (.slice al[k].A al[k].recs.length al[k].cap):=by
 have h1:=h.tabs.fF qx rfl hk (j:= 0) rfl
 simpa using h1
theorem fI.frz(h:fI w base ts Q al r):w.frozen? ⟨Q,k,none⟩=false:=h.tabs.ng rfl k
theorem fI.set(hb:base≤w.heap.size)(hT:aB w base 89 fM.cells 1 (.slice (some ⟨Q,0,none⟩) al.length al.length) al)(hlen:al.length=ts.length)(hk:k<al.length)
 (hrec:∀i (h:i<al.length),i≠k→aB w base 92 Alv.cells 6 (.slice al[i].A al[i].recs.length al[i].cap) al[i].recs∧al[i].recs.length≤r)
 (Af:∀i (h:i<al.length),i≠k→∀x∈al[i].recs,dh w base (dB ts (i:Int)).length (8 ^ (i+1)) x)
 (hap:∀i j (hi:i<al.length) (hj:j<al.length),i≠j→jk al[i].A al[j].A) {A3:Option Addr}{n3 c3:Nat}{new:List Alv}(hn3:n3=new.length)
 (hO:aB w base 92 Alv.cells 6 (.slice A3 n3 c3) new) (hr:n3≤r) (hx:∀x∈new,dh w base (dB ts (k:Int)).length (8 ^ (k+1)) x) (hA:∀i (h:i<al.length),i≠k→jk al[i].A A3):
 fI (w.setCell ⟨Q,k,none⟩ (.slice A3 n3 c3)) base ts Q (al.set k ⟨A3,c3,new⟩) r:=by
 subst hn3
 obtain⟨cs,hc⟩:=hT.typ (q:=Q) rfl
 have hO2:=hT.gp qx rfl hk ⟨A3,c3,new⟩ (j:= 0) (o:=k) (u:= .slice A3 new.length c3) omA omA rfl
 have hg:∀i (h:i<(al.set k ⟨A3,c3,new⟩).length),(k=i∧(al.set k ⟨A3,c3,new⟩)[i]=⟨A3,c3,new⟩)∨(k≠i ∧ ∃h':i<al.length,(al.set k ⟨A3,c3,new⟩)[i]=al[i]):=fun i h=>by
  rw[List.getElem_set]
  split
  ·rename_i he
   exact .inl ⟨he,rfl⟩
  ·rename_i he
   exact .inr ⟨he,by simpa using h,rfl⟩
 refine⟨by simpa using hb,by simpa using hO2,by simpa using hlen,fun i h =>?_,fun i h x hxi =>?_,fun i j hi hj hne =>?_⟩
 ·rcases hg i h with ⟨he,e⟩|⟨he,h',e⟩
  ·rw[e]
   exact⟨hO.di hc Az.symm _,hr⟩
  ·rw[e]
   exact⟨(hrec i h' (Ne.symm he)).1.di hc Az.symm _,(hrec i h' (Ne.symm he)).2⟩
 ·rcases hg i h with ⟨he,e⟩|⟨he,h',e⟩
  ·rw[e]at hxi
   subst he
   exact(hx x hxi).di hc wZ Ay _
  ·rw[e]at hxi
   exact(Af i h' (Ne.symm he) x hxi).di hc wZ Ay _
 ·rcases hg i hi with ⟨h1,e⟩|⟨h1,h1',e⟩<;>rcases hg j hj with ⟨h2,e2⟩|⟨h2,h2',e2⟩<;>rw[e,e2]
  ·exact absurd (h1.symm.trans h2) hne
  ·exact(hA j h2' (Ne.symm h2)).symm
  ·exact hA i h1' (Ne.symm h1)
  ·exact hap i j h1' h2' hne
theorem fI.cut(h:fI w base ts Q al r)(hb:Below w.heap.size w w')(hk:k<al.length){TA A3:Option Addr}{tc n3 c3:Nat}{recs new:List Alv}(hlk:al[k]=⟨TA,tc,recs⟩)(hn3:n3=new.length)(hO:aB w' w.heap.size 92 Alv.cells 6 (.slice A3 n3 c3) new)(hsub:∀x∈new,x∈recs)(hl:n3≤r):
 fI (w'.setCell ⟨Q,k,none⟩ (.slice A3 n3 c3)) base ts Q (al.set k ⟨A3,c3,new⟩) r:=by
 have h':=h.below hb
 have hrk:=h'.each k hk
 rw[hlk]at hrk
 refine fI.set h'.Ao h'.tabs h'.len hk (fun i hi _=>h'.recs i hi) (fun i hi _=>h'.each i hi) h.apart hn3 (hO.mono h.Ao) hl (fun x hx=>hrk x (hsub x hx)) fun i hi _ a b ha hb2 e =>?_
 have h1:=(h.recs i hi).1.lt a.block (by rw[ha];rfl)
 have h2:=hO.row b.block (by rw[hb2];rfl)
 omega
theorem fI.more(h:fI w base ts Q al r)(hk:k<al.length){TA A3:Option Addr}{tc n3 c3 z:Nat}{recs:List Alv}{x:Alv}(hlk:al[k]=⟨TA,tc,recs⟩)(hn3:n3=(recs ++ [x]).length)(hg:w.grownBy w' (Value.slice TA recs.length tc).ownBlock)
 (hO:aB w' base 92 Alv.cells 6 (.slice A3 n3 c3) (recs ++ [x])) (hat:(Value.slice A3 n3 c3).ownBlock=(Value.slice TA recs.length tc).ownBlock∨(Value.slice A3 n3 c3).ownBlock=some z) (hz:w.heap.size≤z) (hx:dh w base (dB ts (k:Int)).length (8 ^ (k+1)) x):
 fI (w'.setCell ⟨Q,k,none⟩ (.slice A3 n3 c3)) base ts Q (al.set k ⟨A3,c3,recs ++ [x]⟩) (r+1):=by
 have hown:=(h.recs k hk).1
 have hrl:=(h.recs k hk).2
 have hek:=h.each k hk
 have RP:=fun i hi=>h.apart i k hi hk
 rw[hlk]at hown hrl hek
 simp only[hlk]at RP
 have hrow:∀i (hi:i<al.length),i≠k→∀q,(Value.slice al[i].A al[i].recs.length al[i].cap).ownBlock=some q→some q≠(Value.slice TA recs.length tc).ownBlock:=fun i hi hne q hq e=>by
  have h2:=RP i hi hne
  cases TA with
  | none=>simp[Value.ownBlock]at e
  | some b=>exact iL h2 hq b rfl (by simpa[Value.ownBlock]using e)
 have hE:∀ {n B:Nat}{y:Alv},dh w base n B y→dh w' base n B y:=fun hy=>hy.kept hown Et Jq hg
 refine fI.set (Nat.le_trans h.Ao hg.size) (h.tabs.kept hg (h.tabs.dH hown Az.symm)) h.len hk (fun i hi hne=>⟨(h.recs i hi).1.kept hg (hrow i hi hne),by have:=(h.recs i hi).2;omega⟩) (fun i hi _ y hy=>hE (h.each i hi y hy)) h.apart hn3 hO ?_ (fun y hy =>?_) fun i hi hne a b ha hb e =>?_
 ·rw[hn3,List.length_append,List.length_singleton]
  simp only at hrl
  omega
 ·rcases List.mem_append.1 hy with h1|h1
  ·exact hE (hek y h1)
  ·rw[List.mem_singleton.1 h1]
   exact hE hx
 ·subst hb
  have hq:(Value.slice al[i].A al[i].recs.length al[i].cap).ownBlock=some a.block:=by rw[ha];rfl
  have he:(Value.slice (some b) n3 c3).ownBlock=some b.block:=rfl
  rw[he]at hat
  rcases hat with h1|h1
  ·exact hrow i hi hne a.block hq (by rw[←h1,e])
  ·have h2:=(h.recs i hi).1.lt a.block hq
   injection h1 with h1
   omega
theorem Gb{u v:World}{row:Option Nat}(hg:u.grownBy v row)(x:Nat)(hx:x<u.heap.size)(hne:some x≠row):∀o,v.cell? ⟨x,o,none⟩=u.cell? ⟨x,o,none⟩:=fun o=>World.cell?_of_block (hg.block x hx hne)
end
section
variable {w w':World}{base c N:Nat}{A:Option Addr}{o:List aF}
theorem fe.nil:fe w base none 0 [] 0:=⟨aB.nil,Nat.le_refl _,fun x hx=>by cases hx⟩
theorem fe.below(h:fe w base A c o N)(hb:Below w.heap.size w w'):fe w' base A c o N:=
 ⟨h.own.below hb nlr,h.len,fun x hx=>⟨(h.each x hx).1.below hb nlr,(h.each x hx).2⟩⟩
theorem fe.mono{N':Nat}(h:fe w base A c o N)(hN:N≤N'):fe w base A c o N':=⟨h.own,Nat.le_trans h.len hN,h.each⟩
theorem fe.kept{g:Nat}(h:fe w base A c o N)(hg:w.grownBy w' (some g))(hb:g<base):fe w' base A c o N:=
 ⟨h.own.kept hg fun q hq e=>by have:=h.own.row q hq;injection e with e;omega,h.len,fun x hx=>⟨(h.each x hx).1.kept hg fun q hq e=>by have:=(h.each x hx).1.row q hq;injection e with e;omega,(h.each x hx).2⟩⟩
theorem fe.lift{base':Nat}(h:fe w base A c o N)(hb:base'≤base):fe w base' A c o N:=⟨h.own.mono hb,h.len,fun x hx=>⟨(h.each x hx).1.mono hb,(h.each x hx).2⟩⟩
theorem fe.Qn{v:Value}{m:List Alv}{s base':Nat}{enc:Alv→List Value}(h:fe w base A c o N)(hv:aB w base' 92 enc s v m)(hg:w.grownBy w' v.ownBlock):fe w' base A c o N:=
 ⟨h.own.kept hg (h.own.dH hv NU),h.len,fun x hx=>⟨(h.each x hx).1.kept hg ((h.each x hx).1.dH hv Et),(h.each x hx).2⟩⟩
theorem fe.store{q i:Nat}{cs:Array Value}(h:fe w base A c o N)(hq:w.heap[q]?=some (.cells cs 89 (0,0)))(u:Value):fe (w.setCell ⟨q,i,none⟩ u) base A c o N:=
 ⟨h.own.di hq NT u,h.len,fun x hx=>⟨(h.each x hx).1.di hq wZ u,(h.each x hx).2⟩⟩
theorem fe.read(h:fe w base A c o N):ah w w.heap.size aF.cells 8 A o∧Ed w w.heap.size o:=
 ⟨bJ aX h.own,fun x hx=>⟨bJ bM (h.each x hx).1,by have:=(h.each x hx).2;omega⟩⟩
theorem JG(o:List aF)(x:aF):(nL o x).length=o.length+1:=by
 unfold nL
 simp only[List.length_append,List.length_take,List.length_drop,List.length_map,List.length_cons,List.length_nil]
 omega
theorem JF{o:List aF}{x y:aF}(h:y∈nL o x):y=x ∨ ∃z∈o,y.A=z.A∧y.cap=z.cap∧y.own=z.own∧y.record=z.record:=by
 have h1:y=x∨y∈o.map (unl x):=by
  unfold nL at h
  rcases List.mem_append.1 h with h|h
  ·rcases List.mem_append.1 h with h|h
   ·exact .inr (List.mem_of_mem_take h)
   ·exact .inl (List.mem_singleton.1 h)
  ·exact .inr (List.mem_of_mem_drop h)
 rcases h1 with h1|h1
 ·exact .inl h1
 ·obtain⟨z,hz,rfl⟩:=List.mem_map.1 h1
  refine .inr ⟨z,hz,?_⟩
  unfold unl
  split<;>exact⟨rfl,rfl,rfl,rfl⟩
theorem fe.put{A':Option Addr}{c':Nat}{x:aF}(h:fe w base A c o N)(hbase:base≤w.heap.size)(hb:Below w.heap.size w w')(hO:aB w' w.heap.size 27 aF.cells 8 (.slice A' (nL o x).length c') (nL o x))(hx:aB w base 85 Ident.cells 4 (.slice x.A x.own.length x.cap) x.own)(hl:x.own.length≤100000 ∧ 1≤x.record∧x.record≤1073741824):fe w' base A' c' (nL o x) (N+1):=by
 refine⟨hO.mono hbase,by rw[JG];have:=h.len;omega,fun y hy =>?_⟩
 rcases JF hy with rfl|⟨z,hz,h1,h2,h3,h4⟩
 ·exact⟨hx.below hb nlr,hl⟩
 ·rw[h1,h2,h3,h4]
  exact⟨(h.each z hz).1.below hb nlr,(h.each z hz).2⟩
end
end Go.Proofs.YtebippoohpnjkaaGreat
