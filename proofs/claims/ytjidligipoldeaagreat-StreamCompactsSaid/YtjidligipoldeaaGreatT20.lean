/-
  Contracts and plain laws of this seat, part 20.
-/
import Derived.Test.YtjidligipoldeaaGreatT8
import Derived.Test.YtjidligipoldeaaGreatT19
set_option linter.unusedVariables false
set_option linter.unusedSimpArgs false
set_option maxRecDepth 100000
set_option maxHeartbeats 16000000
namespace Go.Proofs.YtjidligipoldeaaGreat
open Go.RowKit
variable {o:Oth}
theorem gu.shape{ts:List Tab}{rt:List RTab}(h:gu ts rt):eU ts rt:=by
 refine⟨by rw[List.length_map];exact h.len,fun i hi hi' =>?_⟩
 rw[List.getElem_map]
 have hi2:i<rt.length:=by simpa using hi
 have h1:=h.tab i hi2 hi'
 refine⟨by simpa[aD]using h1.len,fun r hr =>?_⟩
 obtain⟨x,hx,rfl⟩:=List.mem_map.1 hr
 obtain⟨j,hj,rfl⟩:=List.getElem_of_mem hx
 have h2:=(h1.at_ j hj).ok
 exact⟨h2.len,h2.oO⟩
theorem qi{ts:List Tab}{rt:List RTab}{x:Chg}(h:lv ts rt x=0):gu ts rt∧aV ts x=0:=by
 unfold lv at h
 split at h
 ·cases h
 ·rename_i h1
  split at h
  ·rename_i h2
   rw[h]at h2
   cases h2
  ·rename_i h2
   refine⟨nY.1 (by simpa using h1),by simpa using h2⟩
theorem rC(ts:List Tab)(RA:Option Addr)(rc n:Nat)(rt:List RTab)(k:Nat)(kd sq dy tb:Int)(A0:Option Addr)(cp:Nat)(row:List Val)(key:Val)(cl:Int)(vl:Val)(w:World)(hrt:aR w w.heap.size RA rt)(hn:rt.length=n)(hsh:eU ts rt)(hok:aN ts)(hR:ag w w.heap.size Val.cells 3 A0 row)(hin:jN ts ⟨kd,sq,dy,tb,A0,cp,row,key,cl,vl⟩ k):
 Calls Tryz.prog 42 #[.slice RA n rc,.agg #[.int .i64 kd,.int .i64 sq,.int .i64 dy,.int .i64 tb,.slice A0 row.length cp,.int .i64 key.kind,.int .i64 key.num,.string key.text,.int .i64 cl,.int .i64 vl.kind,.int .i64 vl.num,.string vl.text]] w (iU w n (aQ (rt.map aD) ⟨kd,sq,dy,tb,A0,cp,row,key,cl,vl⟩)):=by
 have htb:tb=(k:Int):=hin.tab
 subst htb
 have hk:k<rt.length:=by rw[hsh.len];exact hin.lt
 have hkt:=hin.lt
 have hsr:=hsh.wJ hok
 have hcs:=hok.ae hkt
 have hca:=cB hkt
 have h1:kd=1→row.length=ts[k].ae.length:=fun h=>by
  have:=hin.ins h
  rw[hca]at this
  exact this
 have hr0:kd=1→0<row.length:=fun h=>by rw[h1 h];exact hcs.1
 have hrl:row.length≤1000000:=by
  by_cases hkd:kd=1
  ·rw[h1 hkd];omega
  ·have:row.length=0:=hin.rest hkd
   omega
 have htab:=hsh.tab hk hkt
 obtain⟨z,hz⟩:∃z,dV (aD rt[k]) (keyOf ⟨kd,sq,dy,(k:Int),A0,cp,row,key,cl,vl⟩)=z:=⟨_,rfl⟩
 by_cases hkd:kd=1
 ·by_cases h64:z<0 ∧ 64≤rt[k].recs.length
  ·exact tY RA rc n rt k kd sq dy A0 cp row key cl vl w hrt hn hsr hk hR hrl hr0 hz (.inr ⟨hkd,h64.1,h64.2⟩)
  ·exact CL RA rc n rt k kd sq dy A0 cp row key cl vl w hrt hn hsr hk hR hrl hr0 hz hkd (fun h=>by omega) (fun r hr=>by rw[(htab.2 r hr).1];exact hcs.1)
 ·by_cases hz0:z<0
  ·exact tY RA rc n rt k kd sq dy A0 cp row key cl vl w hrt hn hsr hk hR hrl hr0 hz (.inl ⟨hkd,hz0⟩)
  ·by_cases hk2:kd=2
   ·obtain⟨j,hj,hjl⟩:=hin.upd hk2
    rw[hca]at hjl
    exact CK RA rc n rt k kd sq dy A0 cp row key cl vl w hrt hn hsr hk hR hrl hr0 hz hk2 omA ⟨j,hj,fun r hr=>by rw[(htab.2 r hr).1,(htab.2 r hr).2];exact⟨hjl,hjl⟩⟩
   ·exact CO RA rc n rt k kd sq dy A0 cp row key cl vl w hrt hn hsr hk hR hrl hr0 hz hkd hk2 omA
theorem CG(A:Option Addr)(c m:Nat)(ts:List Tab)(RA:Option Addr)(rc n:Nat)(rt:List RTab)(kd sq dy tb:Int)(A0:Option Addr)(cp:Nat)(row:List Val)(key:Val)(cl:Int)(vl:Val)(w:World)(ht:aF w w.heap.size A ts)(hm:ts.length=m)(hs:aM ts)(il:aN ts)(hcg:gF w w.heap.size A c ts o)(hrt:aR w w.heap.size RA rt)(hn:rt.length=n)(hsr:mi rt)(hR:ag w w.heap.size Val.cells 3 A0 row)(hrl:row.length≤1000000){z:Int}(hz:lv ts rt ⟨kd,sq,dy,tb,A0,cp,row,key,cl,vl⟩=z):
 Calls Tryz.prog 68 #[.agg #[.slice A m c,.slice o.vA 0 o.vc,.slice o.iA o.idx.length o.ic,.slice o.sA o.skt.length o.sc,.slice o.cA o.cch.length o.cc,.slice o.rA o.rel.length o.rc,.slice o.tA o.str.length o.tc,.slice o.bA o.bak.length o.bc],.slice RA n rc,.agg #[.int .i64 kd,.int .i64 sq,.int .i64 dy,.int .i64 tb,.slice A0 row.length cp,.int .i64 key.kind,.int .i64 key.num,.string key.text,.int .i64 cl,.int .i64 vl.kind,.int .i64 vl.num,.string vl.text]] w (fun e w'=>(∃A' c' m' l',e=.returned (.tuple #[.slice A' m' c',.int .i64 z])∧(z=0→m'=n∧l'.length=n∧aR w' w'.heap.size A' l'∧RUp w.heap.size A' l'∧eU ts l'∧l'.map aD=aQ (rt.map aD) ⟨kd,sq,dy,tb,A0,cp,row,key,cl,vl⟩))∧Below w.heap.size w w'):=by
 subst hm hn
 have HZ:=qh hz
 have HT:=qh ht
 have vS:=qh il
 have HCG:=qh hcg
 have HS:=qh hs
 have HRT:=qh hrt
 have HSR:=qh hsr
 have HR:=qh hR
 clear hz ht hs il hcg hrt hsr hR
 go_enter Tryz.func68,Tryz.ntmps68
 go_upto_region 1 with (fail)
 refine ah (P:=fun u=>Code.wp _ _ _ _ u) (R:=fun u=>Blk u w.heap.size 33 #[.slice A ts.length c,.slice o.vA 0 o.vc,.slice o.iA o.idx.length o.ic,.slice o.sA o.skt.length o.sc,.slice o.cA o.cch.length o.cc,.slice o.rA o.rel.length o.rc,.slice o.tA o.str.length o.tc,.slice o.bA o.bak.length o.bc]∧Blk u (w.heap.size+1) 52 (Chg.cells ⟨kd,sq,dy,tb,A0,cp,row,key,cl,vl⟩).toArray∧Below w.heap.size w u) ⟨?_,?_,?_⟩ ?_
 ·exact(Blk.new _ _ _).alloc _
 ·exact Blk.new' spA
 ·exact ai
 rintro W ⟨hC,hX,hbW⟩
 have hzW:=hX.lt
 have HC:=qh hC
 have HX:=qh hX
 obtain⟨p0,p1,p2,p3,p4,p5,p6,p7⟩:=Cat.fU hC
 obtain⟨⟨q0,q1,q2,q3⟩,q4,⟨q5,q6,q7⟩,q8,q9,q10,q11⟩:=Chg.blk hX
 simp only at q0 q1 q2 q3 q4 q5 q6 q7 q8 q9 q10 q11
 clear hC hX
 go_wp2_with fail
 (with_reducible refine(CF A c ts.length ts RA rc rt.length rt kd sq dy tb A0 cp row key cl vl _ (HT.out.next (aa hbW brf hbW.size)) rfl HS.out vS.out (HCG.out.next (aa hbW brf hbW.size)) (HRT.out.next (aa hbW brf hbW.size)) rfl HSR.out (HR.out.next (aa hbW brf hbW.size)) hrl HZ.out).mono ?_)
 rintro e w1 ⟨rfl,hb1⟩
 clear p0 p1 p2 p3 p4 p5 p6 p7 q0 q1 q2 q3 q4 q5 q6 q7 q8 q9 q10 q11
 have hx1:=aa hbW hb1 hbW.size
 have hz1:=hb1.size
 by_cases hz0:z=0
 rotate_left
 ·have hz0':(z != 0)=true:=by simpa using hz0
  have HZ0:=qh hz0
  clear hz0
  go_wp2_with fail
  go_ret2
  exact⟨⟨none,0,0,[],rfl,fun h=>absurd h HZ0.out⟩,hx1⟩
 have HCZ:=qh (qi (HZ.out.trans hz0))
 have HZ0:=qh hz0
 have hz0':(z != 0)=false:=by rw[hz0];rfl
 obtain⟨k,hin⟩:=fF HCZ.out.2
 have HIN:=qh hin
 have hX1:=HX.out.below hb1 hzW
 have hC1:=HC.out.below hb1 omA
 obtain⟨p0,p1,p2,p3,p4,p5,p6,p7⟩:=Cat.fU hC1
 obtain⟨⟨q0,q1,q2,q3⟩,q4,⟨q5,q6,q7⟩,q8,q9,q10,q11⟩:=Chg.blk hX1
 simp only at q0 q1 q2 q3 q4 q5 q6 q7 q8 q9 q10 q11
 clear hC1 hX1 hin hz0
 go_wp2_with fail
 (with_reducible refine(rC ts RA rc rt.length rt k kd sq dy tb A0 cp row key cl vl _ (HRT.out.next (aa hx1 brf hx1.size)) rfl HCZ.out.1.shape HCZ.out.1.cat (HR.out.next (aa hx1 brf hx1.size)) HIN.out).mono ?_)
 rintro e w2 ⟨⟨A',c',l',rfl,hl1,hl2,hl3,hl4⟩,hb2⟩
 have HL:=qh (And.intro hl1 (And.intro hl2 (And.intro hl3 hl4)))
 have HZZ:Hid (z=0):=HZ0
 clear hl1 hl2 hl3 hl4
 clear p0 p1 p2 p3 p4 p5 p6 p7 q0 q1 q2 q3 q4 q5 q6 q7 q8 q9 q10 q11
 go_wp2_with fail
 go_ret2
 have WI:=HZZ.out
 subst WI
 refine⟨⟨A',c',rt.length,l',rfl,fun _=>⟨rfl,HL.out.1,HL.out.2.1,HL.out.2.2.1.mono hx1.size,?_,HL.out.2.2.2⟩⟩,aa hx1 hb2 hx1.size⟩
 show iB ts (l'.map aD)
 rw[HL.out.2.2.2]
 exact iB.sw HCZ.out.1.shape HIN.out
theorem AU(A:Option Addr)(c m:Nat)(ts:List Tab)(RA:Option Addr)(rc n:Nat)(rt:List RTab)(kd sq dy tb:Int)(A0:Option Addr)(cp:Nat)(row:List Val)(key:Val)(cl:Int)(vl:Val)(w:World)(ht:aF w w.heap.size A ts)(hm:ts.length=m)(hs:aM ts)(il:aN ts)(hrt:aR w w.heap.size RA rt)(hn:rt.length=n)(hsr:mi rt)(hR:ag w w.heap.size Val.cells 3 A0 row)(hrl:row.length≤1000000){z:Int}(hz:lv ts rt ⟨kd,sq,dy,tb,A0,cp,row,key,cl,vl⟩=z):
 Calls Tryz.prog 68 #[.agg #[.slice A m c,.slice none 0 0,.slice none 0 0,.slice none 0 0,.slice none 0 0,.slice none 0 0,.slice none 0 0,.slice none 0 0],.slice RA n rc,.agg #[.int .i64 kd,.int .i64 sq,.int .i64 dy,.int .i64 tb,.slice A0 row.length cp,.int .i64 key.kind,.int .i64 key.num,.string key.text,.int .i64 cl,.int .i64 vl.kind,.int .i64 vl.num,.string vl.text]] w (fun e w'=>(∃A' c' m' l',e=.returned (.tuple #[.slice A' m' c',.int .i64 z])∧(z=0→m'=n∧l'.length=n∧aR w' w'.heap.size A' l'∧RUp w.heap.size A' l'∧eU ts l'∧l'.map aD=aQ (rt.map aD) ⟨kd,sq,dy,tb,A0,cp,row,key,cl,vl⟩))∧Below w.heap.size w w'):=
 CG (o:=Oth.nil) A c m ts RA rc n rt kd sq dy tb A0 cp row key cl vl w ht hm hs il (gF.nil ht hs il) hrt hn hsr hR hrl hz
theorem gN.mono{B B':Nat}{A:Option Addr}{ts:List Tab}(h:gN B A ts)(hb:B'≤B):gN B' A ts:=⟨fun a ha=>Nat.le_trans hb (h.1 a ha),fun t ht=>⟨fun a ha=>Nat.le_trans hb ((h.2 t ht).1 a ha),fun x hx a ha=>Nat.le_trans hb ((h.2 t ht).2 x hx a ha)⟩⟩
theorem aR.FI{w w':World}{A:Option Addr}{rt:List RTab}{B:Nat}{row:Option Nat}(h:aR w w.heap.size A rt)(hu:RUp B A rt)(hr:∀q,row=some q→q<B)(hg:w.grownBy w' row):aR w' w'.heap.size A rt:=by
 have hne:∀ {A:Option Addr},(∀a,A=some a→B≤a.block)→∀a,A=some a→some a.block≠row:=fun h a ha e=>by
  have h1:=h a ha
  have h2:=hr a.block e.symm
  omega
 exact⟨ag.grown h.1 hg (hne hu.1),fun t ht=>⟨ag.grown (h.2 t ht).1 hg (hne (hu.2 t ht).1),fun x hx=>⟨ag.grown ((h.2 t ht).2 x hx).1 hg (hne ((hu.2 t ht).2 x hx).1),ag.grown ((h.2 t ht).2 x hx).2 hg (hne ((hu.2 t ht).2 x hx).2)⟩⟩⟩
structure jM (w:World) (base:Nat) (A:Option Addr) (c:Nat) (l:List Chg):Prop where
 own:aj w base 52 Chg.cells 12 (.slice A l.length c) l
 rows:∀x∈l,aj w base 50 Val.cells 3 (.slice x.A x.row.length x.cap) x.row
 len:∀x∈l,x.row.length≤8
theorem jM.kept{w w':World}{base g:Nat}{A:Option Addr}{c:Nat}{l:List Chg}(h:jM w base A c l)(hg:w.grownBy w' (some g))(hb:g<base):jM w' base A c l:=
 ⟨h.own.kept hg fun q hq e=>by have:=h.own.row q hq;injection e with e;omega,fun x hx=>(h.rows x hx).kept hg fun q hq e=>by have:=(h.rows x hx).row q hq;injection e with e;omega,h.len⟩
theorem jM.below{w w':World}{base:Nat}{A:Option Addr}{c:Nat}{l:List Chg}(h:jM w base A c l)(hb:Below w.heap.size w w'):jM w' base A c l:=
 ⟨h.own.below hb nlr,fun x hx=>(h.rows x hx).below hb nlr,h.len⟩
theorem jM.app{w w':World}{base:Nat}{A A':Option Addr}{c c':Nat}{l:List Chg}{x:Chg}(h:jM w base A c l)(hg:w.grownBy w' (Value.slice A l.length c).ownBlock)(ho:aj w' base 52 Chg.cells 12 (.slice A' (l ++ [x]).length c') (l ++ [x]))
 (hx:aj w base 50 Val.cells 3 (.slice x.A x.row.length x.cap) x.row) (hl:x.row.length≤8):jM w' base A' c' (l ++ [x]):=by
 refine⟨ho,fun y hy =>?_,fun y hy =>?_⟩
 ·rcases List.mem_append.1 hy with h1|h1
  ·exact(h.rows y h1).kept hg ((h.rows y h1).eT h.own (by decide))
  ·rw[List.mem_singleton.1 h1]
   exact hx.kept hg (hx.eT h.own (by decide))
 ·rcases List.mem_append.1 hy with h1|h1
  ·exact h.len y h1
  ·rw[List.mem_singleton.1 h1]
   exact hl
theorem jM.read{w:World}{base:Nat}{A:Option Addr}{c:Nat}{l:List Chg}(h:jM w base A c l):dQ w w.heap.size A l:=⟨dM eu h.own,fun x hx=>dM bC (h.rows x hx)⟩
theorem xe(ts:List Tab):eU ts (List.replicate ts.length dY):=by
 refine⟨by simp,fun i hi hi' =>?_⟩
 rw[List.getElem_map,List.getElem_replicate]
 exact⟨by simp[aD,dY],fun r hr=>by simp[aD,dY]at hr⟩
theorem Gr{B q:Nat}(hq:B≤q)(n:Nat):RUp B (some ⟨q,0,none⟩) (List.replicate n dY):=by
 have hz:∀t∈List.replicate n dY,t=dY:=fun t ht=>(List.mem_replicate.1 ht).2
 refine⟨fun a ha=>by injection ha with ha;subst ha;exact hq,fun t ht =>?_⟩
 rw[hz t ht]
 exact⟨fun a ha=>by simp[dY]at ha,fun x hx=>by simp[dY]at hx⟩
end Go.Proofs.YtjidligipoldeaaGreat
