/-
  Contracts and plain laws of this seat, part 18.
-/
import Derived.Test.YtebippoohpnjkaaGreatN14
set_option linter.unusedVariables false
set_option linter.unusedSimpArgs false
set_option maxRecDepth 100000
set_option maxHeartbeats 16000000
namespace Go.Proofs.YtebippoohpnjkaaGreat
open Go.RowKit
structure Alv where
 key:Val
 seq:Int
 A:Option Addr
 cap:Nat
 own:List Ident
 BA:Option Addr
 Pp:Nat
 by_:List (Option Addr × Nat × List Ident)
def Alv.cells(x:Alv):List Value:= [.int .i64 x.key.kind,.int .i64 x.key.num,.string x.key.text,.int .i64 x.seq,.slice x.A x.own.length x.cap,.slice x.BA x.by_.length x.Pp]
theorem gJ:∀x:Alv,(Alv.cells x).length=6:=fun _=>rfl
theorem Alv.FM{w:World}{b o:Nat}{x:Alv}(h:∀j u,x.cells[j]?=some u→w.cell? ⟨b,o+j,none⟩=some u):
 w.cell? ⟨b,o,none⟩=some (.int .i64 x.key.kind)∧w.cell? ⟨b,o+1,none⟩=some (.int .i64 x.key.num)∧w.cell? ⟨b,o+2,none⟩=some (.string x.key.text)∧w.cell? ⟨b,o+3,none⟩=some (.int .i64 x.seq)∧w.cell? ⟨b,o+4,none⟩=some (.slice x.A x.own.length x.cap)∧w.cell? ⟨b,o+5,none⟩=some (.slice x.BA x.by_.length x.Pp):=
 ⟨h 0 _ rfl,h 1 _ rfl,h 2 _ rfl,h 3 _ rfl,h 4 _ rfl,h 5 _ rfl⟩
def gI(l:List Alv)(key:Val):Int:=il (fun x=>decide (x.key=key)) l
theorem xu(A:Option Addr)(c n:Nat)(l:List Alv)(key:Val)(w:World)(hl:ah w w.heap.size Alv.cells 6 A l)(hln:l.length=n)(hn:n≤1000000){r:Int}(hr:gI l key=r):
 Calls Tryz.prog 40 #[.slice A n c,.agg #[.int .i64 key.kind,.int .i64 key.num,.string key.text]] w fun e w'=>e=.returned (.int .i64 r)∧Below w.heap.size w w':=by
 subst hln
 have hg:Tryz.prog.eqGuardType Tryz.prog.depth 62=false:=by kernel_rfl
 have HL:=qh hl
 have HR:=qh hr
 clear hl hr
 go_enter Tryz.func40,Tryz.ntmps40
 go_wp2_with fail
 obtain⟨W,hW⟩:∃W:World,w.alloc (.cells #[.int .i64 key.kind,.int .i64 key.num,.string key.text] 62)=W:=⟨_,rfl⟩
 have hbW:Below w.heap.size w W:=by rw[←hW];exact av
 have hB:Blk W w.heap.size 62 #[.int .i64 key.kind,.int .i64 key.num,.string key.text]:=by rw[←hW];exact Blk.new _ _ _
 rw[hW]
 clear hW
 have hzW:=hB.lt
 have HB:=qh hB
 clear hB
 go_loopw [5] (fun vi wr =>∃m:Nat,m≤l.length∧vi=.int .i64 m∧Below W.heap.size W wr∧(∀i (h:i<l.length),i<m→decide (l[i].key=key)=false)) (fun vi _=>l.length-(intOf vi).toNat)
 case atStart=>exact⟨0,Nat.zero_le _,rfl,Below.refl _ _,fun i _ h=>by omega⟩
 case round =>
  obtain⟨m,hm,rfl,hbr,hno⟩:=hrel
  have HNO:=qh hno
  clear hno
  have hxr:=ae hbW hbr hbW.size
  have hwz:=hbr.size
  have q0:=(HB.out.below hbr hzW).cell 0
  have q1:=(HB.out.below hbr hzW).cell 1
  have q2:=(HB.out.below hbr hzW).cell 2
  simp only[gE3]at q0 q1 q2
  by_cases hlt:m<l.length
  ·have hlt':decide (m<l.length)=true:=by simpa using hlt
   obtain⟨b,o,rfl,hb,hc⟩:=(HL.out.below hxr).get hlt
   obtain⟨y0,y1,y2,_,_,_⟩:=Alv.FM hc
   obtain⟨k,hk⟩:∃k,l[m].key=k:=⟨_,rfl⟩
   rw[hk]at y0 y1 y2
   have HK:=qh hk
   clear hc hk
   have hk0:=aK (w:=wr) b omA
   have hk2:=aK (w:=wr) w.heap.size omA
   cases he:decide (k=key)
   ·have heq:=fQ he
    have HH:Hid (decide (l[m].key=key)=false):=qh (by rw[HK.out];exact he)
    clear he
    go_upto_region 4 with (fail)
    refine ag krA krA ?_;(repeat(go_big_quiet_step (fail)));refine wpQuiet_nil ?_;intro wq hq
    clear hk0 hk2 q0 q1 q2 y0 y1 y2 heq
    go_wp2_with fail
    go_roundw
    case rel=>exact⟨m+1,by omega,by go_num,ae hbr hq hbr.size,fun i h hi=>by
     rcases Nat.lt_or_ge i m with h1|h1
     ·exact HNO.out i h h1
     ·obtain rfl:i=m:=by omega
      exact HH.out⟩
    case measure=>exact meA
   ·have heq:=fQ he
    have HH:Hid (r=(m:Int)):=qh (by rw[←HR.out,gI];exact yB hlt (by simp only[HK.out];exact he) HNO.out)
    clear he
    go_upto_region 4 with (fail)
    refine ag krA krA ?_;(repeat(go_big_quiet_step (fail)));refine wpQuiet_nil ?_;intro wq hq
    clear hk0 hk2 q0 q1 q2 y0 y1 y2 heq
    go_wp2_with fail
    go_ret
    exact⟨az HH.out.symm,ae hxr hq hxr.size⟩
  ·have hlt':decide (m<l.length)=false:=by simpa using hlt
   have HH:Hid (r=-1):=qh (by rw[←HR.out,gI];exact uu fun i h=>HNO.out i h omA)
   go_wp2_with fail
   go_ret
   exact⟨az (a:= -1) HH.out.symm,hxr⟩
def persB(ts:List Tab)(t j:Nat):Bool:=match ts[t]? with
 | some x=>match x.af[j]? with
   | some y=>decide (0<y.own.length)
   | none=>false
 | none=>false
theorem Ia{ts:List Tab}{t j:Nat}(h:t<ts.length)(k:j<ts[t].af.length):persB ts t j=decide (0<ts[t].af[j].own.length):=by
 unfold persB
 rw[List.getElem?_eq_getElem h]
 simp only
 rw[List.getElem?_eq_getElem k]
theorem pE(A:Option Addr)(c m:Nat)(ts:List Tab)(t j:Nat)(w:World)(ht:aM w w.heap.size A ts)(hm:ts.length=m)(hs:aL ts)(hok:aY ts)(h:t<ts.length)(k:j<ts[t].af.length){r:Bool}(hr:persB ts t j=r):
 Calls Tryz.prog 42 #[.agg #[.slice A m c,.slice none 0 0,.slice none 0 0,.slice none 0 0,.slice none 0 0,.slice none 0 0,.slice none 0 0,.slice none 0 0],.int .i64 t,.int .i64 j] w fun e w'=>e=.returned (.bool r)∧Below w.heap.size w w':=by
 subst hm
 obtain⟨tb5,to5,rfl,wJ,htc⟩:=ht.1.get h
 obtain⟨_,t1,_,_⟩:=Tab.df htc
 have dC:=(ht.2 ts[t] (lgm h)).1
 have hln:=hs.len
 have hcl:=(hs.tabs ts[t] (lgm h)).len
 have hol:=hok.wP h (lgm k)
 rw[Ia h k]at hr
 have hres:=hr
 obtain⟨af,hcs⟩:∃l,ts[t].af=l:=⟨_,rfl⟩
 simp only[hcs]at k dC t1 hcl hol hres
 obtain⟨CA,hCA⟩:∃a,ts[t].A=a:=⟨_,rfl⟩
 obtain⟨cc,hcc⟩:∃a,ts[t].cap=a:=⟨_,rfl⟩
 simp only[hCA]at dC t1
 simp only[hcc]at t1
 obtain⟨cb,co,rfl,hcb,hcx⟩:=dC.get k
 obtain⟨z0,z1,z2,z3,z4,z5,z6⟩:=Col.dz hcx
 obtain⟨x,hx⟩:∃x:Col,af[j]=x:=⟨_,rfl⟩
 simp only[hx]at z4 hol hres
 obtain⟨ol,Mv⟩:∃n,x.own.length=n:=⟨_,rfl⟩
 simp only[Mv]at z4 hol hres
 have bz:=qh hres
 have h':decide (t<ts.length)=true:=by simpa using h
 have k':decide (j<af.length)=true:=by simpa using k
 clear hr hres hcs hCA hcc hx hcx dC htc ht hs hok z0 z1 z2 z3 z5 z6 Mv
 go_enter Tryz.func42,Tryz.ntmps42
 go_wp2_with fail
 go_ret
 exact⟨aC bz.out,by exact av⟩
def jK(y:Option Addr × Nat × List Ident):List Value:= [.slice y.1 y.2.2.length y.2.1]
structure wB (w:World) (B:Nat) (x:Alv):Prop where
 own:ah w B Ident.cells 4 x.A x.own
 cap:x.own.length≤x.cap
 len:x.own.length≤100000
 by_:ah w B jK 1 x.BA x.by_
 each:∀y∈x.by_,ah w B Ident.cells 4 y.1 y.2.2∧y.2.2.length≤100000
theorem wB.below{w w':World}{B:Nat}{x:Alv}(h:wB w B x)(hb:Below B w w'):wB w' B x:=⟨h.own.below hb,h.cap,h.len,h.by_.below hb,fun y hy=>⟨(h.each y hy).1.below hb,(h.each y hy).2⟩⟩
theorem wB.mono{w:World}{B B':Nat}{x:Alv}(h:wB w B x)(hb:B≤B'):wB w B' x:=⟨h.own.mono hb,h.cap,h.len,h.by_.mono hb,fun y hy=>⟨(h.each y hy).1.mono hb,(h.each y hy).2⟩⟩
structure fM where
 A:Option Addr
 cap:Nat
 recs:List Alv
def fM.cells(x:fM):List Value:= [.slice x.A x.recs.length x.cap]
structure iw (w:World) (B:Nat) (A:Option Addr) (l:List fM):Prop where
 tabs:ah w B fM.cells 1 A l
 len:l.length≤8
 recs:∀t∈l,ah w B Alv.cells 6 t.A t.recs∧t.recs.length≤100000
 each:∀t∈l,∀x∈t.recs,wB w B x
theorem iw.below{w w':World}{B:Nat}{A:Option Addr}{l:List fM}(h:iw w B A l)(hb:Below B w w'):iw w' B A l:=⟨h.tabs.below hb,h.len,fun t ht=>⟨(h.recs t ht).1.below hb,(h.recs t ht).2⟩,fun t ht x hx=>(h.each t ht x hx).below hb⟩
theorem iw.mono{w:World}{B B':Nat}{A:Option Addr}{l:List fM}(h:iw w B A l)(hb:B≤B'):iw w B' A l:=⟨h.tabs.mono hb,h.len,fun t ht=>⟨(h.recs t ht).1.mono hb,(h.recs t ht).2⟩,fun t ht x hx=>(h.each t ht x hx).mono hb⟩
theorem iw.next{w w':World}{A:Option Addr}{l:List fM}(h:iw w w.heap.size A l)(hb:Below w.heap.size w w'):iw w' w'.heap.size A l:=(h.below hb).mono hb.size
def Gm(al:List fM)(k:Int):List Alv:=match al[k.toNat]? with
 | some t=>t.recs
 | none =>[]
theorem Ar{al:List fM}{k:Nat}(h:k<al.length):Gm al (k:Int)=al[k].recs:=by
 unfold Gm
 rw[Int.toNat_natCast,List.getElem?_eq_getElem h]
def ownAt(l:List Alv)(k:Int):List Ident:=if 0≤k then match l[k.toNat]? with
 | some x=>x.own
 | none =>[] else []
def byE(ts:List Tab)(al:List fM)(x:Col)(v:Val):List Ident:=
 if (v.kind == 0)=true then [] else if x.ns.toList.isEmpty=false then [⟨x.ns,v⟩]
 else ownAt (Gm al (eX (ts.map Tab.name) x.refs ts.length)) (gI (Gm al (eX (ts.map Tab.name) x.refs ts.length)) v)
theorem C9(A:Option Addr)(c m:Nat)(ts:List Tab)(RA:Option Addr)(rc n:Nat)(al:List fM)(xn:ByteArray)(xt:Int)(xs xr:ByteArray)(xA:Option Addr)(xc:Nat)(xo:List Int)(xj xd:Int)(v:Val)(w:World)
 (ht:aM w w.heap.size A ts) (hm:ts.length=m) (hs:aL ts) (hok:aY ts) (hr:iw w w.heap.size RA al) (hn:al.length=n) (hk:xs.toList.isEmpty=true→∃k:Nat,k<al.length∧eX (ts.map Tab.name) xr ts.length=(k:Int)) {r:List Ident}(hres:byE ts al ⟨xn,xt,xs,xr,xA,xc,xo,xj,xd⟩ v=r):
 Calls Tryz.prog 83 #[.agg #[.slice A m c,.slice none 0 0,.slice none 0 0,.slice none 0 0,.slice none 0 0,.slice none 0 0,.slice none 0 0,.slice none 0 0],.slice RA n rc,.agg #[.string xn,.int .i64 xt,.string xs,.string xr,.slice xA xo.length xc,.int .i64 xj,.int .i64 xd],.agg #[.int .i64 v.kind,.int .i64 v.num,.string v.text]] w fun e w'=>(∃A' c',e=.returned (.slice A' r.length c')∧r.length≤c'∧ah w' w'.heap.size Ident.cells 4 A' r)∧Below w.heap.size w w':=by
 subst hm hn
 cases hv:(v.kind == 0)
 rotate_left
 ·have HB:Hid (r=[]):=qh (by rw[←hres,byE,hv];rfl)
  clear hk hres ht hr
  go_enter Tryz.func83,Tryz.ntmps83
  go_upto_region 1 with (fail)
  refine au (P:=fun u=>Code.wp _ _ _ _ u) (R:=fun u=>Blk u w.heap.size 39 #[.slice A ts.length c,.slice none 0 0,.slice none 0 0,.slice none 0 0,.slice none 0 0,.slice none 0 0,.slice none 0 0,.slice none 0 0]∧Blk u (w.heap.size+1) 79 #[.string xn,.int .i64 xt,.string xs,.string xr,.slice xA xo.length xc,.int .i64 xj,.int .i64 xd]∧Blk u (w.heap.size+2) 62 #[.int .i64 v.kind,.int .i64 v.num,.string v.text]∧Below w.heap.size w u) ⟨?_,?_,?_,?_⟩ ?_
  ·exact((Blk.new _ _ _).alloc _).alloc _
  ·exact(Blk.new' spA).alloc _
  ·exact Blk.new' spA
  ·exact av
  rintro W ⟨hC,hX,hV,hbW⟩
  obtain⟨p0,p1,p2,p3,p4,p5,p6,p7⟩:=Cat.blk hC
  obtain⟨x0,x1,x2,x3,x4,x5,x6⟩:=Col.blk hX
  have v0:=hV.cell 0
  have v1:=hV.cell 1
  have v2:=hV.cell 2
  simp only[gE3]at v0 v1 v2
  have hzW:=hV.lt
  have HV:=qh hV
  clear hC hX hV
  go_wp2_with fail
  go_ret
  exact⟨⟨none,0,by rw[HB.out];rfl,by rw[HB.out];exact Nat.le_refl _,by rw[HB.out];exact ah.nil⟩,hbW⟩
 cases he:xs.toList.isEmpty
 ·have HB:Hid (r=[⟨xs,v⟩]):=qh (by rw[←hres];simp only[byE,hv,he];rfl)
  clear hk hres ht hr
  go_enter Tryz.func83,Tryz.ntmps83
  go_upto_region 1 with (fail)
  refine au (P:=fun u=>Code.wp _ _ _ _ u) (R:=fun u=>Blk u w.heap.size 39 #[.slice A ts.length c,.slice none 0 0,.slice none 0 0,.slice none 0 0,.slice none 0 0,.slice none 0 0,.slice none 0 0,.slice none 0 0]∧Blk u (w.heap.size+1) 79 #[.string xn,.int .i64 xt,.string xs,.string xr,.slice xA xo.length xc,.int .i64 xj,.int .i64 xd]∧Blk u (w.heap.size+2) 62 #[.int .i64 v.kind,.int .i64 v.num,.string v.text]∧Below w.heap.size w u) ⟨?_,?_,?_,?_⟩ ?_
  ·exact((Blk.new _ _ _).alloc _).alloc _
  ·exact(Blk.new' spA).alloc _
  ·exact Blk.new' spA
  ·exact av
  rintro W ⟨hC,hX,hV,hbW⟩
  obtain⟨p0,p1,p2,p3,p4,p5,p6,p7⟩:=Cat.blk hC
  obtain⟨x0,x1,x2,x3,x4,x5,x6⟩:=Col.blk hX
  have v0:=hV.cell 0
  have v1:=hV.cell 1
  have v2:=hV.cell 2
  simp only[gE3]at v0 v1 v2
  have hzW:=hV.lt
  have HV:=qh hV
  clear hC hX hV
  go_wp2_with fail
  go_ret
  refine⟨⟨some ⟨W.heap.size,0,none⟩,1,by rw[HB.out];rfl,by rw[HB.out];exact Nat.le_refl _,?_⟩,?_⟩
  ·rw[HB.out]
   obtain⟨A',c',h1,h2,h3,_⟩:=(aB.one (enc:=Ident.cells) (x:=⟨xs,v⟩) (base:= 0) (Blk.new' (w:=W) (t:= 85) rfl) (Nat.zero_le _) bM).slice bM
   cases h1
   exact h3
  ·exact ae hbW av hbW.size
 obtain⟨k,hkr,hfi⟩:=hk he
 obtain⟨rb,ro,rfl,hrb,hrc⟩:=hr.tabs.get hkr
 have c0:=hrc 0 _ rfl
 have bN:=(hr.recs al[k] (lgm hkr)).1
 have lN:=(hr.recs al[k] (lgm hkr)).2
 have Af:=hr.each al[k] (lgm hkr)
 have hln:=hr.len
 obtain⟨z,hz⟩:∃z,gI al[k].recs v=z:=⟨_,rfl⟩
 have hres2:ownAt al[k].recs z=r:=by
  rw[←hres,←hz]
  simp only[byE,hv,he,hfi,Ar hkr]
  rfl
 obtain⟨⟨TA,tc,recs⟩,hy⟩:∃x:fM,al[k]=x:=⟨_,rfl⟩
 rw[hy]at c0 bN lN Af hz hres2
 simp only[Nat.mul_one,Nat.add_zero]at c0 bN lN Af hz hres2
 have HT:=qh ht
 have HS:=qh hs
 have HOK:=qh hok
 have HFI:=qh hfi
 have HRE:=qh bN
 have HEA:=qh Af
 have bz:=qh hres2
 have HZ:=qh hz
 have HC0:=qh c0
 have Kz:decide (k<al.length)=true:=by simpa using hkr
 clear hk hres hres2 ht hr hs hok hfi bN hrc hy Af c0 hz
 go_enter Tryz.func83,Tryz.ntmps83
 go_upto_region 1 with (fail)
 refine au (P:=fun u=>Code.wp _ _ _ _ u) (R:=fun u=>Blk u w.heap.size 39 #[.slice A ts.length c,.slice none 0 0,.slice none 0 0,.slice none 0 0,.slice none 0 0,.slice none 0 0,.slice none 0 0,.slice none 0 0]∧Blk u (w.heap.size+1) 79 #[.string xn,.int .i64 xt,.string xs,.string xr,.slice xA xo.length xc,.int .i64 xj,.int .i64 xd]∧Blk u (w.heap.size+2) 62 #[.int .i64 v.kind,.int .i64 v.num,.string v.text]∧Below w.heap.size w u) ⟨?_,?_,?_,?_⟩ ?_
 ·exact((Blk.new _ _ _).alloc _).alloc _
 ·exact(Blk.new' spA).alloc _
 ·exact Blk.new' spA
 ·exact av
 rintro W ⟨hC,hX,hV,hbW⟩
 obtain⟨p0,p1,p2,p3,p4,p5,p6,p7⟩:=Cat.blk hC
 obtain⟨x0,x1,x2,x3,x4,x5,x6⟩:=Col.blk hX
 have v0:=hV.cell 0
 have v1:=hV.cell 1
 have v2:=hV.cell 2
 simp only[gE3]at v0 v1 v2
 have hzW:=hV.lt
 have HV:=qh hV
 clear hC hX hV
 have HXB:=qh hbW
 go_wp2_with fail
 (with_reducible refine(xI A c ts.length ts xr _ (HT.out.next (ae hbW brf hbW.size)) rfl HS.out HOK.out HFI.out).mono ?_)
 rintro e w1 ⟨rfl,hb1⟩
 clear p0 p1 p2 p3 p4 p5 p6 p7 x0 x1 x2 x3 x4 x5 x6 v0 v1 v2
 have hx1:=ae hbW hb1 hbW.size
 have hz1:=hb1.size
 have hV1:=HV.out.below hb1 omA
 have v0:=hV1.cell 0
 have v1:=hV1.cell 1
 have v2:=hV1.cell 2
 simp only[gE3]at v0 v1 v2
 clear hV1
 have c0:=(hx1.cell (p:=⟨rb,_,none⟩) hrb).trans HC0.out
 have hk0:=aK (w:=w1) (w.heap.size+2) omA
 have hk3:=aK (w:=w1) rb omA
 go_upto_region 6 with (fail)
 refine ag krA krA ?_;(repeat(go_big_quiet_step ((go_at_call 40;with_reducible exact bI (xu TA tc recs.length recs v _ (HRE.out.next (ae hx1 (bG.h _) hx1.size)) rfl omA HZ.out)))));refine wpQuiet_nil ?_;intro wq hq
 clear hk0 hk3 v0 v1 v2 c0
 have hxq:=ae hx1 hq hx1.size
 have c0:=(hxq.cell (p:=⟨rb,_,none⟩) hrb).trans HC0.out
 cases hzz:decide (0≤z)
 ·have HB:Hid (r=[]):=qh (by rw[←bz.out,ownAt,if_neg (by simpa using hzz)])
  go_wp2_with fail
  go_ret
  exact⟨⟨none,0,by rw[HB.out];rfl,by rw[HB.out];exact Nat.le_refl _,by rw[HB.out];exact ah.nil⟩,hxq⟩
 ·obtain⟨j,hj,hjz,_⟩:=mQ (p:=fun x:Alv=>decide (x.key=v)) (l:=recs) (by rw[←gI,HZ.out];simpa using hzz)
  rw[←gI,HZ.out]at hjz
  subst hjz
  have hrr:recs[j].own=r:=by rw[←bz.out,ownAt,if_pos omA,Int.toNat_natCast,List.getElem?_eq_getElem hj]
  have hai:=HEA.out recs[j] (lgm hj)
  obtain⟨ab,ao,rfl,hab,hac⟩:=(HRE.out.below hxq).get hj
  obtain⟨_,_,_,_,y4,_⟩:=Alv.FM hac
  have hso:=hai.own
  have hcp:=hai.cap
  rw[hrr]at hso hcp y4
  have HSO:=qh hso
  obtain⟨oA,hoA⟩:∃a,recs[j].A=a:=⟨_,rfl⟩
  obtain⟨oc,hoc⟩:∃a,recs[j].cap=a:=⟨_,rfl⟩
  rw[hoA,hoc]at y4
  rw[hoc]at hcp
  have HOA:=qh hoA
  have hj':decide (j<recs.length)=true:=by simpa using hj
  clear hac hai hso hrr hoA hoc
  go_wp2_with fail
  go_ret
  exact⟨⟨oA,oc,rfl,hcp,by rw[←HOA.out];exact HSO.out.next hxq⟩,hxq⟩
theorem JQ{P:Prop}(h:P:=by
 have HKK:Hid (nL o ⟨xt,xc,xs,xr,xd,xA,lF,xo,xn,xl⟩=L.take k ++ [⟨xt,xc,xs,xr,xd,xA,lF,xo,xn,xl⟩]++L.drop k):=qh (by rw[nL,HL2.out,HPK.out])
 go_upto_region 10 with (fail)
 refine au (P:=fun u=>Code.wp _ _ _ _ u) (R:=fun u=>Blk u w.heap.size 27 (aF.cells ⟨xt,xc,xs,xr,xd,xA,lF,xo,xn,xl⟩).toArray∧aB u (w.heap.size+1) 27 aF.cells 8 (.slice (some ⟨b1,0,none⟩) L.length cap) L∧Below w.heap.size w u) ⟨(HBI.out.below hq omA),(HOI.out.below hq nlr),(ae HBR.out (ae hbi hq hbi.size) HBR.out.size)⟩ ?_
 rintro U ⟨hBU,hOU,hbU⟩
 obtain⟨A9,c9,h91,hc9,hl2,_⟩:=hOU.slice aX
 injection h91 with h91 h92 h93
 subst h91 h93
 have hzz:=hBU.lt
 obtain⟨p0,p1,p2,p3,p4,p5,p6,p7⟩:=aF.blk hBU
 have WB:=HLN.out
 have hkc:k≤cap:=by omega
 have hLc:o.length≤cap:=by omega
 by_cases hcm:cap=k
 ·have hcut:ah U U.heap.size aF.cells 8 (some ⟨b1,0,none⟩) (L.drop k):=by
   rw[List.drop_eq_nil_of_le omA]
   exact ah.nil
  exact JP
 ·have hcut:ah U U.heap.size aF.cells 8 (some ⟨b1,k*8,none⟩) (L.drop k):=by have h:=hl2.cut (c:=cap) k omA;rw[if_neg hcm]at h;simpa using h
  exact JP):P:=h
theorem EU{P:Prop}(h:P:=by
 have Sn:=qh (Ep ⟨xt,xc,xs,xr,xd,xA,lF,xo,xn,xl⟩ o hlt (by rw[HY.out];simp[MB,e1,e2,e3]))
 go_upto_region 5 with (fail)
 refine ag krA krA ?_;(repeat(go_big_quiet_step (fail)));refine wpQuiet_nil ?_;intro wq hq
 clear e1 e2 e3 hk0 hk1 y0 y1 y3 p0 p1 p2 p3 p4 p5 p6 p7
 go_wp2_with fail
 go_roundw
 case rel=>exact⟨i+1,by omega,by go_num,by rw[Sn.out];exact HOW.out.below hq nlr,HB.out.below hq hzB,ae hbr hq hbr.size⟩
 case measure=>exact meA):P:=h
theorem JP{P:Prop}(h:P:=by
 (
 go_region_law (first
 | (refine ak _ rfl (.tmp 69) (.tmp 72) 41 rfl 27 i0 _ aF.cells 8 72 Tryz.underlying41 hi0 hz0 hz1 hz2 rfl omA aX gH U.heap.size (.slice (some ⟨U.heap.size,0,none⟩) 0 0) [] rfl (aB.empty ncA leA) _ _ _ (L.take k) rfl smA ((hl2.take k).next av) smA mxA leA ?_;intro v1 w1 hown1 hg1 gz;have hb1:Below U.heap.size U w1:=Below.grown av hg1 leA (aV leA);have hsz1:=hb1.size;have kx1:=(bg hb1 w.heap.size hzz).1;have h40:Blk w1 (U.heap.size+1) 27 (aF.cells ⟨xt,xc,xs,xr,xd,xA,lF,xo,xn,xl⟩).toArray:=Blk.grown ndA hg1 (dx omA))
 | (refine ak _ rfl (.tmp 69) (.tmp 72) 41 rfl 27 i0 _ aF.cells 8 72 Tryz.underlying41 hi0 hz0 hz1 hz2 rfl omA aX gH U.heap.size (.slice (some ⟨(U.heap.size+1),0,none⟩) 0 0) [] rfl (aB.empty ndA leA) _ _ _ (L.take k) rfl smA ((hl2.take k).next av) smA mxA leA ?_;intro v1 w1 hown1 hg1 gz;have hb1:Below U.heap.size U w1:=Below.grown av hg1 leA (aV leA);have hsz1:=hb1.size;have kx1:=(bg hb1 w.heap.size hzz).1;have h40:Blk w1 U.heap.size 27 (aF.cells ⟨xt,xc,xs,xr,xd,xA,lF,xo,xn,xl⟩).toArray:=Blk.grown ncA hg1 (dx omA))
 | (refine ak _ rfl (.tmp 69) (.tmp 72) 41 rfl 27 i0 _ aF.cells 8 72 Tryz.underlying41 hi0 hz0 hz1 hz2 rfl omA aX gH U.heap.size (.slice (some ⟨U.heap.size,0,none⟩) 0 0) [] rfl (aB.empty neA leA) _ _ _ (L.take k) rfl smA ((hl2.take k).next av) smA mxA leA ?_;intro v1 w1 hown1 hg1 gz;have hb1:Below U.heap.size U w1:=Below.grown av hg1 leA (aV leA);have hsz1:=hb1.size;have kx1:=(bg hb1 w.heap.size hzz).1)
 | (refine ak _ rfl (.tmp 73) (.tmp 75) 41 rfl 27 i0 _ aF.cells 8 72 Tryz.underlying41 hi0 hz0 hz1 hz2 rfl omA aX gH U.heap.size v1 ([]++L.take k) rfl nfA _ _ _ [⟨xt,xc,xs,xr,xd,xA,lF,xo,xn,xl⟩] rfl rfl (by first|exact Blk.one (enc:=aF.cells) (x:=⟨xt,xc,xs,xr,xd,xA,lF,xo,xn,xl⟩) (Blk.new' spA) spA|exact Blk.one (enc:=aF.cells) (x:=⟨xt,xc,xs,xr,xd,xA,lF,xo,xn,xl⟩) h40 h40.lt) smA mxA ngA ?_;intro v2 w2 hown2 hg2 oW;have hb2:Below U.heap.size U w2:=Below.grown av hg2 ngA hown1.row;have hsz2:=hb2.size)
 | (refine ak _ rfl (.tmp 76) (.tmp 79) 41 rfl 27 i0 _ aF.cells 8 72 Tryz.underlying41 hi0 hz0 hz1 hz2 rfl omA aX gH U.heap.size v2 ([]++L.take k ++ [⟨xt,xc,xs,xr,xd,xA,lF,xo,xn,xl⟩]) rfl hown2 _ _ _ (L.drop k) rfl spA (hcut.next hb2) smA mxA hb2.size ?_;intro v3 w3 hown3 hg3 u7;have hb3:Below U.heap.size U w3:=Below.grown hb2 hg3 hb2.size hown2.row;obtain⟨A3,c3,rfl,hc3,hs3,_⟩:=hown3.slice aX))
 all_goals(go_wp2;go_ret;rw[HKK.out];have VM:=hbU.size;refine⟨⟨A3,c3,?_,?_⟩,?_⟩)
 all_goals first
  | (with_reducible refine ae hbU hb3 ?_;exact hbU.size)
  | (simpa using hown3.mono (b':=w.heap.size) omA)
  | exact congrArg (fun n=>Ending.returned (Value.slice A3 n c3)) (by first|(simp;omega)|rfl|omega|(simp;done)))):P:=h
def MB(x y:aF):Bool:=y.table==x.table&&y.col==x.col&&y.record==x.record
def unl(x y:aF):aF:=if MB x y=true then { y with last:=false } else y
def iX(x:aF)(o:List aF)(i:Nat):List aF:=(o.take i).map (unl x)++o.drop i
theorem lD(x:aF)(o:List aF)(i:Nat):(iX x o i).length=o.length:=by
 unfold iX
 rw[List.length_append,List.length_map,List.length_take,List.length_drop]
 omega
theorem Eo(x:aF)(o:List aF):iX x o 0=o:=by simp[iX]
theorem Gv(x:aF)(o:List aF){i:Nat}(h:o.length≤i):iX x o i=o.map (unl x):=by
 unfold iX
 rw[List.take_of_length_le h,List.drop_eq_nil_of_le h,List.append_nil]
theorem qD(x:aF)(o:List aF){i:Nat}(h:i<o.length)(h':i<(iX x o i).length):(iX x o i)[i]=o[i]:=by
 have e:(iX x o i)[i]?=some o[i]:=by
  unfold iX
  rw[List.getElem?_append_right smA]
  simp[Nat.min_eq_left (Nat.le_of_lt h),h]
 exact Option.some.inj ((List.getElem?_eq_getElem h').symm.trans e)
theorem wY(x:aF)(o:List aF){i:Nat}(h:i<o.length):iX x o (i+1)=(iX x o i).set i (unl x o[i]):=by
 unfold iX
 rw[List.take_add_one,List.getElem?_eq_getElem h,List.map_append,List.set_append_right _ _ smA]
 have e:o.drop i=o[i]::o.drop (i+1):=List.drop_eq_getElem_cons h
 simp[Nat.min_eq_left (Nat.le_of_lt h)]
 rw[e,List.set_cons_zero]
theorem Ep(x:aF)(o:List aF){i:Nat}(h:i<o.length)(hh:MB x o[i]=false):iX x o (i+1)=iX x o i:=by
 rw[wY x o h,unl,if_neg (by rw[hh];decide)]
 have h':i<(iX x o i).length:=by rw[lD];exact h
 rw[←qD x o h h',List.set_getElem_self]
def FW(x:aF):Int × Int × Int:=(x.table,x.col,x.seq)
def L8(o:List aF)(x:aF):Nat:=(o.takeWhile (fun y=>wQ (FW y) (FW x))).length
def nL(o:List aF)(x:aF):List aF:=(o.map (unl x)).take (L8 (o.map (unl x)) x) ++ [x]++(o.map (unl x)).drop (L8 (o.map (unl x)) x)
theorem zU(A:Option Addr)(c n:Nat)(o:List aF)(xt xc xs xr xd:Int)(xA:Option Addr)(lF:Nat)(xo:List Ident)(xn xl:Bool)(w:World)(hl:ah w w.heap.size aF.cells 8 A o)(hln:o.length=n)(hn:n≤100000):
 Calls Tryz.prog 43 #[.slice A n c,.agg #[.int .i64 xt,.int .i64 xc,.int .i64 xs,.int .i64 xr,.int .i64 xd,.slice xA xo.length lF,.bool xn,.bool xl]] w fun e w'=>(∃A' c',e=.returned (.slice A' (nL o ⟨xt,xc,xs,xr,xd,xA,lF,xo,xn,xl⟩).length c')∧aB w' w.heap.size 27 aF.cells 8 (.slice A' (nL o ⟨xt,xc,xs,xr,xd,xA,lF,xo,xn,xl⟩).length c') (nL o ⟨xt,xc,xs,xr,xd,xA,lF,xo,xn,xl⟩))∧Below w.heap.size w w':=by
 subst hln
 obtain⟨i0,hi0,hz0,hz1,hz2⟩:=info_parts Ab
 have HL:=qh hl
 clear hl
 go_enter Tryz.func43,Tryz.ntmps43
 go_upto_region 1 with (fail)
 go_wp2_with ((at_builtin;go_must (refine aJ _ rfl (.tmp 8) (.tmp 9) 41 rfl 27 i0 _ aF.cells 8 72 Tryz.underlying41 hi0 hz0 hz1 hz2 rfl omA aX gH (w.heap.size+1) (.slice (some ⟨w.heap.size+1,0,none⟩) 0 0) [] rfl (aB.empty (Blk.new' spA) nlr) _ _ _ o rfl rfl (HL.out.next av) smA mxA leA ?_);intro v' w1 hown' hg' hat';have hbel:Below w.heap.size w w1:=Below.grown av hg' leA (aV leA);have hB1:Blk w1 w.heap.size 27 (aF.cells ⟨xt,xc,xs,xr,xd,xA,lF,xo,xn,xl⟩).toArray:=Blk.grown ((Blk.new _ _ _).alloc _) hg' (dx omA);rw[List.nil_append]at hown';obtain⟨b1,cap,rfl,hbb⟩:=hat'.elim (fun h=>hown'.eG h) (fun h=>hown'.eG h);have HOWN':=qh hown';have HB1:=qh hB1;clear hown' hB1 hg' hat'))
 go_loopw [6] (fun vi wr =>∃i:Nat,i≤o.length∧vi=.int .i64 i∧aB wr (w.heap.size+1) 27 aF.cells 8 (.slice (some ⟨b1,0,none⟩) o.length cap) (iX ⟨xt,xc,xs,xr,xd,xA,lF,xo,xn,xl⟩ o i)∧Blk wr w.heap.size 27 (aF.cells ⟨xt,xc,xs,xr,xd,xA,lF,xo,xn,xl⟩).toArray∧Below w.heap.size w wr) (fun vi _=>o.length-(intOf vi).toNat)
 case atStart=>exact⟨0,Nat.zero_le _,rfl,by rw[Eo];exact HOWN'.out,HB1.out,hbel⟩
 case round =>
  obtain⟨i,hi,rfl,how,hb,hbr⟩:=hrel
  have HOW:=qh how
  have HB:=qh hb
  have hzB:=hb.lt
  have hz9:=hbr.size
  have hbl:b1<wr.heap.size:=aB.lt how b1 rfl
  by_cases hlt:i<o.length
  ·have hlt':decide (i<o.length)=true:=by simpa using hlt
   have hlu:i<(iX ⟨xt,xc,xs,xr,xd,xA,lF,xo,xn,xl⟩ o i).length:=by rw[lD];exact hlt
   obtain⟨y0,y1,_,y3,_,_,_,_⟩:=aF.iQ (b:=b1) (o:=i*8) (x:=o[i]) (fun j u hu=>how.fF aX (by rw[lD]) hlu (by rw[qD _ o hlt hlu];exact hu))
   obtain⟨⟨yt,yc,ys,yr,yd,yA,PR,yo,yn,yl⟩,hy⟩:∃y:aF,o[i]=y:=⟨_,rfl⟩
   rw[hy]at y0 y1 y3
   simp only at y0 y1 y3
   have HY:=qh hy
   obtain⟨p0,p1,p2,p3,p4,p5,p6,p7⟩:=aF.blk hb
   have hk0:=aK (w:=wr) b1 omA
   have hk1:=aK (w:=wr) w.heap.size hzB
   clear how hb hy
   cases e1:(yt==xt)
   ·have e2:True:=trivial
    have e3:True:=trivial
    exact EU
   cases e2:(yc==xc)
   ·have e3:True:=trivial
    exact EU
   cases e3:(yr==xr)
   ·exact EU
   have hun:unl ⟨xt,xc,xs,xr,xd,xA,lF,xo,xn,xl⟩ o[i]=⟨yt,yc,ys,yr,yd,yA,PR,yo,yn,false⟩:=by rw[HY.out];simp[unl,MB,e1,e2,e3]
   have HUN:=qh hun
   clear hun
   go_upto_region 5 with (fail)
   refine ag krA krA ?_;(repeat(go_big_quiet_step (fail)));refine wpQuiet_nil ?_;intro wq hq
   clear e1 e2 e3 hk0 hk1 y0 y1 y3 p0 p1 p2 p3 p4 p5 p6 p7
   have HOQ:=qh (HOW.out.below hq nlr)
   have hfz:=HOQ.out.ng (by rw[lD]) (i*8+7)
   have z7:=HOQ.out.fF aX (by rw[lD]) hlu (j:= 7) (u:= .bool yl) (by rw[qD _ o hlt hlu,HY.out];rfl)
   have UF:w.heap.size≠b1:=by omega
   go_wp2_with fail
   go_roundw
   case rel=>exact⟨i+1,by omega,by go_num,by rw[wY _ o hlt,HUN.out];exact HOQ.out.gp aX (by rw[lD]) hlu _ (j:= 7) omA rfl (by rw[qD _ o hlt hlu,HY.out];rfl),(HB.out.below hq hzB).far UF _,(ae hbr hq hbr.size).setCell (p:=⟨b1,i*8+7,none⟩) (Nat.le_of_succ_le hbb) _⟩
   case measure=>exact meA
  ·have hlt':decide (i<o.length)=false:=by simpa using hlt
   obtain⟨L,hL⟩:∃L,o.map (unl ⟨xt,xc,xs,xr,xd,xA,lF,xo,xn,xl⟩)=L:=⟨_,rfl⟩
   have hown:aB wr (w.heap.size+1) 27 aF.cells 8 (.slice (some ⟨b1,0,none⟩) o.length cap) L:=by
    have h:=HOW.out
    rw[Gv _ o omA,hL]at h
    exact h
   have hLn:o.length=L.length:=by rw[←hL,List.length_map]
   rw[hLn]at hown
   have HOWN:=qh hown
   have HL2:=qh hL
   have HLN:=qh hLn
   have HBR:=qh hbr
   clear how hb hbr hown hL HOW HL
   go_wp2_with fail
   go_loopw [7] (fun vi wi =>∃k:Nat,k≤L.length∧vi=.int .i64 k∧Below wr.heap.size wr wi∧(∀q (h:q<L.length),q<k→wQ (FW L[q]) (FW ⟨xt,xc,xs,xr,xd,xA,lF,xo,xn,xl⟩)=true)) (fun vi _=>L.length-(intOf vi).toNat)
   case atStart=>exact⟨0,Nat.zero_le _,rfl,Below.refl _ _,fun q _ h=>by omega⟩
   case round =>
    obtain⟨k,hk,rfl,hbi,hpre⟩:=hrel
    have jL:=qh hpre
    have hzi:=hbi.size
    have HBI:=qh (HB.out.below hbi hzB)
    have HOI:=qh (HOWN.out.below hbi nlr)
    clear hpre
    by_cases hkl:k<L.length
    ·have hko:k<o.length:=by omega
     have hkl':decide (k<o.length)=true:=by simpa using hko
     obtain⟨y0,y1,y2,_,_,_,_,_⟩:=aF.iQ (b:=b1) (o:=k*8) (x:=L[k]) (fun j u hu=>HOI.out.fF aX rfl hkl hu)
     obtain⟨⟨yt,yc,ys,yr,yd,yA,PR,yo,yn,yl⟩,hy⟩:∃y:aF,L[k]=y:=⟨_,rfl⟩
     rw[hy]at y0 y1 y2
     simp only at y0 y1 y2
     have HY:=qh hy
     obtain⟨p0,p1,p2,p3,p4,p5,p6,p7⟩:=aF.blk HBI.out
     have hk0:=aK (w:=wr) b1 omA
     have hk1:=aK (w:=wr) w.heap.size omA
     clear hy
     cases hb:wQ (yt,yc,ys) (xt,xc,xs)
     ·have HBB:=qh hb
      clear hb
      go_upto_region 8 with (fail)
      refine ag krA krA ?_;(repeat(go_big_quiet_step ((go_at_call 84;with_reducible exact bI (xy _ _ _ _ _ _ _ HBB.out)))));refine wpQuiet_nil ?_;intro wq hq
      clear hk0 hk1 y0 y1 y2 p0 p1 p2 p3 p4 p5 p6 p7
      have HPK:Hid (L8 L ⟨xt,xc,xs,xr,xd,xA,lF,xo,xn,xl⟩=k):=qh (fo _ L k omA jL.out (fun h=>by rw[HY.out];exact HBB.out))
      exact JQ
     ·have HBB:=qh hb
      clear hb
      go_upto_region 8 with (fail)
      refine ag krA krA ?_;(repeat(go_big_quiet_step ((go_at_call 84;with_reducible exact bI (xy _ _ _ _ _ _ _ HBB.out)))));refine wpQuiet_nil ?_;intro wq hq
      clear hk0 hk1 y0 y1 y2 p0 p1 p2 p3 p4 p5 p6 p7
      go_wp2_with fail
      go_roundw
      case rel=>exact⟨k+1,by omega,by go_num,ae hbi hq hbi.size,fun q h hq'=>by
       rcases Nat.lt_or_ge q k with h1|h1
       ·exact jL.out q h h1
       ·obtain rfl:q=k:=by omega
        rw[HY.out]
        exact HBB.out⟩
      case measure=>exact meA
    ·have hko:¬ k<o.length:=by omega
     have hkl':decide (k<o.length)=false:=by simpa using hko
     have HPK:Hid (L8 L ⟨xt,xc,xs,xr,xd,xA,lF,xo,xn,xl⟩=k):=qh (fo _ L k omA (fun j h hj=>jL.out j h hj) (fun h=>absurd h hkl))
     go_upto_region 8 with (fail)
     refine ag krA krA ?_;(repeat(go_big_quiet_step (fail)));refine wpQuiet_nil ?_;intro wq hq
     exact JQ
end Go.Proofs.YtebippoohpnjkaaGreat
