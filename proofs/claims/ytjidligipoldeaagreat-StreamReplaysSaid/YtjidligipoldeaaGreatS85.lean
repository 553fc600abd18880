/-
  Contracts and plain laws of this seat, part 85.
-/
import Derived.Test.YtjidligipoldeaaGreatS17
set_option linter.unusedVariables false
set_option linter.unusedSimpArgs false
set_option maxRecDepth 100000
set_option maxHeartbeats 16000000
namespace Go.Proofs.YtjidligipoldeaaGreat
open Go.RowKit Go
theorem iU(v:Val)(x:Col)(w:World){r:Bool}(hr:dw v x.ty=r):
 Calls Tryz.prog 158 #[.agg #[.int .i64 v.kind,.int .i64 v.num,.string v.text],.agg #[.string x.name,.int .i64 x.ty,.string x.ns,.string x.refs,.slice x.A x.own.length x.cap,.int .i64 x.joint,.int .i64 x.gK]] w fun e w'=>e=.returned (.bool r)∧Below w.heap.size w w':=by
 subst hr
 cases h1:(v.kind == 0)
 ·cases h2:(v.kind==x.ty)
  ·go_enter Tryz.func158,Tryz.ntmps158
   go_wp2_with fail
   go_ret
   exact⟨ay (by simp only[dw,h1,h2];rfl),by exact ak⟩
  ·go_enter Tryz.func158,Tryz.ntmps158
   go_wp2_with fail
   go_ret
   exact⟨ay (by simp only[dw,h1,h2];rfl),by exact ak⟩
 ·go_enter Tryz.func158,Tryz.ntmps158
  go_wp2_with fail
  go_ret
  exact⟨ay (by simp only[dw,h1];rfl),by exact ak⟩
theorem ig(v:Val)(w:World){r:Bool}(hr:bK v=r):Calls Tryz.prog 126 #[.agg #[.int .i64 v.kind,.int .i64 v.num,.string v.text]] w fun e w'=>e=.returned (.bool r)∧Ext w w':=by
 subst hr
 exact vv _ _ _ _
theorem wR(a b:Val)(w:World){r:Int}(hr:aT a b=r):Calls Tryz.prog 135 #[.agg #[.int .i64 a.kind,.int .i64 a.num,.string a.text],.agg #[.int .i64 b.kind,.int .i64 b.num,.string b.text]] w fun e w'=>e=.returned (.int .i64 r)∧Ext w w':=by
 subst hr
 exact zo _ _ _ _ _ _ _
open Go.RowKit Go
variable {o:Oth}
structure vT (w:World) (p mb fb k:Nat) (A:Option Addr) (c:Nat) (ts:List Tab) (o:Oth):Prop where
 blk:Blk w p 174 #[.slice A ts.length c,.slice o.vA 0 o.vc,.slice o.iA o.idx.length o.ic,.slice o.sA o.skt.length o.sc,.slice o.cA o.cch.length o.cc,.slice o.rA o.rel.length o.rc,.slice o.tA o.str.length o.tc,.slice o.bA o.bak.length o.bc,.map (some mb),.slice (some ⟨fb,0,none⟩) ts.length ts.length]
 nums:dF Tryz.prog 9 3 w mb k (nL ts k)
theorem vT.next{w w':World}{p mb fb k:Nat}{A:Option Addr}{c:Nat}{ts:List Tab}(h:vT w p mb fb k A c ts o)(hb:Below w.heap.size w w'):vT w' p mb fb k A c ts o:=
 ⟨h.blk.below hb h.blk.lt,h.nums.below hb h.nums.lt⟩
theorem Sch.blk{w:World}{g:Nat}{a0 a1 a2 a3 a4 a5 a6 a7 a8 a9:Value}(k:Blk w g 174 #[a0,a1,a2,a3,a4,a5,a6,a7,a8,a9]):
 w.cell? ⟨g,0,none⟩=some a0∧w.cell? ⟨g,8,none⟩=some a8∧w.cell? ⟨g,9,none⟩=some a9:=⟨k.cell 0,k.cell 8,k.cell 9⟩
theorem LM:(Tryz.prog.info? 22).map (fun i=>(i.zero,i.size,i.bytes))=some (some (.slice none 0 0),1,24):=by kernel_rfl
variable {o:Oth}
structure zi (ts:List Tab) (l:List Chg) (i:Nat) (h:i<l.length):Prop where
 form:aY ts l[i]=0
 asc:∀(h0:0<i),l[i-1].seq<l[i].seq∧l[i-1].day≤l[i].day
structure dh (ts:List Tab) (l:List Chg):Prop where
 cat:aR ts
 len:l.length≤1024
 at_:∀i (h:i<l.length),zi ts l i h
open Go.RowKit Go
theorem KM(A:Option Addr)(c n:Nat)(l:List Rcd)(key:Val)(w:World)(hl:bN w w.heap.size A l)(hln:l.length=n)(hn:n≤1000000)(hsr:∀x∈l,0<x.row.length∧x.row.length≤1000000)(hv:bK key=true)(hk:key.kind≠0){r:Int}(hr:gG l key=r):
 Calls Tryz.prog 80 #[.slice A n c,.agg #[.int .i64 key.kind,.int .i64 key.num,.string key.text]] w fun e w'=>e=.returned (.int .i64 r)∧Below w.heap.size w w':=by
 subst hln hr
 have hg:Tryz.prog.eqGuardType Tryz.prog.depth 50=false:=by kernel_rfl
 have HL:=qh hl
 have HSR:=qh hsr
 have hk':(key.kind != 0)=true:=by simpa using hk
 have hk0:(key.kind == 0)=false:=by simpa using hk
 have hkd:decide (key.kind=0)=false:=by simpa using hk
 have HF:Hid (gG l key=fq (gm key) l):=qh (by rw[gG,hv,hk'];rfl)
 have HV:=qh hv
 clear hl hsr hv hk hk'
 go_enter Tryz.func80,Tryz.ntmps80
 go_upto_region 1 with (fail)
 refine aj (P:=fun u=>Code.wp _ _ _ _ u) (R:=fun u=>Blk u w.heap.size 50 #[.int .i64 key.kind,.int .i64 key.num,.string key.text]∧Below w.heap.size w u) ⟨Blk.new _ _ _,by exact ak⟩ ?_
 rintro W ⟨hB,hbW⟩
 have HB:=qh hB
 have hzW:=hB.lt
 have q0:=hB.cell 0
 have q1:=hB.cell 1
 have q2:=hB.cell 2
 simp only[gE3]at q0 q1 q2
 clear hB
 go_upto_region 4 with (go_at_call 126;(with_reducible refine(ig key _ HV.out).mono ?_);rintro e w1 ⟨rfl,hb1⟩)
 have hx1:Below w.heap.size w w1:=aa hbW hb1.1 hbW.size
 have HB1:=qh (HB.out.below hb1.1 hzW)
 have hz1:=HB1.out.lt
 clear q0 q1 q2 hk0 hkd
 go_loopw [17] (fun vi wr =>∃m:Nat,m≤l.length∧vi=.int .i64 m∧Below w1.heap.size w1 wr∧(∀i (h:i<l.length),i<m→gm key l[i]=false)) (fun vi _=>l.length-(intOf vi).toNat)
 case atStart=>exact⟨0,Nat.zero_le _,rfl,Below.refl _ _,fun i _ h=>by omega⟩
 case round =>
  obtain⟨m,hm,rfl,hbr,hno⟩:=hrel
  have HNO:=qh hno
  clear hno
  have hxr:=aa hx1 hbr hx1.size
  have hwz:=hbr.size
  by_cases hlt:m<l.length
  ·have hlt':decide (m<l.length)=true:=by simpa using hlt
   have tC:decide ((m:Int)<(l.length:Int))=true:=by simp;omega
   have hrec:=HL.out.below hxr
   obtain⟨b,o,rfl,hb,hc⟩:=hrec.1.get hlt
   obtain⟨c0,c1,c2⟩:=Rcd.cells3 hc
   have hrow:=(hrec.2 l[m] (lgm hlt)).1
   obtain⟨hr0,hrl⟩:=HSR.out l[m] (lgm hlt)
   have HN1:=qh (oV (key:=key) (r:=l[m]) hr0)
   obtain⟨⟨RA,rc,row,SA,sc,sq,dy⟩,hx⟩:∃x:Rcd,l[m]=x:=⟨_,rfl⟩
   have HX:=qh hx
   rw[hx]at c0 c1 c2 hrow hrl
   simp only[hx]at hr0
   simp only at c0 c1 c2 hrow hrl
   have mF:=qh hrow
   clear hc hrec hx hrow
   go_upto_region 6 with (fail)
   refine aj (P:=fun u=>Code.wp _ _ _ _ u) (R:=fun u=>Blk u wr.heap.size 66 #[.slice RA row.length rc,.slice SA sq.length sc,.int .i64 dy]∧Below wr.heap.size wr u) ⟨Blk.new _ _ _,by exact ak⟩ ?_
   clear c0 c1 c2
   rintro u ⟨hu,hbu⟩
   have hul:=hu.lt
   have hzu:=hbu.size
   have e0:=hu.cell 0
   simp only[gE3]at e0
   have zK:Below w1.heap.size w1 u:=aa hbr hbu hwz
   have q0:=(HB1.out.below zK hz1).cell 0
   have q1:=(HB1.out.below zK hz1).cell 1
   have q2:=(HB1.out.below zK hz1).cell 2
   simp only[gE3]at q0 q1 q2
   have mR:decide (0<row.length)=true:=by simpa using hr0
   obtain⟨b6,o6,rfl,hb6,hc6⟩:=(mF.out.below (hbu.mono hxr.size)).get hr0
   obtain⟨y0,y1,y2⟩:=Val.cells3 hc6
   simp only[Nat.zero_mul,Nat.add_zero]at y0 y1 y2
   have hhit:gm key l[m]=decide (row[0]=key):=by
    have h:=HN1.out
    rw[h]
    congr 1
    simp only[HX.out]
   have hk0:=aD (w:=u) wr.heap.size hul
   have hk1:=aD (w:=u) b6 omA
   have hk2:=aD (w:=u) w.heap.size omA
   clear hc6 hu
   cases he:decide (row[0]=key)
   ·have heq:=bQ he
    have HH:Hid (gm key l[m]=false):=qh (hhit.trans he)
    clear hhit he
    refine af krA krA ?_;(repeat(go_big_quiet_step (fail)));refine wpQuiet_nil ?_;intro wq hq
    clear hk0 hk1 hk2 q0 q1 q2 e0 y0 y1 y2 heq
    go_wp2_with fail
    go_roundw
    case rel=>exact⟨m+1,by omega,by go_num,aa zK hq omA,fun i h hi=>by
     rcases Nat.lt_or_ge i m with h1|h1
     ·exact HNO.out i h h1
     ·obtain rfl:i=m:=by omega
      exact HH.out⟩
    case measure=>exact meA
   ·have heq:=bQ he
    have HH:Hid (gm key l[m]=true):=qh (hhit.trans he)
    clear hhit he
    refine af krA krA ?_;(repeat(go_big_quiet_step (fail)));refine wpQuiet_nil ?_;intro wq hq
    clear hk0 hk1 hk2 q0 q1 q2 e0 y0 y1 y2 heq
    go_wp2_with fail
    go_ret
    exact⟨aS (a:=(m:Int)) (by rw[HF.out,rD hlt HH.out HNO.out]),aa hx1 (aa zK hq omA) hx1.size⟩
  ·have hlt':decide (m<l.length)=false:=by simpa using hlt
   have tC:decide ((m:Int)<(l.length:Int))=false:=by simp;omega
   go_wp2_with fail
   go_ret
   exact⟨aS (a:= -1) (by rw[HF.out,tN fun i hi=>HNO.out i hi omA]),hxr⟩
end Go.Proofs.YtjidligipoldeaaGreat
