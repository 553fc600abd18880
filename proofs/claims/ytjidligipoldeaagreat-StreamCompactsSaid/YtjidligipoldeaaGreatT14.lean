/-
  Contracts and plain laws of this seat, part 14.
-/
import Derived.Test.YtjidligipoldeaaGreatT10
import Derived.Test.YtjidligipoldeaaGreatT9
set_option linter.unusedVariables false
set_option linter.unusedSimpArgs false
set_option maxRecDepth 100000
set_option maxHeartbeats 16000000
namespace Go.Proofs.YtjidligipoldeaaGreat
open Go.RowKit Go
structure gF (w:World) (B:Nat) (A:Option Addr) (c:Nat) (ts:List Tab) (o:Oth):Prop where
 prog:∀u,Below B w u→Calls Tryz.prog 72 #[.agg #[.slice A ts.length c,.slice o.vA 0 o.vc,.slice o.iA o.idx.length o.ic,.slice o.sA o.skt.length o.sc,.slice o.cA o.cch.length o.cc,.slice o.rA o.rel.length o.rc,.slice o.tA o.str.length o.tc,.slice o.bA o.bak.length o.bc]] u fun e u'=>e=.returned (.bool true)∧Below u.heap.size u u'
 ref:∀u,Below B w u→Calls Tryz.prog 66 #[.agg #[.slice A ts.length c,.slice o.vA 0 o.vc,.slice o.iA o.idx.length o.ic,.slice o.sA o.skt.length o.sc,.slice o.cA o.cch.length o.cc,.slice o.rA o.rel.length o.rc,.slice o.tA o.str.length o.tc,.slice o.bA o.bak.length o.bc]] u fun e u'=>e=.returned (.bool true)∧Below u.heap.size u u'
 fnd:∀(s:ByteArray) (k:Int) (u:World),Below B w u→Calls Tryz.prog 174 #[.agg #[.slice A ts.length c,.slice o.vA 0 o.vc,.slice o.iA o.idx.length o.ic,.slice o.sA o.skt.length o.sc,.slice o.cA o.cch.length o.cc,.slice o.rA o.rel.length o.rc,.slice o.tA o.str.length o.tc,.slice o.bA o.bak.length o.bc],.string s,.int .i64 k] u fun e u'=>e=.returned (.int .i64 (kK (ts.map Tab.name) s k))∧Below u.heap.size u u'
theorem gF.below{w w':World}{B:Nat}{A:Option Addr}{c:Nat}{ts:List Tab}{o:Oth}(h:gF w B A c ts o)(hb:Below B w w'):gF w' B A c ts o:=
 ⟨fun u hu=>h.prog u (hb.trans hu),fun u hu=>h.ref u (hb.trans hu),fun s k u hu=>h.fnd s k u (hb.trans hu)⟩
theorem gF.mono{w:World}{B B':Nat}{A:Option Addr}{c:Nat}{ts:List Tab}{o:Oth}(h:gF w B A c ts o)(hB:B≤B'):gF w B' A c ts o:=
 ⟨fun u hu=>h.prog u (hu.mono hB),fun u hu=>h.ref u (hu.mono hB),fun s k u hu=>h.fnd s k u (hu.mono hB)⟩
theorem gF.next{w w':World}{A:Option Addr}{c:Nat}{ts:List Tab}{o:Oth}(h:gF w w.heap.size A c ts o)(hb:Below w.heap.size w w'):gF w' w'.heap.size A c ts o:=(h.below hb).mono hb.size
abbrev Oth.nil:Oth:=⟨none,0,none,0,[],none,0,[],none,0,[],none,0,[],none,0,[],none,0,[]⟩
open Go.RowKit Go
theorem gF.nil{w:World}{A:Option Addr}{c:Nat}{ts:List Tab}(ht:aF w w.heap.size A ts)(hs:aM ts)(hok:aN ts):gF w w.heap.size A c ts Oth.nil:=
 ⟨fun u hu=>Jo A c ts.length ts u (ht.next hu) rfl hs hok,fun u hu=>jX A c ts.length ts u (ht.next hu) rfl hs (r:=true) (by simp[pb,hok]),fun s k u hu=>si A c ts.length ts s k u (ag.next ht.1 hu) rfl hs.len rfl⟩
open Go.RowKit Go
variable {o:Oth}
theorem wm(A:Option Addr)(c m:Nat)(ts:List Tab)(s:ByteArray)(w:World)(ht:aF w w.heap.size A ts)(hm:ts.length=m)(hs:aM ts)(hg:gF w w.heap.size A c ts o){r:Int}(hr:kK (ts.map Tab.name) s ts.length=r):
 Calls Tryz.prog 141 #[.agg #[.slice A m c,.slice o.vA 0 o.vc,.slice o.iA o.idx.length o.ic,.slice o.sA o.skt.length o.sc,.slice o.cA o.cch.length o.cc,.slice o.rA o.rel.length o.rc,.slice o.tA o.str.length o.tc,.slice o.bA o.bak.length o.bc],.string s] w fun e w'=>e=.returned (.int .i64 r)∧Below w.heap.size w w':=by
 subst hm hr
 have hlen:=hs.len
 have HT:=qh ht
 have HT1:=qh ht.1
 have HS:=qh hs
 have HG:=qh hg
 clear ht hs hg
 go_enter Tryz.func141,Tryz.ntmps141
 go_wp2_with fail
 (with_reducible refine(HG.out.ref _ ai).mono ?_)
 rintro e w1 ⟨rfl,hb1⟩
 have hx1:Below w.heap.size w w1:=aa ai hb1 leA
 obtain⟨k1,_,_⟩:=bN hb1 w.heap.size ltA
 go_wp2_with fail
 (with_reducible refine(HG.out.fnd s _ _ hx1).mono ?_)
 rintro e w2 ⟨rfl,hb2⟩
 go_wp2_with fail
 go_ret
 exact⟨rfl,aa hx1 hb2 hx1.size⟩
theorem pI(A:Option Addr)(c m:Nat)(ts:List Tab)(n:Int)(w:World)(ht:aF w w.heap.size A ts)(hm:ts.length=m)(hs:aM ts)(hg:gF w w.heap.size A c ts o){r:Bool}(hr:aB n 0 ((ts.length:Int)-1)=r):
 Calls Tryz.prog 212 #[.agg #[.slice A m c,.slice o.vA 0 o.vc,.slice o.iA o.idx.length o.ic,.slice o.sA o.skt.length o.sc,.slice o.cA o.cch.length o.cc,.slice o.rA o.rel.length o.rc,.slice o.tA o.str.length o.tc,.slice o.bA o.bak.length o.bc],.int .i64 n] w fun e w'=>e=.returned (.bool r)∧Below w.heap.size w w':=by
 subst hm hr
 have hlen:=hs.len
 have HT:=qh ht
 have HS:=qh hs
 have HG:=qh hg
 clear ht hs hg
 obtain⟨r1,hr1⟩:∃r,aB n 0 ((ts.length:Int)-1)=r:=⟨_,rfl⟩
 rw[hr1]
 have HR:=qh hr1
 clear hr1
 cases r1
 ·go_enter Tryz.func212,Tryz.ntmps212
  go_wp2_with (go_at_call 172;(with_reducible refine(aX n 0 _ _ HR.out).mono ?_);rintro e w1 ⟨rfl,rfl⟩)
  go_ret
  exact⟨rfl,by exact ai⟩
 ·go_enter Tryz.func212,Tryz.ntmps212
  go_wp2_with (first
   | (go_at_call 172;(with_reducible refine(aX n 0 _ _ HR.out).mono ?_);rintro e w1 ⟨rfl,rfl⟩)
   | (go_at_call 66;(with_reducible refine(HG.out.ref _ ai).mono ?_);rintro e w1 ⟨rfl,hb1⟩))
  go_ret
  exact⟨rfl,aa ai hb1 leA⟩
theorem xQ(A:Option Addr)(c m:Nat)(ts:List Tab)(n:Int)(w:World)(ht:aF w w.heap.size A ts)(hm:ts.length=m)(hs:aM ts)(hg:gF w w.heap.size A c ts o){r:Bool}(hr:aB n 0 ((ts.length:Int)-1)=r):
 Calls Tryz.prog 164 #[.agg #[.slice A m c,.slice o.vA 0 o.vc,.slice o.iA o.idx.length o.ic,.slice o.sA o.skt.length o.sc,.slice o.cA o.cch.length o.cc,.slice o.rA o.rel.length o.rc,.slice o.tA o.str.length o.tc,.slice o.bA o.bak.length o.bc],.int .i64 n] w fun e w'=>e=.returned (.bool r)∧Below w.heap.size w w':=by
 subst hm
 have HT:=qh ht
 have HS:=qh hs
 have HR:=qh hr
 have HG:=qh hg
 clear ht hs hr hg
 cases r
 ·go_enter Tryz.func164,Tryz.ntmps164
  go_wp2_with (go_at_call 212;(with_reducible refine(pI A c ts.length ts n _ (HT.out.next ai) rfl HS.out (HG.out.next ai) HR.out).mono ?_);rintro e w1 ⟨rfl,hb1⟩)
  go_ret
  exact⟨rfl,aa ai hb1 leA⟩
 ·have hn:decide (n<(ts.length:Int))=true:=by
   have h:=HR.out
   simp only[aB,Bool.and_eq_true,decide_eq_true_eq]at h
   simp
   omega
  go_enter Tryz.func164,Tryz.ntmps164
  go_wp2_with (go_at_call 212;(with_reducible refine(pI A c ts.length ts n _ (HT.out.next ai) rfl HS.out (HG.out.next ai) HR.out).mono ?_);rintro e w1 ⟨rfl,hb1⟩;obtain⟨k1,_,_⟩:=bN hb1 w.heap.size ltA)
  go_ret
  exact⟨rfl,aa ai hb1 leA⟩
theorem AX(A:Option Addr)(c m:Nat)(ts:List Tab)(n:Nat)(ae:List Col)(w:World)(ht:aF w w.heap.size A ts)(hm:ts.length=m)(hs:aM ts)(hok:aN ts)(hg:gF w w.heap.size A c ts o)(hn:n<ts.length)(hcs:ts[n].ae=ae):
 Calls Tryz.prog 130 #[.agg #[.slice A m c,.slice o.vA 0 o.vc,.slice o.iA o.idx.length o.ic,.slice o.sA o.skt.length o.sc,.slice o.cA o.cch.length o.cc,.slice o.rA o.rel.length o.rc,.slice o.tA o.str.length o.tc,.slice o.bA o.bak.length o.bc],.int .i64 n] w fun e w'=>(∃A' c' out,e=.returned (.slice A' out.length c')∧out.length≤c'∧ag w' w'.heap.size intCells 1 A' out∧jB [0] ae [] out)∧Below w.heap.size w w':=by
 subst hm
 have h8:ae.length≤8:=by rw[←hcs];exact(hok.ae hn).2
 have vH:∀x∈ae,x.own.length≤100:=fun x hx=>by have:=hok.GA hn (x:=x) (by rw[hcs];exact hx);omega
 have hT0:=ht
 obtain⟨b5,o5,rfl,hb5,hc5⟩:=ht.1.get hn
 obtain⟨t0,t1,t2,t3⟩:=Tab.fV hc5
 have hcn:=ht.2 ts[n] (lgm hn)
 rw[hcs]at t1 hcn
 obtain⟨TA,hTA⟩:∃a,ts[n].A=a:=⟨_,rfl⟩
 obtain⟨tc,htc⟩:∃a,ts[n].cap=a:=⟨_,rfl⟩
 rw[hTA]at hcn t1
 rw[htc]at t1
 have hr:aB (n:Int) 0 ((ts.length:Int)-1)=true:=by
  rw[aB,Bool.and_eq_true,decide_eq_true_iff,decide_eq_true_iff]
  omega
 have HT:=qh hT0
 have HS:=qh hs
 have HR:=qh hr
 have HG:=qh hg
 have HC:=qh hcn
 have HL:=qh vH
 clear ht hc5 t0 t2 t3 hcn hcs vH hTA htc hT0 hs hok hr hg
 go_enter Tryz.func130,Tryz.ntmps130
 go_wp2_with fail
 (with_reducible refine(xQ _ c ts.length ts n _ (HT.out.next ai) rfl HS.out (HG.out.next ai) HR.out).mono ?_)
 rintro e w1 ⟨rfl,hb1⟩
 have hx1:Below w.heap.size w w1:=aa ai hb1 leA
 have hB1:Blk w1 w.heap.size 33 #[.slice (some ⟨b5,o5,none⟩) ts.length c,.slice o.vA 0 o.vc,.slice o.iA o.idx.length o.ic,.slice o.sA o.skt.length o.sc,.slice o.cA o.cch.length o.cc,.slice o.rA o.rel.length o.rc,.slice o.tA o.str.length o.tc,.slice o.bA o.bak.length o.bc]:=(Blk.new _ _ _).below hb1 spA
 clear hb1
 go_upto_region 4 with (fail)
 refine ah (P:=fun u=>Code.wp _ _ _ _ u) (R:=fun u=>Blk u w.heap.size 33 #[.slice (some ⟨b5,o5,none⟩) ts.length c,.slice o.vA 0 o.vc,.slice o.iA o.idx.length o.ic,.slice o.sA o.skt.length o.sc,.slice o.cA o.cch.length o.cc,.slice o.rA o.rel.length o.rc,.slice o.tA o.str.length o.tc,.slice o.bA o.bak.length o.bc]∧Blk u w1.heap.size 3 #[.int .i64 0]∧Below w.heap.size w u) ⟨?_,?_,?_⟩ ?_
 ·exact hB1.alloc _
 ·exact Blk.new _ _ _
 ·exact hx1.alloc hx1.size _
 rintro W ⟨hB,hB2,hbW⟩
 have t1:=((bN hbW b5 hb5).1 _).trans t1
 have hzW:=hB.lt
 have HB:=qh hB
 have HZ:=qh (Blk.one (enc:=intCells) (k:= 1) (x:=(0:Int)) hB2 hB2.lt)
 clear hB hB1 hB2 hx1
 go_wp2_with fail
 have hstart:∃(m:Nat) (A2:Option Addr) (c2:Nat) (out:List Int),m≤ae.length∧Value.int .i64 0=.int .i64 m∧Value.slice (some ⟨w1.heap.size,0,none⟩) 1 1=.slice A2 out.length c2∧out.length≤c2∧ag W W.heap.size intCells 1 A2 out∧jB [0] (ae.take m) [] out∧out.length≤100*m+1∧Below W.heap.size W W:=⟨0,_,1,[0],Nat.zero_le _,rfl,rfl,by simp,HZ.out,⟨by simp,by simp⟩,by simp,Below.refl _ _⟩
 go_loopw [5,6] (fun vl vi wr =>∃(m:Nat) (A2:Option Addr) (c2:Nat) (out:List Int),m≤ae.length∧vi=.int .i64 m∧vl=.slice A2 out.length c2∧out.length≤c2∧ag wr wr.heap.size intCells 1 A2 out∧jB [0] (ae.take m) [] out∧out.length≤100*m+1∧Below W.heap.size W wr) (fun _ vi _=>ae.length-(intOf vi).toNat)
 case atStart=>exact hstart
 case round =>
  obtain⟨m,A2,c2,out,hm,rfl,rfl,hcap,hso,hot,hol,hbr⟩:=hrel
  have hwz:=hbr.size
  have hxr:=aa hbW hbr hbW.size
  obtain⟨p0,p1,p2,p3,p4,p5,p6,p7⟩:=Cat.fU (HB.out.below hbr hzW)
  have t1':=((bN hbr b5 omA).1 _).trans t1
  have HSO:=qh hso
  have HOT:=qh hot
  clear hso hot
  by_cases hlt:m<ae.length
  ·obtain⟨b6,o6,rfl,hb6,hc6⟩:=(HC.out.1.below hxr).get hlt
   obtain⟨_,_,_,_,c4,_,_⟩:=Col.dW hc6
   have hio:=HC.out.2 ae[m] (lgm hlt)
   have vH:=HL.out ae[m] (lgm hlt)
   obtain⟨⟨nm2,ty2,ns2,rf2,A3,c3,own,jo2,du2⟩,hx⟩:∃x:Col,ae[m]=x:=⟨_,rfl⟩
   rw[hx]at c4 hio vH
   simp only at c4 hio vH
   have HX:=qh hx
   have HIO:=qh hio
   clear hc6 hio hx
   go_wp2_with fail
   obtain⟨wo,rfl⟩:∃wo:World,wo=wr:=⟨_,rfl⟩
   clear p0 p1 p2 p3 p4 p5 p6 p7 t1' c4
   go_loopw [5,8] (fun vl vk wi =>∃(k:Nat) (A4:Option Addr) (c4:Nat) (xX:List Int),k≤own.length∧vk=.int .i64 k∧vl=.slice A4 xX.length c4∧xX.length≤c4∧ag wi wi.heap.size intCells 1 A4 xX∧jB [0] (ae.take m) (own.take k) xX∧xX.length≤100*m+k+1∧Below wo.heap.size wo wi) (fun _ vk _=>own.length-(intOf vk).toNat)
   case atStart=>exact⟨0,A2,c2,out,Nat.zero_le _,rfl,rfl,hcap,HSO.out,HOT.out,by omega,Below.refl _ _⟩
   case round =>
    obtain⟨k,A4,c4,xX,hk,rfl,rfl,hcap2,TL,Un,ZE,hbi⟩:=hrel
    have hyi:=aa hbr hbi hwz
    have hxi:=aa hxr hbi hxr.size
    have VM:=qh TL
    have VZ:=qh Un
    clear TL Un
    by_cases hkl:k<own.length
    ·obtain⟨b7,o7,rfl,hb7,hc7⟩:=(HIO.out.below hxi).get hkl
     have x0:=hc7 0 _ rfl
     simp only[Nat.mul_one,Nat.add_zero]at x0
     have Nu:=qh (VZ.out.step hkl)
     have hil:=LQ xX own[k]
     clear hc7
     go_wp2_with (go_at_call 165;(with_reducible refine(Ia A4 c4 xX.length xX own[k] _ VM.out rfl omA hcap2).mono ?_);rintro e w1 ⟨⟨A5,c5,rfl,hc5,hs5,_⟩,hb1⟩;have HS5:=qh hs5;clear hs5)
     go_roundw
     case rel=>exact⟨k+1,A5,c5,_,by omega,by go_num,rfl,hc5,HS5.out,Nu.out,by omega,aa hbi hb1 hbi.size⟩
     case measure=>exact meA
    ·have hkl':decide (k<own.length)=false:=by simpa using hkl
     have hke:k=own.length:=by omega
     have hcl:jB [0] (ae.take (m+1)) [] xX:=by
      refine jB.close hlt ?_
      rw[HX.out]
      have h:=VZ.out
      rwa [hke,List.take_length]at h
     have HCL:=qh hcl
     clear hcl hke
     go_wp2_with fail
     go_roundw
     case rel=>exact⟨m+1,A4,c4,xX,by omega,by go_num,rfl,hcap2,VM.out,HCL.out,by omega,hyi⟩
     case measure=>exact meA
  ·have hlt':decide (m<ae.length)=false:=by simpa using hlt
   obtain rfl:m=ae.length:=by omega
   have h:=HOT.out
   rw[List.take_length]at h
   have HH:=qh h
   clear h
   go_wp2_with fail
   go_ret
   exact⟨⟨A2,c2,out,rfl,hcap,HSO.out,HH.out⟩,hxr⟩
end Go.Proofs.YtjidligipoldeaaGreat
