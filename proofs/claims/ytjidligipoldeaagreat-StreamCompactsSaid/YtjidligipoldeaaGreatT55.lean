/-
  Contracts and plain laws of this seat, part 55.
-/
import Derived.Test.YtjidligipoldeaaGreatT29
set_option linter.unusedVariables false
set_option linter.unusedSimpArgs false
set_option maxRecDepth 100000
set_option maxHeartbeats 16000000
namespace Go.Proofs.YtjidligipoldeaaGreat
open Go.RowKit
variable {o:Oth}
theorem AR(A:Option Addr)(c m:Nat)(ts:List Tab)(LA:Option Addr)(lc n:Nat)(l:List Chg)(w:World)(ht:aF w w.heap.size A ts)(hm:ts.length=m)(hs:aM ts)(hok:aN ts)(hcg:gF w w.heap.size A c ts o)(hl:dQ w w.heap.size LA l)(hn:l.length=n)(hn6:n≤1000000)(hrow:∀x∈l,x.row.length≤1000000):
 Calls Tryz.prog 13 #[.agg #[.slice A m c,.slice o.vA 0 o.vc,.slice o.iA o.idx.length o.ic,.slice o.sA o.skt.length o.sc,.slice o.cA o.cch.length o.cc,.slice o.rA o.rel.length o.rc,.slice o.tA o.str.length o.tc,.slice o.bA o.bak.length o.bc],.slice LA n lc] w fun e w'=>(∃RA rc rt,e=.returned (.slice RA m rc)∧rt.length=m∧aR w' w'.heap.size RA rt∧RUp w.heap.size RA rt∧eU ts rt∧rt.map aD=bM ts l)∧Below w.heap.size w w':=by
 subst hm hn
 have h8:=hok.len
 have HT:=qh ht
 have HS:=qh hs
 have HOK:=qh hok
 have HCG:=qh hcg
 have HL1:=qh hl.1
 have HL2:=qh hl.2
 have iV:=qh hrow
 clear ht hs hok hcg hl hrow
 go_enter Tryz.func13,Tryz.ntmps13
 go_upto_region 2 with (go_at_call 40;(with_reducible refine(zX A c ts.length ts _ (HT.out.next ai) rfl HS.out HOK.out (HCG.out.next ai)).mono ?_);rintro e w1 ⟨⟨q,rfl,hq,hr⟩,hb1⟩)
 refine ah (P:=fun u=>Code.wp _ _ _ _ u) (R:=fun u=>Blk u w.heap.size 33 #[.slice A ts.length c,.slice o.vA 0 o.vc,.slice o.iA o.idx.length o.ic,.slice o.sA o.skt.length o.sc,.slice o.cA o.cch.length o.cc,.slice o.rA o.rel.length o.rc,.slice o.tA o.str.length o.tc,.slice o.bA o.bak.length o.bc]∧aR u u.heap.size (some ⟨q,0,none⟩) (List.replicate ts.length dY)∧Below w.heap.size w u) ⟨?_,hr,?_⟩ ?_
 ·exact(Blk.new _ _ _).below hb1 spA
 ·exact aa ai hb1 leA
 have hq':w.heap.size≤q:=by simp at hq;omega
 clear hb1 hr
 rintro W ⟨hB,hR,hbW⟩
 have hzW:=hB.lt
 have HB:=qh hB
 have HR:=qh hR
 clear hB hR
 have hnil:(binOp .eql 57 (.slice (some ⟨q,0,none⟩) ts.length ts.length) (.slice none 0 0)).run Tryz.prog W=.ok (.bool false) W:=Lib.run_eql_slice_nil W 57 46 (some ⟨q,0,none⟩) ts.length ts.length 0 0 Tryz.underlying57
 go_upto_region 5 with (fail)
 clear hnil
 go_loopw [5,6] (fun vt vi wr =>∃(i:Nat) (RA:Option Addr) (rc:Nat) (rt:List RTab),i≤l.length∧vi=.int .i64 i∧vt=.slice RA ts.length rc∧rt.length=ts.length∧aR wr wr.heap.size RA rt∧RUp w.heap.size RA rt∧eU ts rt∧rt.map aD=bM ts (l.take i)∧Below W.heap.size W wr) (fun _ vi _=>l.length-(intOf vi).toNat)
 case atStart=>exact⟨0,_,_,_,Nat.zero_le _,rfl,rfl,by simp,HR.out,⟨fun a ha=>by injection ha with ha;subst ha;exact hq',fun t ht=>by rw[(List.mem_replicate.1 ht).2];exact⟨fun a ha=>by simp[dY]at ha,fun r hr=>by simp[dY]at hr⟩⟩,eU.zero ts,by simp[bM,aD,dY],Below.refl _ _⟩
 case round =>
  obtain⟨i,RA,rc,rt,hi,rfl,rfl,hrl,hrt,hup,hsh,hpu,hbr⟩:=hrel
  have HUP:=qh hup
  clear hup
  have hwz:=hbr.size
  have hxr:=aa hbW hbr hbW.size
  have hxz:=hxr.size
  have HRT:=qh hrt
  have HSH:=qh hsh
  have HPU:=qh hpu
  have HRL:=qh hrl
  clear hrt hsh hpu hrl
  by_cases hlt:i<l.length
  ·obtain⟨b,o9,rfl,hb,hc⟩:=(HL1.out.below hxr).get hlt
   obtain⟨⟨q0,q1,q2,q3⟩,q4,⟨q5,q6,q7⟩,q8,q9,q10,q11⟩:=Chg.mg hc
   have Br:=HL2.out l[i] (lgm hlt)
   have hrl:=iV.out l[i] (lgm hlt)
   have hsu:=tF ts hlt
   obtain⟨⟨kd,sq,dy,tb,A0,cp,row,key,cl,vl⟩,hy⟩:∃x:Chg,l[i]=x:=⟨_,rfl⟩
   rw[hy]at q0 q1 q2 q3 q4 q5 q6 q7 q8 q9 q10 q11 Br hrl hsu
   simp only at q0 q1 q2 q3 q4 q5 q6 q7 q8 q9 q10 q11 Br hrl
   have HRI:=qh Br
   have HSU:=qh hsu
   clear hc hy Br hsu
   obtain⟨p0,p1,p2,p3,p4,p5,p6,p7⟩:=Cat.fU (HB.out.below hbr hzW)
   have hk0:=az (w:=wr) w.heap.size omA
   have hk1:=az (w:=wr) b omA
   obtain⟨z,hz⟩:∃z,aV ts ⟨kd,sq,dy,tb,A0,cp,row,key,cl,vl⟩=z:=⟨_,rfl⟩
   have HZ:=qh hz
   have HFC:Hid (∀x:cZ wr,Calls Tryz.prog 41 #[.agg #[.slice A ts.length c,.slice o.vA 0 o.vc,.slice o.iA o.idx.length o.ic,.slice o.sA o.skt.length o.sc,.slice o.cA o.cch.length o.cc,.slice o.rA o.rel.length o.rc,.slice o.tA o.str.length o.tc,.slice o.bA o.bak.length o.bc],.agg #[.int .i64 kd,.int .i64 sq,.int .i64 dy,.int .i64 tb,.slice A0 row.length cp,.int .i64 key.kind,.int .i64 key.num,.string key.text,.int .i64 cl,.int .i64 vl.kind,.int .i64 vl.num,.string vl.text]] x.u fun e w''=>e=.returned (.int .i64 z) ∧ ∃y:cZ wr,w''=y.u):=qh fun x=>dN (nT A c ts.length ts kd sq dy tb A0 cp row key cl vl x.u (HT.out.next (aa hxr x.h hxr.size)) rfl HS.out HOK.out (HCG.out.next (aa hxr x.h hxr.size)) (HRI.out.next (aa hxr x.h hxr.size)) hrl HZ.out)
   clear hz
   cases hz0:(z == 0)
   ·have HNE:Hid (bM ts (l.take (i+1))=bM ts (l.take i)):=qh (by rw[HSU.out,if_neg (by rw[HZ.out];simpa using hz0)])
    go_upto_region 7 with (fail)
    refine af krA krA ?_;(repeat(go_big_quiet_step ((go_at_call 41;with_reducible exact HFC.out _))));refine wpQuiet_nil ?_;intro wq hq
    clear hk0 hk1 p0 p1 p2 p3 p4 p5 p6 p7 q0 q1 q2 q3 q4 q5 q6 q7 q8 q9 q10 q11
    go_wp2_with fail
    go_roundw
    case rel=>exact⟨i+1,RA,rc,rt,by omega,by go_num,rfl,HRL.out,(HRT.out.below hq).mono hq.size,HUP.out,HSH.out,by rw[HNE.out];exact HPU.out,aa hbr hq hwz⟩
    case measure=>exact meA
   ·have hzz:z=0:=by simpa using hz0
    subst hzz
    obtain⟨k,hin⟩:=fF HZ.out
    have HIN:=qh hin
    have HYE:Hid (bM ts (l.take (i+1))=aQ (bM ts (l.take i)) ⟨kd,sq,dy,tb,A0,cp,row,key,cl,vl⟩):=qh (by rw[HSU.out,if_pos HZ.out])
    clear hin
    go_upto_region 7 with (fail)
    refine af krA krA ?_;(repeat(go_big_quiet_step ((go_at_call 41;with_reducible exact HFC.out _))));refine wpQuiet_nil ?_;intro wq hq
    have HQ:=qh hq
    have hqz:=hq.size
    clear hk0 hk1 p0 p1 p2 p3 p4 p5 p6 p7
    replace q0:=(hq.cell (p:=⟨b,_,none⟩) (show b<wr.heap.size by omega)).trans q0
    replace q1:=(hq.cell (p:=⟨b,_,none⟩) (show b<wr.heap.size by omega)).trans q1
    replace q2:=(hq.cell (p:=⟨b,_,none⟩) (show b<wr.heap.size by omega)).trans q2
    replace q3:=(hq.cell (p:=⟨b,_,none⟩) (show b<wr.heap.size by omega)).trans q3
    replace q4:=(hq.cell (p:=⟨b,_,none⟩) (show b<wr.heap.size by omega)).trans q4
    replace q5:=(hq.cell (p:=⟨b,_,none⟩) (show b<wr.heap.size by omega)).trans q5
    replace q6:=(hq.cell (p:=⟨b,_,none⟩) (show b<wr.heap.size by omega)).trans q6
    replace q7:=(hq.cell (p:=⟨b,_,none⟩) (show b<wr.heap.size by omega)).trans q7
    replace q8:=(hq.cell (p:=⟨b,_,none⟩) (show b<wr.heap.size by omega)).trans q8
    replace q9:=(hq.cell (p:=⟨b,_,none⟩) (show b<wr.heap.size by omega)).trans q9
    replace q10:=(hq.cell (p:=⟨b,_,none⟩) (show b<wr.heap.size by omega)).trans q10
    replace q11:=(hq.cell (p:=⟨b,_,none⟩) (show b<wr.heap.size by omega)).trans q11
    go_wp2_with (go_at_call 42;(with_reducible refine(rC ts RA rc ts.length rt k kd sq dy tb A0 cp row key cl vl _ ((HRT.out.below HQ.out).mono hqz) HRL.out HSH.out HOK.out (HRI.out.next (aa hxr HQ.out hxr.size)) HIN.out).mono ?_);rintro e w2 ⟨⟨RA2,rc2,rt2,rfl,hl2,hr2,hu2,hp2⟩,hb2⟩;have HU2:=qh hu2;clear hu2;have HR2:=qh hr2;have HP2:=qh hp2;clear hr2 hp2)
    go_roundw
    case rel=>exact⟨i+1,RA2,rc2,rt2,by omega,by go_num,rfl,hl2,HR2.out,HU2.out.mono omA,(show iB ts (rt2.map aD) by rw[HP2.out];exact iB.sw HSH.out HIN.out),by rw[HP2.out,HYE.out,HPU.out],aa (aa hbr HQ.out hwz) hb2 omA⟩
    case measure=>exact meA
  ·have hlt':decide (i<l.length)=false:=by simpa using hlt
   obtain rfl:i=l.length:=by omega
   have lN:Hid (rt.map aD=bM ts l):=qh (by have h:=HPU.out;rw[List.take_length]at h;exact h)
   go_wp2_with fail
   go_ret
   exact⟨⟨RA,rc,rt,rfl,HRL.out,HRT.out,HUP.out,HSH.out,lN.out⟩,hxr⟩
theorem mI(A:Option Addr)(c m:Nat)(ts:List Tab)(LA:Option Addr)(lc n:Nat)(l:List Chg)(w:World)(ht:aF w w.heap.size A ts)(hm:ts.length=m)(hs:aM ts)(hok:aN ts)(hl:dQ w w.heap.size LA l)(hn:l.length=n)(hn6:n≤1000000)(hrow:∀x∈l,x.row.length≤1000000):
 Calls Tryz.prog 13 #[.agg #[.slice A m c,.slice none 0 0,.slice none 0 0,.slice none 0 0,.slice none 0 0,.slice none 0 0,.slice none 0 0,.slice none 0 0],.slice LA n lc] w fun e w'=>(∃RA rc rt,e=.returned (.slice RA m rc)∧rt.length=m∧aR w' w'.heap.size RA rt∧RUp w.heap.size RA rt∧eU ts rt∧rt.map aD=bM ts l)∧Below w.heap.size w w':=
 AR (o:=Oth.nil) A c m ts LA lc n l w ht hm hs hok (gF.nil ht hs hok) hl hn hn6 hrow
end Go.Proofs.YtjidligipoldeaaGreat
