/-
  Contracts and plain laws of this seat, part 29.
-/
import Derived.Test.YtebippoohpnjkaaGreatE20
import Derived.Test.YtebippoohpnjkaaGreatE28
set_option linter.unusedVariables false
set_option linter.unusedSimpArgs false
set_option maxRecDepth 100000
set_option maxHeartbeats 16000000
namespace Go.Proofs.YtebippoohpnjkaaGreat
open Go.RowKit
variable {o:Oth}
noncomputable def bX(ts:List Tab)(l:List Chg):List (List cK):=l.foldl (fun pl x=>if dw ts x=0 then aT pl x else pl) (List.replicate ts.length [])
theorem qD(ts:List Tab){l:List Chg}{i:Nat}(hi:i<l.length):bX ts (l.take (i+1))=if dw ts l[i]=0 then aT (bX ts (l.take i)) l[i] else bX ts (l.take i):=by
 unfold bX
 rw[List.take_succ_eq_append_getElem hi,List.foldl_append]
 rfl
theorem ed.zero(ts:List Tab):ed ts (List.replicate ts.length df):=by
 refine⟨by simp,fun i hi hi' =>?_⟩
 simp only[List.map_replicate,List.getElem_replicate,aG,df,List.map_nil]
 exact⟨by simp,fun r hr=>by cases hr⟩
theorem zw(A:Option Addr)(c m:Nat)(ts:List Tab)(LA:Option Addr)(lc n:Nat)(l:List Chg)(w:World)(ht:aM w w.heap.size A ts)(hm:ts.length=m)(hs:aK ts)(hok:aX ts)(hcg:fq w w.heap.size A c ts o)(hl:tV w w.heap.size LA l)(hn:l.length=n)(hn6:n≤1000000)(hrow:∀x∈l,x.row.length≤1000000):
 Calls Tryz.prog 20 #[.agg #[.slice A m c,.slice o.vA 0 o.vc,.slice o.iA o.idx.length o.ic,.slice o.sA o.skt.length o.sc,.slice o.cA o.cch.length o.cc,.slice o.rA o.rel.length o.rc,.slice o.tA o.str.length o.tc,.slice o.bA o.bak.length o.bc],.slice LA n lc] w fun e w'=>(∃RA rc rt,e=.returned (.slice RA m rc)∧rt.length=m∧aJ w' w'.heap.size RA rt∧RUp w.heap.size RA rt∧ed ts rt∧rt.map aG=bX ts l)∧Below w.heap.size w w':=by
 subst hm hn
 have h8:=hok.len
 have HT:=qh ht
 have HS:=qh hs
 have HOK:=qh hok
 have HCG:=qh hcg
 have HL1:=qh hl.1
 have HL2:=qh hl.2
 have rP:=qh hrow
 clear ht hs hok hcg hl hrow
 go_enter Tryz.func20,Tryz.ntmps20
 go_upto_region 2 with (go_at_call 44;(with_reducible refine(yE A c ts.length ts _ (HT.out.next ak) rfl HS.out HOK.out (HCG.out.next ak)).mono ?_);rintro e w1 ⟨⟨q,rfl,hq,hr⟩,hb1⟩)
 refine aj (P:=fun u=>Code.wp _ _ _ _ u) (R:=fun u=>Blk u w.heap.size 39 #[.slice A ts.length c,.slice o.vA 0 o.vc,.slice o.iA o.idx.length o.ic,.slice o.sA o.skt.length o.sc,.slice o.cA o.cch.length o.cc,.slice o.rA o.rel.length o.rc,.slice o.tA o.str.length o.tc,.slice o.bA o.bak.length o.bc]∧aJ u u.heap.size (some ⟨q,0,none⟩) (List.replicate ts.length df)∧Below w.heap.size w u) ⟨?_,hr,?_⟩ ?_
 ·exact(Blk.new _ _ _).below hb1 spA
 ·exact ae ak hb1 leA
 have hq':w.heap.size≤q:=by simp at hq;omega
 clear hb1 hr
 rintro W ⟨hB,hR,hbW⟩
 have hzW:=hB.lt
 have HB:=qh hB
 have HR:=qh hR
 clear hB hR
 have hnil:(binOp .eql 52 (.slice (some ⟨q,0,none⟩) ts.length ts.length) (.slice none 0 0)).run Tryz.prog W=.ok (.bool false) W:=Lib.run_eql_slice_nil W 52 127 (some ⟨q,0,none⟩) ts.length ts.length 0 0 Tryz.underlying52
 go_upto_region 5 with (fail)
 clear hnil
 go_loopw [5,6] (fun vt vi wr =>∃(i:Nat) (RA:Option Addr) (rc:Nat) (rt:List RTab),i≤l.length∧vi=.int .i64 i∧vt=.slice RA ts.length rc∧rt.length=ts.length∧aJ wr wr.heap.size RA rt∧RUp w.heap.size RA rt∧ed ts rt∧rt.map aG=bX ts (l.take i)∧Below W.heap.size W wr) (fun _ vi _=>l.length-(intOf vi).toNat)
 case atStart=>exact⟨0,_,_,_,Nat.zero_le _,rfl,rfl,by simp,HR.out,⟨fun a ha=>by injection ha with ha;subst ha;exact hq',fun t ht=>by rw[(List.mem_replicate.1 ht).2];exact⟨fun a ha=>by simp[df]at ha,fun r hr=>by simp[df]at hr⟩⟩,ed.zero ts,by simp[bX,aG,df],Below.refl _ _⟩
 case round =>
  obtain⟨i,RA,rc,rt,hi,rfl,rfl,hrl,hrt,hup,hsh,hpu,hbr⟩:=hrel
  have HUP:=qh hup
  clear hup
  have hwz:=hbr.size
  have hxr:=ae hbW hbr hbW.size
  have hxz:=hxr.size
  have HRT:=qh hrt
  have HSH:=qh hsh
  have HPU:=qh hpu
  have HRL:=qh hrl
  clear hrt hsh hpu hrl
  by_cases hlt:i<l.length
  ·obtain⟨b,o9,rfl,hb,hc⟩:=(HL1.out.below hxr).get hlt
   obtain⟨⟨q0,q1,q2,q3⟩,q4,⟨q5,q6,q7⟩,q8,q9,q10,q11⟩:=Chg.Fp hc
   have Mk:=HL2.out l[i] (lgm hlt)
   have hrl:=rP.out l[i] (lgm hlt)
   have hsu:=qD ts hlt
   obtain⟨⟨kd,sq,dy,tb,A0,cp,row,key,cl,vl⟩,hy⟩:∃x:Chg,l[i]=x:=⟨_,rfl⟩
   rw[hy]at q0 q1 q2 q3 q4 q5 q6 q7 q8 q9 q10 q11 Mk hrl hsu
   simp only at q0 q1 q2 q3 q4 q5 q6 q7 q8 q9 q10 q11 Mk hrl
   have HRI:=qh Mk
   have HSU:=qh hsu
   clear hc hy Mk hsu
   obtain⟨p0,p1,p2,p3,p4,p5,p6,p7⟩:=Cat.bG (HB.out.below hbr hzW)
   have hk0:=aI (w:=wr) w.heap.size omA
   have hk1:=aI (w:=wr) b omA
   obtain⟨z,hz⟩:∃z,dw ts ⟨kd,sq,dy,tb,A0,cp,row,key,cl,vl⟩=z:=⟨_,rfl⟩
   have HZ:=qh hz
   have HFC:Hid (∀x:bP wr,Calls Tryz.prog 55 #[.agg #[.slice A ts.length c,.slice o.vA 0 o.vc,.slice o.iA o.idx.length o.ic,.slice o.sA o.skt.length o.sc,.slice o.cA o.cch.length o.cc,.slice o.rA o.rel.length o.rc,.slice o.tA o.str.length o.tc,.slice o.bA o.bak.length o.bc],.agg #[.int .i64 kd,.int .i64 sq,.int .i64 dy,.int .i64 tb,.slice A0 row.length cp,.int .i64 key.kind,.int .i64 key.num,.string key.text,.int .i64 cl,.int .i64 vl.kind,.int .i64 vl.num,.string vl.text]] x.u fun e w''=>e=.returned (.int .i64 z) ∧ ∃y:bP wr,w''=y.u):=qh fun x=>bW (vD A c ts.length ts kd sq dy tb A0 cp row key cl vl x.u (HT.out.next (ae hxr x.h hxr.size)) rfl HS.out HOK.out (HCG.out.next (ae hxr x.h hxr.size)) (HRI.out.next (ae hxr x.h hxr.size)) hrl HZ.out)
   clear hz
   cases hz0:(z == 0)
   ·have HNE:Hid (bX ts (l.take (i+1))=bX ts (l.take i)):=qh (by rw[HSU.out,if_neg (by rw[HZ.out];simpa using hz0)])
    go_upto_region 7 with (fail)
    refine ag krA krA ?_;(repeat(go_big_quiet_step ((go_at_call 55;with_reducible exact HFC.out _))));refine wpQuiet_nil ?_;intro wq hq
    clear hk0 hk1 p0 p1 p2 p3 p4 p5 p6 p7 q0 q1 q2 q3 q4 q5 q6 q7 q8 q9 q10 q11
    go_wp2_with fail
    go_roundw
    case rel=>exact⟨i+1,RA,rc,rt,by omega,by go_num,rfl,HRL.out,(HRT.out.below hq).mono hq.size,HUP.out,HSH.out,by rw[HNE.out];exact HPU.out,ae hbr hq hwz⟩
    case measure=>exact meA
   ·have hzz:z=0:=by simpa using hz0
    subst hzz
    obtain⟨k,hin⟩:=iO HZ.out
    have HIN:=qh hin
    have HYE:Hid (bX ts (l.take (i+1))=aT (bX ts (l.take i)) ⟨kd,sq,dy,tb,A0,cp,row,key,cl,vl⟩):=qh (by rw[HSU.out,if_pos HZ.out])
    clear hin
    go_upto_region 7 with (fail)
    refine ag krA krA ?_;(repeat(go_big_quiet_step ((go_at_call 55;with_reducible exact HFC.out _))));refine wpQuiet_nil ?_;intro wq hq
    have HQ:=qh hq
    have hqz:=hq.size
    clear hk0 hk1 p0 p1 p2 p3 p4 p5 p6 p7
    replace q0:=(hq.cell (p:=⟨b,_,none⟩) (show b<wr.heap.size by omega)).trans q0
    replace q1:=(hq.cell (p:=⟨b,_,none⟩) (show b<wr.heap.size by omega)).trans q1
    replace q2:=(hq.cell (p:=⟨b,_,none⟩) (show b<wr.heap.size by omega)).trans q2
    replace q3:=(hq.cell (p:=⟨b,_,none⟩) (show b<wr.heap.size by omega)).trans q3
    replace q4:=(hq.cell (p:=⟨b,_,none⟩) (show b<wr.heap.size by omega)).trans q4
    replace q5:=(hq.cell (p:=⟨b,_,none⟩) (show b<wr.heap.size by omega)).trans q5
    replace q6:=(hq.cell (p:=⟨b,_,none⟩) (show b<wr.heap.size by omega)).trans q6
    replace q7:=(hq.cell (p:=⟨b,_,none⟩) (show b<wr.heap.size by omega)).trans q7
    replace q8:=(hq.cell (p:=⟨b,_,none⟩) (show b<wr.heap.size by omega)).trans q8
    replace q9:=(hq.cell (p:=⟨b,_,none⟩) (show b<wr.heap.size by omega)).trans q9
    replace q10:=(hq.cell (p:=⟨b,_,none⟩) (show b<wr.heap.size by omega)).trans q10
    replace q11:=(hq.cell (p:=⟨b,_,none⟩) (show b<wr.heap.size by omega)).trans q11
    go_wp2_with (go_at_call 56;(with_reducible refine(lI ts RA rc ts.length rt k kd sq dy tb A0 cp row key cl vl _ ((HRT.out.below HQ.out).mono hqz) HRL.out HSH.out HOK.out (HRI.out.next (ae hxr HQ.out hxr.size)) HIN.out).mono ?_);rintro e w2 ⟨⟨RA2,rc2,rt2,rfl,hl2,hr2,hu2,hp2⟩,hb2⟩;have HU2:=qh hu2;clear hu2;have HR2:=qh hr2;have HP2:=qh hp2;clear hr2 hp2)
    go_roundw
    case rel=>exact⟨i+1,RA2,rc2,rt2,by omega,by go_num,rfl,hl2,HR2.out,HU2.out.mono omA,(show iU ts (rt2.map aG) by rw[HP2.out];exact iU.Bi HSH.out HIN.out),by rw[HP2.out,HYE.out,HPU.out],ae (ae hbr HQ.out hwz) hb2 omA⟩
    case measure=>exact meA
  ·have hlt':decide (i<l.length)=false:=by simpa using hlt
   obtain rfl:i=l.length:=by omega
   have Az:Hid (rt.map aG=bX ts l):=qh (by have h:=HPU.out;rw[List.take_length]at h;exact h)
   go_wp2_with fail
   go_ret
   exact⟨⟨RA,rc,rt,rfl,HRL.out,HRT.out,HUP.out,HSH.out,Az.out⟩,hxr⟩
theorem xJ(A:Option Addr)(c m:Nat)(ts:List Tab)(LA:Option Addr)(lc n:Nat)(l:List Chg)(w:World)(ht:aM w w.heap.size A ts)(hm:ts.length=m)(hs:aK ts)(hok:aX ts)(hl:tV w w.heap.size LA l)(hn:l.length=n)(hn6:n≤1000000)(hrow:∀x∈l,x.row.length≤1000000):
 Calls Tryz.prog 20 #[.agg #[.slice A m c,.slice none 0 0,.slice none 0 0,.slice none 0 0,.slice none 0 0,.slice none 0 0,.slice none 0 0,.slice none 0 0],.slice LA n lc] w fun e w'=>(∃RA rc rt,e=.returned (.slice RA m rc)∧rt.length=m∧aJ w' w'.heap.size RA rt∧RUp w.heap.size RA rt∧ed ts rt∧rt.map aG=bX ts l)∧Below w.heap.size w w':=
 zw (o:=Oth.nil) A c m ts LA lc n l w ht hm hs hok (fq.nil ht hs hok) hl hn hn6 hrow
theorem Bd(rt:List RTab)(k:Int):(kC rt k).map aN=lH (rt.map aG) k:=by
 unfold kC lH
 rw[List.getElem?_map]
 cases rt[k.toNat]? with
 | none=>rfl
 | some t=>rfl
theorem yR(rt:List RTab)(k:Int)(key:Val):jB (kC rt k) key=eU (lH (rt.map aG) k) key:=by rw[fQ,Bd]
inductive zi (ts:List Tab):List Chg→List (List cK)→Prop
 | nil:zi ts [] (List.replicate ts.length [])
 | snoc {l:List Chg}{pl:List (List cK)}{x:Chg}{rt:List RTab}(h:zi ts l pl) (hp:rt.map aG=pl) (hc:dZ ts rt x=0):zi ts (l ++ [x]) (aT pl x)
structure nk (ts:List Tab) (i:Nat) (q d:Int) (l:List Chg) (pl:List (List cK)):Prop where
 chain:zi ts l pl
 psq:0≤q∧q≤3*i
 pdy:0≤d∧d≤2*i
 bd:∀x∈l,x.seq≤q∧x.day≤d
 ord:l.Pairwise (fun a b=>a.seq<b.seq∧a.day≤b.day)
def KN(ts:List Tab)(n:Nat)(l:List Chg):Prop:=(∃pl,zi ts l pl)∧(∀x∈l,x.seq≤6*n∧x.day≤4*n)∧l.Pairwise (fun a b=>a.seq<b.seq∧a.day≤b.day)
theorem nk.zero(ts:List Tab):nk ts 0 0 0 [] ((List.replicate ts.length df).map aG):=by
 refine⟨?_,⟨Int.le_refl _,by simp⟩,⟨Int.le_refl _,by simp⟩,fun x hx=>(by cases hx),List.Pairwise.nil⟩
 rw[List.map_replicate]
 exact zi.nil
theorem nk.skip{ts:List Tab}{i:Nat}{q d:Int}{l:List Chg}{pl:List (List cK)}(h:nk ts i q d l pl){r s:Nat}(hr:r≤2)(hs:s≤2):nk ts (i+1) (q+(1+(r:Int))) (d+(s:Int)) l pl:=by
 have h1:=h.psq
 have h2:=h.pdy
 exact⟨h.chain,⟨by omega,by omega⟩,⟨by omega,by omega⟩,fun x hx=>by have:=h.bd x hx;omega,h.ord⟩
theorem nk.snoc{ts:List Tab}{i:Nat}{q d:Int}{l:List Chg}{rt:List RTab}{pl:List (List cK)}(h:nk ts i q d l (rt.map aG)){r s:Nat}(hr:r≤2)(hs:s≤2){x:Chg}(hp:pl=aT (rt.map aG) x)(hc:dZ ts rt x=0)(hx:x.seq=q+(1+(r:Int)))(hy:x.day=d+(s:Int)):nk ts (i+1) (q+(1+(r:Int))) (d+(s:Int)) (l ++ [x]) pl:=by
 have h1:=h.psq
 have h2:=h.pdy
 subst hp
 refine⟨h.chain.snoc rfl hc,⟨by omega,by omega⟩,⟨by omega,by omega⟩,fun y hy =>?_,List.pairwise_append.2 ⟨h.ord,List.pairwise_singleton _ _,fun a ha b hb =>?_⟩⟩
 ·rcases List.mem_append.1 hy with h3|h3
  ·have:=h.bd y h3;omega
  ·rw[List.mem_singleton.1 h3];omega
 ·have:=h.bd a ha
  rw[List.mem_singleton.1 hb]
  omega
theorem nk.done{ts:List Tab}{i n:Nat}{q d:Int}{l:List Chg}{pl:List (List cK)}(h:nk ts i q d l pl)(hi:i≤2*n):KN ts n l:=by
 have h1:=h.psq
 have h2:=h.pdy
 exact⟨⟨pl,h.chain⟩,fun x hx=>by have:=h.bd x hx;omega,h.ord⟩
theorem xG(g b B n:Nat)(A:Option Addr)(c m:Nat)(ts:List Tab)(w:World)(hk:aO w g b)(hgB:g<B)(ht:aM w w.heap.size A ts)(hu:gM B A ts)(hm:ts.length=m)(hs:aK ts)(hok:aX ts)(h0:0<ts.length)(hn:n≤1000):
 Calls Tryz.prog 12 #[.pointer (some ⟨g,0,none⟩),.agg #[.slice A m c,.slice none 0 0,.slice none 0 0,.slice none 0 0,.slice none 0 0,.slice none 0 0,.slice none 0 0,.slice none 0 0],.int .i64 n] w fun e w' =>
  ∃A' c' l,e=.returned (.slice A' l.length c')∧l.length≤n∧tN w' w.heap.size A' c' l∧aO w' g b∧w.grownBy w' (some g)∧KN ts n l:=by
 subst hm
 have hgl:=hk.ltg
 have hbl:=hk.lt
 obtain⟨ic,hic,Eb,Ea,D9⟩:=info_parts Md
 obtain⟨n2,hn2⟩:∃n2,2*n=n2:=⟨_,rfl⟩
 have hw2:IntKind.i64.wrap (2*(n:Int))=(n2:Int):=by rw[show 2*(n:Int)=(n2:Int) by omega];exact IntWalk.i64_in _ omA
 have VR:n2≤2000:=by omega
 have HN2:Hid (n2=2*n):=qh hn2.symm
 have HK:=qh hk
 have HT:=qh ht
 have HU:=qh (hu.mono (B':=g+1) hgB)
 have HS:=qh hs
 have HOK:=qh hok
 clear hk ht hu hs hok hn2
 go_enter Tryz.func12,Tryz.ntmps12
 go_upto_region 1 with (fail)
 refine aj (P:=fun u=>Code.wp _ _ _ _ u) (R:=fun u=>Blk u w.heap.size 39 #[.slice A ts.length c,.slice none 0 0,.slice none 0 0,.slice none 0 0,.slice none 0 0,.slice none 0 0,.slice none 0 0,.slice none 0 0]∧Below w.heap.size w u) ⟨?_,?_⟩ ?_
 ·exact Blk.new _ _ _
 ·exact ak
 rintro W ⟨hC,hbW⟩
 have hzW:=hC.lt
 have hS0:aL W g b W:=⟨HK.out.below hbW,av _ brf⟩
 have jT:b<W.heap.size:=by omega
 have jy:g<W.heap.size:=by omega
 have HC:=qh hC
 have HTW:=qh (HT.out.next hbW)
 obtain⟨p0,p1,p2,p3,p4,p5,p6,p7⟩:=Cat.blk hC
 clear hC
 go_wp2_with fail
 (with_reducible refine(Dk A c ts.length ts _ HTW.out rfl HS.out HOK.out).mono ?_)
 rintro e w1 ⟨⟨q,rfl,hq,hrt⟩,hb1⟩
 have hS1:=hS0.below hb1
 have Sr:=qh hrt
 clear hrt
 clear p0 p1 p2 p3 p4 p5 p6 p7
 go_wp2_with fail
 go_loopw [7,8,9,10,11] (fun v7 v8 v9 v10 v11 wr =>∃(i:Nat) (RA:Option Addr) (rc:Nat) (rt:List RTab) (LA:Option Addr) (lc:Nat) (l:List Chg) (sq dy:Int),i≤n2∧v11=.int .i64 i∧v9=.int .i64 sq∧v10=.int .i64 dy∧v7=.slice RA ts.length rc∧rt.length=ts.length∧aJ wr wr.heap.size RA rt∧RUp (g+1) RA rt∧ed ts rt∧v8=.slice LA l.length lc∧tN wr W.heap.size LA lc l∧l.length≤n∧aL W g b wr∧nk ts i sq dy l (rt.map aG)) (fun _ _ _ _ v11 _=>n2-(intOf v11).toNat)
 case atStart=>exact⟨0,_,_,_,none,0,[],0,0,Nat.zero_le _,rfl,rfl,rfl,rfl,by simp,Sr.out,Le omA _,CS ts,rfl,⟨ay.nil,fun x hx=>by simp at hx,fun x hx=>by simp at hx⟩,Nat.zero_le _,hS1,nk.zero ts⟩
 case round =>
  clear hS1 Sr hb1 hq
  obtain⟨i,RA,rc,rt,LA,lc,l,sq,dy,hi,rfl,rfl,rfl,rfl,hrl,hrt,hru,hsh,rfl,hoc,hln,hSr,hhi⟩:=hrel
  have HHI:=qh hhi
  have JP:=hhi.psq
  have Wh:=hhi.pdy
  clear hhi
  have HRL:=qh hrl
  have HRT:=qh hrt
  have HRU:=qh hru
  have HSH:=qh hsh
  have HOC:=qh hoc
  have HSR:=qh hSr
  have hzr:=hSr.size
  have hgw:w.grownBy W (some g):=av _ hbW
  clear hrl hrt hru hsh hoc
  by_cases h1:i<n2
  rotate_left
  ·have h1':decide (i<n2)=false:=by simpa using h1
   have h1i:decide ((i:Int)<(n2:Int))=false:=by simp;omega
   go_wp2_with fail
   go_ret
   exact⟨LA,lc,l,rfl,hln,⟨HOC.out.own.mono omA,fun x hx=>(HOC.out.rows x hx).mono omA,HOC.out.len⟩,HSR.out.tape,au hgw HSR.out.grown,HHI.out.done (by have:=HN2.out;omega)⟩
  have h1':decide (i<n2)=true:=by simpa using h1
  have h1i:decide ((i:Int)<(n2:Int))=true:=by simp;omega
  by_cases h2:l.length<n
  rotate_left
  ·have h2':decide (l.length<n)=false:=by simpa using h2
   have h2i:decide ((l.length:Int)<(n:Int))=false:=by simp;omega
   go_wp2_with fail
   go_ret
   exact⟨LA,lc,l,rfl,hln,⟨HOC.out.own.mono omA,fun x hx=>(HOC.out.rows x hx).mono omA,HOC.out.len⟩,HSR.out.tape,au hgw HSR.out.grown,HHI.out.done (by have:=HN2.out;omega)⟩
  have h2':decide (l.length<n)=true:=by simpa using h2
  have h2i:decide ((l.length:Int)<(n:Int))=true:=by simp;omega
  go_wp2_with fail
  (with_reducible refine(az g b 3 _ HSR.out.tape omA omA).mono ?_)
  rintro e u1 ⟨r1,rfl,hr1,hk1,hg1⟩
  have HS1:=qh (HSR.out.call hk1 hg1)
  have hr1':r1≤2:=by rcases hr1 with h|h<;>omega
  have VE:IntKind.i64.wrap (1+(r1:Int))=1+(r1:Int):=IntWalk.i64_in _ omA
  have VD:IntKind.i64.wrap (sq+(1+(r1:Int)))=sq+(1+(r1:Int)):=IntWalk.i64_in _ omA
  go_wp2_with fail
  (with_reducible refine(az g b 3 _ HS1.out.tape omA omA).mono ?_)
  rintro e u2 ⟨r2,rfl,hr2,hk2,hg2⟩
  have HS2:=qh (HS1.out.call hk2 hg2)
  have hr2':r2≤2:=by rcases hr2 with h|h<;>omega
  have VC:IntKind.i64.wrap (dy+(r2:Int))=dy+(r2:Int):=IntWalk.i64_in _ omA
  have S9:Hid (wr.grownBy u2 (some g)):=qh (au hg1 hg2)
  clear hk1 hk2 hg1 hg2
  have hC2:=HS2.out.blk HC.out omA
  obtain⟨p0,p1,p2,p3,p4,p5,p6,p7⟩:=Cat.blk hC2
  clear hC2
  go_wp2_with fail
  (with_reducible refine(kS g b (g+1) A c ts.length ts RA rc ts.length rt _ _ _ HS2.out.tape (Nat.lt_succ_self g) (HT.out.grown HU.out (Nat.lt_succ_self g) (au hgw HS2.out.grown)) HU.out rfl HS.out HOK.out h0 (HRT.out.grown HRU.out (Nat.lt_succ_self g) S9.out) HRU.out HRL.out HSH.out).mono ?_)
  intro e w3 hch
  obtain⟨⟨kd,sq2,dy2,tb,A0,cp,row,key,cl,vl⟩,he,QB,Rj,Mj,hrow,hk3,hg3⟩:=hch
  have UJ:=qh QB
  have Vb:=qh Rj
  clear QB Rj
  rw[show (Chg.cells ⟨kd,sq2,dy2,tb,A0,cp,row,key,cl,vl⟩).toArray=#[.int .i64 kd,.int .i64 sq2,.int .i64 dy2,.int .i64 tb,.slice A0 row.length cp,.int .i64 key.kind,.int .i64 key.num,.string key.text,.int .i64 cl,.int .i64 vl.kind,.int .i64 vl.num,.string vl.text] from rfl]at he
  subst he
  simp only at Mj hrow
  have hS3:=HS2.out.call hk3 hg3
  have OG:=HS2.out.size
  have HG3:Hid (wr.grownBy w3 (some g)):=qh (au S9.out hg3)
  have rP:=qh (hrow.mono (b':=W.heap.size) OG)
  have HS3:=qh hS3
  have hz3:=hS3.size
  clear p0 p1 p2 p3 p4 p5 p6 p7
  clear hk3 hg3 hrow hS3
  go_upto_region 10 with (fail)
  refine aj (P:=fun u=>Code.wp _ _ _ _ u) (R:=fun u=>Blk u w3.heap.size 64 #[.int .i64 kd,.int .i64 sq2,.int .i64 dy2,.int .i64 tb,.slice A0 row.length cp,.int .i64 key.kind,.int .i64 key.num,.string key.text,.int .i64 cl,.int .i64 vl.kind,.int .i64 vl.num,.string vl.text]∧Below w3.heap.size w3 u) ⟨?_,?_⟩ ?_
  ·exact Blk.new' rfl
  ·exact ak
  rintro w4 ⟨hX4,hb4⟩
  have Ux:=hX4.lt
  have hz4:=hb4.size
  have HX4:=qh hX4
  have HS4:=qh (HS3.out.below hb4)
  have hC4:=HS4.out.blk HC.out omA
  obtain⟨p0,p1,p2,p3,p4,p5,p6,p7⟩:=Cat.blk hC4
  obtain⟨⟨q0,q1,q2,q3⟩,q4,⟨q5,q6,q7⟩,q8,q9,q10,q11⟩:=Chg.fT (x:=⟨kd,sq2,dy2,tb,A0,cp,row,key,cl,vl⟩) hX4
  simp only at q0 q1 q2 q3 q4 q5 q6 q7 q8 q9 q10 q11
  have SK:=qh ((HOC.out.kept HG3.out jy).below hb4)
  have NM:=qh (rP.out.below hb4 nlr)
  have Ie:Hid (aJ w4 w4.heap.size RA rt):=qh ((HRT.out.grown HRU.out (Nat.lt_succ_self g) HG3.out).next hb4)
  obtain⟨z,hz⟩:∃z,dZ ts rt ⟨kd,sq2,dy2,tb,A0,cp,row,key,cl,vl⟩=z:=⟨_,rfl⟩
  have HZ:=qh hz
  clear hC4 hX4 hz
  go_wp2_with fail
  (with_reducible refine(zA A c ts.length ts RA rc ts.length rt kd sq2 dy2 tb A0 cp row key cl vl _ (HT.out.grown HU.out (Nat.lt_succ_self g) (au hgw HS4.out.grown)) rfl HS.out HOK.out Ie.out HRL.out (HSH.out.bH HOK.out) (dX bF NM.out) omA HZ.out).mono ?_)
  rintro e w5 ⟨⟨A2,c2,m2,rt2,rfl,hzz⟩,hb5⟩
  have hz5:=hb5.size
  have HS5:=qh (HS4.out.below hb5)
  have M7:=qh (SK.out.below hb5)
  have Su:=qh (NM.out.below hb5 nlr)
  have hX5:=HX4.out.below hb5 Ux
  have HZZ:=qh hzz
  clear p0 p1 p2 p3 p4 p5 p6 p7
  clear q0 q1 q2 q3 q4 q5 q6 q7 q8 q9 q10 q11 hzz
  by_cases hz0:z=0
  ·have hz0':(z == 0)=true:=by rw[hz0];rfl
   obtain⟨rfl,hrl2,QH,QG,QD,JX⟩:=HZZ.out hz0
   have HHN:=qh (HHI.out.snoc (r:=r1) (s:=r2) hr1' hr2' JX (by rw[HZ.out];exact hz0) UJ.out Vb.out)
   clear JX
   have UW:=qh hrl2
   have UQ:=qh QH
   have Ic:=qh QG
   have UN:=qh QD
   have HX5:=qh hX5
   obtain⟨⟨q0,q1,q2,q3⟩,q4,⟨q5,q6,q7⟩,q8,q9,q10,q11⟩:=Chg.fT (x:=⟨kd,sq2,dy2,tb,A0,cp,row,key,cl,vl⟩) hX5
   simp only at q0 q1 q2 q3 q4 q5 q6 q7 q8 q9 q10 q11
   clear hrl2 QH QG QD hX5 hz0 HZZ
   go_wp2_with (at_builtin;go_must (refine aH _ rfl (.tmp 54) (.tmp 56) 44 rfl 64 ic _ Chg.cells 12 128 Tryz.underlying44 hic Eb Ea D9 rfl omA Ar MR W.heap.size (.slice LA l.length lc) l rfl (M7.out.own.alloc _) _ _ _ [(⟨kd,sq2,dy2,tb,A0,cp,row,key,cl,vl⟩:Chg)] rfl rfl (Blk.one (enc:=Chg.cells) (x:=⟨kd,sq2,dy2,tb,A0,cp,row,key,cl,vl⟩) (Blk.new' rfl) spA) smA mxA smA ?_);intro v2 w6 hown6 hg6 Wx;obtain⟨LA6,lc6,hv6,_,_⟩:=hown6.form;subst hv6;have U4:=qh ((M7.out.below (brf.alloc nlr _)).app hg6 hown6 (Su.out.alloc _) Mj);have HS6:=qh ((HS5.out.below (brf.alloc nlr _)).app hg6 M7.out.own.row jT jy);have EN:Hid (aJ w6 w6.heap.size A2 rt2):=qh ((UQ.out.next (brf.alloc nlr _)).sV Ic.out (fun q hq=>SK.out.own.lt q hq) hg6);clear hown6)
   go_roundw
   case rel=>exact⟨i+1,A2,c2,rt2,LA6,lc6,l ++ [⟨kd,sq2,dy2,tb,A0,cp,row,key,cl,vl⟩],_,_,by omega,by go_num,rfl,rfl,rfl,UW.out,EN.out,Ic.out.mono omA,UN.out,by simp,U4.out,by simp;omega,HS6.out,HHN.out⟩
   case measure=>exact meA
  ·have hz0':(z == 0)=false:=by simpa using hz0
   have CG:=qh (Ie.out.next hb5)
   clear hz0 hX5 HZZ
   go_wp2_with fail
   go_roundw
   case rel=>exact⟨i+1,RA,rc,rt,LA,lc,l,_,_,by omega,by go_num,rfl,rfl,rfl,HRL.out,CG.out,HRU.out,HSH.out,rfl,M7.out,hln,HS5.out,HHI.out.skip hr1' hr2'⟩
   case measure=>exact meA
end Go.Proofs.YtebippoohpnjkaaGreat
