/-
  Contracts and plain laws of this seat, part 8.
-/
import Derived.Test.YtjidligipoldeaaGreatT7
set_option linter.unusedVariables false
set_option linter.unusedSimpArgs false
set_option maxRecDepth 100000
set_option maxHeartbeats 16000000
namespace Go.Proofs.YtjidligipoldeaaGreat
open Go.RowKit
theorem et{P:Prop}(h:P:=by have:=hb1'.size;simp;omega):P:=h
theorem ev{P:Prop}(h:P:=by exact Blk.one (enc:=Rcd.cells) (x:=⟨some ⟨rbb,0,none⟩,rc',row,SA',sc',sqs,dy⟩) h40 h40.lt):P:=h
theorem ew{P:Prop}(h:P:=by rw[HKV.out,←fG];exact HZK.out):P:=h
theorem ey{P:Prop}(h:P:=by have h:=SS.out;unfold Blk at h;exact h):P:=h
theorem ez{P:Prop}(h:P:=by show _≤rb;omega):P:=h
theorem eA{P:Prop}(h:P:=by simpa[Value.ownBlock]using hg.symm):P:=h
theorem LF{P:Prop}(h:P:=by
 refine aJ (S:=(fun u=>u.cell? ⟨w.heap.size,3,none⟩=some (.int .i64 (k:Int)))) [] krA q3 (fun hHeld =>?_)
 refine tkT 0 hHeld ?_
 refine tkT 1 hHeld ?_
 refine tkT 2 hHeld ?_
 refine tkT 4 hHeld ?_
 refine tkT 5 hHeld ?_
 refine tkT 6 hHeld ?_
 refine tkT 8 hHeld ?_
 refine tkT 9 hHeld ?_
 refine tkT 10 hHeld ?_
 refine tkT 11 hHeld ?_
 refine r1T 3 (fun K hK =>?_)
 go_simp
 refine hK.out _ _ _ ?_ (fun hHeld =>?_)
 ·go_simp
 clear hK K
 refine r1T 7 (fun K hK =>?_)
 (refine av _ rfl (.tmp 25) (.tmp 28) 46 rfl 66 ir _ Rcd.cells 3 56 Tryz.underlying46 hir uw uu uq rfl omA bG eQ U.heap.size (.slice (some ⟨U.heap.size,0,none⟩) 0 0) [] rfl (aj.empty nbA leA) _ _ _ (recs.take j) rfl smA ((Gm.out.take j).next ai) smA mxA leA ?_;intro v1 u1 hown1 hg1 vG;have hb1':Below U.heap.size U u1:=Below.grown ai hg1 leA (bX leA);have hsz1:=hb1'.size;have kx1:=(bN hb1' w.heap.size IM).1)
 refine hK.out _ _ _ ?_ (fun hHeld =>?_)
 ·go_simp
 clear hK K
 refine r1T 12 (fun K hK =>?_)
 (refine av _ rfl (.tmp 29) (.tmp 33) 46 rfl 66 ir _ Rcd.cells 3 56 Tryz.underlying46 hir uw uu uq rfl omA bG eQ U.heap.size v1 ([]++recs.take j) rfl hown1 _ _ _ (recs.drop (j+1)) rfl spA (hcut.next hb1') smA mxA hb1'.size ?_;intro v2 u2 hown2 hg2 Du;have hb2':Below U.heap.size U u2:=Below.grown hb1' hg2 hb1'.size hown1.row;have hsz2:=hb2'.size;have kx2:=(bN hb2' w.heap.size IM).1)
 rw[List.nil_append]at hown2
 obtain⟨A3,c3,hv2,_,_⟩:=hown2.form
 obtain⟨n3,hn3⟩:∃n3,n3=(recs.take j++recs.drop (j+1)).length:=⟨_,rfl⟩
 rw[←hn3]at hv2
 subst hv2
 have HN3:=qh hn3
 have VW:=qh hown2
 clear hn3 hown2
 refine hK.out _ _ _ ?_ (fun hHeld =>?_)
 ·go_simp
 clear hK K
 refine r1T 13 (fun K hK =>?_)
 go_simp
 refine hK.out _ _ _ ?_ (fun hHeld =>?_)
 ·go_simp
 clear hK K
 refine r1T 14 (fun K hK =>?_)
 have R4:=HO3.out.below hb2' nlr
 have g3:=R4.gq dH HLL.out.symm hkl (j:= 0) rfl
 have f3:=R4.kH HLL.out.symm k
 simp only[Nat.mul_one,Nat.add_zero]at g3
 clear R4
 go_simp
 refine hK.out _ _ _ ?_ (fun hHeld =>?_)
 ·go_simp
 clear hK K
 refine aI krA ?_ _
 clear hHeld
 have dK:=qh (uP.out u2 A3 c3 (.slice A3 n3 c3) hb2' (by rw[←HN3.out];exact VW.out) (by rw[HN3.out]))
 go_wp2_with fail
 go_ret
 first|exact dK.out|exact dK.out.drew):P:=h
theorem tY(RA:Option Addr)(rc n:Nat)(rt:List RTab)(k:Nat)(kd sq dy:Int)(A0:Option Addr)(cp:Nat)(row:List Val)(key:Val)(cl:Int)(vl:Val)(w:World)(hrt:aR w w.heap.size RA rt)(hn:rt.length=n)(hsr:mi rt)(hk:k<rt.length)(hR:ag w w.heap.size Val.cells 3 A0 row)(hrlen:row.length≤1000000)(h1:kd=1→0<row.length){z:Int}(hz:dV (aD rt[k]) (keyOf ⟨kd,sq,dy,(k:Int),A0,cp,row,key,cl,vl⟩)=z)(hc:(kd≠1∧z<0)∨(kd=1∧z<0 ∧ 64≤rt[k].recs.length)):
 Calls Tryz.prog 42 #[.slice RA n rc,.agg #[.int .i64 kd,.int .i64 sq,.int .i64 dy,.int .i64 (k:Int),.slice A0 row.length cp,.int .i64 key.kind,.int .i64 key.num,.string key.text,.int .i64 cl,.int .i64 vl.kind,.int .i64 vl.num,.string vl.text]] w (iU w n (aQ (rt.map aD) ⟨kd,sq,dy,(k:Int),A0,cp,row,key,cl,vl⟩)):=by
 have HC:=qh hc
 have hz0:decide (z<0)=true:=by rcases hc with h|h<;>simp<;>omega
 have hz1:decide (0≤z)=false:=by rcases hc with h|h<;>simp<;>omega
 have hkd:(kd == 1)=false∨((kd == 1)=true ∧ 64≤rt[k].recs.length):=by
  rcases hc with h|h
  ·exact .inl (by simpa using h.1)
  ·exact .inr ⟨by simpa using h.1,h.2.2⟩
 clear hc
 subst hn
 have hrn:=hsr.len
 have sH:=hsr.recs rt[k] (lgm hk)
 have eO:=hsr.row rt[k] (lgm hk)
 obtain⟨kv,hkv⟩:∃kv,keyOf ⟨kd,sq,dy,(k:Int),A0,cp,row,key,cl,vl⟩=kv:=⟨_,rfl⟩
 have HKV:=qh hkv
 have HZ:=qh hz
 have HRT:=qh hrt
 have HSR:=qh hsr
 have HR:=qh hR
 have H1:=qh h1
 clear hz hrt hsr hR h1 hkv
 go_enter Tryz.func42,Tryz.ntmps42
 go_upto_region 1 with (fail)
 refine ah (P:=fun u=>Code.wp _ _ _ _ u) (R:=fun u=>Blk u w.heap.size 52 (Chg.cells ⟨kd,sq,dy,(k:Int),A0,cp,row,key,cl,vl⟩).toArray∧Below w.heap.size w u) ⟨?_,?_⟩ ?_
 ·exact Blk.new _ _ _
 ·exact ai
 rintro W ⟨hX,hbW⟩
 have hzW:=hX.lt
 have HX:=qh hX
 clear hX
 go_wp2_with fail
 (with_reducible refine(nU RA rc rt.length rt _ (HRT.out.next (aa hbW brf hbW.size)) rfl HSR.out).mono ?_)
 rintro e w1 ⟨q,l,rfl,hq,hll,hO,hT,hpl,hb1⟩
 have hx1:=aa hbW hb1 hbW.size
 have hX1:=HX.out.below hb1 omA
 have HX1:=qh hX1
 have hkl:k<l.length:=by omega
 have g0:=hO.gq dH (by rw[hll]) hkl (j:= 0) rfl
 have hmp:=Bf hpl hkl hk
 have hT0:=hT.recs hkl
 obtain⟨⟨TA,tc,recs⟩,hlk⟩:∃x:RTab,l[k]=x:=⟨_,rfl⟩
 rw[hlk]at g0 hmp hT0
 simp only[Nat.mul_one,Nat.add_zero]at g0 hmp hT0
 have uC:recs.length=rt[k].recs.length:=by have:=congrArg List.length hmp;simpa[aD]using this
 have hrw:∀x∈recs,x.row.length≤1000000:=fun x hx=>by
  have h:aA x∈aD rt[k]:=by rw[←hmp];exact List.mem_map_of_mem hx
  obtain⟨y,hy,hyx⟩:=List.mem_map.1 h
  have h2:y.row=x.row:=congrArg (fun p=>p.1) hyx
  rw[←h2]
  exact eO y hy
 have hrl:recs.length≤1000000:=by omega
 have vR:=qh uC
 have HLL:=qh hll
 have hzk:=HZ.out
 rw[HKV.out,←hmp,←fG]at hzk
 have HMP:=qh hmp
 have HT0:=qh hT0
 have HLK:=qh hlk
 have HO:=qh hO
 have HT:=qh hT
 have HPL:=qh hpl
 have HZK:=qh hzk
 have HRW:=qh hrw
 have hkn:decide (k<rt.length)=true:=by simpa using hk
 have hzq:=hb1.size
 obtain⟨⟨q0,q1,q2,q3⟩,q4,⟨q5,q6,q7⟩,q8,q9,q10,q11⟩:=Chg.eF hX1
 simp only at q0 q1 q2 q3 q4 q5 q6 q7 q8 q9 q10 q11
 clear hX1 hmp hT0 hlk hO hT hpl hzk hrw sH eO uC hll
 go_wp2_with fail
 (with_reducible refine(gT ⟨kd,sq,dy,(k:Int),A0,cp,row,key,cl,vl⟩ _ (HR.out.next (aa hx1 ai hx1.size)) hrlen H1.out HKV.out).mono ?_)
 rintro e w2 ⟨rfl,hb2⟩
 clear q0 q1 q2 q3 q4 q5 q6 q7 q8 q9 q10 q11
 have hz2:=hb2.size
 have hX2:=HX1.out.below hb2 omA
 have HX2:=qh hX2
 obtain⟨⟨q0,q1,q2,q3⟩,q4,⟨q5,q6,q7⟩,q8,q9,q10,q11⟩:=Chg.eF hX2
 simp only at q0 q1 q2 q3 q4 q5 q6 q7 q8 q9 q10 q11
 clear hX2 g0
 go_wp2_with fail
 (with_reducible refine(gJ TA tc recs.length recs kv _ (HT0.out.read.next hb2) rfl hrl HRW.out HZK.out).mono ?_)
 rintro e U ⟨rfl,hb3⟩
 clear q0 q1 q2 q3 q4 q5 q6 q7 q8 q9 q10 q11
 have hbU:=aa hb2 hb3 hb2.size
 have hzU:=hbU.size
 have hxU:=aa hx1 hbU hx1.size
 have hX3:=HX1.out.below hbU omA
 have HX3:=qh hX3
 have HO3:=qh (HO.out.below hbU nlr)
 have HT3:=qh (HT.out.below hbU nlr)
 have hbase:w.heap.size≤W.heap.size:=hbW.size
 have IM:w.heap.size<U.heap.size:=by omega
 have HRR:=qh ((HT3.out.recs hkl).read)
 rw[HLK.out]at HRR
 have Gm:=qh HRR.out.1
 clear HX1 HO HT hb2 hb3 hz2 HR H1
 obtain⟨⟨q0,q1,q2,q3⟩,q4,⟨q5,q6,q7⟩,q8,q9,q10,q11⟩:=Chg.eF hX3
 simp only at q0 q1 q2 q3 q4 q5 q6 q7 q8 q9 q10 q11
 clear hX3
 have uP:Hid (∀w',Below U.heap.size U w'→iU w rt.length (aQ (rt.map aD) ⟨kd,sq,dy,(k:Int),A0,cp,row,key,cl,vl⟩) (.returned (.slice (some ⟨q,0,none⟩) rt.length rt.length)) w'):=qh fun w' hb'=>by
  have hO4:=HO3.out.below hb' nlr
  have hT4:=HT3.out.below hb' nlr
  have hrd:=qj (by simpa[HLL.out]using hO4) (fun t ht=>(⟨hT4.tab t ht,hT4.row t ht⟩:iJ w' _ t.A t.cap t.recs))
  refine⟨⟨_,_,l,rfl,HLL.out,hrd.1,hrd.2.mono hbase,?_⟩,aa hxU hb' hxU.size⟩
  refine Ic HPL.out hkl (k:=k) rfl ?_
  rw[HLK.out]
  show recs.map aA=aW (recs.map aA) _
  have hz2:dV (recs.map aA) (keyOf ⟨kd,sq,dy,(k:Int),A0,cp,row,key,cl,vl⟩)=z:=by rw[HKV.out,←fG];exact HZK.out
  rcases HC.out with h|h
  ·exact(jE h.1 (by rw[hz2];exact h.2)).symm
  ·exact(xV h.1 (by rw[hz2];exact h.2.1) (by rw[List.length_map,vR.out];exact h.2.2)).symm
 rcases hkd with hkd|⟨hkd,h64⟩
 ·go_wp2_with fail
  go_ret
  exact uP.out _ ai
 ·have FH:decide (64≤recs.length)=true:=by have:=vR.out;simp;omega
  have Yd:decide ((64:Int)≤(recs.length:Int))=true:=by have:=vR.out;simp;omega
  go_wp2_with fail
  go_ret
  exact uP.out _ ai
theorem CO(RA:Option Addr)(rc n:Nat)(rt:List RTab)(k:Nat)(kd sq dy:Int)(A0:Option Addr)(cp:Nat)(row:List Val)(key:Val)(cl:Int)(vl:Val)(w:World)(hrt:aR w w.heap.size RA rt)(hn:rt.length=n)(hsr:mi rt)(hk:k<rt.length)(hR:ag w w.heap.size Val.cells 3 A0 row)(hrlen:row.length≤1000000)(h1:kd=1→0<row.length){z:Int}(hz:dV (aD rt[k]) (keyOf ⟨kd,sq,dy,(k:Int),A0,cp,row,key,cl,vl⟩)=z)(hk1:kd≠1)(hk2:kd≠2)(hc:0≤z):
 Calls Tryz.prog 42 #[.slice RA n rc,.agg #[.int .i64 kd,.int .i64 sq,.int .i64 dy,.int .i64 (k:Int),.slice A0 row.length cp,.int .i64 key.kind,.int .i64 key.num,.string key.text,.int .i64 cl,.int .i64 vl.kind,.int .i64 vl.num,.string vl.text]] w (iU w n (aQ (rt.map aD) ⟨kd,sq,dy,(k:Int),A0,cp,row,key,cl,vl⟩)):=by
 have HC:=qh (And.intro hk1 hk2)
 have hkd:(kd == 1)=false:=by simpa using hk1
 have Rw:(kd == 2)=false:=by simpa using hk2
 obtain⟨j,hj,hje⟩:=kg (by rw[hz];exact hc)
 have hjr:j<rt[k].recs.length:=by simpa[aD]using hj
 rw[hz]at hje
 subst hje
 have hz0:decide ((j:Int)<0)=false:=by simp
 obtain⟨ir,hir,uw,uu,uq⟩:=info_parts om
 clear hc hk1 hk2 hj
 subst hn
 have hrn:=hsr.len
 have sH:=hsr.recs rt[k] (lgm hk)
 have eO:=hsr.row rt[k] (lgm hk)
 obtain⟨kv,hkv⟩:∃kv,keyOf ⟨kd,sq,dy,(k:Int),A0,cp,row,key,cl,vl⟩=kv:=⟨_,rfl⟩
 have HKV:=qh hkv
 have HZ:=qh hz
 have HRT:=qh hrt
 have HSR:=qh hsr
 have HR:=qh hR
 have H1:=qh h1
 clear hz hrt hsr hR h1 hkv
 go_enter Tryz.func42,Tryz.ntmps42
 go_upto_region 1 with (fail)
 refine ah (P:=fun u=>Code.wp _ _ _ _ u) (R:=fun u=>Blk u w.heap.size 52 (Chg.cells ⟨kd,sq,dy,(k:Int),A0,cp,row,key,cl,vl⟩).toArray∧Below w.heap.size w u) ⟨?_,?_⟩ ?_
 ·exact Blk.new _ _ _
 ·exact ai
 rintro W ⟨hX,hbW⟩
 have hzW:=hX.lt
 have HX:=qh hX
 clear hX
 go_wp2_with fail
 (with_reducible refine(nU RA rc rt.length rt _ (HRT.out.next (aa hbW brf hbW.size)) rfl HSR.out).mono ?_)
 rintro e w1 ⟨q,l,rfl,hq,hll,hO,hT,hpl,hb1⟩
 have hx1:=aa hbW hb1 hbW.size
 have hX1:=HX.out.below hb1 omA
 have HX1:=qh hX1
 have hkl:k<l.length:=by omega
 have g0:=hO.gq dH (by rw[hll]) hkl (j:= 0) rfl
 have hmp:=Bf hpl hkl hk
 have hT0:=hT.recs hkl
 obtain⟨⟨TA,tc,recs⟩,hlk⟩:∃x:RTab,l[k]=x:=⟨_,rfl⟩
 rw[hlk]at g0 hmp hT0
 simp only[Nat.mul_one,Nat.add_zero]at g0 hmp hT0
 have uC:recs.length=rt[k].recs.length:=by have:=congrArg List.length hmp;simpa[aD]using this
 have hrw:∀x∈recs,x.row.length≤1000000:=fun x hx=>by
  have h:aA x∈aD rt[k]:=by rw[←hmp];exact List.mem_map_of_mem hx
  obtain⟨y,hy,hyx⟩:=List.mem_map.1 h
  have h2:y.row=x.row:=congrArg (fun p=>p.1) hyx
  rw[←h2]
  exact eO y hy
 have hrl:recs.length≤1000000:=by omega
 have vR:=qh uC
 have HLL:=qh hll
 have hzk:=HZ.out
 rw[HKV.out,←hmp,←fG]at hzk
 have HMP:=qh hmp
 have HT0:=qh hT0
 have HLK:=qh hlk
 have HO:=qh hO
 have HT:=qh hT
 have HPL:=qh hpl
 have HZK:=qh hzk
 have HRW:=qh hrw
 have hkn:decide (k<rt.length)=true:=by simpa using hk
 have hzq:=hb1.size
 obtain⟨⟨q0,q1,q2,q3⟩,q4,⟨q5,q6,q7⟩,q8,q9,q10,q11⟩:=Chg.eF hX1
 simp only at q0 q1 q2 q3 q4 q5 q6 q7 q8 q9 q10 q11
 clear hX1 hmp hT0 hlk hO hT hpl hzk hrw sH eO uC hll
 go_wp2_with fail
 (with_reducible refine(gT ⟨kd,sq,dy,(k:Int),A0,cp,row,key,cl,vl⟩ _ (HR.out.next (aa hx1 ai hx1.size)) hrlen H1.out HKV.out).mono ?_)
 rintro e w2 ⟨rfl,hb2⟩
 clear q0 q1 q2 q3 q4 q5 q6 q7 q8 q9 q10 q11
 have hz2:=hb2.size
 have hX2:=HX1.out.below hb2 omA
 have HX2:=qh hX2
 obtain⟨⟨q0,q1,q2,q3⟩,q4,⟨q5,q6,q7⟩,q8,q9,q10,q11⟩:=Chg.eF hX2
 simp only at q0 q1 q2 q3 q4 q5 q6 q7 q8 q9 q10 q11
 clear hX2 g0
 go_wp2_with fail
 (with_reducible refine(gJ TA tc recs.length recs kv _ (HT0.out.read.next hb2) rfl hrl HRW.out HZK.out).mono ?_)
 rintro e U ⟨rfl,hb3⟩
 clear q0 q1 q2 q3 q4 q5 q6 q7 q8 q9 q10 q11
 have hbU:=aa hb2 hb3 hb2.size
 have hzU:=hbU.size
 have hxU:=aa hx1 hbU hx1.size
 have hX3:=HX1.out.below hbU omA
 have HX3:=qh hX3
 have HO3:=qh (HO.out.below hbU nlr)
 have HT3:=qh (HT.out.below hbU nlr)
 have hbase:w.heap.size≤W.heap.size:=hbW.size
 have IM:w.heap.size<U.heap.size:=by omega
 have HRR:=qh ((HT3.out.recs hkl).read)
 rw[HLK.out]at HRR
 have Gm:=qh HRR.out.1
 clear HX1 HO HT hb2 hb3 hz2 HR H1
 obtain⟨⟨q0,q1,q2,q3⟩,q4,⟨q5,q6,q7⟩,q8,q9,q10,q11⟩:=Chg.eF hX3
 simp only at q0 q1 q2 q3 q4 q5 q6 q7 q8 q9 q10 q11
 clear hX3
 have hjl:j<recs.length:=by have:=vR.out;omega
 have hro:=HT3.out.recs hkl
 rw[HLK.out]at hro
 obtain⟨tb,htb⟩:=gP hro.1 (Nat.lt_of_le_of_lt (Nat.zero_le _) hjl)
 have hcap:=uh hro.1
 simp only at htb hcap
 subst htb
 have HRO:=qh hro
 have hjc:j≤tc:=by omega
 have Xt:j+1≤tc:=by omega
 have hwr:IntKind.i64.wrap ((j:Int)+1)=((j+1:Nat):Int):=by rw[show (j:Int)+1=((j+1:Nat):Int) by omega];exact IntWalk.i64_in _ omA
 have uP:Hid (∀u2 A3 c3 v,Below U.heap.size U u2→aj u2 U.heap.size 66 Rcd.cells 3 (.slice A3 (recs.take j++recs.drop (j+1)).length c3) (recs.take j++recs.drop (j+1))→v=.slice A3 (recs.take j++recs.drop (j+1)).length c3→iU w rt.length (aQ (rt.map aD) ⟨kd,sq,dy,(k:Int),A0,cp,row,key,cl,vl⟩) (.returned (.slice (some ⟨q,0,none⟩) rt.length rt.length)) (u2.setCell ⟨q,k,none⟩ v)):=qh fun u2 A3 c3 v hb hown hv=>by
  refine ve HO3.out HLL.out HT3.out hkl HPL.out rfl hbase hxU hb ⟨hown.mono omA,fun x hx =>?_⟩ ?_ hv
  ·have hin:x∈recs:=by
    rcases List.mem_append.1 hx with h|h
    ·exact List.mem_of_mem_take h
    ·exact List.mem_of_mem_drop h
   have:=HRO.out.2 x hin
   exact⟨this.1.below hb nlr,this.2.below hb nlr⟩
  ·rw[HLK.out]
   show (recs.take j++recs.drop (j+1)).map aA=aW (recs.map aA) _
   rw[mZ HC.out.1 HC.out.2 (j:=j) ew]
   simp[iL,List.map_take,List.map_drop]
 have hi1:(j:Int)≤(j:Int)+1:=by omega
 have hi2:(0:Int)≤(j:Int)+1:=by omega
 have hi3:(j:Int)+1≤(recs.length:Int):=by omega
 clear hro
 by_cases hcm:tc=j+1
 ·have hcut:ag U U.heap.size Rcd.cells 3 (some ⟨tb,0,none⟩) (recs.drop (j+1)):=by
   rw[List.drop_eq_nil_of_le omA]
   exact ag.nil
  go_upto_region 4 with (fail)
  exact LF
 ·have hcut:ag U U.heap.size Rcd.cells 3 (some ⟨tb,(j+1)*3,none⟩) (recs.drop (j+1)):=by have h:=Gm.out.cut (c:=tc) (j+1) omA;rw[if_neg hcm]at h;simpa using h
  go_upto_region 4 with (fail)
  exact LF
theorem CK(RA:Option Addr)(rc n:Nat)(rt:List RTab)(k:Nat)(kd sq dy:Int)(A0:Option Addr)(cp:Nat)(row:List Val)(key:Val)(cl:Int)(vl:Val)(w:World)(hrt:aR w w.heap.size RA rt)(hn:rt.length=n)(hsr:mi rt)(hk:k<rt.length)(hR:ag w w.heap.size Val.cells 3 A0 row)(hrlen:row.length≤1000000)(h1:kd=1→0<row.length){z:Int}(hz:dV (aD rt[k]) (keyOf ⟨kd,sq,dy,(k:Int),A0,cp,row,key,cl,vl⟩)=z)(hk2:kd=2)(hc:0≤z)(lg:∃col:Nat,cl=(col:Int) ∧ ∀r∈rt[k].recs,col<r.row.length∧col<r.seq.length):
 Calls Tryz.prog 42 #[.slice RA n rc,.agg #[.int .i64 kd,.int .i64 sq,.int .i64 dy,.int .i64 (k:Int),.slice A0 row.length cp,.int .i64 key.kind,.int .i64 key.num,.string key.text,.int .i64 cl,.int .i64 vl.kind,.int .i64 vl.num,.string vl.text]] w (iU w n (aQ (rt.map aD) ⟨kd,sq,dy,(k:Int),A0,cp,row,key,cl,vl⟩)):=by
 obtain⟨col,hcl,lg⟩:=lg
 have HCL:=qh hcl
 have hkd:(kd == 1)=false:=by rw[hk2];rfl
 have Rw:(kd == 2)=true:=by rw[hk2];rfl
 have HK2:=qh hk2
 have Gp:=qh lg
 obtain⟨j,hj,hje⟩:=kg (by rw[hz];exact hc)
 have hjr:j<rt[k].recs.length:=by simpa[aD]using hj
 rw[hz]at hje
 subst hje
 have hz0:decide ((j:Int)<0)=false:=by simp
 clear hc hj lg hcl hk2
 subst hn
 have hrn:=hsr.len
 have sH:=hsr.recs rt[k] (lgm hk)
 have eO:=hsr.row rt[k] (lgm hk)
 obtain⟨kv,hkv⟩:∃kv,keyOf ⟨kd,sq,dy,(k:Int),A0,cp,row,key,cl,vl⟩=kv:=⟨_,rfl⟩
 have HKV:=qh hkv
 have HZ:=qh hz
 have HRT:=qh hrt
 have HSR:=qh hsr
 have HR:=qh hR
 have H1:=qh h1
 clear hz hrt hsr hR h1 hkv
 go_enter Tryz.func42,Tryz.ntmps42
 go_upto_region 1 with (fail)
 refine ah (P:=fun u=>Code.wp _ _ _ _ u) (R:=fun u=>Blk u w.heap.size 52 (Chg.cells ⟨kd,sq,dy,(k:Int),A0,cp,row,key,cl,vl⟩).toArray∧Below w.heap.size w u) ⟨?_,?_⟩ ?_
 ·exact Blk.new _ _ _
 ·exact ai
 rintro W ⟨hX,hbW⟩
 have hzW:=hX.lt
 have HX:=qh hX
 clear hX
 go_wp2_with fail
 (with_reducible refine(nU RA rc rt.length rt _ (HRT.out.next (aa hbW brf hbW.size)) rfl HSR.out).mono ?_)
 rintro e w1 ⟨q,l,rfl,hq,hll,hO,hT,hpl,hb1⟩
 have hx1:=aa hbW hb1 hbW.size
 have hX1:=HX.out.below hb1 omA
 have HX1:=qh hX1
 have hkl:k<l.length:=by omega
 have g0:=hO.gq dH (by rw[hll]) hkl (j:= 0) rfl
 have hmp:=Bf hpl hkl hk
 have hT0:=hT.recs hkl
 obtain⟨⟨TA,tc,recs⟩,hlk⟩:∃x:RTab,l[k]=x:=⟨_,rfl⟩
 rw[hlk]at g0 hmp hT0
 simp only[Nat.mul_one,Nat.add_zero]at g0 hmp hT0
 have uC:recs.length=rt[k].recs.length:=by have:=congrArg List.length hmp;simpa[aD]using this
 have hrw:∀x∈recs,x.row.length≤1000000:=fun x hx=>by
  have h:aA x∈aD rt[k]:=by rw[←hmp];exact List.mem_map_of_mem hx
  obtain⟨y,hy,hyx⟩:=List.mem_map.1 h
  have h2:y.row=x.row:=congrArg (fun p=>p.1) hyx
  rw[←h2]
  exact eO y hy
 have hrl:recs.length≤1000000:=by omega
 have vR:=qh uC
 have HLL:=qh hll
 have hzk:=HZ.out
 rw[HKV.out,←hmp,←fG]at hzk
 have HMP:=qh hmp
 have HT0:=qh hT0
 have HLK:=qh hlk
 have HO:=qh hO
 have HT:=qh hT
 have HPL:=qh hpl
 have HZK:=qh hzk
 have HRW:=qh hrw
 have hkn:decide (k<rt.length)=true:=by simpa using hk
 have hzq:=hb1.size
 obtain⟨⟨q0,q1,q2,q3⟩,q4,⟨q5,q6,q7⟩,q8,q9,q10,q11⟩:=Chg.eF hX1
 simp only at q0 q1 q2 q3 q4 q5 q6 q7 q8 q9 q10 q11
 clear hX1 hmp hT0 hlk hO hT hpl hzk hrw sH eO uC hll
 go_wp2_with fail
 (with_reducible refine(gT ⟨kd,sq,dy,(k:Int),A0,cp,row,key,cl,vl⟩ _ (HR.out.next (aa hx1 ai hx1.size)) hrlen H1.out HKV.out).mono ?_)
 rintro e w2 ⟨rfl,hb2⟩
 clear q0 q1 q2 q3 q4 q5 q6 q7 q8 q9 q10 q11
 have hz2:=hb2.size
 have hX2:=HX1.out.below hb2 omA
 have HX2:=qh hX2
 obtain⟨⟨q0,q1,q2,q3⟩,q4,⟨q5,q6,q7⟩,q8,q9,q10,q11⟩:=Chg.eF hX2
 simp only at q0 q1 q2 q3 q4 q5 q6 q7 q8 q9 q10 q11
 clear hX2 g0
 go_wp2_with fail
 (with_reducible refine(gJ TA tc recs.length recs kv _ (HT0.out.read.next hb2) rfl hrl HRW.out HZK.out).mono ?_)
 rintro e U ⟨rfl,hb3⟩
 clear q0 q1 q2 q3 q4 q5 q6 q7 q8 q9 q10 q11
 have hbU:=aa hb2 hb3 hb2.size
 have hzU:=hbU.size
 have hxU:=aa hx1 hbU hx1.size
 have hX3:=HX1.out.below hbU omA
 have HX3:=qh hX3
 have HO3:=qh (HO.out.below hbU nlr)
 have HT3:=qh (HT.out.below hbU nlr)
 have hbase:w.heap.size≤W.heap.size:=hbW.size
 have IM:w.heap.size<U.heap.size:=by omega
 have HRR:=qh ((HT3.out.recs hkl).read)
 rw[HLK.out]at HRR
 have Gm:=qh HRR.out.1
 clear HX1 HO HT hb2 hb3 hz2 HR H1
 obtain⟨⟨q0,q1,q2,q3⟩,q4,⟨q5,q6,q7⟩,q8,q9,q10,q11⟩:=Chg.eF hX3
 simp only at q0 q1 q2 q3 q4 q5 q6 q7 q8 q9 q10 q11
 clear hX3
 have hjl:j<recs.length:=by have:=vR.out;omega
 have uD:decide (j<recs.length)=true:=by simpa using hjl
 have hro:=HT3.out.recs hkl
 rw[HLK.out]at hro
 obtain⟨tb,htb⟩:=gP hro.1 (Nat.lt_of_le_of_lt (Nat.zero_le _) hjl)
 simp only at htb
 subst htb
 have hcj:col<recs[j].row.length∧col<recs[j].seq.length:=by
  have h:aA recs[j]∈aD rt[k]:=by rw[←HMP.out];exact List.mem_map_of_mem (lgm hjl)
  obtain⟨y,hy,hyx⟩:=List.mem_map.1 h
  have h2:y.row=recs[j].row:=congrArg (fun p=>p.1) hyx
  have h3:y.seq=recs[j].seq:=congrArg (fun p=>p.2.1) hyx
  rw[←h2,←h3]
  exact Gp.out y hy
 have hrow:=hro.2 recs[j] (lgm hjl)
 have d0:=hro.1.gq bG rfl hjl (j:= 0) rfl
 have d1:=hro.1.gq bG rfl hjl (j:= 1) rfl
 have ZJ:tb<U.heap.size:=hro.1.lt tb rfl
 have ZZ:W.heap.size≤tb:=hro.1.row tb rfl
 obtain⟨⟨QA,qc,fM,QS,qs,su,qd⟩,hqr⟩:∃x:Rcd,recs[j]=x:=⟨_,rfl⟩
 rw[hqr]at hcj hrow d0 d1
 simp only[Nat.add_zero]at hcj hrow d0 d1
 obtain⟨hc1,hc2⟩:=hcj
 have fD:=hrow.1
 have hrow2:=hrow.2
 simp only at fD hrow2
 obtain⟨rb,rfl⟩:=gP fD (Nat.lt_of_le_of_lt (Nat.zero_le _) hc1)
 obtain⟨sb,rfl⟩:=gP hrow2 (Nat.lt_of_le_of_lt (Nat.zero_le _) hc2)
 have WZ:W.heap.size≤rb:=fD.row rb rfl
 have TR:W.heap.size≤sb:=hrow2.row sb rfl
 have WY:rb<U.heap.size:=fD.lt rb rfl
 have WV:sb<U.heap.size:=hrow2.lt sb rfl
 have hn1:rb≠tb:=fun e=>hro.1.eT fD AA tb rfl (by rw[←e];rfl)
 have hn2:sb≠tb:=fun e=>hro.1.eT hrow2 Ez tb rfl (by rw[←e];rfl)
 have hn3:rb≠sb:=fun e=>fD.eT hrow2 (by decide) rb rfl (by rw[←e];rfl)
 have hn4:rb≠w.heap.size:=by omega
 have hn5:sb≠w.heap.size:=by omega
 have e0:=fD.gq bC rfl hc1 (j:= 0) rfl
 have e1:=fD.gq bC rfl hc1 (j:= 1) rfl
 have e2:=fD.gq bC rfl hc1 (j:= 2) rfl
 have s0:=hrow2.gq bE rfl hc2 (j:= 0) rfl
 simp only[Nat.mul_one,Nat.add_zero]at e0 e1 e2 s0
 have fr0:=fD.kH rfl
 have fs0:=hrow2.kH rfl
 have hc1':decide (col<fM.length)=true:=by simpa using hc1
 have hc2':decide (col<su.length)=true:=by simpa using hc2
 have Nz:=qh fD
 have Ny:=qh hrow2
 have HQR:=qh hqr
 clear hro hrow fD hrow2 hqr Gp
 go_upto_region 21 with (fail)
 rw[HCL.out]at q8
 refine aJ (S:=(fun u=>u.cell? ⟨w.heap.size,8,none⟩=some (.int .i64 (col:Int))∧u.cell? ⟨w.heap.size,9,none⟩=some (.int .i64 vl.kind)∧u.cell? ⟨w.heap.size,10,none⟩=some (.int .i64 vl.num)∧u.cell? ⟨w.heap.size,11,none⟩=some (.string vl.text)∧u.cell? ⟨w.heap.size,1,none⟩=some (.int .i64 sq)∧u.cell? ⟨tb,j*3,none⟩=some (.slice (some ⟨rb,0,none⟩) fM.length qc)∧u.cell? ⟨tb,j*3+1,none⟩=some (.slice (some ⟨sb,0,none⟩) su.length qs))) [21] krA ⟨q8,q9,q10,q11,q1,d0,d1⟩ (fun hHeld =>?_)
 refine tkT 0 hHeld ?_
 refine tkT 1 hHeld ?_
 refine tkT 2 hHeld ?_
 refine tkT 3 hHeld ?_
 refine tkT 4 hHeld ?_
 refine tkT 5 hHeld ?_
 refine tkT 6 hHeld ?_
 refine tkT 7 hHeld ?_
 refine tkT 8 hHeld ?_
 refine tkT 9 hHeld ?_
 refine tkT 10 hHeld ?_
 refine tkT 11 hHeld ?_
 refine tkT 12 hHeld ?_
 refine tkT 13 hHeld ?_
 refine tkT 14 hHeld ?_
 refine tkT 15 hHeld ?_
 refine tkT 16 hHeld ?_
 refine tkT 17 hHeld ?_
 refine r1T 18 (fun K hK =>?_)
 go_simp
 refine hK.out _ _ _ ⟨?_,?_,?_,?_,?_,?_,?_⟩ (fun hHeld =>?_)
 iterate 7 (go_simp)
 clear hK K
 refine r1T 19 (fun K hK =>?_)
 go_simp
 refine hK.out _ _ _ ⟨?_,?_,?_,?_,?_,?_,?_⟩ (fun hHeld =>?_)
 ·exact fu q8 hn4 hn4 hn4
 ·exact fu q9 hn4 hn4 hn4
 ·exact fu q10 hn4 hn4 hn4
 ·exact fu q11 hn4 hn4 hn4
 ·exact fu q1 hn4 hn4 hn4
 ·exact fu d0 hn1 hn1 hn1
 ·exact fu d1 hn1 hn1 hn1
 clear hK K
 have s0':=fu (u1:= .int .i64 vl.kind) (u2:= .int .i64 vl.num) (u3:= .string vl.text) (p1:=⟨rb,col*3,none⟩) (p2:=⟨rb,col*3+1,none⟩) (p3:=⟨rb,col*3+2,none⟩) s0 hn3 hn3 hn3
 obtain⟨U1,hU1⟩:∃U1,((U.setCell ⟨rb,col*3,none⟩ (.int .i64 vl.kind)).setCell ⟨rb,col*3+1,none⟩ (.int .i64 vl.num)).setCell ⟨rb,col*3+2,none⟩ (.string vl.text)=U1:=⟨_,rfl⟩
 have hP1:=CP Nz.out rfl hc1 vl
 rw[hU1]at hP1 s0' hHeld
 rw[hU1]
 obtain⟨vs,hvs⟩:=Nz.out.typ (q:=rb) rfl
 have hP2:=((Ny.out.jy (i:=col*3) hvs (by decide) (.int .i64 vl.kind)).far (p:=⟨rb,col*3+1,none⟩) (fun g hg e=>hn3 (e.symm.trans eA)) (.int .i64 vl.num)).far (p:=⟨rb,col*3+2,none⟩) (fun g hg e=>hn3 (e.symm.trans eA)) (.string vl.text)
 rw[hU1]at hP2
 have hfr:=hP2.kH rfl col
 have Dk:∀g,g≠rb→U1.heap[g]?=U.heap[g]?:= fun g hg=>by
  rw[←hU1,Below.heap_setCell _ _ _ _ hg,Below.heap_setCell _ _ _ _ hg,Below.heap_setCell _ _ _ _ hg]
 have MS:Below w.heap.size w U1:=by
  rw[←hU1]
  exact((hxU.setCell ez _).setCell ez _).setCell ez _
 have HP1:=qh hP1
 have HP2:=qh hP2
 have SK:=qh Dk
 have SV:=qh MS
 clear hU1 hP1 hP2 hvs Dk MS
 refine r1T 20 (fun K hK =>?_)
 go_simp
 refine hK.out _ _ _ hHeld (fun hHeld =>?_)
 clear hK K
 refine rzT 21 (fun K hK =>?_)
 go_simp
 refine hK.out _ _ _ ?_
 clear hK K
 refine aI krA ?_ _
 clear hHeld
 obtain⟨is,his⟩:=HP2.out.typ (q:=sb) rfl
 have hP3:=HP2.out.gV bE rfl hc2 sq (j:= 0) (o:=col) (u:= .int .i64 sq) omA omA rfl
 have hP4:=HP1.out.jy (i:=col) his (by decide) (.int .i64 sq)
 have uG:iU w rt.length (aQ (rt.map aD) ⟨kd,sq,dy,(k:Int),A0,cp,row,key,cl,vl⟩) (.returned (.slice (some ⟨q,0,none⟩) rt.length rt.length)) (U1.setCell ⟨sb,col,none⟩ (.int .i64 sq)):=by
  have hjk:j<l[k].recs.length:=by rw[HLK.out];exact hjl
  have hrj:l[k].recs[j]=⟨some ⟨rb,0,none⟩,qc,fM,some ⟨sb,0,none⟩,qs,su,qd⟩:=by
   have h:∀t:RTab,t=⟨some ⟨tb,0,none⟩,tc,recs⟩→∀h:j<t.recs.length,t.recs[j]=recs[j]:=fun t ht h=>by subst ht;rfl
   rw[h _ HLK.out hjk]
   exact HQR.out
  refine J4 (U:=U) HO3.out HLL.out HT3.out hkl HPL.out rfl hbase (SV.out.setCell (by show _≤sb;omega) _) hjk (r':=⟨some ⟨rb,0,none⟩,qc,fM.set col vl,some ⟨sb,0,none⟩,qs,su.set col sq,qd⟩) ?_ ⟨?_,?_⟩ ?_ ?_
  ·rw[hrj]
   simp[Rcd.cells]
  ·simpa using hP4
  ·simpa using hP3
  ·rw[hrj]
   intro g h1 h2
   have h2':g≠sb:=h2 ⟨sb,0,none⟩ rfl
   rw[Below.heap_setCell _ ⟨sb,col,none⟩ _ g h2']
   exact SK.out g (h1 _ rfl)
  ·have h:=Cm hjl HQR.out (x:=⟨kd,sq,dy,(k:Int),A0,cp,row,key,cl,vl⟩) HCL.out (A':=some ⟨rb,0,none⟩) (S':=some ⟨sb,0,none⟩) (c':=qc) (s':=qs)
   have h2:∀t:RTab,t=⟨some ⟨tb,0,none⟩,tc,recs⟩→t.recs=recs:=fun t ht=>by subst ht;rfl
   rw[h2 _ HLK.out,mX (x:=⟨kd,sq,dy,(k:Int),A0,cp,row,key,cl,vl⟩) HK2.out (j:=j) ew]
   exact h
 have dK:=qh uG
 clear uG hP3 hP4 his
 go_wp2_with fail
 go_ret
 first|exact dK.out|exact dK.out.drew
theorem GI{P:Prop}(h:P:=by
 (
 refine aJ (S:=(fun _=>True)) [] krA trivial (fun hHeld =>?_)
 refine tkT 1 hHeld ?_
 refine tkT 2 hHeld ?_
 refine tkT 3 hHeld ?_
 refine tkT 5 hHeld ?_
 refine tkT 6 hHeld ?_
 refine tkT 7 hHeld ?_
 refine tkT 8 hHeld ?_
 refine r1T 0 (fun K hK =>?_)
 go_simp
 refine hK.out _ _ _ trivial (fun hHeld =>?_)
 clear hK K
 refine r1T 4 (fun K hK =>?_)
 (refine av _ rfl (.tmp 42) (.tmp 45) 46 rfl 66 ir _ Rcd.cells 3 56 Tryz.underlying46 hir uw uu uq rfl omA bG eQ U.heap.size (.slice (some ⟨U.heap.size,0,none⟩) 0 0) [] rfl (aj.empty nbA leA) _ _ _ (recs.take j) rfl smA ((Gm.out.take j).next ai) smA mxA leA ?_;intro v1 u1 hown1 hg1 vG;have hb1':Below U.heap.size U u1:=Below.grown ai hg1 leA (bX leA);have hsz1:=hb1'.size)
 refine hK.out _ _ _ trivial (fun hHeld =>?_)
 clear hK K
 refine r1T 9 (fun K hK =>?_)
 (refine av _ rfl (.tmp 46) (.tmp 50) 46 rfl 66 ir _ Rcd.cells 3 56 Tryz.underlying46 hir uw uu uq rfl omA bG eQ U.heap.size v1 ([]++recs.take j) rfl hown1 _ _ _ (recs.drop (j+1)) rfl spA (hcut.next hb1') smA mxA hb1'.size ?_;intro v2 u2 hown2 hg2 Du;have hb2':Below U.heap.size U u2:=Below.grown hb1' hg2 hb1'.size hown1.row)
 rw[←HLD.out]at hown2
 obtain⟨LA,LC,rfl,_,_⟩:=hown2.form
 refine hK.out _ _ _ trivial (fun hHeld =>?_)
 clear hK K
 refine r1T 10 (fun K hK =>?_)
 go_simp
 refine hK.out _ _ _ trivial (fun hHeld =>?_)
 clear hK K
 refine aI krA ?_ _
 clear hHeld
 go_wp2_with fail
 go_meet
 exact HOLD.out LA LC _ hown2 hb2')):P:=h
theorem Oi{P:Prop}(h:P:=by
 (
 have hmc:m≤LC:=by omega
 by_cases hcm:LC=m
 ·have hcut:ag V V.heap.size Rcd.cells 3 (some ⟨lb,0,none⟩) (L.drop m):=by
   rw[List.drop_eq_nil_of_le omA]
   exact ag.nil
  exact Bh
 ·have hcut:ag V V.heap.size Rcd.cells 3 (some ⟨lb,m*3,none⟩) (L.drop m):=by have h:=HSL.out.cut (c:=LC) m omA;rw[if_neg hcm]at h;simpa using h
  exact Bh)):P:=h
theorem Oh{P:Prop}(h:P:=by
 (
 go_upto_region 18 with (fail)
 obtain⟨V,rfl⟩:∃V:World,V=wq:=⟨_,rfl⟩
 have pY:Below V0.heap.size V0 V:=aa hbV hq hbV.size
 have hoV:Below wo.heap.size wo V:=aa hb2 hq hb2.size
 have WO:=hoV.size
 have WG:=pY.size
 have hYV:Y<V.heap.size:=by omega
 have Dp:w.heap.size<V.heap.size:=by omega
 have hYb:=HBY.out.below hoV hYr
 have y0:=hYb.cell 0
 have y1:=hYb.cell 1
 have y2:=hYb.cell 2
 simp only[gE3]at y0 y1 y2
 rw[←Pz.out]at y1
 have hXb:=HXV.out.below pY wD
 obtain⟨⟨q0,q1,q2,q3⟩,q4,⟨q5,q6,q7⟩,q8,q9,q10,q11⟩:=Chg.eF hXb
 simp only at q0 q1 q2 q3 q4 q5 q6 q7 q8 q9 q10 q11
 have HSL:=qh (HLR.out.1.next pY)
 have PI:=qh (HOV.out.below pY nlr)
 have Sr:=qh (HTV.out.below pY nlr)
 have Sw:=qh (HRO.out.below hoV nlr)
 have Su:=qh (VL.out.below hoV nlr)
 have uP:Hid (∀u3 A3 c3 v,Below V.heap.size V u3→aj u3 V.heap.size 66 Rcd.cells 3 (.slice A3 ([]++L.take m ++ [(⟨some ⟨rbb,0,none⟩,rc',row,SA',sc',sqs,dy⟩:Rcd)]++L.drop m).length c3) ([]++L.take m ++ [(⟨some ⟨rbb,0,none⟩,rc',row,SA',sc',sqs,dy⟩:Rcd)]++L.drop m)→v=.slice A3 ([]++L.take m ++ [(⟨some ⟨rbb,0,none⟩,rc',row,SA',sc',sqs,dy⟩:Rcd)]++L.drop m).length c3→iU w rt.length (aQ (rt.map aD) ⟨kd,sq,dy,(k:Int),A0,cp,row,key,cl,vl⟩) (.returned (.slice (some ⟨q,0,none⟩) rt.length rt.length)) (u3.setCell ⟨q,k,none⟩ v)):=qh fun u3 A3 c3 v hb hown hv=>by
  have MQ:=aa pY hb pY.size
  refine ve PI.out HLL.out Sr.out hkl HPL.out rfl hbase (aa hxV pY hxV.size) hb ⟨hown.mono omA,fun x hx =>?_⟩ ?_ hv
  ·have hin:x∈L∨x=⟨some ⟨rbb,0,none⟩,rc',row,SA',sc',sqs,dy⟩:=by
    rcases List.mem_append.1 hx with h|h
    ·rcases List.mem_append.1 h with h|h
     ·exact .inl (List.mem_of_mem_take (by simpa using h))
     ·exact .inr (List.mem_singleton.1 h)
    ·exact .inl (List.mem_of_mem_drop h)
   rcases hin with hin|rfl
   ·have:=HLV.out.2 x hin
    exact⟨this.1.below MQ nlr,this.2.below MQ nlr⟩
   ·refine⟨(Sw.out.below hb nlr).mono omA,?_⟩
    have h:=(Su.out.below hb nlr).mono (b':=W.heap.size) omA
    rw[←Pz.out]at h
    exact h
  ·rw[←HPF.out]
   unfold mK
   rw[PG.out]
   have hnp:dX ⟨kd,sq,dy,(k:Int),A0,cp,row,key,cl,vl⟩=aA ⟨some ⟨rbb,0,none⟩,rc',row,SA',sc',sqs,dy⟩:=by rw[←VK.out];rfl
   rw[hnp]
   simp[List.map_take,List.map_drop]
 clear hYb hXb
 (
  have hm0:m=0:=by have:=HL0.out;omega
  have hcut:ag V V.heap.size Rcd.cells 3 none (L.drop m):=by
   rw[List.drop_eq_nil_of_le (by rw[HL0.out];exact Nat.zero_le _)]
   exact ag.nil
  exact Bh))):P:=h
theorem GH{P:Prop}(h:P:=by
 (
 go_upto_region 18 with (fail)
 obtain⟨V,rfl⟩:∃V:World,V=wq:=⟨_,rfl⟩
 have pY:Below V0.heap.size V0 V:=aa hbV hq hbV.size
 have hoV:Below wo.heap.size wo V:=aa hb2 hq hb2.size
 have WO:=hoV.size
 have WG:=pY.size
 have hYV:Y<V.heap.size:=by omega
 have Dp:w.heap.size<V.heap.size:=by omega
 have hYb:=HBY.out.below hoV hYr
 have y0:=hYb.cell 0
 have y1:=hYb.cell 1
 have y2:=hYb.cell 2
 simp only[gE3]at y0 y1 y2
 rw[←Pz.out]at y1
 have hXb:=HXV.out.below pY wD
 obtain⟨⟨q0,q1,q2,q3⟩,q4,⟨q5,q6,q7⟩,q8,q9,q10,q11⟩:=Chg.eF hXb
 simp only at q0 q1 q2 q3 q4 q5 q6 q7 q8 q9 q10 q11
 have HSL:=qh (HLR.out.1.next pY)
 have PI:=qh (HOV.out.below pY nlr)
 have Sr:=qh (HTV.out.below pY nlr)
 have Sw:=qh (HRO.out.below hoV nlr)
 have Su:=qh (VL.out.below hoV nlr)
 have uP:Hid (∀u3 A3 c3 v,Below V.heap.size V u3→aj u3 V.heap.size 66 Rcd.cells 3 (.slice A3 ([]++L.take m ++ [(⟨some ⟨rbb,0,none⟩,rc',row,SA',sc',sqs,dy⟩:Rcd)]++L.drop m).length c3) ([]++L.take m ++ [(⟨some ⟨rbb,0,none⟩,rc',row,SA',sc',sqs,dy⟩:Rcd)]++L.drop m)→v=.slice A3 ([]++L.take m ++ [(⟨some ⟨rbb,0,none⟩,rc',row,SA',sc',sqs,dy⟩:Rcd)]++L.drop m).length c3→iU w rt.length (aQ (rt.map aD) ⟨kd,sq,dy,(k:Int),A0,cp,row,key,cl,vl⟩) (.returned (.slice (some ⟨q,0,none⟩) rt.length rt.length)) (u3.setCell ⟨q,k,none⟩ v)):=qh fun u3 A3 c3 v hb hown hv=>by
  have MQ:=aa pY hb pY.size
  refine ve PI.out HLL.out Sr.out hkl HPL.out rfl hbase (aa hxV pY hxV.size) hb ⟨hown.mono omA,fun x hx =>?_⟩ ?_ hv
  ·have hin:x∈L∨x=⟨some ⟨rbb,0,none⟩,rc',row,SA',sc',sqs,dy⟩:=by
    rcases List.mem_append.1 hx with h|h
    ·rcases List.mem_append.1 h with h|h
     ·exact .inl (List.mem_of_mem_take (by simpa using h))
     ·exact .inr (List.mem_singleton.1 h)
    ·exact .inl (List.mem_of_mem_drop h)
   rcases hin with hin|rfl
   ·have:=HLV.out.2 x hin
    exact⟨this.1.below MQ nlr,this.2.below MQ nlr⟩
   ·refine⟨(Sw.out.below hb nlr).mono omA,?_⟩
    have h:=(Su.out.below hb nlr).mono (b':=W.heap.size) omA
    rw[←Pz.out]at h
    exact h
  ·rw[←HPF.out]
   unfold mK
   rw[PG.out]
   have hnp:dX ⟨kd,sq,dy,(k:Int),A0,cp,row,key,cl,vl⟩=aA ⟨some ⟨rbb,0,none⟩,rc',row,SA',sc',sqs,dy⟩:=by rw[←VK.out];rfl
   rw[hnp]
   simp[List.map_take,List.map_drop]
 clear hYb hXb
 exact Oi)):P:=h
theorem Bi{P:Prop}(h:P:=by
 refine r1T 8 (fun K hK =>?_)
 go_simp
 refine hK.out _ _ _ ⟨?_,?_⟩ (fun hHeld =>?_)
 iterate 2 (go_simp)
 clear hK K
 refine aI krA ?_ _
 clear hHeld
 go_wp2_with fail
 go_meet
 refine⟨_,RA',rc',rfl,?_,?_,?_,?_⟩
 ·first|exact Nat.le_refl _|omega|(simp;omega)
 ·first|exact Blk.new' rfl|exact uL sJ
 ·first|exact hown1.alloc _|exact vg hown1 sJ (by decide)
 ·exact ai):P:=h
theorem Bh{P:Prop}(h:P:=by
 (
 refine aJ (S:=(fun u=>u.cell? ⟨w.heap.size,3,none⟩=some (.int .i64 (k:Int))∧u.cell? ⟨Y,0,none⟩=some (.slice (some ⟨rbb,0,none⟩) row.length rc')∧u.cell? ⟨Y,1,none⟩=some (.slice SA' sqs.length sc')∧u.cell? ⟨Y,2,none⟩=some (.int .i64 dy))) [] krA ⟨q3,y0,y1,y2⟩ (fun hHeld =>?_)
 refine tkT 0 hHeld ?_
 refine tkT 1 hHeld ?_
 refine tkT 2 hHeld ?_
 refine tkT 4 hHeld ?_
 refine tkT 5 hHeld ?_
 refine tkT 6 hHeld ?_
 refine tkT 8 hHeld ?_
 refine tkT 11 hHeld ?_
 refine tkT 12 hHeld ?_
 refine tkT 13 hHeld ?_
 refine r2T 3 9 (fun K hK =>?_) (fun K hK =>?_)
 ·go_simp
  refine hK.out _ _ _ ⟨?_,?_,?_,?_⟩ (fun hHeld =>?_)
  iterate 4 (go_simp)
  clear hK K
  refine r2T 7 9 (fun K hK =>?_) (fun K hK =>?_)
  ·(refine av _ rfl (.tmp 101) (.tmp 104) 46 rfl 66 ir _ Rcd.cells 3 56 Tryz.underlying46 hir uw uu uq rfl omA bG eQ V.heap.size (.slice (some ⟨V.heap.size,0,none⟩) 0 0) [] rfl (aj.empty nbA leA) _ _ _ (L.take m) rfl smA ((HSL.out.take m).next ai) smA mxA leA ?_;intro v1 u1 hown1 hg1 vG;have hb1':Below V.heap.size V u1:=Below.grown ai hg1 leA (bX leA);have hsz1:=hb1'.size;have L8:w.heap.size<u1.heap.size:=omA;have Tq:Y<u1.heap.size:=omA;have kx1:=(bN hb1' w.heap.size Dp).1;have ky1:=(bN hb1' Y hYV).1)
   refine hK.out _ _ _ ⟨?_,?_,?_,?_⟩ (fun hHeld =>?_)
   iterate 4 (go_simp)
   clear hK K
   refine r1T 9 (fun K hK =>?_)
   go_simp
   refine hK.out _ _ _ ⟨?_,?_,?_,?_⟩ (fun hHeld =>?_)
   iterate 4 (go_simp)
   clear hK K
   refine r1T 10 (fun K hK =>?_)
   (refine av _ rfl (.tmp 105) (.tmp 107) 46 rfl 66 ir _ Rcd.cells 3 56 Tryz.underlying46 hir uw uu uq rfl omA bG eQ V.heap.size v1 ([]++L.take m) rfl nfA _ _ _ [(⟨some ⟨rbb,0,none⟩,rc',row,SA',sc',sqs,dy⟩:Rcd)] rfl rfl (by exact Blk.one (enc:=Rcd.cells) (x:=⟨some ⟨rbb,0,none⟩,rc',row,SA',sc',sqs,dy⟩) (Blk.new' spA) spA) smA mxA et ?_;intro v2 u2 hown2 hg2 Du;have hb2':Below V.heap.size V u2:=Below.grown ai hg2 et hown1.row;have hsz2:=hb2'.size;have Tt:w.heap.size<u2.heap.size:=omA;have Tp:Y<u2.heap.size:=omA;have kx2:=(bN hb2' w.heap.size Dp).1;have ky2:=(bN hb2' Y hYV).1)
   refine hK.out _ _ _ ⟨?_,?_,?_,?_⟩ (fun hHeld =>?_)
   iterate 4 (go_simp)
   clear hK K
   exact Bg
  ·go_simp
   refine hK.out _ _ _ ⟨?_,?_,?_,?_⟩ (fun hHeld =>?_)
   iterate 4 (go_simp)
   clear hK K
   refine r1T 7 (fun K hK =>?_)
   (refine av _ rfl (.tmp 101) (.tmp 104) 46 rfl 66 ir _ Rcd.cells 3 56 Tryz.underlying46 hir uw uu uq rfl omA bG eQ V.heap.size (.slice (some ⟨V.heap.size,0,none⟩) 0 0) [] rfl (aj.empty nbA leA) _ _ _ (L.take m) rfl smA ((HSL.out.take m).next ai) smA mxA leA ?_;intro v1 u1 hown1 hg1 vG;have hb1':Below V.heap.size V u1:=Below.grown ai hg1 leA (bX leA);have hsz1:=hb1'.size;have L8:w.heap.size<u1.heap.size:=omA;have Tq:Y<u1.heap.size:=omA;have kx1:=(bN hb1' w.heap.size Dp).1;have ky1:=(bN hb1' Y hYV).1)
   have h40:Blk u1 (V.heap.size+1) 66 (Rcd.cells ⟨some ⟨rbb,0,none⟩,rc',row,SA',sc',sqs,dy⟩).toArray:=Blk.grown ndA hg1 (jF omA)
   refine hK.out _ _ _ ⟨?_,?_,?_,?_⟩ (fun hHeld =>?_)
   iterate 4 (go_simp)
   clear hK K
   refine r1T 10 (fun K hK =>?_)
   (refine av _ rfl (.tmp 105) (.tmp 107) 46 rfl 66 ir _ Rcd.cells 3 56 Tryz.underlying46 hir uw uu uq rfl omA bG eQ V.heap.size v1 ([]++L.take m) rfl nfA _ _ _ [(⟨some ⟨rbb,0,none⟩,rc',row,SA',sc',sqs,dy⟩:Rcd)] rfl rfl ev smA mxA et ?_;intro v2 u2 hown2 hg2 Du;have hb2':Below V.heap.size V u2:=Below.grown ai hg2 et hown1.row;have hsz2:=hb2'.size;have Tt:w.heap.size<u2.heap.size:=omA;have Tp:Y<u2.heap.size:=omA;have kx2:=(bN hb2' w.heap.size Dp).1;have ky2:=(bN hb2' Y hYV).1)
   refine hK.out _ _ _ ⟨?_,?_,?_,?_⟩ (fun hHeld =>?_)
   iterate 4 (go_simp)
   clear hK K
   exact Bg
 ·go_simp
  refine hK.out _ _ _ ⟨?_,?_,?_,?_⟩ (fun hHeld =>?_)
  iterate 4 (go_simp)
  clear hK K
  refine r1T 3 (fun K hK =>?_)
  go_simp
  refine hK.out _ _ _ ⟨?_,?_,?_,?_⟩ (fun hHeld =>?_)
  iterate 4 (go_simp)
  clear hK K
  refine r1T 7 (fun K hK =>?_)
  (refine av _ rfl (.tmp 101) (.tmp 104) 46 rfl 66 ir _ Rcd.cells 3 56 Tryz.underlying46 hir uw uu uq rfl omA bG eQ V.heap.size (.slice (some ⟨(V.heap.size+1),0,none⟩) 0 0) [] rfl (aj.empty nbA leA) _ _ _ (L.take m) rfl smA ((HSL.out.take m).next ai) smA mxA leA ?_;intro v1 u1 hown1 hg1 vG;have hb1':Below V.heap.size V u1:=Below.grown ai hg1 leA (bX leA);have hsz1:=hb1'.size;have L8:w.heap.size<u1.heap.size:=omA;have Tq:Y<u1.heap.size:=omA;have kx1:=(bN hb1' w.heap.size Dp).1;have ky1:=(bN hb1' Y hYV).1)
  have h40:Blk u1 V.heap.size 66 (Rcd.cells ⟨some ⟨rbb,0,none⟩,rc',row,SA',sc',sqs,dy⟩).toArray:=Blk.grown ncA hg1 (jF omA)
  refine hK.out _ _ _ ⟨?_,?_,?_,?_⟩ (fun hHeld =>?_)
  iterate 4 (go_simp)
  clear hK K
  refine r1T 10 (fun K hK =>?_)
  (refine av _ rfl (.tmp 105) (.tmp 107) 46 rfl 66 ir _ Rcd.cells 3 56 Tryz.underlying46 hir uw uu uq rfl omA bG eQ V.heap.size v1 ([]++L.take m) rfl nfA _ _ _ [(⟨some ⟨rbb,0,none⟩,rc',row,SA',sc',sqs,dy⟩:Rcd)] rfl rfl ev smA mxA et ?_;intro v2 u2 hown2 hg2 Du;have hb2':Below V.heap.size V u2:=Below.grown ai hg2 et hown1.row;have hsz2:=hb2'.size;have Tt:w.heap.size<u2.heap.size:=omA;have Tp:Y<u2.heap.size:=omA;have kx2:=(bN hb2' w.heap.size Dp).1;have ky2:=(bN hb2' Y hYV).1)
  refine hK.out _ _ _ ⟨?_,?_,?_,?_⟩ (fun hHeld =>?_)
  iterate 4 (go_simp)
  clear hK K
  exact Bg)):P:=h
theorem Bg{P:Prop}(h:P:=by
 (
 refine r1T 14 (fun K hK =>?_)
 (refine av _ rfl (.tmp 108) (.tmp 111) 46 rfl 66 ir _ Rcd.cells 3 56 Tryz.underlying46 hir uw uu uq rfl omA bG eQ V.heap.size v2 ([]++L.take m ++ [(⟨some ⟨rbb,0,none⟩,rc',row,SA',sc',sqs,dy⟩:Rcd)]) rfl hown2 _ _ _ (L.drop m) rfl (by first|(simp;done)|(have:=HL0.out;simp;omega)) (hcut.next hb2') smA mxA hb2'.size ?_;intro v3 u3 hown3 hg3 qR;have MU:Below V.heap.size V u3:=Below.grown hb2' hg3 hb2'.size hown2.row;have Zo:=MU.size;have kx3:=(bN MU w.heap.size Dp).1;have ky3:=(bN MU Y hYV).1;obtain⟨A3,c3,hv3,_,_⟩:=hown3.form;obtain⟨n3,hn3⟩:∃n3,n3=([]++L.take m ++ [(⟨some ⟨rbb,0,none⟩,rc',row,SA',sc',sqs,dy⟩:Rcd)]++L.drop m).length:=⟨_,rfl⟩;rw[←hn3]at hv3;subst hv3;have HN3:=qh hn3;have Er:=qh hown3;clear hn3 hown3)
 refine hK.out _ _ _ ⟨?_,?_,?_,?_⟩ (fun hHeld =>?_)
 iterate 4 (go_simp)
 clear hK K
 refine r1T 15 (fun K hK =>?_)
 go_simp
 refine hK.out _ _ _ ⟨?_,?_,?_,?_⟩ (fun hHeld =>?_)
 iterate 4 (go_simp)
 clear hK K
 refine r1T 16 (fun K hK =>?_)
 have R3:=PI.out.below MU nlr
 have g3:=R3.gq dH HLL.out.symm hkl (j:= 0) rfl
 have f3:=R3.kH HLL.out.symm k
 simp only[Nat.mul_one,Nat.add_zero]at g3
 clear R3
 go_simp
 have hqY:q≠Y:=(by have:=HOV.out.lt q rfl;omega)
 refine hK.out _ _ _ ⟨?_,?_,?_,?_⟩ (fun hHeld =>?_)
 go_simp
 iterate 3 (rw[World.cell?_setCell_far _ _ _ _ (by exact hqY)];go_simp)
 clear hK K
 refine aI krA ?_ _
 clear hHeld
 exact Og)):P:=h
theorem Og{P:Prop}(h:P:=by
 (
 have dK:=qh (uP.out u3 A3 c3 (.slice A3 n3 c3) MU (by rw[←HN3.out];exact Er.out) (by rw[HN3.out]))
 go_wp2_with fail
 go_ret
 first|exact dK.out|exact dK.out.drew)):P:=h
theorem CL(RA:Option Addr)(rc n:Nat)(rt:List RTab)(k:Nat)(kd sq dy:Int)(A0:Option Addr)(cp:Nat)(row:List Val)(key:Val)(cl:Int)(vl:Val)(w:World)(hrt:aR w w.heap.size RA rt)(hn:rt.length=n)(hsr:mi rt)(hk:k<rt.length)(hR:ag w w.heap.size Val.cells 3 A0 row)(hrlen:row.length≤1000000)(h1:kd=1→0<row.length){z:Int}(hz:dV (aD rt[k]) (keyOf ⟨kd,sq,dy,(k:Int),A0,cp,row,key,cl,vl⟩)=z)(hk1:kd=1)(hc:z<0→rt[k].recs.length<64)(hne:∀r∈rt[k].recs,0<r.row.length):
 Calls Tryz.prog 42 #[.slice RA n rc,.agg #[.int .i64 kd,.int .i64 sq,.int .i64 dy,.int .i64 (k:Int),.slice A0 row.length cp,.int .i64 key.kind,.int .i64 key.num,.string key.text,.int .i64 cl,.int .i64 vl.kind,.int .i64 vl.num,.string vl.text]] w (iU w n (aQ (rt.map aD) ⟨kd,sq,dy,(k:Int),A0,cp,row,key,cl,vl⟩)):=by
 have hr0:=h1 hk1
 have hkd:(kd == 1)=true:=by rw[hk1];rfl
 have HK1:=qh hk1
 have HNE:=qh hne
 have YY:=qh hc
 have HZ0:=qh hz
 obtain⟨ir,hir,uw,uu,uq⟩:=info_parts om
 obtain⟨iv,hiv,Bn,Bl,Bj⟩:=info_parts uo
 obtain⟨ii,hii,LZ,LY,LX⟩:=info_parts kY
 clear hc hne hk1
 subst hn
 have hrn:=hsr.len
 have sH:=hsr.recs rt[k] (lgm hk)
 have eO:=hsr.row rt[k] (lgm hk)
 obtain⟨kv,hkv⟩:∃kv,keyOf ⟨kd,sq,dy,(k:Int),A0,cp,row,key,cl,vl⟩=kv:=⟨_,rfl⟩
 have HKV:=qh hkv
 have HZ:=qh hz
 have HRT:=qh hrt
 have HSR:=qh hsr
 have HR:=qh hR
 have HR0:=HR
 have H1:=qh h1
 clear hz hrt hsr hR h1 hkv
 go_enter Tryz.func42,Tryz.ntmps42
 go_upto_region 1 with (fail)
 refine ah (P:=fun u=>Code.wp _ _ _ _ u) (R:=fun u=>Blk u w.heap.size 52 (Chg.cells ⟨kd,sq,dy,(k:Int),A0,cp,row,key,cl,vl⟩).toArray∧Below w.heap.size w u) ⟨?_,?_⟩ ?_
 ·exact Blk.new _ _ _
 ·exact ai
 rintro W ⟨hX,hbW⟩
 have hzW:=hX.lt
 have HX:=qh hX
 clear hX
 go_wp2_with fail
 (with_reducible refine(nU RA rc rt.length rt _ (HRT.out.next (aa hbW brf hbW.size)) rfl HSR.out).mono ?_)
 rintro e w1 ⟨q,l,rfl,hq,hll,hO,hT,hpl,hb1⟩
 have hx1:=aa hbW hb1 hbW.size
 have hX1:=HX.out.below hb1 omA
 have HX1:=qh hX1
 have hkl:k<l.length:=by omega
 have g0:=hO.gq dH (by rw[hll]) hkl (j:= 0) rfl
 have hmp:=Bf hpl hkl hk
 have hT0:=hT.recs hkl
 obtain⟨⟨TA,tc,recs⟩,hlk⟩:∃x:RTab,l[k]=x:=⟨_,rfl⟩
 rw[hlk]at g0 hmp hT0
 simp only[Nat.mul_one,Nat.add_zero]at g0 hmp hT0
 have uC:recs.length=rt[k].recs.length:=by have:=congrArg List.length hmp;simpa[aD]using this
 have hrw:∀x∈recs,x.row.length≤1000000:=fun x hx=>by
  have h:aA x∈aD rt[k]:=by rw[←hmp];exact List.mem_map_of_mem hx
  obtain⟨y,hy,hyx⟩:=List.mem_map.1 h
  have h2:y.row=x.row:=congrArg (fun p=>p.1) hyx
  rw[←h2]
  exact eO y hy
 have hrl:recs.length≤1000000:=by omega
 have vR:=qh uC
 have HLL:=qh hll
 have hzk:=HZ.out
 rw[HKV.out,←hmp,←fG]at hzk
 have HMP:=qh hmp
 have HT0:=qh hT0
 have HLK:=qh hlk
 have HO:=qh hO
 have HT:=qh hT
 have HPL:=qh hpl
 have HZK:=qh hzk
 have HRW:=qh hrw
 have hkn:decide (k<rt.length)=true:=by simpa using hk
 have hzq:=hb1.size
 obtain⟨⟨q0,q1,q2,q3⟩,q4,⟨q5,q6,q7⟩,q8,q9,q10,q11⟩:=Chg.eF hX1
 simp only at q0 q1 q2 q3 q4 q5 q6 q7 q8 q9 q10 q11
 clear hX1 hmp hT0 hlk hO hT hpl hzk hrw sH eO uC hll
 go_wp2_with fail
 (with_reducible refine(gT ⟨kd,sq,dy,(k:Int),A0,cp,row,key,cl,vl⟩ _ (HR.out.next (aa hx1 ai hx1.size)) hrlen H1.out HKV.out).mono ?_)
 rintro e w2 ⟨rfl,hb2⟩
 clear q0 q1 q2 q3 q4 q5 q6 q7 q8 q9 q10 q11
 have hz2:=hb2.size
 have hX2:=HX1.out.below hb2 omA
 have HX2:=qh hX2
 obtain⟨⟨q0,q1,q2,q3⟩,q4,⟨q5,q6,q7⟩,q8,q9,q10,q11⟩:=Chg.eF hX2
 simp only at q0 q1 q2 q3 q4 q5 q6 q7 q8 q9 q10 q11
 clear hX2 g0
 go_wp2_with fail
 (with_reducible refine(gJ TA tc recs.length recs kv _ (HT0.out.read.next hb2) rfl hrl HRW.out HZK.out).mono ?_)
 rintro e U ⟨rfl,hb3⟩
 clear q0 q1 q2 q3 q4 q5 q6 q7 q8 q9 q10 q11
 have hbU:=aa hb2 hb3 hb2.size
 have hzU:=hbU.size
 have hxU:=aa hx1 hbU hx1.size
 have hX3:=HX1.out.below hbU omA
 have HX3:=qh hX3
 have HO3:=qh (HO.out.below hbU nlr)
 have HT3:=qh (HT.out.below hbU nlr)
 have hbase:w.heap.size≤W.heap.size:=hbW.size
 have IM:w.heap.size<U.heap.size:=by omega
 have HRR:=qh ((HT3.out.recs hkl).read)
 rw[HLK.out]at HRR
 have Gm:=qh HRR.out.1
 clear HX1 HO HT hb2 hb3 hz2 HR H1
 obtain⟨⟨q0,q1,q2,q3⟩,q4,⟨q5,q6,q7⟩,q8,q9,q10,q11⟩:=Chg.eF hX3
 simp only at q0 q1 q2 q3 q4 q5 q6 q7 q8 q9 q10 q11
 clear hX3
 have hro:=HT3.out.recs hkl
 rw[HLK.out]at hro
 have HRO:=qh hro
 have VT:Hid (∀x∈recs,0<x.row.length):=qh fun x hx=>by
  have h:aA x∈aD rt[k]:=by rw[←HMP.out];exact List.mem_map_of_mem hx
  obtain⟨y,hy,hyx⟩:=List.mem_map.1 h
  have h2:y.row=x.row:=congrArg (fun p=>p.1) hyx
  rw[←h2]
  exact HNE.out y hy
 have V5:Hid (l[k].recs=recs):=qh (by
  have h2:∀t:RTab,t=⟨TA,tc,recs⟩→t.recs=recs:=fun t ht=>by subst ht;rfl
  exact h2 _ HLK.out)
 clear hro
 go_upto_if 41 with (fail)
 go_cut [6] from 40 to 54 (fun v6 wx =>∃(LA:Option Addr) (LC:Nat) (L:List Rcd),v6=.slice LA L.length LC∧iJ wx W.heap.size LA LC L∧Below U.heap.size U wx∧(∀x∈L,0<x.row.length)∧mK (L.map aA) (dX ⟨kd,sq,dy,(k:Int),A0,cp,row,key,cl,vl⟩)=aW (l[k].recs.map aA) ⟨kd,sq,dy,(k:Int),A0,cp,row,key,cl,vl⟩∧L.length≤1000000)
 case first =>
  by_cases hz0:0≤z
  ·obtain⟨j,hj,hje⟩:=kg (l:=aD rt[k]) (key:=keyOf ⟨kd,sq,dy,(k:Int),A0,cp,row,key,cl,vl⟩) (by rw[HZ0.out];exact hz0)
   have hjr:j<rt[k].recs.length:=by simpa[aD]using hj
   rw[HZ0.out]at hje
   subst hje
   have hz1:decide ((0:Int)≤(j:Int))=true:=by simp
   have hjl:j<recs.length:=by have:=vR.out;omega
   obtain⟨tb,htb⟩:∃g,TA=some ⟨g,0,none⟩:=gP HRO.out.1 (Nat.lt_of_le_of_lt (Nat.zero_le _) hjl)
   have hcap:recs.length≤tc:=uh HRO.out.1
   subst htb
   have hjc:j≤tc:=by omega
   have Xt:j+1≤tc:=by omega
   have hwr:IntKind.i64.wrap ((j:Int)+1)=((j+1:Nat):Int):=by rw[show (j:Int)+1=((j+1:Nat):Int) by omega];exact IntWalk.i64_in _ omA
   have hi1:(j:Int)≤(j:Int)+1:=by omega
   have hi2:(0:Int)≤(j:Int)+1:=by omega
   have hi3:(j:Int)+1≤(recs.length:Int):=by omega
   obtain⟨L,hLd⟩:∃L,L=[]++recs.take j++recs.drop (j+1):=⟨_,rfl⟩
   have HLD:=qh hLd
   have hLl:L.length≤1000000:=by rw[hLd];simp;omega
   have hsub:∀x∈L,x∈recs:=fun x hx=>by
    rw[hLd]at hx
    rcases List.mem_append.1 hx with h|h
    ·exact List.mem_of_mem_take (by simpa using h)
    ·exact List.mem_of_mem_drop h
   have HOLD:Hid (∀LA LC u2,aj u2 U.heap.size 66 Rcd.cells 3 (.slice LA L.length LC) L→Below U.heap.size U u2→∃(LA':Option Addr) (LC':Nat) (L':List Rcd),Value.slice LA L.length LC=.slice LA' L'.length LC'∧iJ u2 W.heap.size LA' LC' L'∧Below U.heap.size U u2∧(∀x∈L',0<x.row.length)∧mK (L'.map aA) (dX ⟨kd,sq,dy,(k:Int),A0,cp,row,key,cl,vl⟩)=aW (l[k].recs.map aA) ⟨kd,sq,dy,(k:Int),A0,cp,row,key,cl,vl⟩∧L'.length≤1000000):=qh fun LA LC u2 hown hb=>by
    refine⟨LA,LC,L,rfl,⟨hown.mono omA,fun x hx =>?_⟩,hb,fun x hx=>VT.out x (hsub x hx),?_,hLl⟩
    ·have:=HRO.out.2 x (hsub x hx)
     exact⟨this.1.below hb nlr,this.2.below hb nlr⟩
    ·rw[V5.out,qy (x:=⟨kd,sq,dy,(k:Int),A0,cp,row,key,cl,vl⟩) (j:=j) HK1.out ew,HLD.out]
     simp[iL,List.map_take,List.map_drop]
   clear hLd hsub hz0
   rw[hz1]
   go_upto_region 7 with (fail)
   by_cases hcm:tc=j+1
   ·have hcut:ag U U.heap.size Rcd.cells 3 (some ⟨tb,0,none⟩) (recs.drop (j+1)):=by
     rw[List.drop_eq_nil_of_le omA]
     exact ag.nil
    have hcm':=eq_true hcm
    clear hcm
    exact GI
   ·have hcut:ag U U.heap.size Rcd.cells 3 (some ⟨tb,(j+1)*3,none⟩) (recs.drop (j+1)):=by have h:=Gm.out.cut (c:=tc) (j+1) omA;rw[if_neg hcm]at h;simpa using h
    exact GI
  ·have hz1:decide (0≤z)=false:=by simp;omega
   have h64:=YY.out omA
   have FH:decide (64≤recs.length)=false:=by have:=vR.out;simp;omega
   have Yd:decide ((64:Int)≤(recs.length:Int))=false:=by have:=vR.out;simp;omega
   have JY:Hid (mK (recs.map aA) (dX ⟨kd,sq,dy,(k:Int),A0,cp,row,key,cl,vl⟩)=aW (l[k].recs.map aA) ⟨kd,sq,dy,(k:Int),A0,cp,row,key,cl,vl⟩):=qh (by
    rw[V5.out,mY (x:=⟨kd,sq,dy,(k:Int),A0,cp,row,key,cl,vl⟩) HK1.out (by rw[HKV.out,←fG,HZK.out];omega) (by have:=vR.out;simp;omega)])
   have Sy:Hid (iJ U W.heap.size TA tc recs):=HRO
   have hrl2:recs.length≤1000000:=by have:=vR.out;omega
   clear hz0 h64
   rw[hz1]
   go_wp2_with fail
   go_meet
   exact⟨TA,tc,recs,rfl,Sy.out,Below.refl _ _,VT.out,JY.out,hrl2⟩
 case rest =>
 obtain⟨LA,LC,L,rfl,T9,MR,Ut,hpf,hLl⟩:=hcut
 obtain⟨V0,rfl⟩:∃V0:World,V0=wc:=⟨_,rfl⟩
 have Za:=MR.size
 have HLV:=qh T9
 have YM:=qh Ut
 have HPF:=qh hpf
 have HLR:=qh HLV.out.read
 have Y5:=uh HLV.out.1
 have HOC:=qh (Ig HLV.out.1)
 have HOV:=qh (HO3.out.below MR nlr)
 have HTV:=qh (HT3.out.below MR nlr)
 have hxV:=aa hxU MR hxU.size
 have HRV:=qh (HR0.out.next hxV)
 have hXV:=HX3.out.below MR IM
 have HXV:=qh hXV
 have wD:w.heap.size<V0.heap.size:=by omega
 clear q0 q1 q2 q3 q4 q5 q6 q7 q8 q9 q10 q11
 obtain⟨⟨q0,q1,q2,q3⟩,q4,⟨q5,q6,q7⟩,q8,q9,q10,q11⟩:=Chg.eF hXV
 simp only at q0 q1 q2 q3 q4 q5 q6 q7 q8 q9 q10 q11
 clear hXV T9 Ut hpf
 go_upto_region 10 with (fail)
 go_cut [8] from 56 to 62 (fun v8 wx =>∃Y RA' rc',v8=.pointer (some ⟨Y,0,none⟩)∧V0.heap.size≤Y∧Blk wx Y 66 #[.slice RA' row.length rc',.slice none 0 0,.int .i64 dy]∧aj wx V0.heap.size 50 Val.cells 3 (.slice RA' row.length rc') row∧Below V0.heap.size V0 wx)
 case first =>
  refine aJ (S:=(fun u=>u.cell? ⟨w.heap.size,4,none⟩=some (.slice A0 row.length cp)∧u.cell? ⟨w.heap.size,2,none⟩=some (.int .i64 dy))) [] krA ⟨q4,q2⟩ (fun hHeld =>?_)
  refine tkT 1 hHeld ?_
  refine tkT 2 hHeld ?_
  refine tkT 4 hHeld ?_
  refine tkT 5 hHeld ?_
  refine r2T 0 7 (fun K hK =>?_) (fun K hK =>?_)
  ·go_simp
   refine hK.out _ _ _ ⟨?_,?_⟩ (fun hHeld =>?_)
   iterate 2 (go_simp)
   clear hK K
   refine r2T 3 7 (fun K hK =>?_) (fun K hK =>?_)
   ·(refine av _ rfl (.tmp 56) (.tmp 58) 48 rfl 50 iv _ Val.cells 3 32 Tryz.underlying48 hiv Bn Bl Bj rfl omA bC val_one V0.heap.size (.slice (some ⟨V0.heap.size,0,none⟩) 0 0) [] rfl (aj.empty nbA leA) _ _ _ row rfl rfl (HRV.out.next ai) smA mxA leA ?_;intro v1 u1 hown1 hg1 vG;have hb1':Below V0.heap.size V0 u1:=Below.grown ai hg1 leA (bX leA);have hsz1:=hb1'.size;have L8:w.heap.size<u1.heap.size:=omA;have kx1:=(bN hb1' w.heap.size wD).1;rw[List.nil_append]at hown1;obtain⟨RA',rc',rfl,Uc,_⟩:=hown1.form)
    refine hK.out _ _ _ ⟨?_,?_⟩ (fun hHeld =>?_)
    iterate 2 (go_simp)
    clear hK K
    refine tkT 6 hHeld ?_
    refine r1T 7 (fun K hK =>?_)
    go_simp
    refine hK.out _ _ _ ⟨?_,?_⟩ (fun hHeld =>?_)
    iterate 2 (go_simp)
    clear hK K
    exact Bi
   ·go_simp
    refine hK.out _ _ _ ⟨?_,?_⟩ (fun hHeld =>?_)
    iterate 2 (go_simp)
    clear hK K
    refine r1T 3 (fun K hK =>?_)
    (refine av _ rfl (.tmp 56) (.tmp 58) 48 rfl 50 iv _ Val.cells 3 32 Tryz.underlying48 hiv Bn Bl Bj rfl omA bC val_one V0.heap.size (.slice (some ⟨V0.heap.size,0,none⟩) 0 0) [] rfl (aj.empty nbA leA) _ _ _ row rfl rfl (HRV.out.next ai) smA mxA leA ?_;intro v1 u1 hown1 hg1 vG;have hb1':Below V0.heap.size V0 u1:=Below.grown ai hg1 leA (bX leA);have hsz1:=hb1'.size;have L8:w.heap.size<u1.heap.size:=omA;have kx1:=(bN hb1' w.heap.size wD).1;rw[List.nil_append]at hown1;obtain⟨RA',rc',rfl,Uc,_⟩:=hown1.form)
    have sJ:Blk u1 (V0.heap.size+1) 66 #[.slice none 0 0,.slice none 0 0,.int .i64 0]:=Blk.grown ndA hg1 (jF omA)
    have yy0:=sJ.cell 0
    have yy1:=sJ.cell 1
    have yy2:=sJ.cell 2
    have yf0:=sJ.frozen 0
    have yf1:=sJ.frozen 1
    have yf2:=sJ.frozen 2
    simp only[gE3]at yy0 yy1 yy2
    refine hK.out _ _ _ ⟨?_,?_⟩ (fun hHeld =>?_)
    iterate 2 (go_simp)
    clear hK K
    refine tkT 6 hHeld ?_
    exact Bi
  ·go_simp
   refine hK.out _ _ _ ⟨?_,?_⟩ (fun hHeld =>?_)
   iterate 2 (go_simp)
   clear hK K
   refine r1T 0 (fun K hK =>?_)
   go_simp
   refine hK.out _ _ _ ⟨?_,?_⟩ (fun hHeld =>?_)
   iterate 2 (go_simp)
   clear hK K
   refine r1T 3 (fun K hK =>?_)
   (refine av _ rfl (.tmp 56) (.tmp 58) 48 rfl 50 iv _ Val.cells 3 32 Tryz.underlying48 hiv Bn Bl Bj rfl omA bC val_one V0.heap.size (.slice (some ⟨(V0.heap.size+1),0,none⟩) 0 0) [] rfl (aj.empty nbA leA) _ _ _ row rfl rfl (HRV.out.next ai) smA mxA leA ?_;intro v1 u1 hown1 hg1 vG;have hb1':Below V0.heap.size V0 u1:=Below.grown ai hg1 leA (bX leA);have hsz1:=hb1'.size;have L8:w.heap.size<u1.heap.size:=omA;have kx1:=(bN hb1' w.heap.size wD).1;rw[List.nil_append]at hown1;obtain⟨RA',rc',rfl,Uc,_⟩:=hown1.form)
   have sJ:Blk u1 V0.heap.size 66 #[.slice none 0 0,.slice none 0 0,.int .i64 0]:=Blk.grown ncA hg1 (jF omA)
   have yy0:=sJ.cell 0
   have yy1:=sJ.cell 1
   have yy2:=sJ.cell 2
   have yf0:=sJ.frozen 0
   have yf1:=sJ.frozen 1
   have yf2:=sJ.frozen 2
   simp only[gE3]at yy0 yy1 yy2
   refine hK.out _ _ _ ⟨?_,?_⟩ (fun hHeld =>?_)
   iterate 2 (go_simp)
   clear hK K
   refine tkT 6 hHeld ?_
   exact Bi
 case rest =>
  obtain⟨Y,RA',rc',rfl,hY,hbY,Mo,hbx⟩:=hcut
  have Wt:=qh hbY
  have VS:=qh Mo
  clear hbY Mo
  clear q0 q1 q2 q3 q4 q5 q6 q7 q8 q9 q10 q11
  go_wp2_with fail
  go_loopw [9] (fun vi wr =>∃(i:Nat) (SA':Option Addr) (sc':Nat),i≤row.length∧vi=.int .i64 i∧Blk wr Y 66 #[.slice RA' row.length rc',.slice SA' i sc',.int .i64 dy]∧aj wr V0.heap.size 50 Val.cells 3 (.slice RA' row.length rc') row∧aj wr V0.heap.size 3 intCells 1 (.slice SA' i sc') (List.replicate i sq)∧Below V0.heap.size V0 wr) (fun vi _=>row.length-(intOf vi).toNat)
  case atStart=>exact⟨0,none,0,Nat.zero_le _,rfl,Wt.out,VS.out,aj.nil,hbx⟩
  case round =>
   clear hbx Wt VS
   obtain⟨i,SA',sc',hi,rfl,hbY,Mo,Uo,hbr⟩:=hrel
   have hwz:=hbr.size
   have HBY:=qh hbY
   have HRO:=qh Mo
   have HSQ:=qh Uo
   have hXr:=HXV.out.below hbr wD
   have hYr:=hbY.lt
   have y1:=hbY.cell 1
   simp only[gE3]at y1
   obtain⟨⟨q0,q1,q2,q3⟩,q4,⟨q5,q6,q7⟩,q8,q9,q10,q11⟩:=Chg.eF hXr
   simp only at q0 q1 q2 q3 q4 q5 q6 q7 q8 q9 q10 q11
   clear hbY Mo Uo hXr
   by_cases hlt:i<row.length
   ·have hlt':decide (i<row.length)=true:=by simpa using hlt
    go_wp2_with (at_builtin;go_must (refine aO _ rfl (.tmp 71) (.tmp 74) 22 rfl 3 ii _ intCells 1 8 Tryz.underlying22 hii LZ LY LX rfl omA bE dZ V0.heap.size (.slice SA' i sc') (List.replicate i sq) rfl (HSQ.out.alloc _) _ _ _ [sq] rfl rfl (Blk.one (enc:=intCells) (x:=sq) (Blk.new' rfl) spA) smA mxA smA ?_);intro v2 w2 hown2 hg2 Du;obtain⟨SA2,sc2,rfl,hsc2,_⟩:=hown2.form;have O0:=(HBY.out.alloc _).grown hg2 (fun e=>HSQ.out.aY HBY.out (by decide) Y e.symm rfl);have y1:=O0.cell 1;have f1:=O0.frozen 1;simp only[gE3]at y1;have SS:=qh O0;have HQ2:=qh hown2;have Sy:=qh ((HRO.out.alloc _).kept hg2 (HRO.out.eT HSQ.out (by decide)));have hx2:Below V0.heap.size V0 w2:=Below.grown (hbr.alloc hbr.size _) hg2 smA HSQ.out.row;clear O0 hown2)
    go_roundw
    case rel=>exact⟨i+1,SA2,sc2,by omega,by go_num,SS.out.aH 1 _,Sy.out.jy ey (by decide) _,by have h:=HQ2.out.jy (q:=Y) (i:= 1) ey (by decide) (.slice SA2 (i+1) sc2);simpa[List.replicate_succ']using h,hx2.setCell hY _⟩
    case measure=>exact meA
   have hlt':decide (i<row.length)=false:=by simpa using hlt
   have hie:i=row.length:=by omega
   subst hie
   go_wp2_with fail
   clear y1 hlt hlt' hi
   clear q0 q1 q2 q3 q4 q5 q6 q7 q8 q9 q10 q11
   have IB:=HRO.out
   obtain⟨rbb,WX⟩:=gP IB hr0
   subst WX
   have hx0:=IB.gq bC rfl hr0 (j:= 0) rfl
   have hx1:=IB.gq bC rfl hr0 (j:= 1) rfl
   have hx2:=IB.gq bC rfl hr0 (j:= 2) rfl
   have Rn:rbb<wr.heap.size:=IB.lt rbb rfl
   obtain⟨rh,hrh⟩:∃v,row[0]=v:=⟨_,rfl⟩
   rw[hrh]at hx0 hx1 hx2
   simp only[Nat.zero_mul,Nat.add_zero,Nat.zero_add]at hx0 hx1 hx2
   have VC:=qh (And.intro hx0 (And.intro hx1 hx2))
   have HRH:=qh hrh
   obtain⟨sqs,OC⟩:∃s,List.replicate row.length sq=s:=⟨_,rfl⟩
   have hsl:sqs.length=row.length:=by rw[←OC];simp
   have hsq:=HSQ.out
   rw[OC]at hsq
   have VK:=qh OC
   have VL:=qh hsq
   have Pz:=qh hsl
   clear hx0 hx1 hx2 hrh OC hsq hsl IB
   rcases HOC.out with ⟨hA,hL,hC⟩|⟨lb,hA⟩
   ·have HL0:Hid (L.length=0):=qh (by rw[hL];rfl)
    clear hL
    subst hA hC
    obtain⟨wo,rfl⟩:∃wo:World,wo=wr:=⟨_,rfl⟩
    go_loopw [10] (fun vm wr =>∃m:Nat,m≤L.length∧vm=.int .i64 m∧Below wo.heap.size wo wr∧(∀i (h:i<L.length),i<m→decide (aU (ay (aA L[i])) rh<0)=true)) (fun vm _=>L.length-(intOf vm).toNat)
    case atStart=>exact⟨0,Nat.zero_le _,rfl,Below.refl _ _,fun i _ h=>by omega⟩
    case round =>
     obtain⟨m,hm,rfl,hb2,hlo⟩:=hrel
     have HLO:=qh hlo
     have hbV:=aa hbr hb2 hbr.size
     have Oy:=hb2.size
     have BJ:=HBY.out.below hb2 hYr
     have y0:=BJ.cell 0
     have y1:=BJ.cell 1
     have y2:=BJ.cell 2
     simp only[gE3]at y0 y1 y2
     have hXr:=HXV.out.below hbV wD
     obtain⟨⟨q0,q1,q2,q3⟩,q4,⟨q5,q6,q7⟩,q8,q9,q10,q11⟩:=Chg.eF hXr
     simp only at q0 q1 q2 q3 q4 q5 q6 q7 q8 q9 q10 q11
     clear hlo BJ hXr
     by_cases hlt:m<L.length
     ·exact absurd hlt (by rw[HL0.out];exact Nat.not_lt_zero _)
     ·have hlt':decide (m<L.length)=false:=by simpa using hlt
      have PG:Hid (gZ (L.map aA) (dX ⟨kd,sq,dy,(k:Int),A0,cp,row,key,cl,vl⟩)=m):=qh (by
       have e1:ay (dX ⟨kd,sq,dy,(k:Int),A0,cp,row,key,cl,vl⟩)=rh:=by rw[kU hr0];exact HRH.out
       refine uY omA (fun i h hi=>by rw[e1];exact HLO.out i h hi) (fun h=>absurd h hlt))
      go_upto_region 16 with (fail)
      refine af krA krA ?_;(repeat(go_big_quiet_step (fail)));refine wpQuiet_nil ?_;intro wq hq
      clear y0 y1 y2
      clear q0 q1 q2 q3 q4 q5 q6 q7 q8 q9 q10 q11
      exact Oh
   ·subst hA
    obtain⟨wo,rfl⟩:∃wo:World,wo=wr:=⟨_,rfl⟩
    go_loopw [10] (fun vm wr =>∃m:Nat,m≤L.length∧vm=.int .i64 m∧Below wo.heap.size wo wr∧(∀i (h:i<L.length),i<m→decide (aU (ay (aA L[i])) rh<0)=true)) (fun vm _=>L.length-(intOf vm).toNat)
    case atStart=>exact⟨0,Nat.zero_le _,rfl,Below.refl _ _,fun i _ h=>by omega⟩
    case round =>
     obtain⟨m,hm,rfl,hb2,hlo⟩:=hrel
     have HLO:=qh hlo
     have hbV:=aa hbr hb2 hbr.size
     have Oy:=hb2.size
     have BJ:=HBY.out.below hb2 hYr
     have y0:=BJ.cell 0
     have y1:=BJ.cell 1
     have y2:=BJ.cell 2
     simp only[gE3]at y0 y1 y2
     have hXr:=HXV.out.below hbV wD
     obtain⟨⟨q0,q1,q2,q3⟩,q4,⟨q5,q6,q7⟩,q8,q9,q10,q11⟩:=Chg.eF hXr
     simp only at q0 q1 q2 q3 q4 q5 q6 q7 q8 q9 q10 q11
     clear hlo BJ hXr
     by_cases hlt:m<L.length
     ·have hlt':decide (m<L.length)=true:=by simpa using hlt
      have eO:=YM.out L[m] (lgm hlt)
      obtain⟨b5,o5,hAe,hb5,hc5⟩:=(HLR.out.1.below hbV).get hlt
      obtain⟨d0,d1,d2⟩:=Rcd.cells3 hc5
      have OH:=(HLR.out.2 L[m] (lgm hlt)).1.below hbV
      obtain⟨⟨QA,qc,fM,QS,qs,su,qd⟩,hy⟩:∃x:Rcd,L[m]=x:=⟨_,rfl⟩
      rw[hy]at d0 d1 d2 OH eO
      simp only at d0 d1 d2 OH eO
      obtain⟨b6,o6,hQe,hb6,hc6⟩:=OH.get eO
      obtain⟨v0,v1,v2⟩:=Val.cells3 hc6
      simp only[Nat.zero_mul,Nat.add_zero]at v0 v1 v2
      obtain⟨pv,hpv⟩:∃v:Val,fM[0]=v:=⟨_,rfl⟩
      rw[hpv]at v0 v1 v2
      have HPV:Hid (ay (aA L[m])=pv):=qh (by rw[hy];exact(MJ (x:=⟨QA,qc,fM,QS,qs,su,qd⟩) eO).trans hpv)
      subst hQe
      injection hAe with hAe
      injection hAe with hA1 hA2
      subst hA1 hA2
      simp only[Nat.zero_add]at d0 d1 d2
      obtain⟨z9,hz9⟩:∃z,aU pv rh=z:=⟨_,rfl⟩
      have HZ9:=qh hz9
      obtain⟨x0,x1,x2⟩:=VC.out
      have x0:=(hb2.cell (p:=⟨rbb,_,none⟩) Rn).trans x0
      have x1:=(hb2.cell (p:=⟨rbb,_,none⟩) Rn).trans x1
      have x2:=(hb2.cell (p:=⟨rbb,_,none⟩) Rn).trans x2
      have hk0:=az (w:=wr) Y omA
      have hk1:=az (w:=wr) lb omA
      have hk2:=az (w:=wr) b6 omA
      have hk3:=az (w:=wr) rbb omA
      have Fq:decide (0<fM.length)=true:=by simpa using eO
      have mM:decide (0<row.length)=true:=by simpa using hr0
      clear hc5 OH hy hc6 hpv hz9
      cases hzz:decide (z9<0)
      rotate_left
      ·have HLT:Hid (decide (aU (ay (aA L[m])) rh<0)=true):=qh (by rw[HPV.out,HZ9.out];exact hzz)
       go_upto_region 16 with (fail)
       refine af krA krA ?_;(repeat(go_big_quiet_step ((go_at_call 89;with_reducible exact bn (pK pv rh _ HZ9.out)))));refine wpQuiet_nil ?_;intro wq hq
       clear hk0 hk1 hk2 hk3 d0 d1 d2 v0 v1 v2 x0 x1 x2 y0 y1 y2
       clear q0 q1 q2 q3 q4 q5 q6 q7 q8 q9 q10 q11
       go_wp2_with fail
       go_roundw
       case rel=>exact⟨m+1,by omega,by go_num,aa hb2 hq hb2.size,fun j h hj=>by
        rcases Nat.lt_or_ge j m with h1|h1
        ·exact HLO.out j h h1
        ·obtain rfl:j=m:=by omega
         exact HLT.out⟩
       case measure=>exact meA
      ·have PG:Hid (gZ (L.map aA) (dX ⟨kd,sq,dy,(k:Int),A0,cp,row,key,cl,vl⟩)=m):=qh (by
        have e1:ay (dX ⟨kd,sq,dy,(k:Int),A0,cp,row,key,cl,vl⟩)=rh:=by rw[kU hr0];exact HRH.out
        refine uY omA (fun i h hi=>by rw[e1];exact HLO.out i h hi) (fun h=>by rw[e1,HPV.out,HZ9.out];exact hzz))
       go_upto_region 16 with (fail)
       refine af krA krA ?_;(repeat(go_big_quiet_step ((go_at_call 89;with_reducible exact bn (pK pv rh _ HZ9.out)))));refine wpQuiet_nil ?_;intro wq hq
       clear hk0 hk1 hk2 hk3 d0 d1 d2 v0 v1 v2 x0 x1 x2 y0 y1 y2
       clear q0 q1 q2 q3 q4 q5 q6 q7 q8 q9 q10 q11
       exact GH
     ·have hlt':decide (m<L.length)=false:=by simpa using hlt
      have PG:Hid (gZ (L.map aA) (dX ⟨kd,sq,dy,(k:Int),A0,cp,row,key,cl,vl⟩)=m):=qh (by
       have e1:ay (dX ⟨kd,sq,dy,(k:Int),A0,cp,row,key,cl,vl⟩)=rh:=by rw[kU hr0];exact HRH.out
       refine uY omA (fun i h hi=>by rw[e1];exact HLO.out i h hi) (fun h=>absurd h hlt))
      go_upto_region 16 with (fail)
      refine af krA krA ?_;(repeat(go_big_quiet_step (fail)));refine wpQuiet_nil ?_;intro wq hq
      clear y0 y1 y2
      clear q0 q1 q2 q3 q4 q5 q6 q7 q8 q9 q10 q11
      exact GH
end Go.Proofs.YtjidligipoldeaaGreat
