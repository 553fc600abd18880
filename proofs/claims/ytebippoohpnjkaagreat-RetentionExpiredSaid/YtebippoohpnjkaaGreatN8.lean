/-
  Contracts and plain laws of this seat, part 8.
-/
import Derived.Test.YtebippoohpnjkaaGreatN7
set_option linter.unusedVariables false
set_option linter.unusedSimpArgs false
set_option maxRecDepth 100000
set_option maxHeartbeats 16000000
namespace Go.Proofs.YtebippoohpnjkaaGreat
open Go.RowKit
theorem JR{P:Prop}(h:P:=by
 refine aT (S:=(fun u=>u.cell? ⟨w.heap.size,3,none⟩=some (.int .i64 (k:Int)))) [] krA q3 (fun hHeld =>?_)
 refine tkT 0 hHeld ?_
 refine tkT 1 hHeld ?_
 refine tkT 2 hHeld ?_
 refine tkT 4 hHeld ?_
 refine tkT 5 hHeld ?_
 refine tkT 6 hHeld ?_
 refine tkT 8 hHeld ?_
 refine tkT 9 hHeld ?_
 refine tkT 10 hHeld ?_
 refine tkT 11 hHeld ?_
 refine r1T 3 (fun K hK =>?_)
 go_simp
 refine hK.out _ _ _ ?_ (fun hHeld =>?_)
 ·go_simp
 clear hK K
 refine r1T 7 (fun K hK =>?_)
 (refine ak _ rfl (.tmp 25) (.tmp 28) 127 rfl 126 ir _ Rcd.cells 3 56 Tryz.underlying127 hir pR oV pQ rfl omA bB fV U.heap.size (.slice (some ⟨U.heap.size,0,none⟩) 0 0) [] rfl (aB.empty nbA leA) _ _ _ (recs.take j) rfl smA ((nR.out.take j).next av) smA mxA leA ?_;intro v1 u1 hown1 hg1 gz;have hb1':Below U.heap.size U u1:=Below.grown av hg1 leA (aV leA);have hsz1:=hb1'.size;have kx1:=(bg hb1' w.heap.size IG).1)
 refine hK.out _ _ _ ?_ (fun hHeld =>?_)
 ·go_simp
 clear hK K
 refine r1T 12 (fun K hK =>?_)
 (refine ak _ rfl (.tmp 29) (.tmp 33) 127 rfl 126 ir _ Rcd.cells 3 56 Tryz.underlying127 hir pR oV pQ rfl omA bB fV U.heap.size v1 ([]++recs.take j) rfl hown1 _ _ _ (recs.drop (j+1)) rfl spA (hcut.next hb1') smA mxA hb1'.size ?_;intro v2 u2 hown2 hg2 oW;have hb2':Below U.heap.size U u2:=Below.grown hb1' hg2 hb1'.size hown1.row;have hsz2:=hb2'.size;have kx2:=(bg hb2' w.heap.size IG).1)
 rw[List.nil_append]at hown2
 obtain⟨A3,c3,hv2,_,_⟩:=hown2.form
 obtain⟨n3,hn3⟩:∃n3,n3=(recs.take j++recs.drop (j+1)).length:=⟨_,rfl⟩
 rw[←hn3]at hv2
 subst hv2
 have HN3:=qh hn3
 have uF:=qh hown2
 clear hn3 hown2
 refine hK.out _ _ _ ?_ (fun hHeld =>?_)
 ·go_simp
 clear hK K
 refine r1T 13 (fun K hK =>?_)
 go_simp
 refine hK.out _ _ _ ?_ (fun hHeld =>?_)
 ·go_simp
 clear hK K
 refine r1T 14 (fun K hK =>?_)
 have O6:=HO3.out.below hb2' nlr
 have g3:=O6.fF bQ HLL.out.symm hkl (j:= 0) rfl
 have f3:=O6.ng HLL.out.symm k
 simp only[Nat.mul_one,Nat.add_zero]at g3
 clear O6
 go_simp
 refine hK.out _ _ _ ?_ (fun hHeld =>?_)
 ·go_simp
 clear hK K
 refine bf krA ?_ _
 clear hHeld
 have bz:=qh (mD.out u2 A3 c3 (.slice A3 n3 c3) hb2' (by rw[←HN3.out];exact uF.out) (by rw[HN3.out]))
 go_wp2_with fail
 go_ret
 first|exact bz.out|exact bz.out.drew):P:=h
theorem tT(RA:Option Addr)(rc n:Nat)(rt:List RTab)(k:Nat)(kd sq dy:Int)(A0:Option Addr)(cp:Nat)(row:List Val)(key:Val)(cl:Int)(vl:Val)(w:World)(hrt:aQ w w.heap.size RA rt)(hn:rt.length=n)(hsr:dQ rt)(hk:k<rt.length)(hR:ah w w.heap.size Val.cells 3 A0 row)(hrlen:row.length≤1000000)(h1:kd=1→0<row.length){z:Int}(hz:gL (aS rt[k]) (keyOf ⟨kd,sq,dy,(k:Int),A0,cp,row,key,cl,vl⟩)=z)(hc:(kd≠1∧z<0)∨(kd=1∧z<0 ∧ 64≤rt[k].recs.length)):
 Calls Tryz.prog 56 #[.slice RA n rc,.agg #[.int .i64 kd,.int .i64 sq,.int .i64 dy,.int .i64 (k:Int),.slice A0 row.length cp,.int .i64 key.kind,.int .i64 key.num,.string key.text,.int .i64 cl,.int .i64 vl.kind,.int .i64 vl.num,.string vl.text]] w (iC w n (bW (rt.map aS) ⟨kd,sq,dy,(k:Int),A0,cp,row,key,cl,vl⟩)):=by
 have HC:=qh hc
 have hz0:decide (z<0)=true:=by rcases hc with h|h<;>simp<;>omega
 have hz1:decide (0≤z)=false:=by rcases hc with h|h<;>simp<;>omega
 have hkd:(kd == 1)=false∨((kd == 1)=true ∧ 64≤rt[k].recs.length):=by
  rcases hc with h|h
  ·exact .inl (by simpa using h.1)
  ·exact .inr ⟨by simpa using h.1,h.2.2⟩
 clear hc
 subst hn
 have hrn:=hsr.len
 have sH:=hsr.recs rt[k] (lgm hk)
 have dU:=hsr.row rt[k] (lgm hk)
 obtain⟨kv,hkv⟩:∃kv,keyOf ⟨kd,sq,dy,(k:Int),A0,cp,row,key,cl,vl⟩=kv:=⟨_,rfl⟩
 have HKV:=qh hkv
 have HZ:=qh hz
 have HRT:=qh hrt
 have HSR:=qh hsr
 have HR:=qh hR
 have H1:=qh h1
 clear hz hrt hsr hR h1 hkv
 go_enter Tryz.func56,Tryz.ntmps56
 go_upto_region 1 with (fail)
 refine au (P:=fun u=>Code.wp _ _ _ _ u) (R:=fun u=>Blk u w.heap.size 64 (Chg.cells ⟨kd,sq,dy,(k:Int),A0,cp,row,key,cl,vl⟩).toArray∧Below w.heap.size w u) ⟨?_,?_⟩ ?_
 ·exact Blk.new _ _ _
 ·exact av
 rintro W ⟨hX,hbW⟩
 have hzW:=hX.lt
 have HX:=qh hX
 clear hX
 go_wp2_with fail
 (with_reducible refine(lJ RA rc rt.length rt _ (HRT.out.next (ae hbW brf hbW.size)) rfl HSR.out).mono ?_)
 rintro e w1 ⟨q,l,rfl,hq,hll,hO,hT,hpl,hb1⟩
 have hx1:=ae hbW hb1 hbW.size
 have hX1:=HX.out.below hb1 omA
 have HX1:=qh hX1
 have hkl:k<l.length:=by omega
 have g0:=hO.fF bQ (by rw[hll]) hkl (j:= 0) rfl
 have hmp:=Bp hpl hkl hk
 have hT0:=hT.recs hkl
 obtain⟨⟨TA,tc,recs⟩,hlk⟩:∃x:RTab,l[k]=x:=⟨_,rfl⟩
 rw[hlk]at g0 hmp hT0
 simp only[Nat.mul_one,Nat.add_zero]at g0 hmp hT0
 have uY:recs.length=rt[k].recs.length:=by have:=congrArg List.length hmp;simpa[aS]using this
 have hrw:∀x∈recs,x.row.length≤1000000:=fun x hx=>by
  have h:bK x∈aS rt[k]:=by rw[←hmp];exact List.mem_map_of_mem hx
  obtain⟨y,hy,hyx⟩:=List.mem_map.1 h
  have h2:y.row=x.row:=congrArg (fun p=>p.1) hyx
  rw[←h2]
  exact dU y hy
 have hrl:recs.length≤1000000:=by omega
 have vH:=qh uY
 have HLL:=qh hll
 have hzk:=HZ.out
 rw[HKV.out,←hmp,←fG]at hzk
 have HMP:=qh hmp
 have HT0:=qh hT0
 have HLK:=qh hlk
 have HO:=qh hO
 have HT:=qh hT
 have HPL:=qh hpl
 have HZK:=qh hzk
 have HRW:=qh hrw
 have hkn:decide (k<rt.length)=true:=by simpa using hk
 have hzq:=hb1.size
 obtain⟨⟨q0,q1,q2,q3⟩,q4,⟨q5,q6,q7⟩,q8,q9,q10,q11⟩:=Chg.iR hX1
 simp only at q0 q1 q2 q3 q4 q5 q6 q7 q8 q9 q10 q11
 clear hX1 hmp hT0 hlk hO hT hpl hzk hrw sH dU uY hll
 go_wp2_with fail
 (with_reducible refine(fO ⟨kd,sq,dy,(k:Int),A0,cp,row,key,cl,vl⟩ _ (HR.out.next (ae hx1 av hx1.size)) hrlen H1.out HKV.out).mono ?_)
 rintro e w2 ⟨rfl,hb2⟩
 clear q0 q1 q2 q3 q4 q5 q6 q7 q8 q9 q10 q11
 have hz2:=hb2.size
 have hX2:=HX1.out.below hb2 omA
 have HX2:=qh hX2
 obtain⟨⟨q0,q1,q2,q3⟩,q4,⟨q5,q6,q7⟩,q8,q9,q10,q11⟩:=Chg.iR hX2
 simp only at q0 q1 q2 q3 q4 q5 q6 q7 q8 q9 q10 q11
 clear hX2 g0
 go_wp2_with fail
 (with_reducible refine(iy TA tc recs.length recs kv _ (HT0.out.read.next hb2) rfl hrl HRW.out HZK.out).mono ?_)
 rintro e U ⟨rfl,hb3⟩
 clear q0 q1 q2 q3 q4 q5 q6 q7 q8 q9 q10 q11
 have hbU:=ae hb2 hb3 hb2.size
 have hzU:=hbU.size
 have hxU:=ae hx1 hbU hx1.size
 have hX3:=HX1.out.below hbU omA
 have HX3:=qh hX3
 have HO3:=qh (HO.out.below hbU nlr)
 have HT3:=qh (HT.out.below hbU nlr)
 have hbase:w.heap.size≤W.heap.size:=hbW.size
 have IG:w.heap.size<U.heap.size:=by omega
 have HRR:=qh ((HT3.out.recs hkl).read)
 rw[HLK.out]at HRR
 have nR:=qh HRR.out.1
 clear HX1 HO HT hb2 hb3 hz2 HR H1
 obtain⟨⟨q0,q1,q2,q3⟩,q4,⟨q5,q6,q7⟩,q8,q9,q10,q11⟩:=Chg.iR hX3
 simp only at q0 q1 q2 q3 q4 q5 q6 q7 q8 q9 q10 q11
 clear hX3
 have mD:Hid (∀w',Below U.heap.size U w'→iC w rt.length (bW (rt.map aS) ⟨kd,sq,dy,(k:Int),A0,cp,row,key,cl,vl⟩) (.returned (.slice (some ⟨q,0,none⟩) rt.length rt.length)) w'):=qh fun w' hb'=>by
  have hO4:=HO3.out.below hb' nlr
  have hT4:=HT3.out.below hb' nlr
  have hrd:=qE (by simpa[HLL.out]using hO4) (fun t ht=>(⟨hT4.tab t ht,hT4.row t ht⟩:fZ w' _ t.A t.cap t.recs))
  refine⟨⟨_,_,l,rfl,HLL.out,hrd.1,hrd.2.mono hbase,?_⟩,ae hxU hb' hxU.size⟩
  refine Ib HPL.out hkl (k:=k) rfl ?_
  rw[HLK.out]
  show recs.map bK=fJ (recs.map bK) _
  have hz2:gL (recs.map bK) (keyOf ⟨kd,sq,dy,(k:Int),A0,cp,row,key,cl,vl⟩)=z:=by rw[HKV.out,←fG];exact HZK.out
  rcases HC.out with h|h
  ·exact(EK h.1 (by rw[hz2];exact h.2)).symm
  ·exact(EL h.1 (by rw[hz2];exact h.2.1) (by rw[List.length_map,vH.out];exact h.2.2)).symm
 rcases hkd with hkd|⟨hkd,h64⟩
 ·go_wp2_with fail
  go_ret
  exact mD.out _ av
 ·have yz:decide (64≤recs.length)=true:=by have:=vH.out;simp;omega
  have Pb:decide ((64:Int)≤(recs.length:Int))=true:=by have:=vH.out;simp;omega
  go_wp2_with fail
  go_ret
  exact mD.out _ av
theorem Dk(RA:Option Addr)(rc n:Nat)(rt:List RTab)(k:Nat)(kd sq dy:Int)(A0:Option Addr)(cp:Nat)(row:List Val)(key:Val)(cl:Int)(vl:Val)(w:World)(hrt:aQ w w.heap.size RA rt)(hn:rt.length=n)(hsr:dQ rt)(hk:k<rt.length)(hR:ah w w.heap.size Val.cells 3 A0 row)(hrlen:row.length≤1000000)(h1:kd=1→0<row.length){z:Int}(hz:gL (aS rt[k]) (keyOf ⟨kd,sq,dy,(k:Int),A0,cp,row,key,cl,vl⟩)=z)(hk1:kd≠1)(hk2:kd≠2)(hc:0≤z):
 Calls Tryz.prog 56 #[.slice RA n rc,.agg #[.int .i64 kd,.int .i64 sq,.int .i64 dy,.int .i64 (k:Int),.slice A0 row.length cp,.int .i64 key.kind,.int .i64 key.num,.string key.text,.int .i64 cl,.int .i64 vl.kind,.int .i64 vl.num,.string vl.text]] w (iC w n (bW (rt.map aS) ⟨kd,sq,dy,(k:Int),A0,cp,row,key,cl,vl⟩)):=by
 have HC:=qh (And.intro hk1 hk2)
 have hkd:(kd == 1)=false:=by simpa using hk1
 have OC:(kd == 2)=false:=by simpa using hk2
 obtain⟨j,hj,hje⟩:=uw (by rw[hz];exact hc)
 have hjr:j<rt[k].recs.length:=by simpa[aS]using hj
 rw[hz]at hje
 subst hje
 have hz0:decide ((j:Int)<0)=false:=by simp
 obtain⟨ir,hir,pR,oV,pQ⟩:=info_parts wR
 clear hc hk1 hk2 hj
 subst hn
 have hrn:=hsr.len
 have sH:=hsr.recs rt[k] (lgm hk)
 have dU:=hsr.row rt[k] (lgm hk)
 obtain⟨kv,hkv⟩:∃kv,keyOf ⟨kd,sq,dy,(k:Int),A0,cp,row,key,cl,vl⟩=kv:=⟨_,rfl⟩
 have HKV:=qh hkv
 have HZ:=qh hz
 have HRT:=qh hrt
 have HSR:=qh hsr
 have HR:=qh hR
 have H1:=qh h1
 clear hz hrt hsr hR h1 hkv
 go_enter Tryz.func56,Tryz.ntmps56
 go_upto_region 1 with (fail)
 refine au (P:=fun u=>Code.wp _ _ _ _ u) (R:=fun u=>Blk u w.heap.size 64 (Chg.cells ⟨kd,sq,dy,(k:Int),A0,cp,row,key,cl,vl⟩).toArray∧Below w.heap.size w u) ⟨?_,?_⟩ ?_
 ·exact Blk.new _ _ _
 ·exact av
 rintro W ⟨hX,hbW⟩
 have hzW:=hX.lt
 have HX:=qh hX
 clear hX
 go_wp2_with fail
 (with_reducible refine(lJ RA rc rt.length rt _ (HRT.out.next (ae hbW brf hbW.size)) rfl HSR.out).mono ?_)
 rintro e w1 ⟨q,l,rfl,hq,hll,hO,hT,hpl,hb1⟩
 have hx1:=ae hbW hb1 hbW.size
 have hX1:=HX.out.below hb1 omA
 have HX1:=qh hX1
 have hkl:k<l.length:=by omega
 have g0:=hO.fF bQ (by rw[hll]) hkl (j:= 0) rfl
 have hmp:=Bp hpl hkl hk
 have hT0:=hT.recs hkl
 obtain⟨⟨TA,tc,recs⟩,hlk⟩:∃x:RTab,l[k]=x:=⟨_,rfl⟩
 rw[hlk]at g0 hmp hT0
 simp only[Nat.mul_one,Nat.add_zero]at g0 hmp hT0
 have uY:recs.length=rt[k].recs.length:=by have:=congrArg List.length hmp;simpa[aS]using this
 have hrw:∀x∈recs,x.row.length≤1000000:=fun x hx=>by
  have h:bK x∈aS rt[k]:=by rw[←hmp];exact List.mem_map_of_mem hx
  obtain⟨y,hy,hyx⟩:=List.mem_map.1 h
  have h2:y.row=x.row:=congrArg (fun p=>p.1) hyx
  rw[←h2]
  exact dU y hy
 have hrl:recs.length≤1000000:=by omega
 have vH:=qh uY
 have HLL:=qh hll
 have hzk:=HZ.out
 rw[HKV.out,←hmp,←fG]at hzk
 have HMP:=qh hmp
 have HT0:=qh hT0
 have HLK:=qh hlk
 have HO:=qh hO
 have HT:=qh hT
 have HPL:=qh hpl
 have HZK:=qh hzk
 have HRW:=qh hrw
 have hkn:decide (k<rt.length)=true:=by simpa using hk
 have hzq:=hb1.size
 obtain⟨⟨q0,q1,q2,q3⟩,q4,⟨q5,q6,q7⟩,q8,q9,q10,q11⟩:=Chg.iR hX1
 simp only at q0 q1 q2 q3 q4 q5 q6 q7 q8 q9 q10 q11
 clear hX1 hmp hT0 hlk hO hT hpl hzk hrw sH dU uY hll
 go_wp2_with fail
 (with_reducible refine(fO ⟨kd,sq,dy,(k:Int),A0,cp,row,key,cl,vl⟩ _ (HR.out.next (ae hx1 av hx1.size)) hrlen H1.out HKV.out).mono ?_)
 rintro e w2 ⟨rfl,hb2⟩
 clear q0 q1 q2 q3 q4 q5 q6 q7 q8 q9 q10 q11
 have hz2:=hb2.size
 have hX2:=HX1.out.below hb2 omA
 have HX2:=qh hX2
 obtain⟨⟨q0,q1,q2,q3⟩,q4,⟨q5,q6,q7⟩,q8,q9,q10,q11⟩:=Chg.iR hX2
 simp only at q0 q1 q2 q3 q4 q5 q6 q7 q8 q9 q10 q11
 clear hX2 g0
 go_wp2_with fail
 (with_reducible refine(iy TA tc recs.length recs kv _ (HT0.out.read.next hb2) rfl hrl HRW.out HZK.out).mono ?_)
 rintro e U ⟨rfl,hb3⟩
 clear q0 q1 q2 q3 q4 q5 q6 q7 q8 q9 q10 q11
 have hbU:=ae hb2 hb3 hb2.size
 have hzU:=hbU.size
 have hxU:=ae hx1 hbU hx1.size
 have hX3:=HX1.out.below hbU omA
 have HX3:=qh hX3
 have HO3:=qh (HO.out.below hbU nlr)
 have HT3:=qh (HT.out.below hbU nlr)
 have hbase:w.heap.size≤W.heap.size:=hbW.size
 have IG:w.heap.size<U.heap.size:=by omega
 have HRR:=qh ((HT3.out.recs hkl).read)
 rw[HLK.out]at HRR
 have nR:=qh HRR.out.1
 clear HX1 HO HT hb2 hb3 hz2 HR H1
 obtain⟨⟨q0,q1,q2,q3⟩,q4,⟨q5,q6,q7⟩,q8,q9,q10,q11⟩:=Chg.iR hX3
 simp only at q0 q1 q2 q3 q4 q5 q6 q7 q8 q9 q10 q11
 clear hX3
 have hjl:j<recs.length:=by have:=vH.out;omega
 have hro:=HT3.out.recs hkl
 rw[HLK.out]at hro
 obtain⟨tb,htb⟩:=fA hro.1 (Nat.lt_of_le_of_lt (Nat.zero_le _) hjl)
 have hcap:=iK hro.1
 simp only at htb hcap
 subst htb
 have HRO:=qh hro
 have hjc:j≤tc:=by omega
 have OE:j+1≤tc:=by omega
 have hwr:IntKind.i64.wrap ((j:Int)+1)=((j+1:Nat):Int):=by rw[show (j:Int)+1=((j+1:Nat):Int) by omega];exact IntWalk.i64_in _ omA
 have mD:Hid (∀u2 A3 c3 v,Below U.heap.size U u2→aB u2 U.heap.size 126 Rcd.cells 3 (.slice A3 (recs.take j++recs.drop (j+1)).length c3) (recs.take j++recs.drop (j+1))→v=.slice A3 (recs.take j++recs.drop (j+1)).length c3→iC w rt.length (bW (rt.map aS) ⟨kd,sq,dy,(k:Int),A0,cp,row,key,cl,vl⟩) (.returned (.slice (some ⟨q,0,none⟩) rt.length rt.length)) (u2.setCell ⟨q,k,none⟩ v)):=qh fun u2 A3 c3 v hb hown hv=>by
  refine uQ HO3.out HLL.out HT3.out hkl HPL.out rfl hbase hxU hb ⟨hown.mono omA,fun x hx =>?_⟩ ?_ hv
  ·have hin:x∈recs:=by
    rcases List.mem_append.1 hx with h|h
    ·exact List.mem_of_mem_take h
    ·exact List.mem_of_mem_drop h
   have:=HRO.out.2 x hin
   exact⟨this.1.below hb nlr,this.2.below hb nlr⟩
  ·rw[HLK.out]
   show (recs.take j++recs.drop (j+1)).map bK=fJ (recs.map bK) _
   rw[Ih HC.out.1 HC.out.2 (j:=j) (by rw[HKV.out,←fG];exact HZK.out)]
   simp[BV,List.map_take,List.map_drop]
 have hi1:(j:Int)≤(j:Int)+1:=by omega
 have hi2:(0:Int)≤(j:Int)+1:=by omega
 have hi3:(j:Int)+1≤(recs.length:Int):=by omega
 clear hro
 by_cases hcm:tc=j+1
 ·have hcut:ah U U.heap.size Rcd.cells 3 (some ⟨tb,0,none⟩) (recs.drop (j+1)):=by
   rw[List.drop_eq_nil_of_le omA]
   exact ah.nil
  go_upto_region 4 with (fail)
  exact JR
 ·have hcut:ah U U.heap.size Rcd.cells 3 (some ⟨tb,(j+1)*3,none⟩) (recs.drop (j+1)):=by have h:=nR.out.cut (c:=tc) (j+1) omA;rw[if_neg hcm]at h;simpa using h
  go_upto_region 4 with (fail)
  exact JR
theorem Di(RA:Option Addr)(rc n:Nat)(rt:List RTab)(k:Nat)(kd sq dy:Int)(A0:Option Addr)(cp:Nat)(row:List Val)(key:Val)(cl:Int)(vl:Val)(w:World)(hrt:aQ w w.heap.size RA rt)(hn:rt.length=n)(hsr:dQ rt)(hk:k<rt.length)(hR:ah w w.heap.size Val.cells 3 A0 row)(hrlen:row.length≤1000000)(h1:kd=1→0<row.length){z:Int}(hz:gL (aS rt[k]) (keyOf ⟨kd,sq,dy,(k:Int),A0,cp,row,key,cl,vl⟩)=z)(hk2:kd=2)(hc:0≤z)(FC:∃col:Nat,cl=(col:Int) ∧ ∀r∈rt[k].recs,col<r.row.length∧col<r.seq.length):
 Calls Tryz.prog 56 #[.slice RA n rc,.agg #[.int .i64 kd,.int .i64 sq,.int .i64 dy,.int .i64 (k:Int),.slice A0 row.length cp,.int .i64 key.kind,.int .i64 key.num,.string key.text,.int .i64 cl,.int .i64 vl.kind,.int .i64 vl.num,.string vl.text]] w (iC w n (bW (rt.map aS) ⟨kd,sq,dy,(k:Int),A0,cp,row,key,cl,vl⟩)):=by
 obtain⟨col,hcl,FC⟩:=FC
 have HCL:=qh hcl
 have hkd:(kd == 1)=false:=by rw[hk2];rfl
 have OC:(kd == 2)=true:=by rw[hk2];rfl
 have HK2:=qh hk2
 have LG:=qh FC
 obtain⟨j,hj,hje⟩:=uw (by rw[hz];exact hc)
 have hjr:j<rt[k].recs.length:=by simpa[aS]using hj
 rw[hz]at hje
 subst hje
 have hz0:decide ((j:Int)<0)=false:=by simp
 clear hc hj FC hcl hk2
 subst hn
 have hrn:=hsr.len
 have sH:=hsr.recs rt[k] (lgm hk)
 have dU:=hsr.row rt[k] (lgm hk)
 obtain⟨kv,hkv⟩:∃kv,keyOf ⟨kd,sq,dy,(k:Int),A0,cp,row,key,cl,vl⟩=kv:=⟨_,rfl⟩
 have HKV:=qh hkv
 have HZ:=qh hz
 have HRT:=qh hrt
 have HSR:=qh hsr
 have HR:=qh hR
 have H1:=qh h1
 clear hz hrt hsr hR h1 hkv
 go_enter Tryz.func56,Tryz.ntmps56
 go_upto_region 1 with (fail)
 refine au (P:=fun u=>Code.wp _ _ _ _ u) (R:=fun u=>Blk u w.heap.size 64 (Chg.cells ⟨kd,sq,dy,(k:Int),A0,cp,row,key,cl,vl⟩).toArray∧Below w.heap.size w u) ⟨?_,?_⟩ ?_
 ·exact Blk.new _ _ _
 ·exact av
 rintro W ⟨hX,hbW⟩
 have hzW:=hX.lt
 have HX:=qh hX
 clear hX
 go_wp2_with fail
 (with_reducible refine(lJ RA rc rt.length rt _ (HRT.out.next (ae hbW brf hbW.size)) rfl HSR.out).mono ?_)
 rintro e w1 ⟨q,l,rfl,hq,hll,hO,hT,hpl,hb1⟩
 have hx1:=ae hbW hb1 hbW.size
 have hX1:=HX.out.below hb1 omA
 have HX1:=qh hX1
 have hkl:k<l.length:=by omega
 have g0:=hO.fF bQ (by rw[hll]) hkl (j:= 0) rfl
 have hmp:=Bp hpl hkl hk
 have hT0:=hT.recs hkl
 obtain⟨⟨TA,tc,recs⟩,hlk⟩:∃x:RTab,l[k]=x:=⟨_,rfl⟩
 rw[hlk]at g0 hmp hT0
 simp only[Nat.mul_one,Nat.add_zero]at g0 hmp hT0
 have uY:recs.length=rt[k].recs.length:=by have:=congrArg List.length hmp;simpa[aS]using this
 have hrw:∀x∈recs,x.row.length≤1000000:=fun x hx=>by
  have h:bK x∈aS rt[k]:=by rw[←hmp];exact List.mem_map_of_mem hx
  obtain⟨y,hy,hyx⟩:=List.mem_map.1 h
  have h2:y.row=x.row:=congrArg (fun p=>p.1) hyx
  rw[←h2]
  exact dU y hy
 have hrl:recs.length≤1000000:=by omega
 have vH:=qh uY
 have HLL:=qh hll
 have hzk:=HZ.out
 rw[HKV.out,←hmp,←fG]at hzk
 have HMP:=qh hmp
 have HT0:=qh hT0
 have HLK:=qh hlk
 have HO:=qh hO
 have HT:=qh hT
 have HPL:=qh hpl
 have HZK:=qh hzk
 have HRW:=qh hrw
 have hkn:decide (k<rt.length)=true:=by simpa using hk
 have hzq:=hb1.size
 obtain⟨⟨q0,q1,q2,q3⟩,q4,⟨q5,q6,q7⟩,q8,q9,q10,q11⟩:=Chg.iR hX1
 simp only at q0 q1 q2 q3 q4 q5 q6 q7 q8 q9 q10 q11
 clear hX1 hmp hT0 hlk hO hT hpl hzk hrw sH dU uY hll
 go_wp2_with fail
 (with_reducible refine(fO ⟨kd,sq,dy,(k:Int),A0,cp,row,key,cl,vl⟩ _ (HR.out.next (ae hx1 av hx1.size)) hrlen H1.out HKV.out).mono ?_)
 rintro e w2 ⟨rfl,hb2⟩
 clear q0 q1 q2 q3 q4 q5 q6 q7 q8 q9 q10 q11
 have hz2:=hb2.size
 have hX2:=HX1.out.below hb2 omA
 have HX2:=qh hX2
 obtain⟨⟨q0,q1,q2,q3⟩,q4,⟨q5,q6,q7⟩,q8,q9,q10,q11⟩:=Chg.iR hX2
 simp only at q0 q1 q2 q3 q4 q5 q6 q7 q8 q9 q10 q11
 clear hX2 g0
 go_wp2_with fail
 (with_reducible refine(iy TA tc recs.length recs kv _ (HT0.out.read.next hb2) rfl hrl HRW.out HZK.out).mono ?_)
 rintro e U ⟨rfl,hb3⟩
 clear q0 q1 q2 q3 q4 q5 q6 q7 q8 q9 q10 q11
 have hbU:=ae hb2 hb3 hb2.size
 have hzU:=hbU.size
 have hxU:=ae hx1 hbU hx1.size
 have hX3:=HX1.out.below hbU omA
 have HX3:=qh hX3
 have HO3:=qh (HO.out.below hbU nlr)
 have HT3:=qh (HT.out.below hbU nlr)
 have hbase:w.heap.size≤W.heap.size:=hbW.size
 have IG:w.heap.size<U.heap.size:=by omega
 have HRR:=qh ((HT3.out.recs hkl).read)
 rw[HLK.out]at HRR
 have nR:=qh HRR.out.1
 clear HX1 HO HT hb2 hb3 hz2 HR H1
 obtain⟨⟨q0,q1,q2,q3⟩,q4,⟨q5,q6,q7⟩,q8,q9,q10,q11⟩:=Chg.iR hX3
 simp only at q0 q1 q2 q3 q4 q5 q6 q7 q8 q9 q10 q11
 clear hX3
 have hjl:j<recs.length:=by have:=vH.out;omega
 have zG:decide (j<recs.length)=true:=by simpa using hjl
 have hro:=HT3.out.recs hkl
 rw[HLK.out]at hro
 obtain⟨tb,htb⟩:=fA hro.1 (Nat.lt_of_le_of_lt (Nat.zero_le _) hjl)
 simp only at htb
 subst htb
 have hcj:col<recs[j].row.length∧col<recs[j].seq.length:=by
  have h:bK recs[j]∈aS rt[k]:=by rw[←HMP.out];exact List.mem_map_of_mem (lgm hjl)
  obtain⟨y,hy,hyx⟩:=List.mem_map.1 h
  have h2:y.row=recs[j].row:=congrArg (fun p=>p.1) hyx
  have h3:y.seq=recs[j].seq:=congrArg (fun p=>p.2.1) hyx
  rw[←h2,←h3]
  exact LG.out y hy
 have hrow:=hro.2 recs[j] (lgm hjl)
 have d0:=hro.1.fF bB rfl hjl (j:= 0) rfl
 have d1:=hro.1.fF bB rfl hjl (j:= 1) rfl
 have WA:tb<U.heap.size:=hro.1.lt tb rfl
 have WL:W.heap.size≤tb:=hro.1.row tb rfl
 obtain⟨⟨QA,qc,tQ,QS,qs,H8,qd⟩,hqr⟩:∃x:Rcd,recs[j]=x:=⟨_,rfl⟩
 rw[hqr]at hcj hrow d0 d1
 simp only[Nat.add_zero]at hcj hrow d0 d1
 obtain⟨hc1,hc2⟩:=hcj
 have iN:=hrow.1
 have hrow2:=hrow.2
 simp only at iN hrow2
 obtain⟨rb,rfl⟩:=fA iN (Nat.lt_of_le_of_lt (Nat.zero_le _) hc1)
 obtain⟨sb,rfl⟩:=fA hrow2 (Nat.lt_of_le_of_lt (Nat.zero_le _) hc2)
 have Wm:W.heap.size≤rb:=iN.row rb rfl
 have We:W.heap.size≤sb:=hrow2.row sb rfl
 have Wl:rb<U.heap.size:=iN.lt rb rfl
 have Wd:sb<U.heap.size:=hrow2.lt sb rfl
 have hn1:rb≠tb:=fun e=>hro.1.dH iN Jp tb rfl (by rw[←e];rfl)
 have hn2:sb≠tb:=fun e=>hro.1.dH hrow2 Jo tb rfl (by rw[←e];rfl)
 have hn3:rb≠sb:=fun e=>iN.dH hrow2 (by decide) rb rfl (by rw[←e];rfl)
 have hn4:rb≠w.heap.size:=by omega
 have hn5:sb≠w.heap.size:=by omega
 have e0:=iN.fF dE rfl hc1 (j:= 0) rfl
 have e1:=iN.fF dE rfl hc1 (j:= 1) rfl
 have e2:=iN.fF dE rfl hc1 (j:= 2) rfl
 have s0:=hrow2.fF bn rfl hc2 (j:= 0) rfl
 simp only[Nat.mul_one,Nat.add_zero]at e0 e1 e2 s0
 have fr0:=iN.ng rfl
 have fs0:=hrow2.ng rfl
 have hc1':decide (col<tQ.length)=true:=by simpa using hc1
 have hc2':decide (col<H8.length)=true:=by simpa using hc2
 have Sq:=qh iN
 have Va:=qh hrow2
 have HQR:=qh hqr
 clear hro hrow iN hrow2 hqr LG
 go_upto_region 21 with (fail)
 rw[HCL.out]at q8
 refine aT (S:=(fun u=>u.cell? ⟨w.heap.size,8,none⟩=some (.int .i64 (col:Int))∧u.cell? ⟨w.heap.size,9,none⟩=some (.int .i64 vl.kind)∧u.cell? ⟨w.heap.size,10,none⟩=some (.int .i64 vl.num)∧u.cell? ⟨w.heap.size,11,none⟩=some (.string vl.text)∧u.cell? ⟨w.heap.size,1,none⟩=some (.int .i64 sq)∧u.cell? ⟨tb,j*3,none⟩=some (.slice (some ⟨rb,0,none⟩) tQ.length qc)∧u.cell? ⟨tb,j*3+1,none⟩=some (.slice (some ⟨sb,0,none⟩) H8.length qs))) [21] krA ⟨q8,q9,q10,q11,q1,d0,d1⟩ (fun hHeld =>?_)
 refine tkT 0 hHeld ?_
 refine tkT 1 hHeld ?_
 refine tkT 2 hHeld ?_
 refine tkT 3 hHeld ?_
 refine tkT 4 hHeld ?_
 refine tkT 5 hHeld ?_
 refine tkT 6 hHeld ?_
 refine tkT 7 hHeld ?_
 refine tkT 8 hHeld ?_
 refine tkT 9 hHeld ?_
 refine tkT 10 hHeld ?_
 refine tkT 11 hHeld ?_
 refine tkT 12 hHeld ?_
 refine tkT 13 hHeld ?_
 refine tkT 14 hHeld ?_
 refine tkT 15 hHeld ?_
 refine tkT 16 hHeld ?_
 refine tkT 17 hHeld ?_
 refine r1T 18 (fun K hK =>?_)
 go_simp
 refine hK.out _ _ _ ⟨?_,?_,?_,?_,?_,?_,?_⟩ (fun hHeld =>?_)
 iterate 7 (go_simp)
 clear hK K
 refine r1T 19 (fun K hK =>?_)
 go_simp
 refine hK.out _ _ _ ⟨?_,?_,?_,?_,?_,?_,?_⟩ (fun hHeld =>?_)
 ·exact iI q8 hn4 hn4 hn4
 ·exact iI q9 hn4 hn4 hn4
 ·exact iI q10 hn4 hn4 hn4
 ·exact iI q11 hn4 hn4 hn4
 ·exact iI q1 hn4 hn4 hn4
 ·exact iI d0 hn1 hn1 hn1
 ·exact iI d1 hn1 hn1 hn1
 clear hK K
 have s0':=iI (u1:= .int .i64 vl.kind) (u2:= .int .i64 vl.num) (u3:= .string vl.text) (p1:=⟨rb,col*3,none⟩) (p2:=⟨rb,col*3+1,none⟩) (p3:=⟨rb,col*3+2,none⟩) s0 hn3 hn3 hn3
 obtain⟨U1,hU1⟩:∃U1,((U.setCell ⟨rb,col*3,none⟩ (.int .i64 vl.kind)).setCell ⟨rb,col*3+1,none⟩ (.int .i64 vl.num)).setCell ⟨rb,col*3+2,none⟩ (.string vl.text)=U1:=⟨_,rfl⟩
 have hP1:=Dm Sq.out rfl hc1 vl
 rw[hU1]at hP1 s0' hHeld
 rw[hU1]
 obtain⟨vs,hvs⟩:=Sq.out.typ (q:=rb) rfl
 have hP2:=((Va.out.di (i:=col*3) hvs (by decide) (.int .i64 vl.kind)).far (p:=⟨rb,col*3+1,none⟩) (fun g hg e=>hn3 (e.symm.trans (by simpa[Value.ownBlock]using hg.symm))) (.int .i64 vl.num)).far (p:=⟨rb,col*3+2,none⟩) (fun g hg e=>hn3 (e.symm.trans (by simpa[Value.ownBlock]using hg.symm))) (.string vl.text)
 rw[hU1]at hP2
 have hfr:=hP2.ng rfl col
 have Nt:∀g,g≠rb→U1.heap[g]?=U.heap[g]?:= fun g hg=>by
  rw[←hU1,Below.heap_setCell _ _ _ _ hg,Below.heap_setCell _ _ _ _ hg,Below.heap_setCell _ _ _ _ hg]
 have KO:Below w.heap.size w U1:=by
  rw[←hU1]
  exact((hxU.setCell (by show _≤rb;omega) _).setCell (by show _≤rb;omega) _).setCell (by show _≤rb;omega) _
 have HP1:=qh hP1
 have HP2:=qh hP2
 have Vw:=qh Nt
 have VC:=qh KO
 clear hU1 hP1 hP2 hvs Nt KO
 refine r1T 20 (fun K hK =>?_)
 go_simp
 refine hK.out _ _ _ hHeld (fun hHeld =>?_)
 clear hK K
 refine rzT 21 (fun K hK =>?_)
 go_simp
 refine hK.out _ _ _ ?_
 clear hK K
 refine bf krA ?_ _
 clear hHeld
 obtain⟨is,his⟩:=HP2.out.typ (q:=sb) rfl
 have hP3:=HP2.out.gp bn rfl hc2 sq (j:= 0) (o:=col) (u:= .int .i64 sq) omA omA rfl
 have hP4:=HP1.out.di (i:=col) his (by decide) (.int .i64 sq)
 have R4:iC w rt.length (bW (rt.map aS) ⟨kd,sq,dy,(k:Int),A0,cp,row,key,cl,vl⟩) (.returned (.slice (some ⟨q,0,none⟩) rt.length rt.length)) (U1.setCell ⟨sb,col,none⟩ (.int .i64 sq)):=by
  have hjk:j<l[k].recs.length:=by rw[HLK.out];exact hjl
  have hrj:l[k].recs[j]=⟨some ⟨rb,0,none⟩,qc,tQ,some ⟨sb,0,none⟩,qs,H8,qd⟩:=by
   have h:∀t:RTab,t=⟨some ⟨tb,0,none⟩,tc,recs⟩→∀h:j<t.recs.length,t.recs[j]=recs[j]:=fun t ht h=>by subst ht;rfl
   rw[h _ HLK.out hjk]
   exact HQR.out
  refine Jc (U:=U) HO3.out HLL.out HT3.out hkl HPL.out rfl hbase (VC.out.setCell (by show _≤sb;omega) _) hjk (r':=⟨some ⟨rb,0,none⟩,qc,tQ.set col vl,some ⟨sb,0,none⟩,qs,H8.set col sq,qd⟩) ?_ ⟨?_,?_⟩ ?_ ?_
  ·rw[hrj]
   simp[Rcd.cells]
  ·simpa using hP4
  ·simpa using hP3
  ·rw[hrj]
   intro g h1 h2
   have h2':g≠sb:=h2 ⟨sb,0,none⟩ rfl
   rw[Below.heap_setCell _ ⟨sb,col,none⟩ _ g h2']
   exact Vw.out g (h1 _ rfl)
  ·have h:=Jb hjl HQR.out (x:=⟨kd,sq,dy,(k:Int),A0,cp,row,key,cl,vl⟩) HCL.out (A':=some ⟨rb,0,none⟩) (S':=some ⟨sb,0,none⟩) (c':=qc) (s':=qs)
   have h2:∀t:RTab,t=⟨some ⟨tb,0,none⟩,tc,recs⟩→t.recs=recs:=fun t ht=>by subst ht;rfl
   rw[h2 _ HLK.out,Ic (x:=⟨kd,sq,dy,(k:Int),A0,cp,row,key,cl,vl⟩) HK2.out (j:=j) (by rw[HKV.out,←fG];exact HZK.out)]
   exact h
 have bz:=qh R4
 clear R4 hP3 hP4 his
 go_wp2_with fail
 go_ret
 first|exact bz.out|exact bz.out.drew
theorem F9{P:Prop}(h:P:=by
 (
 refine aT (S:=(fun _=>True)) [] krA trivial (fun hHeld =>?_)
 refine tkT 1 hHeld ?_
 refine tkT 2 hHeld ?_
 refine tkT 3 hHeld ?_
 refine tkT 5 hHeld ?_
 refine tkT 6 hHeld ?_
 refine tkT 7 hHeld ?_
 refine tkT 8 hHeld ?_
 refine r1T 0 (fun K hK =>?_)
 go_simp
 refine hK.out _ _ _ trivial (fun hHeld =>?_)
 clear hK K
 refine r1T 4 (fun K hK =>?_)
 (refine ak _ rfl (.tmp 42) (.tmp 45) 127 rfl 126 ir _ Rcd.cells 3 56 Tryz.underlying127 hir pR oV pQ rfl omA bB fV U.heap.size (.slice (some ⟨U.heap.size,0,none⟩) 0 0) [] rfl (aB.empty nbA leA) _ _ _ (recs.take j) rfl smA ((nR.out.take j).next av) smA mxA leA ?_;intro v1 u1 hown1 hg1 gz;have hb1':Below U.heap.size U u1:=Below.grown av hg1 leA (aV leA);have hsz1:=hb1'.size)
 refine hK.out _ _ _ trivial (fun hHeld =>?_)
 clear hK K
 refine r1T 9 (fun K hK =>?_)
 (refine ak _ rfl (.tmp 46) (.tmp 50) 127 rfl 126 ir _ Rcd.cells 3 56 Tryz.underlying127 hir pR oV pQ rfl omA bB fV U.heap.size v1 ([]++recs.take j) rfl hown1 _ _ _ (recs.drop (j+1)) rfl spA (hcut.next hb1') smA mxA hb1'.size ?_;intro v2 u2 hown2 hg2 oW;have hb2':Below U.heap.size U u2:=Below.grown hb1' hg2 hb1'.size hown1.row)
 rw[←HLD.out]at hown2
 obtain⟨LA,LC,rfl,_,_⟩:=hown2.form
 refine hK.out _ _ _ trivial (fun hHeld =>?_)
 clear hK K
 refine r1T 10 (fun K hK =>?_)
 go_simp
 refine hK.out _ _ _ trivial (fun hHeld =>?_)
 clear hK K
 refine bf krA ?_ _
 clear hHeld
 go_wp2_with fail
 go_meet
 exact HOLD.out LA LC _ hown2 hb2')):P:=h
theorem Mi{P:Prop}(h:P:=by
 (
 have hmc:m≤LC:=by omega
 by_cases hcm:LC=m
 ·have hcut:ah V V.heap.size Rcd.cells 3 (some ⟨lb,0,none⟩) (L.drop m):=by
   rw[List.drop_eq_nil_of_le omA]
   exact ah.nil
  exact Br
 ·have hcut:ah V V.heap.size Rcd.cells 3 (some ⟨lb,m*3,none⟩) (L.drop m):=by have h:=HSL.out.cut (c:=LC) m omA;rw[if_neg hcm]at h;simpa using h
  exact Br)):P:=h
theorem Mh{P:Prop}(h:P:=by
 (
 go_upto_region 18 with (fail)
 obtain⟨V,rfl⟩:∃V:World,V=wq:=⟨_,rfl⟩
 have qf:Below V0.heap.size V0 V:=ae hbV hq hbV.size
 have hoV:Below wo.heap.size wo V:=ae hb2 hq hb2.size
 have TJ:=hoV.size
 have TE:=qf.size
 have hYV:Y<V.heap.size:=by omega
 have DV:w.heap.size<V.heap.size:=by omega
 have hYb:=HBY.out.below hoV hYr
 have y0:=hYb.cell 0
 have y1:=hYb.cell 1
 have y2:=hYb.cell 2
 simp only[gE3]at y0 y1 y2
 rw[←M3.out]at y1
 have hXb:=HXV.out.below qf vW
 obtain⟨⟨q0,q1,q2,q3⟩,q4,⟨q5,q6,q7⟩,q8,q9,q10,q11⟩:=Chg.iR hXb
 simp only at q0 q1 q2 q3 q4 q5 q6 q7 q8 q9 q10 q11
 have HSL:=qh (HLR.out.1.next qf)
 have M7:=qh (HOV.out.below qf nlr)
 have Pt:=qh (HTV.out.below qf nlr)
 have Pz:=qh (HRO.out.below hoV nlr)
 have Pw:=qh (Sl.out.below hoV nlr)
 have mD:Hid (∀u3 A3 c3 v,Below V.heap.size V u3→aB u3 V.heap.size 126 Rcd.cells 3 (.slice A3 ([]++L.take m ++ [(⟨some ⟨rbb,0,none⟩,rc',row,SA',sc',sqs,dy⟩:Rcd)]++L.drop m).length c3) ([]++L.take m ++ [(⟨some ⟨rbb,0,none⟩,rc',row,SA',sc',sqs,dy⟩:Rcd)]++L.drop m)→v=.slice A3 ([]++L.take m ++ [(⟨some ⟨rbb,0,none⟩,rc',row,SA',sc',sqs,dy⟩:Rcd)]++L.drop m).length c3→iC w rt.length (bW (rt.map aS) ⟨kd,sq,dy,(k:Int),A0,cp,row,key,cl,vl⟩) (.returned (.slice (some ⟨q,0,none⟩) rt.length rt.length)) (u3.setCell ⟨q,k,none⟩ v)):=qh fun u3 A3 c3 v hb hown hv=>by
  have KM:=ae qf hb qf.size
  refine uQ M7.out HLL.out Pt.out hkl HPL.out rfl hbase (ae hxV qf hxV.size) hb ⟨hown.mono omA,fun x hx =>?_⟩ ?_ hv
  ·have hin:x∈L∨x=⟨some ⟨rbb,0,none⟩,rc',row,SA',sc',sqs,dy⟩:=by
    rcases List.mem_append.1 hx with h|h
    ·rcases List.mem_append.1 h with h|h
     ·exact .inl (List.mem_of_mem_take (by simpa using h))
     ·exact .inr (List.mem_singleton.1 h)
    ·exact .inl (List.mem_of_mem_drop h)
   rcases hin with hin|rfl
   ·have:=HLV.out.2 x hin
    exact⟨this.1.below KM nlr,this.2.below KM nlr⟩
   ·refine⟨(Pz.out.below hb nlr).mono omA,?_⟩
    have h:=(Pw.out.below hb nlr).mono (b':=W.heap.size) omA
    rw[←M3.out]at h
    exact h
  ·rw[←HPF.out]
   unfold xR
   rw[M6.out]
   have hnp:oq ⟨kd,sq,dy,(k:Int),A0,cp,row,key,cl,vl⟩=bK ⟨some ⟨rbb,0,none⟩,rc',row,SA',sc',sqs,dy⟩:=by rw[←Sk.out];rfl
   rw[hnp]
   simp[List.map_take,List.map_drop]
 clear hYb hXb
 (
  have hm0:m=0:=by have:=HL0.out;omega
  have hcut:ah V V.heap.size Rcd.cells 3 none (L.drop m):=by
   rw[List.drop_eq_nil_of_le (by rw[HL0.out];exact Nat.zero_le _)]
   exact ah.nil
  exact Br))):P:=h
theorem F8{P:Prop}(h:P:=by
 (
 go_upto_region 18 with (fail)
 obtain⟨V,rfl⟩:∃V:World,V=wq:=⟨_,rfl⟩
 have qf:Below V0.heap.size V0 V:=ae hbV hq hbV.size
 have hoV:Below wo.heap.size wo V:=ae hb2 hq hb2.size
 have TJ:=hoV.size
 have TE:=qf.size
 have hYV:Y<V.heap.size:=by omega
 have DV:w.heap.size<V.heap.size:=by omega
 have hYb:=HBY.out.below hoV hYr
 have y0:=hYb.cell 0
 have y1:=hYb.cell 1
 have y2:=hYb.cell 2
 simp only[gE3]at y0 y1 y2
 rw[←M3.out]at y1
 have hXb:=HXV.out.below qf vW
 obtain⟨⟨q0,q1,q2,q3⟩,q4,⟨q5,q6,q7⟩,q8,q9,q10,q11⟩:=Chg.iR hXb
 simp only at q0 q1 q2 q3 q4 q5 q6 q7 q8 q9 q10 q11
 have HSL:=qh (HLR.out.1.next qf)
 have M7:=qh (HOV.out.below qf nlr)
 have Pt:=qh (HTV.out.below qf nlr)
 have Pz:=qh (HRO.out.below hoV nlr)
 have Pw:=qh (Sl.out.below hoV nlr)
 have mD:Hid (∀u3 A3 c3 v,Below V.heap.size V u3→aB u3 V.heap.size 126 Rcd.cells 3 (.slice A3 ([]++L.take m ++ [(⟨some ⟨rbb,0,none⟩,rc',row,SA',sc',sqs,dy⟩:Rcd)]++L.drop m).length c3) ([]++L.take m ++ [(⟨some ⟨rbb,0,none⟩,rc',row,SA',sc',sqs,dy⟩:Rcd)]++L.drop m)→v=.slice A3 ([]++L.take m ++ [(⟨some ⟨rbb,0,none⟩,rc',row,SA',sc',sqs,dy⟩:Rcd)]++L.drop m).length c3→iC w rt.length (bW (rt.map aS) ⟨kd,sq,dy,(k:Int),A0,cp,row,key,cl,vl⟩) (.returned (.slice (some ⟨q,0,none⟩) rt.length rt.length)) (u3.setCell ⟨q,k,none⟩ v)):=qh fun u3 A3 c3 v hb hown hv=>by
  have KM:=ae qf hb qf.size
  refine uQ M7.out HLL.out Pt.out hkl HPL.out rfl hbase (ae hxV qf hxV.size) hb ⟨hown.mono omA,fun x hx =>?_⟩ ?_ hv
  ·have hin:x∈L∨x=⟨some ⟨rbb,0,none⟩,rc',row,SA',sc',sqs,dy⟩:=by
    rcases List.mem_append.1 hx with h|h
    ·rcases List.mem_append.1 h with h|h
     ·exact .inl (List.mem_of_mem_take (by simpa using h))
     ·exact .inr (List.mem_singleton.1 h)
    ·exact .inl (List.mem_of_mem_drop h)
   rcases hin with hin|rfl
   ·have:=HLV.out.2 x hin
    exact⟨this.1.below KM nlr,this.2.below KM nlr⟩
   ·refine⟨(Pz.out.below hb nlr).mono omA,?_⟩
    have h:=(Pw.out.below hb nlr).mono (b':=W.heap.size) omA
    rw[←M3.out]at h
    exact h
  ·rw[←HPF.out]
   unfold xR
   rw[M6.out]
   have hnp:oq ⟨kd,sq,dy,(k:Int),A0,cp,row,key,cl,vl⟩=bK ⟨some ⟨rbb,0,none⟩,rc',row,SA',sc',sqs,dy⟩:=by rw[←Sk.out];rfl
   rw[hnp]
   simp[List.map_take,List.map_drop]
 clear hYb hXb
 exact Mi)):P:=h
theorem Bt{P:Prop}(h:P:=by
 refine r1T 8 (fun K hK =>?_)
 go_simp
 refine hK.out _ _ _ ⟨?_,?_⟩ (fun hHeld =>?_)
 iterate 2 (go_simp)
 clear hK K
 refine bf krA ?_ _
 clear hHeld
 go_wp2_with fail
 go_meet
 refine⟨_,RA',rc',rfl,?_,?_,?_,?_⟩
 ·first|exact Nat.le_refl _|omega|(simp;omega)
 ·first|exact Blk.new' rfl|exact qp sI
 ·first|exact hown1.alloc _|exact Ii hown1 sI (by decide)
 ·exact av):P:=h
theorem Br{P:Prop}(h:P:=by
 (
 refine aT (S:=(fun u=>u.cell? ⟨w.heap.size,3,none⟩=some (.int .i64 (k:Int))∧u.cell? ⟨Y,0,none⟩=some (.slice (some ⟨rbb,0,none⟩) row.length rc')∧u.cell? ⟨Y,1,none⟩=some (.slice SA' sqs.length sc')∧u.cell? ⟨Y,2,none⟩=some (.int .i64 dy))) [] krA ⟨q3,y0,y1,y2⟩ (fun hHeld =>?_)
 refine tkT 0 hHeld ?_
 refine tkT 1 hHeld ?_
 refine tkT 2 hHeld ?_
 refine tkT 4 hHeld ?_
 refine tkT 5 hHeld ?_
 refine tkT 6 hHeld ?_
 refine tkT 8 hHeld ?_
 refine tkT 11 hHeld ?_
 refine tkT 12 hHeld ?_
 refine tkT 13 hHeld ?_
 refine r2T 3 9 (fun K hK =>?_) (fun K hK =>?_)
 ·go_simp
  refine hK.out _ _ _ ⟨?_,?_,?_,?_⟩ (fun hHeld =>?_)
  iterate 4 (go_simp)
  clear hK K
  refine r2T 7 9 (fun K hK =>?_) (fun K hK =>?_)
  ·(refine ak _ rfl (.tmp 101) (.tmp 104) 127 rfl 126 ir _ Rcd.cells 3 56 Tryz.underlying127 hir pR oV pQ rfl omA bB fV V.heap.size (.slice (some ⟨V.heap.size,0,none⟩) 0 0) [] rfl (aB.empty nbA leA) _ _ _ (L.take m) rfl smA ((HSL.out.take m).next av) smA mxA leA ?_;intro v1 u1 hown1 hg1 gz;have hb1':Below V.heap.size V u1:=Below.grown av hg1 leA (aV leA);have hsz1:=hb1'.size;have Kg:w.heap.size<u1.heap.size:=omA;have Qr:Y<u1.heap.size:=omA;have kx1:=(bg hb1' w.heap.size DV).1;have ky1:=(bg hb1' Y hYV).1)
   refine hK.out _ _ _ ⟨?_,?_,?_,?_⟩ (fun hHeld =>?_)
   iterate 4 (go_simp)
   clear hK K
   refine r1T 9 (fun K hK =>?_)
   go_simp
   refine hK.out _ _ _ ⟨?_,?_,?_,?_⟩ (fun hHeld =>?_)
   iterate 4 (go_simp)
   clear hK K
   refine r1T 10 (fun K hK =>?_)
   (refine ak _ rfl (.tmp 105) (.tmp 107) 127 rfl 126 ir _ Rcd.cells 3 56 Tryz.underlying127 hir pR oV pQ rfl omA bB fV V.heap.size v1 ([]++L.take m) rfl nfA _ _ _ [(⟨some ⟨rbb,0,none⟩,rc',row,SA',sc',sqs,dy⟩:Rcd)] rfl rfl (by exact Blk.one (enc:=Rcd.cells) (x:=⟨some ⟨rbb,0,none⟩,rc',row,SA',sc',sqs,dy⟩) (Blk.new' spA) spA) smA mxA (by have:=hb1'.size;simp;omega) ?_;intro v2 u2 hown2 hg2 oW;have hb2':Below V.heap.size V u2:=Below.grown av hg2 (by have:=hb1'.size;simp;omega) hown1.row;have hsz2:=hb2'.size;have Qt:w.heap.size<u2.heap.size:=omA;have Qq:Y<u2.heap.size:=omA;have kx2:=(bg hb2' w.heap.size DV).1;have ky2:=(bg hb2' Y hYV).1)
   refine hK.out _ _ _ ⟨?_,?_,?_,?_⟩ (fun hHeld =>?_)
   iterate 4 (go_simp)
   clear hK K
   exact Bq
  ·go_simp
   refine hK.out _ _ _ ⟨?_,?_,?_,?_⟩ (fun hHeld =>?_)
   iterate 4 (go_simp)
   clear hK K
   refine r1T 7 (fun K hK =>?_)
   (refine ak _ rfl (.tmp 101) (.tmp 104) 127 rfl 126 ir _ Rcd.cells 3 56 Tryz.underlying127 hir pR oV pQ rfl omA bB fV V.heap.size (.slice (some ⟨V.heap.size,0,none⟩) 0 0) [] rfl (aB.empty nbA leA) _ _ _ (L.take m) rfl smA ((HSL.out.take m).next av) smA mxA leA ?_;intro v1 u1 hown1 hg1 gz;have hb1':Below V.heap.size V u1:=Below.grown av hg1 leA (aV leA);have hsz1:=hb1'.size;have Kg:w.heap.size<u1.heap.size:=omA;have Qr:Y<u1.heap.size:=omA;have kx1:=(bg hb1' w.heap.size DV).1;have ky1:=(bg hb1' Y hYV).1)
   have h40:Blk u1 (V.heap.size+1) 126 (Rcd.cells ⟨some ⟨rbb,0,none⟩,rc',row,SA',sc',sqs,dy⟩).toArray:=Blk.grown ndA hg1 (dx omA)
   refine hK.out _ _ _ ⟨?_,?_,?_,?_⟩ (fun hHeld =>?_)
   iterate 4 (go_simp)
   clear hK K
   refine r1T 10 (fun K hK =>?_)
   (refine ak _ rfl (.tmp 105) (.tmp 107) 127 rfl 126 ir _ Rcd.cells 3 56 Tryz.underlying127 hir pR oV pQ rfl omA bB fV V.heap.size v1 ([]++L.take m) rfl nfA _ _ _ [(⟨some ⟨rbb,0,none⟩,rc',row,SA',sc',sqs,dy⟩:Rcd)] rfl rfl (by exact Blk.one (enc:=Rcd.cells) (x:=⟨some ⟨rbb,0,none⟩,rc',row,SA',sc',sqs,dy⟩) h40 h40.lt) smA mxA (by have:=hb1'.size;simp;omega) ?_;intro v2 u2 hown2 hg2 oW;have hb2':Below V.heap.size V u2:=Below.grown av hg2 (by have:=hb1'.size;simp;omega) hown1.row;have hsz2:=hb2'.size;have Qt:w.heap.size<u2.heap.size:=omA;have Qq:Y<u2.heap.size:=omA;have kx2:=(bg hb2' w.heap.size DV).1;have ky2:=(bg hb2' Y hYV).1)
   refine hK.out _ _ _ ⟨?_,?_,?_,?_⟩ (fun hHeld =>?_)
   iterate 4 (go_simp)
   clear hK K
   exact Bq
 ·go_simp
  refine hK.out _ _ _ ⟨?_,?_,?_,?_⟩ (fun hHeld =>?_)
  iterate 4 (go_simp)
  clear hK K
  refine r1T 3 (fun K hK =>?_)
  go_simp
  refine hK.out _ _ _ ⟨?_,?_,?_,?_⟩ (fun hHeld =>?_)
  iterate 4 (go_simp)
  clear hK K
  refine r1T 7 (fun K hK =>?_)
  (refine ak _ rfl (.tmp 101) (.tmp 104) 127 rfl 126 ir _ Rcd.cells 3 56 Tryz.underlying127 hir pR oV pQ rfl omA bB fV V.heap.size (.slice (some ⟨(V.heap.size+1),0,none⟩) 0 0) [] rfl (aB.empty nbA leA) _ _ _ (L.take m) rfl smA ((HSL.out.take m).next av) smA mxA leA ?_;intro v1 u1 hown1 hg1 gz;have hb1':Below V.heap.size V u1:=Below.grown av hg1 leA (aV leA);have hsz1:=hb1'.size;have Kg:w.heap.size<u1.heap.size:=omA;have Qr:Y<u1.heap.size:=omA;have kx1:=(bg hb1' w.heap.size DV).1;have ky1:=(bg hb1' Y hYV).1)
  have h40:Blk u1 V.heap.size 126 (Rcd.cells ⟨some ⟨rbb,0,none⟩,rc',row,SA',sc',sqs,dy⟩).toArray:=Blk.grown ncA hg1 (dx omA)
  refine hK.out _ _ _ ⟨?_,?_,?_,?_⟩ (fun hHeld =>?_)
  iterate 4 (go_simp)
  clear hK K
  refine r1T 10 (fun K hK =>?_)
  (refine ak _ rfl (.tmp 105) (.tmp 107) 127 rfl 126 ir _ Rcd.cells 3 56 Tryz.underlying127 hir pR oV pQ rfl omA bB fV V.heap.size v1 ([]++L.take m) rfl nfA _ _ _ [(⟨some ⟨rbb,0,none⟩,rc',row,SA',sc',sqs,dy⟩:Rcd)] rfl rfl (by exact Blk.one (enc:=Rcd.cells) (x:=⟨some ⟨rbb,0,none⟩,rc',row,SA',sc',sqs,dy⟩) h40 h40.lt) smA mxA (by have:=hb1'.size;simp;omega) ?_;intro v2 u2 hown2 hg2 oW;have hb2':Below V.heap.size V u2:=Below.grown av hg2 (by have:=hb1'.size;simp;omega) hown1.row;have hsz2:=hb2'.size;have Qt:w.heap.size<u2.heap.size:=omA;have Qq:Y<u2.heap.size:=omA;have kx2:=(bg hb2' w.heap.size DV).1;have ky2:=(bg hb2' Y hYV).1)
  refine hK.out _ _ _ ⟨?_,?_,?_,?_⟩ (fun hHeld =>?_)
  iterate 4 (go_simp)
  clear hK K
  exact Bq)):P:=h
theorem Bq{P:Prop}(h:P:=by
 (
 refine r1T 14 (fun K hK =>?_)
 (refine ak _ rfl (.tmp 108) (.tmp 111) 127 rfl 126 ir _ Rcd.cells 3 56 Tryz.underlying127 hir pR oV pQ rfl omA bB fV V.heap.size v2 ([]++L.take m ++ [(⟨some ⟨rbb,0,none⟩,rc',row,SA',sc',sqs,dy⟩:Rcd)]) rfl hown2 _ _ _ (L.drop m) rfl (by first|(simp;done)|(have:=HL0.out;simp;omega)) (hcut.next hb2') smA mxA hb2'.size ?_;intro v3 u3 hown3 hg3 u7;have KP:Below V.heap.size V u3:=Below.grown hb2' hg3 hb2'.size hown2.row;have V9:=KP.size;have kx3:=(bg KP w.heap.size DV).1;have ky3:=(bg KP Y hYV).1;obtain⟨A3,c3,hv3,_,_⟩:=hown3.form;obtain⟨n3,hn3⟩:∃n3,n3=([]++L.take m ++ [(⟨some ⟨rbb,0,none⟩,rc',row,SA',sc',sqs,dy⟩:Rcd)]++L.drop m).length:=⟨_,rfl⟩;rw[←hn3]at hv3;subst hv3;have HN3:=qh hn3;have SF:=qh hown3;clear hn3 hown3)
 refine hK.out _ _ _ ⟨?_,?_,?_,?_⟩ (fun hHeld =>?_)
 iterate 4 (go_simp)
 clear hK K
 refine r1T 15 (fun K hK =>?_)
 go_simp
 refine hK.out _ _ _ ⟨?_,?_,?_,?_⟩ (fun hHeld =>?_)
 iterate 4 (go_simp)
 clear hK K
 refine r1T 16 (fun K hK =>?_)
 have O5:=M7.out.below KP nlr
 have g3:=O5.fF bQ HLL.out.symm hkl (j:= 0) rfl
 have f3:=O5.ng HLL.out.symm k
 simp only[Nat.mul_one,Nat.add_zero]at g3
 clear O5
 go_simp
 have hqY:q≠Y:=(by have:=HOV.out.lt q rfl;omega)
 refine hK.out _ _ _ ⟨?_,?_,?_,?_⟩ (fun hHeld =>?_)
 go_simp
 iterate 3 (rw[World.cell?_setCell_far _ _ _ _ (by exact hqY)];go_simp)
 clear hK K
 refine bf krA ?_ _
 clear hHeld
 exact Mg)):P:=h
theorem Mg{P:Prop}(h:P:=by
 (
 have bz:=qh (mD.out u3 A3 c3 (.slice A3 n3 c3) KP (by rw[←HN3.out];exact SF.out) (by rw[HN3.out]))
 go_wp2_with fail
 go_ret
 first|exact bz.out|exact bz.out.drew)):P:=h
theorem Dj(RA:Option Addr)(rc n:Nat)(rt:List RTab)(k:Nat)(kd sq dy:Int)(A0:Option Addr)(cp:Nat)(row:List Val)(key:Val)(cl:Int)(vl:Val)(w:World)(hrt:aQ w w.heap.size RA rt)(hn:rt.length=n)(hsr:dQ rt)(hk:k<rt.length)(hR:ah w w.heap.size Val.cells 3 A0 row)(hrlen:row.length≤1000000)(h1:kd=1→0<row.length){z:Int}(hz:gL (aS rt[k]) (keyOf ⟨kd,sq,dy,(k:Int),A0,cp,row,key,cl,vl⟩)=z)(hk1:kd=1)(hc:z<0→rt[k].recs.length<64)(hne:∀r∈rt[k].recs,0<r.row.length):
 Calls Tryz.prog 56 #[.slice RA n rc,.agg #[.int .i64 kd,.int .i64 sq,.int .i64 dy,.int .i64 (k:Int),.slice A0 row.length cp,.int .i64 key.kind,.int .i64 key.num,.string key.text,.int .i64 cl,.int .i64 vl.kind,.int .i64 vl.num,.string vl.text]] w (iC w n (bW (rt.map aS) ⟨kd,sq,dy,(k:Int),A0,cp,row,key,cl,vl⟩)):=by
 have hr0:=h1 hk1
 have hkd:(kd == 1)=true:=by rw[hk1];rfl
 have HK1:=qh hk1
 have HNE:=qh hne
 have VB:=qh hc
 have HZ0:=qh hz
 obtain⟨ir,hir,pR,oV,pQ⟩:=info_parts wR
 obtain⟨iv,hiv,xX,xW,xV⟩:=info_parts Bv
 obtain⟨ii,hii,zy,zx,zw⟩:=info_parts jv
 clear hc hne hk1
 subst hn
 have hrn:=hsr.len
 have sH:=hsr.recs rt[k] (lgm hk)
 have dU:=hsr.row rt[k] (lgm hk)
 obtain⟨kv,hkv⟩:∃kv,keyOf ⟨kd,sq,dy,(k:Int),A0,cp,row,key,cl,vl⟩=kv:=⟨_,rfl⟩
 have HKV:=qh hkv
 have HZ:=qh hz
 have HRT:=qh hrt
 have HSR:=qh hsr
 have HR:=qh hR
 have HR0:=HR
 have H1:=qh h1
 clear hz hrt hsr hR h1 hkv
 go_enter Tryz.func56,Tryz.ntmps56
 go_upto_region 1 with (fail)
 refine au (P:=fun u=>Code.wp _ _ _ _ u) (R:=fun u=>Blk u w.heap.size 64 (Chg.cells ⟨kd,sq,dy,(k:Int),A0,cp,row,key,cl,vl⟩).toArray∧Below w.heap.size w u) ⟨?_,?_⟩ ?_
 ·exact Blk.new _ _ _
 ·exact av
 rintro W ⟨hX,hbW⟩
 have hzW:=hX.lt
 have HX:=qh hX
 clear hX
 go_wp2_with fail
 (with_reducible refine(lJ RA rc rt.length rt _ (HRT.out.next (ae hbW brf hbW.size)) rfl HSR.out).mono ?_)
 rintro e w1 ⟨q,l,rfl,hq,hll,hO,hT,hpl,hb1⟩
 have hx1:=ae hbW hb1 hbW.size
 have hX1:=HX.out.below hb1 omA
 have HX1:=qh hX1
 have hkl:k<l.length:=by omega
 have g0:=hO.fF bQ (by rw[hll]) hkl (j:= 0) rfl
 have hmp:=Bp hpl hkl hk
 have hT0:=hT.recs hkl
 obtain⟨⟨TA,tc,recs⟩,hlk⟩:∃x:RTab,l[k]=x:=⟨_,rfl⟩
 rw[hlk]at g0 hmp hT0
 simp only[Nat.mul_one,Nat.add_zero]at g0 hmp hT0
 have uY:recs.length=rt[k].recs.length:=by have:=congrArg List.length hmp;simpa[aS]using this
 have hrw:∀x∈recs,x.row.length≤1000000:=fun x hx=>by
  have h:bK x∈aS rt[k]:=by rw[←hmp];exact List.mem_map_of_mem hx
  obtain⟨y,hy,hyx⟩:=List.mem_map.1 h
  have h2:y.row=x.row:=congrArg (fun p=>p.1) hyx
  rw[←h2]
  exact dU y hy
 have hrl:recs.length≤1000000:=by omega
 have vH:=qh uY
 have HLL:=qh hll
 have hzk:=HZ.out
 rw[HKV.out,←hmp,←fG]at hzk
 have HMP:=qh hmp
 have HT0:=qh hT0
 have HLK:=qh hlk
 have HO:=qh hO
 have HT:=qh hT
 have HPL:=qh hpl
 have HZK:=qh hzk
 have HRW:=qh hrw
 have hkn:decide (k<rt.length)=true:=by simpa using hk
 have hzq:=hb1.size
 obtain⟨⟨q0,q1,q2,q3⟩,q4,⟨q5,q6,q7⟩,q8,q9,q10,q11⟩:=Chg.iR hX1
 simp only at q0 q1 q2 q3 q4 q5 q6 q7 q8 q9 q10 q11
 clear hX1 hmp hT0 hlk hO hT hpl hzk hrw sH dU uY hll
 go_wp2_with fail
 (with_reducible refine(fO ⟨kd,sq,dy,(k:Int),A0,cp,row,key,cl,vl⟩ _ (HR.out.next (ae hx1 av hx1.size)) hrlen H1.out HKV.out).mono ?_)
 rintro e w2 ⟨rfl,hb2⟩
 clear q0 q1 q2 q3 q4 q5 q6 q7 q8 q9 q10 q11
 have hz2:=hb2.size
 have hX2:=HX1.out.below hb2 omA
 have HX2:=qh hX2
 obtain⟨⟨q0,q1,q2,q3⟩,q4,⟨q5,q6,q7⟩,q8,q9,q10,q11⟩:=Chg.iR hX2
 simp only at q0 q1 q2 q3 q4 q5 q6 q7 q8 q9 q10 q11
 clear hX2 g0
 go_wp2_with fail
 (with_reducible refine(iy TA tc recs.length recs kv _ (HT0.out.read.next hb2) rfl hrl HRW.out HZK.out).mono ?_)
 rintro e U ⟨rfl,hb3⟩
 clear q0 q1 q2 q3 q4 q5 q6 q7 q8 q9 q10 q11
 have hbU:=ae hb2 hb3 hb2.size
 have hzU:=hbU.size
 have hxU:=ae hx1 hbU hx1.size
 have hX3:=HX1.out.below hbU omA
 have HX3:=qh hX3
 have HO3:=qh (HO.out.below hbU nlr)
 have HT3:=qh (HT.out.below hbU nlr)
 have hbase:w.heap.size≤W.heap.size:=hbW.size
 have IG:w.heap.size<U.heap.size:=by omega
 have HRR:=qh ((HT3.out.recs hkl).read)
 rw[HLK.out]at HRR
 have nR:=qh HRR.out.1
 clear HX1 HO HT hb2 hb3 hz2 HR H1
 obtain⟨⟨q0,q1,q2,q3⟩,q4,⟨q5,q6,q7⟩,q8,q9,q10,q11⟩:=Chg.iR hX3
 simp only at q0 q1 q2 q3 q4 q5 q6 q7 q8 q9 q10 q11
 clear hX3
 have hro:=HT3.out.recs hkl
 rw[HLK.out]at hro
 have HRO:=qh hro
 have Sz:Hid (∀x∈recs,0<x.row.length):=qh fun x hx=>by
  have h:bK x∈aS rt[k]:=by rw[←HMP.out];exact List.mem_map_of_mem hx
  obtain⟨y,hy,hyx⟩:=List.mem_map.1 h
  have h2:y.row=x.row:=congrArg (fun p=>p.1) hyx
  rw[←h2]
  exact HNE.out y hy
 have S9:Hid (l[k].recs=recs):=qh (by
  have h2:∀t:RTab,t=⟨TA,tc,recs⟩→t.recs=recs:=fun t ht=>by subst ht;rfl
  exact h2 _ HLK.out)
 clear hro
 go_upto_if 41 with (fail)
 go_cut [6] from 40 to 54 (fun v6 wx =>∃(LA:Option Addr) (LC:Nat) (L:List Rcd),v6=.slice LA L.length LC∧fZ wx W.heap.size LA LC L∧Below U.heap.size U wx∧(∀x∈L,0<x.row.length)∧xR (L.map bK) (oq ⟨kd,sq,dy,(k:Int),A0,cp,row,key,cl,vl⟩)=fJ (l[k].recs.map bK) ⟨kd,sq,dy,(k:Int),A0,cp,row,key,cl,vl⟩∧L.length≤1000000)
 case first =>
  by_cases hz0:0≤z
  ·obtain⟨j,hj,hje⟩:=uw (l:=aS rt[k]) (key:=keyOf ⟨kd,sq,dy,(k:Int),A0,cp,row,key,cl,vl⟩) (by rw[HZ0.out];exact hz0)
   have hjr:j<rt[k].recs.length:=by simpa[aS]using hj
   rw[HZ0.out]at hje
   subst hje
   have hz1:decide ((0:Int)≤(j:Int))=true:=by simp
   have hjl:j<recs.length:=by have:=vH.out;omega
   obtain⟨tb,htb⟩:∃g,TA=some ⟨g,0,none⟩:=fA HRO.out.1 (Nat.lt_of_le_of_lt (Nat.zero_le _) hjl)
   have hcap:recs.length≤tc:=iK HRO.out.1
   subst htb
   have hjc:j≤tc:=by omega
   have OE:j+1≤tc:=by omega
   have hwr:IntKind.i64.wrap ((j:Int)+1)=((j+1:Nat):Int):=by rw[show (j:Int)+1=((j+1:Nat):Int) by omega];exact IntWalk.i64_in _ omA
   have hi1:(j:Int)≤(j:Int)+1:=by omega
   have hi2:(0:Int)≤(j:Int)+1:=by omega
   have hi3:(j:Int)+1≤(recs.length:Int):=by omega
   obtain⟨L,hLd⟩:∃L,L=[]++recs.take j++recs.drop (j+1):=⟨_,rfl⟩
   have HLD:=qh hLd
   have hLl:L.length≤1000000:=by rw[hLd];simp;omega
   have hsub:∀x∈L,x∈recs:=fun x hx=>by
    rw[hLd]at hx
    rcases List.mem_append.1 hx with h|h
    ·exact List.mem_of_mem_take (by simpa using h)
    ·exact List.mem_of_mem_drop h
   have HOLD:Hid (∀LA LC u2,aB u2 U.heap.size 126 Rcd.cells 3 (.slice LA L.length LC) L→Below U.heap.size U u2→∃(LA':Option Addr) (LC':Nat) (L':List Rcd),Value.slice LA L.length LC=.slice LA' L'.length LC'∧fZ u2 W.heap.size LA' LC' L'∧Below U.heap.size U u2∧(∀x∈L',0<x.row.length)∧xR (L'.map bK) (oq ⟨kd,sq,dy,(k:Int),A0,cp,row,key,cl,vl⟩)=fJ (l[k].recs.map bK) ⟨kd,sq,dy,(k:Int),A0,cp,row,key,cl,vl⟩∧L'.length≤1000000):=qh fun LA LC u2 hown hb=>by
    refine⟨LA,LC,L,rfl,⟨hown.mono omA,fun x hx =>?_⟩,hb,fun x hx=>Sz.out x (hsub x hx),?_,hLl⟩
    ·have:=HRO.out.2 x (hsub x hx)
     exact⟨this.1.below hb nlr,this.2.below hb nlr⟩
    ·rw[S9.out,Ie (x:=⟨kd,sq,dy,(k:Int),A0,cp,row,key,cl,vl⟩) (j:=j) HK1.out (by rw[HKV.out,←fG];exact HZK.out),HLD.out]
     simp[BV,List.map_take,List.map_drop]
   clear hLd hsub hz0
   rw[hz1]
   go_upto_region 7 with (fail)
   by_cases hcm:tc=j+1
   ·have hcut:ah U U.heap.size Rcd.cells 3 (some ⟨tb,0,none⟩) (recs.drop (j+1)):=by
     rw[List.drop_eq_nil_of_le omA]
     exact ah.nil
    have hcm':=eq_true hcm
    clear hcm
    exact F9
   ·have hcut:ah U U.heap.size Rcd.cells 3 (some ⟨tb,(j+1)*3,none⟩) (recs.drop (j+1)):=by have h:=nR.out.cut (c:=tc) (j+1) omA;rw[if_neg hcm]at h;simpa using h
    exact F9
  ·have hz1:decide (0≤z)=false:=by simp;omega
   have h64:=VB.out omA
   have yz:decide (64≤recs.length)=false:=by have:=vH.out;simp;omega
   have Pb:decide ((64:Int)≤(recs.length:Int))=false:=by have:=vH.out;simp;omega
   have zP:Hid (xR (recs.map bK) (oq ⟨kd,sq,dy,(k:Int),A0,cp,row,key,cl,vl⟩)=fJ (l[k].recs.map bK) ⟨kd,sq,dy,(k:Int),A0,cp,row,key,cl,vl⟩):=qh (by
    rw[S9.out,Ig (x:=⟨kd,sq,dy,(k:Int),A0,cp,row,key,cl,vl⟩) HK1.out (by rw[HKV.out,←fG,HZK.out];omega) (by have:=vH.out;simp;omega)])
   have Ef:Hid (fZ U W.heap.size TA tc recs):=HRO
   have hrl2:recs.length≤1000000:=by have:=vH.out;omega
   clear hz0 h64
   rw[hz1]
   go_wp2_with fail
   go_meet
   exact⟨TA,tc,recs,rfl,Ef.out,Below.refl _ _,Sz.out,zP.out,hrl2⟩
 case rest =>
 obtain⟨LA,LC,L,rfl,QK,KN,Q8,hpf,hLl⟩:=hcut
 obtain⟨V0,rfl⟩:∃V0:World,V0=wc:=⟨_,rfl⟩
 have VP:=KN.size
 have HLV:=qh QK
 have Vt:=qh Q8
 have HPF:=qh hpf
 have HLR:=qh HLV.out.read
 have VI:=iK HLV.out.1
 have HOC:=qh (Ij HLV.out.1)
 have HOV:=qh (HO3.out.below KN nlr)
 have HTV:=qh (HT3.out.below KN nlr)
 have hxV:=ae hxU KN hxU.size
 have HRV:=qh (HR0.out.next hxV)
 have hXV:=HX3.out.below KN IG
 have HXV:=qh hXV
 have vW:w.heap.size<V0.heap.size:=by omega
 clear q0 q1 q2 q3 q4 q5 q6 q7 q8 q9 q10 q11
 obtain⟨⟨q0,q1,q2,q3⟩,q4,⟨q5,q6,q7⟩,q8,q9,q10,q11⟩:=Chg.iR hXV
 simp only at q0 q1 q2 q3 q4 q5 q6 q7 q8 q9 q10 q11
 clear hXV QK Q8 hpf
 go_upto_region 10 with (fail)
 go_cut [8] from 56 to 62 (fun v8 wx =>∃Y RA' rc',v8=.pointer (some ⟨Y,0,none⟩)∧V0.heap.size≤Y∧Blk wx Y 126 #[.slice RA' row.length rc',.slice none 0 0,.int .i64 dy]∧aB wx V0.heap.size 62 Val.cells 3 (.slice RA' row.length rc') row∧Below V0.heap.size V0 wx)
 case first =>
  refine aT (S:=(fun u=>u.cell? ⟨w.heap.size,4,none⟩=some (.slice A0 row.length cp)∧u.cell? ⟨w.heap.size,2,none⟩=some (.int .i64 dy))) [] krA ⟨q4,q2⟩ (fun hHeld =>?_)
  refine tkT 1 hHeld ?_
  refine tkT 2 hHeld ?_
  refine tkT 4 hHeld ?_
  refine tkT 5 hHeld ?_
  refine r2T 0 7 (fun K hK =>?_) (fun K hK =>?_)
  ·go_simp
   refine hK.out _ _ _ ⟨?_,?_⟩ (fun hHeld =>?_)
   iterate 2 (go_simp)
   clear hK K
   refine r2T 3 7 (fun K hK =>?_) (fun K hK =>?_)
   ·(refine ak _ rfl (.tmp 56) (.tmp 58) 60 rfl 62 iv _ Val.cells 3 32 Tryz.underlying60 hiv xX xW xV rfl omA dE val_one V0.heap.size (.slice (some ⟨V0.heap.size,0,none⟩) 0 0) [] rfl (aB.empty nbA leA) _ _ _ row rfl rfl (HRV.out.next av) smA mxA leA ?_;intro v1 u1 hown1 hg1 gz;have hb1':Below V0.heap.size V0 u1:=Below.grown av hg1 leA (aV leA);have hsz1:=hb1'.size;have Kg:w.heap.size<u1.heap.size:=omA;have kx1:=(bg hb1' w.heap.size vW).1;rw[List.nil_append]at hown1;obtain⟨RA',rc',rfl,QN,_⟩:=hown1.form)
    refine hK.out _ _ _ ⟨?_,?_⟩ (fun hHeld =>?_)
    iterate 2 (go_simp)
    clear hK K
    refine tkT 6 hHeld ?_
    refine r1T 7 (fun K hK =>?_)
    go_simp
    refine hK.out _ _ _ ⟨?_,?_⟩ (fun hHeld =>?_)
    iterate 2 (go_simp)
    clear hK K
    exact Bt
   ·go_simp
    refine hK.out _ _ _ ⟨?_,?_⟩ (fun hHeld =>?_)
    iterate 2 (go_simp)
    clear hK K
    refine r1T 3 (fun K hK =>?_)
    (refine ak _ rfl (.tmp 56) (.tmp 58) 60 rfl 62 iv _ Val.cells 3 32 Tryz.underlying60 hiv xX xW xV rfl omA dE val_one V0.heap.size (.slice (some ⟨V0.heap.size,0,none⟩) 0 0) [] rfl (aB.empty nbA leA) _ _ _ row rfl rfl (HRV.out.next av) smA mxA leA ?_;intro v1 u1 hown1 hg1 gz;have hb1':Below V0.heap.size V0 u1:=Below.grown av hg1 leA (aV leA);have hsz1:=hb1'.size;have Kg:w.heap.size<u1.heap.size:=omA;have kx1:=(bg hb1' w.heap.size vW).1;rw[List.nil_append]at hown1;obtain⟨RA',rc',rfl,QN,_⟩:=hown1.form)
    have sI:Blk u1 (V0.heap.size+1) 126 #[.slice none 0 0,.slice none 0 0,.int .i64 0]:=Blk.grown ndA hg1 (dx omA)
    have yy0:=sI.cell 0
    have yy1:=sI.cell 1
    have yy2:=sI.cell 2
    have yf0:=sI.frozen 0
    have yf1:=sI.frozen 1
    have yf2:=sI.frozen 2
    simp only[gE3]at yy0 yy1 yy2
    refine hK.out _ _ _ ⟨?_,?_⟩ (fun hHeld =>?_)
    iterate 2 (go_simp)
    clear hK K
    refine tkT 6 hHeld ?_
    exact Bt
  ·go_simp
   refine hK.out _ _ _ ⟨?_,?_⟩ (fun hHeld =>?_)
   iterate 2 (go_simp)
   clear hK K
   refine r1T 0 (fun K hK =>?_)
   go_simp
   refine hK.out _ _ _ ⟨?_,?_⟩ (fun hHeld =>?_)
   iterate 2 (go_simp)
   clear hK K
   refine r1T 3 (fun K hK =>?_)
   (refine ak _ rfl (.tmp 56) (.tmp 58) 60 rfl 62 iv _ Val.cells 3 32 Tryz.underlying60 hiv xX xW xV rfl omA dE val_one V0.heap.size (.slice (some ⟨(V0.heap.size+1),0,none⟩) 0 0) [] rfl (aB.empty nbA leA) _ _ _ row rfl rfl (HRV.out.next av) smA mxA leA ?_;intro v1 u1 hown1 hg1 gz;have hb1':Below V0.heap.size V0 u1:=Below.grown av hg1 leA (aV leA);have hsz1:=hb1'.size;have Kg:w.heap.size<u1.heap.size:=omA;have kx1:=(bg hb1' w.heap.size vW).1;rw[List.nil_append]at hown1;obtain⟨RA',rc',rfl,QN,_⟩:=hown1.form)
   have sI:Blk u1 V0.heap.size 126 #[.slice none 0 0,.slice none 0 0,.int .i64 0]:=Blk.grown ncA hg1 (dx omA)
   have yy0:=sI.cell 0
   have yy1:=sI.cell 1
   have yy2:=sI.cell 2
   have yf0:=sI.frozen 0
   have yf1:=sI.frozen 1
   have yf2:=sI.frozen 2
   simp only[gE3]at yy0 yy1 yy2
   refine hK.out _ _ _ ⟨?_,?_⟩ (fun hHeld =>?_)
   iterate 2 (go_simp)
   clear hK K
   refine tkT 6 hHeld ?_
   exact Bt
 case rest =>
  obtain⟨Y,RA',rc',rfl,hY,hbY,Kq,hbx⟩:=hcut
  have Tk:=qh hbY
  have Sy:=qh Kq
  clear hbY Kq
  clear q0 q1 q2 q3 q4 q5 q6 q7 q8 q9 q10 q11
  go_wp2_with fail
  go_loopw [9] (fun vi wr =>∃(i:Nat) (SA':Option Addr) (sc':Nat),i≤row.length∧vi=.int .i64 i∧Blk wr Y 126 #[.slice RA' row.length rc',.slice SA' i sc',.int .i64 dy]∧aB wr V0.heap.size 62 Val.cells 3 (.slice RA' row.length rc') row∧aB wr V0.heap.size 3 intCells 1 (.slice SA' i sc') (List.replicate i sq)∧Below V0.heap.size V0 wr) (fun vi _=>row.length-(intOf vi).toNat)
  case atStart=>exact⟨0,none,0,Nat.zero_le _,rfl,Tk.out,Sy.out,aB.nil,hbx⟩
  case round =>
   clear hbx Tk Sy
   obtain⟨i,SA',sc',hi,rfl,hbY,Kq,Q4,hbr⟩:=hrel
   have hwz:=hbr.size
   have HBY:=qh hbY
   have HRO:=qh Kq
   have HSQ:=qh Q4
   have hXr:=HXV.out.below hbr vW
   have hYr:=hbY.lt
   have y1:=hbY.cell 1
   simp only[gE3]at y1
   obtain⟨⟨q0,q1,q2,q3⟩,q4,⟨q5,q6,q7⟩,q8,q9,q10,q11⟩:=Chg.iR hXr
   simp only at q0 q1 q2 q3 q4 q5 q6 q7 q8 q9 q10 q11
   clear hbY Kq Q4 hXr
   by_cases hlt:i<row.length
   ·have hlt':decide (i<row.length)=true:=by simpa using hlt
    go_wp2_with (at_builtin;go_must (refine aJ _ rfl (.tmp 71) (.tmp 74) 22 rfl 3 ii _ intCells 1 8 Tryz.underlying22 hii zy zx zw rfl omA bn dL V0.heap.size (.slice SA' i sc') (List.replicate i sq) rfl (HSQ.out.alloc _) _ _ _ [sq] rfl rfl (Blk.one (enc:=intCells) (x:=sq) (Blk.new' rfl) spA) smA mxA smA ?_);intro v2 w2 hown2 hg2 oW;obtain⟨SA2,sc2,rfl,hsc2,_⟩:=hown2.form;have MJ:=(HBY.out.alloc _).grown hg2 (fun e=>HSQ.out.bP HBY.out (by decide) Y e.symm rfl);have y1:=MJ.cell 1;have f1:=MJ.frozen 1;simp only[gE3]at y1;have PM:=qh MJ;have HQ2:=qh hown2;have Ef:=qh ((HRO.out.alloc _).kept hg2 (HRO.out.dH HSQ.out (by decide)));have hx2:Below V0.heap.size V0 w2:=Below.grown (hbr.alloc hbr.size _) hg2 smA HSQ.out.row;clear MJ hown2)
    go_roundw
    case rel=>exact⟨i+1,SA2,sc2,by omega,by go_num,PM.out.bV 1 _,Ef.out.di (by have h:=PM.out;unfold Blk at h;exact h) (by decide) _,by have h:=HQ2.out.di (q:=Y) (i:= 1) (by have h:=PM.out;unfold Blk at h;exact h) (by decide) (.slice SA2 (i+1) sc2);simpa[List.replicate_succ']using h,hx2.setCell hY _⟩
    case measure=>exact meA
   have hlt':decide (i<row.length)=false:=by simpa using hlt
   have hie:i=row.length:=by omega
   subst hie
   go_wp2_with fail
   clear y1 hlt hlt' hi
   clear q0 q1 q2 q3 q4 q5 q6 q7 q8 q9 q10 q11
   have Iy:=HRO.out
   obtain⟨rbb,TP⟩:=fA Iy hr0
   subst TP
   have hx0:=Iy.fF dE rfl hr0 (j:= 0) rfl
   have hx1:=Iy.fF dE rfl hr0 (j:= 1) rfl
   have hx2:=Iy.fF dE rfl hr0 (j:= 2) rfl
   have Oo:rbb<wr.heap.size:=Iy.lt rbb rfl
   obtain⟨rh,hrh⟩:∃v,row[0]=v:=⟨_,rfl⟩
   rw[hrh]at hx0 hx1 hx2
   simp only[Nat.zero_mul,Nat.add_zero,Nat.zero_add]at hx0 hx1 hx2
   have Sg:=qh (And.intro hx0 (And.intro hx1 hx2))
   have HRH:=qh hrh
   obtain⟨sqs,Ms⟩:∃s,List.replicate row.length sq=s:=⟨_,rfl⟩
   have hsl:sqs.length=row.length:=by rw[←Ms];simp
   have hsq:=HSQ.out
   rw[Ms]at hsq
   have Sk:=qh Ms
   have Sl:=qh hsq
   have M3:=qh hsl
   clear hx0 hx1 hx2 hrh Ms hsq hsl Iy
   rcases HOC.out with ⟨hA,hL,hC⟩|⟨lb,hA⟩
   ·have HL0:Hid (L.length=0):=qh (by rw[hL];rfl)
    clear hL
    subst hA hC
    obtain⟨wo,rfl⟩:∃wo:World,wo=wr:=⟨_,rfl⟩
    go_loopw [10] (fun vm wr =>∃m:Nat,m≤L.length∧vm=.int .i64 m∧Below wo.heap.size wo wr∧(∀i (h:i<L.length),i<m→decide (dW (lT (bK L[i])) rh<0)=true)) (fun vm _=>L.length-(intOf vm).toNat)
    case atStart=>exact⟨0,Nat.zero_le _,rfl,Below.refl _ _,fun i _ h=>by omega⟩
    case round =>
     obtain⟨m,hm,rfl,hb2,hlo⟩:=hrel
     have HLO:=qh hlo
     have hbV:=ae hbr hb2 hbr.size
     have zA:=hb2.size
     have BS:=HBY.out.below hb2 hYr
     have y0:=BS.cell 0
     have y1:=BS.cell 1
     have y2:=BS.cell 2
     simp only[gE3]at y0 y1 y2
     have hXr:=HXV.out.below hbV vW
     obtain⟨⟨q0,q1,q2,q3⟩,q4,⟨q5,q6,q7⟩,q8,q9,q10,q11⟩:=Chg.iR hXr
     simp only at q0 q1 q2 q3 q4 q5 q6 q7 q8 q9 q10 q11
     clear hlo BS hXr
     by_cases hlt:m<L.length
     ·exact absurd hlt (by rw[HL0.out];exact Nat.not_lt_zero _)
     ·have hlt':decide (m<L.length)=false:=by simpa using hlt
      have M6:Hid (uP (L.map bK) (oq ⟨kd,sq,dy,(k:Int),A0,cp,row,key,cl,vl⟩)=m):=qh (by
       have e1:lT (oq ⟨kd,sq,dy,(k:Int),A0,cp,row,key,cl,vl⟩)=rh:=by rw[uZ hr0];exact HRH.out
       refine uO omA (fun i h hi=>by rw[e1];exact HLO.out i h hi) (fun h=>absurd h hlt))
      go_upto_region 16 with (fail)
      refine ag krA krA ?_;(repeat(go_big_quiet_step (fail)));refine wpQuiet_nil ?_;intro wq hq
      clear y0 y1 y2
      clear q0 q1 q2 q3 q4 q5 q6 q7 q8 q9 q10 q11
      exact Mh
   ·subst hA
    obtain⟨wo,rfl⟩:∃wo:World,wo=wr:=⟨_,rfl⟩
    go_loopw [10] (fun vm wr =>∃m:Nat,m≤L.length∧vm=.int .i64 m∧Below wo.heap.size wo wr∧(∀i (h:i<L.length),i<m→decide (dW (lT (bK L[i])) rh<0)=true)) (fun vm _=>L.length-(intOf vm).toNat)
    case atStart=>exact⟨0,Nat.zero_le _,rfl,Below.refl _ _,fun i _ h=>by omega⟩
    case round =>
     obtain⟨m,hm,rfl,hb2,hlo⟩:=hrel
     have HLO:=qh hlo
     have hbV:=ae hbr hb2 hbr.size
     have zA:=hb2.size
     have BS:=HBY.out.below hb2 hYr
     have y0:=BS.cell 0
     have y1:=BS.cell 1
     have y2:=BS.cell 2
     simp only[gE3]at y0 y1 y2
     have hXr:=HXV.out.below hbV vW
     obtain⟨⟨q0,q1,q2,q3⟩,q4,⟨q5,q6,q7⟩,q8,q9,q10,q11⟩:=Chg.iR hXr
     simp only at q0 q1 q2 q3 q4 q5 q6 q7 q8 q9 q10 q11
     clear hlo BS hXr
     by_cases hlt:m<L.length
     ·have hlt':decide (m<L.length)=true:=by simpa using hlt
      have dU:=Vt.out L[m] (lgm hlt)
      obtain⟨b5,o5,hAe,hb5,hc5⟩:=(HLR.out.1.below hbV).get hlt
      obtain⟨d0,d1,d2⟩:=Rcd.cells3 hc5
      have Mt:=(HLR.out.2 L[m] (lgm hlt)).1.below hbV
      obtain⟨⟨QA,qc,tQ,QS,qs,H8,qd⟩,hy⟩:∃x:Rcd,L[m]=x:=⟨_,rfl⟩
      rw[hy]at d0 d1 d2 Mt dU
      simp only at d0 d1 d2 Mt dU
      obtain⟨b6,o6,hQe,hb6,hc6⟩:=Mt.get dU
      obtain⟨v0,v1,v2⟩:=Val.cells3 hc6
      simp only[Nat.zero_mul,Nat.add_zero]at v0 v1 v2
      obtain⟨pv,hpv⟩:∃v:Val,tQ[0]=v:=⟨_,rfl⟩
      rw[hpv]at v0 v1 v2
      have HPV:Hid (lT (bK L[m])=pv):=qh (by rw[hy];exact(KF (x:=⟨QA,qc,tQ,QS,qs,H8,qd⟩) dU).trans hpv)
      subst hQe
      injection hAe with hAe
      injection hAe with hA1 hA2
      subst hA1 hA2
      simp only[Nat.zero_add]at d0 d1 d2
      obtain⟨z9,hz9⟩:∃z,dW pv rh=z:=⟨_,rfl⟩
      have HZ9:=qh hz9
      obtain⟨x0,x1,x2⟩:=Sg.out
      have x0:=(hb2.cell (p:=⟨rbb,_,none⟩) Oo).trans x0
      have x1:=(hb2.cell (p:=⟨rbb,_,none⟩) Oo).trans x1
      have x2:=(hb2.cell (p:=⟨rbb,_,none⟩) Oo).trans x2
      have hk0:=aK (w:=wr) Y omA
      have hk1:=aK (w:=wr) lb omA
      have hk2:=aK (w:=wr) b6 omA
      have hk3:=aK (w:=wr) rbb omA
      have Fu:decide (0<tQ.length)=true:=by simpa using dU
      have pU:decide (0<row.length)=true:=by simpa using hr0
      clear hc5 Mt hy hc6 hpv hz9
      cases hzz:decide (z9<0)
      rotate_left
      ·have HLT:Hid (decide (dW (lT (bK L[m])) rh<0)=true):=qh (by rw[HPV.out,HZ9.out];exact hzz)
       go_upto_region 16 with (fail)
       refine ag krA krA ?_;(repeat(go_big_quiet_step ((go_at_call 100;with_reducible exact aR (pJ pv rh _ HZ9.out)))));refine wpQuiet_nil ?_;intro wq hq
       clear hk0 hk1 hk2 hk3 d0 d1 d2 v0 v1 v2 x0 x1 x2 y0 y1 y2
       clear q0 q1 q2 q3 q4 q5 q6 q7 q8 q9 q10 q11
       go_wp2_with fail
       go_roundw
       case rel=>exact⟨m+1,by omega,by go_num,ae hb2 hq hb2.size,fun j h hj=>by
        rcases Nat.lt_or_ge j m with h1|h1
        ·exact HLO.out j h h1
        ·obtain rfl:j=m:=by omega
         exact HLT.out⟩
       case measure=>exact meA
      ·have M6:Hid (uP (L.map bK) (oq ⟨kd,sq,dy,(k:Int),A0,cp,row,key,cl,vl⟩)=m):=qh (by
        have e1:lT (oq ⟨kd,sq,dy,(k:Int),A0,cp,row,key,cl,vl⟩)=rh:=by rw[uZ hr0];exact HRH.out
        refine uO omA (fun i h hi=>by rw[e1];exact HLO.out i h hi) (fun h=>by rw[e1,HPV.out,HZ9.out];exact hzz))
       go_upto_region 16 with (fail)
       refine ag krA krA ?_;(repeat(go_big_quiet_step ((go_at_call 100;with_reducible exact aR (pJ pv rh _ HZ9.out)))));refine wpQuiet_nil ?_;intro wq hq
       clear hk0 hk1 hk2 hk3 d0 d1 d2 v0 v1 v2 x0 x1 x2 y0 y1 y2
       clear q0 q1 q2 q3 q4 q5 q6 q7 q8 q9 q10 q11
       exact F8
     ·have hlt':decide (m<L.length)=false:=by simpa using hlt
      have M6:Hid (uP (L.map bK) (oq ⟨kd,sq,dy,(k:Int),A0,cp,row,key,cl,vl⟩)=m):=qh (by
       have e1:lT (oq ⟨kd,sq,dy,(k:Int),A0,cp,row,key,cl,vl⟩)=rh:=by rw[uZ hr0];exact HRH.out
       refine uO omA (fun i h hi=>by rw[e1];exact HLO.out i h hi) (fun h=>absurd h hlt))
      go_upto_region 16 with (fail)
      refine ag krA krA ?_;(repeat(go_big_quiet_step (fail)));refine wpQuiet_nil ?_;intro wq hq
      clear y0 y1 y2
      clear q0 q1 q2 q3 q4 q5 q6 q7 q8 q9 q10 q11
      exact F8
end Go.Proofs.YtebippoohpnjkaaGreat
