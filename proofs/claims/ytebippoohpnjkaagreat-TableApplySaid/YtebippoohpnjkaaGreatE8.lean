/-
  Contracts and plain laws of this seat, part 8.
-/
import Derived.Test.YtebippoohpnjkaaGreatE7
set_option linter.unusedVariables false
set_option linter.unusedSimpArgs false
set_option maxRecDepth 100000
set_option maxHeartbeats 16000000
namespace Go.Proofs.YtebippoohpnjkaaGreat
open Go.RowKit
theorem Jv{P:Prop}(h:P:=by
 refine aW (S:=(fun u=>u.cell? ⟨w.heap.size,3,none⟩=some (.int .i64 (k:Int)))) [] krA q3 (fun hHeld =>?_)
 refine tkT 0 hHeld ?_
 refine tkT 1 hHeld ?_
 refine tkT 2 hHeld ?_
 refine tkT 4 hHeld ?_
 refine tkT 5 hHeld ?_
 refine tkT 6 hHeld ?_
 refine tkT 8 hHeld ?_
 refine tkT 9 hHeld ?_
 refine tkT 10 hHeld ?_
 refine tkT 11 hHeld ?_
 refine r1T 3 (fun K hK =>?_)
 go_simp
 refine hK.out _ _ _ ?_ (fun hHeld =>?_)
 ·go_simp
 clear hK K
 refine r1T 7 (fun K hK =>?_)
 (refine aB _ rfl (.tmp 25) (.tmp 28) 127 rfl 126 ir _ Rcd.cells 3 56 Tryz.underlying127 hir mK mJ mI rfl omA aR dO U.heap.size (.slice (some ⟨U.heap.size,0,none⟩) 0 0) [] rfl (ay.empty nbA leA) _ _ _ (recs.take j) rfl smA ((EO.out.take j).next ak) smA mxA leA ?_;intro v1 u1 hown1 hg1 sS;have hb1':Below U.heap.size U u1:=Below.grown ak hg1 leA (bS leA);have hsz1:=hb1'.size;have kx1:=(bQ hb1' w.heap.size Gu).1)
 refine hK.out _ _ _ ?_ (fun hHeld =>?_)
 ·go_simp
 clear hK K
 refine r1T 12 (fun K hK =>?_)
 (refine aB _ rfl (.tmp 29) (.tmp 33) 127 rfl 126 ir _ Rcd.cells 3 56 Tryz.underlying127 hir mK mJ mI rfl omA aR dO U.heap.size v1 ([]++recs.take j) rfl hown1 _ _ _ (recs.drop (j+1)) rfl spA (hcut.next hb1') smA mxA hb1'.size ?_;intro v2 u2 hown2 hg2 x9;have hb2':Below U.heap.size U u2:=Below.grown hb1' hg2 hb1'.size hown1.row;have hsz2:=hb2'.size;have kx2:=(bQ hb2' w.heap.size Gu).1)
 rw[List.nil_append]at hown2
 obtain⟨A3,c3,hv2,_,_⟩:=hown2.form
 obtain⟨n3,hn3⟩:∃n3,n3=(recs.take j++recs.drop (j+1)).length:=⟨_,rfl⟩
 rw[←hn3]at hv2
 subst hv2
 have HN3:=qh hn3
 have zh:=qh hown2
 clear hn3 hown2
 refine hK.out _ _ _ ?_ (fun hHeld =>?_)
 ·go_simp
 clear hK K
 refine r1T 13 (fun K hK =>?_)
 go_simp
 refine hK.out _ _ _ ?_ (fun hHeld =>?_)
 ·go_simp
 clear hK K
 refine r1T 14 (fun K hK =>?_)
 have Pw:=HO3.out.below hb2' nlr
 have g3:=Pw.eY bg HLL.out.symm hkl (j:= 0) rfl
 have f3:=Pw.iN HLL.out.symm k
 simp only[Nat.mul_one,Nat.add_zero]at g3
 clear Pw
 go_simp
 refine hK.out _ _ _ ?_ (fun hHeld =>?_)
 ·go_simp
 clear hK K
 refine bC krA ?_ _
 clear hHeld
 have aZ:=qh (rQ.out u2 A3 c3 (.slice A3 n3 c3) hb2' (by rw[←HN3.out];exact zh.out) (by rw[HN3.out]))
 go_wp2_with fail
 go_ret
 first|exact aZ.out|exact aZ.out.drew):P:=h
theorem qK(RA:Option Addr)(rc n:Nat)(rt:List RTab)(k:Nat)(kd sq dy:Int)(A0:Option Addr)(cp:Nat)(row:List Val)(key:Val)(cl:Int)(vl:Val)(w:World)(hrt:aJ w w.heap.size RA rt)(hn:rt.length=n)(hsr:dQ rt)(hk:k<rt.length)(hR:ai w w.heap.size Val.cells 3 A0 row)(hrlen:row.length≤1000000)(h1:kd=1→0<row.length){z:Int}(hz:eU (aG rt[k]) (keyOf ⟨kd,sq,dy,(k:Int),A0,cp,row,key,cl,vl⟩)=z)(hc:(kd≠1∧z<0)∨(kd=1∧z<0 ∧ 64≤rt[k].recs.length)):
 Calls Tryz.prog 56 #[.slice RA n rc,.agg #[.int .i64 kd,.int .i64 sq,.int .i64 dy,.int .i64 (k:Int),.slice A0 row.length cp,.int .i64 key.kind,.int .i64 key.num,.string key.text,.int .i64 cl,.int .i64 vl.kind,.int .i64 vl.num,.string vl.text]] w (iE w n (aT (rt.map aG) ⟨kd,sq,dy,(k:Int),A0,cp,row,key,cl,vl⟩)):=by
 have HC:=qh hc
 have hz0:decide (z<0)=true:=by rcases hc with h|h<;>simp<;>omega
 have hz1:decide (0≤z)=false:=by rcases hc with h|h<;>simp<;>omega
 have hkd:(kd == 1)=false∨((kd == 1)=true ∧ 64≤rt[k].recs.length):=by
  rcases hc with h|h
  ·exact .inl (by simpa using h.1)
  ·exact .inr ⟨by simpa using h.1,h.2.2⟩
 clear hc
 subst hn
 have hrn:=hsr.len
 have qg:=hsr.recs rt[k] (lgm hk)
 have eF:=hsr.row rt[k] (lgm hk)
 obtain⟨kv,hkv⟩:∃kv,keyOf ⟨kd,sq,dy,(k:Int),A0,cp,row,key,cl,vl⟩=kv:=⟨_,rfl⟩
 have HKV:=qh hkv
 have HZ:=qh hz
 have HRT:=qh hrt
 have HSR:=qh hsr
 have HR:=qh hR
 have H1:=qh h1
 clear hz hrt hsr hR h1 hkv
 go_enter Tryz.func56,Tryz.ntmps56
 go_upto_region 1 with (fail)
 refine aj (P:=fun u=>Code.wp _ _ _ _ u) (R:=fun u=>Blk u w.heap.size 64 (Chg.cells ⟨kd,sq,dy,(k:Int),A0,cp,row,key,cl,vl⟩).toArray∧Below w.heap.size w u) ⟨?_,?_⟩ ?_
 ·exact Blk.new _ _ _
 ·exact ak
 rintro W ⟨hX,hbW⟩
 have hzW:=hX.lt
 have HX:=qh hX
 clear hX
 go_wp2_with fail
 (with_reducible refine(ku RA rc rt.length rt _ (HRT.out.next (ae hbW brf hbW.size)) rfl HSR.out).mono ?_)
 rintro e w1 ⟨q,l,rfl,hq,hll,hO,hT,hpl,hb1⟩
 have hx1:=ae hbW hb1 hbW.size
 have hX1:=HX.out.below hb1 omA
 have HX1:=qh hX1
 have hkl:k<l.length:=by omega
 have g0:=hO.eY bg (by rw[hll]) hkl (j:= 0) rfl
 have hmp:=zN hpl hkl hk
 have hT0:=hT.recs hkl
 obtain⟨⟨TA,tc,recs⟩,hlk⟩:∃x:RTab,l[k]=x:=⟨_,rfl⟩
 rw[hlk]at g0 hmp hT0
 simp only[Nat.mul_one,Nat.add_zero]at g0 hmp hT0
 have wE:recs.length=rt[k].recs.length:=by have:=congrArg List.length hmp;simpa[aG]using this
 have hrw:∀x∈recs,x.row.length≤1000000:=fun x hx=>by
  have h:aN x∈aG rt[k]:=by rw[←hmp];exact List.mem_map_of_mem hx
  obtain⟨y,hy,hyx⟩:=List.mem_map.1 h
  have h2:y.row=x.row:=congrArg (fun p=>p.1) hyx
  rw[←h2]
  exact eF y hy
 have hrl:recs.length≤1000000:=by omega
 have tO:=qh wE
 have HLL:=qh hll
 have hzk:=HZ.out
 rw[HKV.out,←hmp,←fQ]at hzk
 have HMP:=qh hmp
 have HT0:=qh hT0
 have HLK:=qh hlk
 have HO:=qh hO
 have HT:=qh hT
 have HPL:=qh hpl
 have HZK:=qh hzk
 have HRW:=qh hrw
 have hkn:decide (k<rt.length)=true:=by simpa using hk
 have hzq:=hb1.size
 obtain⟨⟨q0,q1,q2,q3⟩,q4,⟨q5,q6,q7⟩,q8,q9,q10,q11⟩:=Chg.fT hX1
 simp only at q0 q1 q2 q3 q4 q5 q6 q7 q8 q9 q10 q11
 clear hX1 hmp hT0 hlk hO hT hpl hzk hrw qg eF wE hll
 go_wp2_with fail
 (with_reducible refine(gJ ⟨kd,sq,dy,(k:Int),A0,cp,row,key,cl,vl⟩ _ (HR.out.next (ae hx1 ak hx1.size)) hrlen H1.out HKV.out).mono ?_)
 rintro e w2 ⟨rfl,hb2⟩
 clear q0 q1 q2 q3 q4 q5 q6 q7 q8 q9 q10 q11
 have hz2:=hb2.size
 have hX2:=HX1.out.below hb2 omA
 have HX2:=qh hX2
 obtain⟨⟨q0,q1,q2,q3⟩,q4,⟨q5,q6,q7⟩,q8,q9,q10,q11⟩:=Chg.fT hX2
 simp only at q0 q1 q2 q3 q4 q5 q6 q7 q8 q9 q10 q11
 clear hX2 g0
 go_wp2_with fail
 (with_reducible refine(iB TA tc recs.length recs kv _ (HT0.out.read.next hb2) rfl hrl HRW.out HZK.out).mono ?_)
 rintro e U ⟨rfl,hb3⟩
 clear q0 q1 q2 q3 q4 q5 q6 q7 q8 q9 q10 q11
 have hbU:=ae hb2 hb3 hb2.size
 have hzU:=hbU.size
 have hxU:=ae hx1 hbU hx1.size
 have hX3:=HX1.out.below hbU omA
 have HX3:=qh hX3
 have HO3:=qh (HO.out.below hbU nlr)
 have HT3:=qh (HT.out.below hbU nlr)
 have hbase:w.heap.size≤W.heap.size:=hbW.size
 have Gu:w.heap.size<U.heap.size:=by omega
 have HRR:=qh ((HT3.out.recs hkl).read)
 rw[HLK.out]at HRR
 have EO:=qh HRR.out.1
 clear HX1 HO HT hb2 hb3 hz2 HR H1
 obtain⟨⟨q0,q1,q2,q3⟩,q4,⟨q5,q6,q7⟩,q8,q9,q10,q11⟩:=Chg.fT hX3
 simp only at q0 q1 q2 q3 q4 q5 q6 q7 q8 q9 q10 q11
 clear hX3
 have rQ:Hid (∀w',Below U.heap.size U w'→iE w rt.length (aT (rt.map aG) ⟨kd,sq,dy,(k:Int),A0,cp,row,key,cl,vl⟩) (.returned (.slice (some ⟨q,0,none⟩) rt.length rt.length)) w'):=qh fun w' hb'=>by
  have hO4:=HO3.out.below hb' nlr
  have hT4:=HT3.out.below hb' nlr
  have hrd:=jX (by simpa[HLL.out]using hO4) (fun t ht=>(⟨hT4.tab t ht,hT4.row t ht⟩:gm w' _ t.A t.cap t.recs))
  refine⟨⟨_,_,l,rfl,HLL.out,hrd.1,hrd.2.mono hbase,?_⟩,ae hxU hb' hxU.size⟩
  refine Gd HPL.out hkl (k:=k) rfl ?_
  rw[HLK.out]
  show recs.map aN=dz (recs.map aN) _
  have hz2:eU (recs.map aN) (keyOf ⟨kd,sq,dy,(k:Int),A0,cp,row,key,cl,vl⟩)=z:=by rw[HKV.out,←fQ];exact HZK.out
  rcases HC.out with h|h
  ·exact(vM h.1 (by rw[hz2];exact h.2)).symm
  ·exact(vO h.1 (by rw[hz2];exact h.2.1) (by rw[List.length_map,tO.out];exact h.2.2)).symm
 rcases hkd with hkd|⟨hkd,h64⟩
 ·go_wp2_with fail
  go_ret
  exact rQ.out _ ak
 ·have Em:decide (64≤recs.length)=true:=by have:=tO.out;simp;omega
  have UG:decide ((64:Int)≤(recs.length:Int))=true:=by have:=tO.out;simp;omega
  go_wp2_with fail
  go_ret
  exact rQ.out _ ak
theorem Bh(RA:Option Addr)(rc n:Nat)(rt:List RTab)(k:Nat)(kd sq dy:Int)(A0:Option Addr)(cp:Nat)(row:List Val)(key:Val)(cl:Int)(vl:Val)(w:World)(hrt:aJ w w.heap.size RA rt)(hn:rt.length=n)(hsr:dQ rt)(hk:k<rt.length)(hR:ai w w.heap.size Val.cells 3 A0 row)(hrlen:row.length≤1000000)(h1:kd=1→0<row.length){z:Int}(hz:eU (aG rt[k]) (keyOf ⟨kd,sq,dy,(k:Int),A0,cp,row,key,cl,vl⟩)=z)(hk1:kd≠1)(hk2:kd≠2)(hc:0≤z):
 Calls Tryz.prog 56 #[.slice RA n rc,.agg #[.int .i64 kd,.int .i64 sq,.int .i64 dy,.int .i64 (k:Int),.slice A0 row.length cp,.int .i64 key.kind,.int .i64 key.num,.string key.text,.int .i64 cl,.int .i64 vl.kind,.int .i64 vl.num,.string vl.text]] w (iE w n (aT (rt.map aG) ⟨kd,sq,dy,(k:Int),A0,cp,row,key,cl,vl⟩)):=by
 have HC:=qh (And.intro hk1 hk2)
 have hkd:(kd == 1)=false:=by simpa using hk1
 have O9:(kd == 2)=false:=by simpa using hk2
 obtain⟨j,hj,hje⟩:=rD (by rw[hz];exact hc)
 have hjr:j<rt[k].recs.length:=by simpa[aG]using hj
 rw[hz]at hje
 subst hje
 have hz0:decide ((j:Int)<0)=false:=by simp
 obtain⟨ir,hir,mK,mJ,mI⟩:=info_parts jS
 clear hc hk1 hk2 hj
 subst hn
 have hrn:=hsr.len
 have qg:=hsr.recs rt[k] (lgm hk)
 have eF:=hsr.row rt[k] (lgm hk)
 obtain⟨kv,hkv⟩:∃kv,keyOf ⟨kd,sq,dy,(k:Int),A0,cp,row,key,cl,vl⟩=kv:=⟨_,rfl⟩
 have HKV:=qh hkv
 have HZ:=qh hz
 have HRT:=qh hrt
 have HSR:=qh hsr
 have HR:=qh hR
 have H1:=qh h1
 clear hz hrt hsr hR h1 hkv
 go_enter Tryz.func56,Tryz.ntmps56
 go_upto_region 1 with (fail)
 refine aj (P:=fun u=>Code.wp _ _ _ _ u) (R:=fun u=>Blk u w.heap.size 64 (Chg.cells ⟨kd,sq,dy,(k:Int),A0,cp,row,key,cl,vl⟩).toArray∧Below w.heap.size w u) ⟨?_,?_⟩ ?_
 ·exact Blk.new _ _ _
 ·exact ak
 rintro W ⟨hX,hbW⟩
 have hzW:=hX.lt
 have HX:=qh hX
 clear hX
 go_wp2_with fail
 (with_reducible refine(ku RA rc rt.length rt _ (HRT.out.next (ae hbW brf hbW.size)) rfl HSR.out).mono ?_)
 rintro e w1 ⟨q,l,rfl,hq,hll,hO,hT,hpl,hb1⟩
 have hx1:=ae hbW hb1 hbW.size
 have hX1:=HX.out.below hb1 omA
 have HX1:=qh hX1
 have hkl:k<l.length:=by omega
 have g0:=hO.eY bg (by rw[hll]) hkl (j:= 0) rfl
 have hmp:=zN hpl hkl hk
 have hT0:=hT.recs hkl
 obtain⟨⟨TA,tc,recs⟩,hlk⟩:∃x:RTab,l[k]=x:=⟨_,rfl⟩
 rw[hlk]at g0 hmp hT0
 simp only[Nat.mul_one,Nat.add_zero]at g0 hmp hT0
 have wE:recs.length=rt[k].recs.length:=by have:=congrArg List.length hmp;simpa[aG]using this
 have hrw:∀x∈recs,x.row.length≤1000000:=fun x hx=>by
  have h:aN x∈aG rt[k]:=by rw[←hmp];exact List.mem_map_of_mem hx
  obtain⟨y,hy,hyx⟩:=List.mem_map.1 h
  have h2:y.row=x.row:=congrArg (fun p=>p.1) hyx
  rw[←h2]
  exact eF y hy
 have hrl:recs.length≤1000000:=by omega
 have tO:=qh wE
 have HLL:=qh hll
 have hzk:=HZ.out
 rw[HKV.out,←hmp,←fQ]at hzk
 have HMP:=qh hmp
 have HT0:=qh hT0
 have HLK:=qh hlk
 have HO:=qh hO
 have HT:=qh hT
 have HPL:=qh hpl
 have HZK:=qh hzk
 have HRW:=qh hrw
 have hkn:decide (k<rt.length)=true:=by simpa using hk
 have hzq:=hb1.size
 obtain⟨⟨q0,q1,q2,q3⟩,q4,⟨q5,q6,q7⟩,q8,q9,q10,q11⟩:=Chg.fT hX1
 simp only at q0 q1 q2 q3 q4 q5 q6 q7 q8 q9 q10 q11
 clear hX1 hmp hT0 hlk hO hT hpl hzk hrw qg eF wE hll
 go_wp2_with fail
 (with_reducible refine(gJ ⟨kd,sq,dy,(k:Int),A0,cp,row,key,cl,vl⟩ _ (HR.out.next (ae hx1 ak hx1.size)) hrlen H1.out HKV.out).mono ?_)
 rintro e w2 ⟨rfl,hb2⟩
 clear q0 q1 q2 q3 q4 q5 q6 q7 q8 q9 q10 q11
 have hz2:=hb2.size
 have hX2:=HX1.out.below hb2 omA
 have HX2:=qh hX2
 obtain⟨⟨q0,q1,q2,q3⟩,q4,⟨q5,q6,q7⟩,q8,q9,q10,q11⟩:=Chg.fT hX2
 simp only at q0 q1 q2 q3 q4 q5 q6 q7 q8 q9 q10 q11
 clear hX2 g0
 go_wp2_with fail
 (with_reducible refine(iB TA tc recs.length recs kv _ (HT0.out.read.next hb2) rfl hrl HRW.out HZK.out).mono ?_)
 rintro e U ⟨rfl,hb3⟩
 clear q0 q1 q2 q3 q4 q5 q6 q7 q8 q9 q10 q11
 have hbU:=ae hb2 hb3 hb2.size
 have hzU:=hbU.size
 have hxU:=ae hx1 hbU hx1.size
 have hX3:=HX1.out.below hbU omA
 have HX3:=qh hX3
 have HO3:=qh (HO.out.below hbU nlr)
 have HT3:=qh (HT.out.below hbU nlr)
 have hbase:w.heap.size≤W.heap.size:=hbW.size
 have Gu:w.heap.size<U.heap.size:=by omega
 have HRR:=qh ((HT3.out.recs hkl).read)
 rw[HLK.out]at HRR
 have EO:=qh HRR.out.1
 clear HX1 HO HT hb2 hb3 hz2 HR H1
 obtain⟨⟨q0,q1,q2,q3⟩,q4,⟨q5,q6,q7⟩,q8,q9,q10,q11⟩:=Chg.fT hX3
 simp only at q0 q1 q2 q3 q4 q5 q6 q7 q8 q9 q10 q11
 clear hX3
 have hjl:j<recs.length:=by have:=tO.out;omega
 have hro:=HT3.out.recs hkl
 rw[HLK.out]at hro
 obtain⟨tb,htb⟩:=fw hro.1 (Nat.lt_of_le_of_lt (Nat.zero_le _) hjl)
 have hcap:=qN hro.1
 simp only at htb hcap
 subst htb
 have HRO:=qh hro
 have hjc:j≤tc:=by omega
 have Ud:j+1≤tc:=by omega
 have hwr:IntKind.i64.wrap ((j:Int)+1)=((j+1:Nat):Int):=by rw[show (j:Int)+1=((j+1:Nat):Int) by omega];exact IntWalk.i64_in _ omA
 have rQ:Hid (∀u2 A3 c3 v,Below U.heap.size U u2→ay u2 U.heap.size 126 Rcd.cells 3 (.slice A3 (recs.take j++recs.drop (j+1)).length c3) (recs.take j++recs.drop (j+1))→v=.slice A3 (recs.take j++recs.drop (j+1)).length c3→iE w rt.length (aT (rt.map aG) ⟨kd,sq,dy,(k:Int),A0,cp,row,key,cl,vl⟩) (.returned (.slice (some ⟨q,0,none⟩) rt.length rt.length)) (u2.setCell ⟨q,k,none⟩ v)):=qh fun u2 A3 c3 v hb hown hv=>by
  refine sF HO3.out HLL.out HT3.out hkl HPL.out rfl hbase hxU hb ⟨hown.mono omA,fun x hx =>?_⟩ ?_ hv
  ·have hin:x∈recs:=by
    rcases List.mem_append.1 hx with h|h
    ·exact List.mem_of_mem_take h
    ·exact List.mem_of_mem_drop h
   have:=HRO.out.2 x hin
   exact⟨this.1.below hb nlr,this.2.below hb nlr⟩
  ·rw[HLK.out]
   show (recs.take j++recs.drop (j+1)).map aN=dz (recs.map aN) _
   rw[yK HC.out.1 HC.out.2 (j:=j) (by rw[HKV.out,←fQ];exact HZK.out)]
   simp[kP,List.map_take,List.map_drop]
 have hi1:(j:Int)≤(j:Int)+1:=by omega
 have hi2:(0:Int)≤(j:Int)+1:=by omega
 have hi3:(j:Int)+1≤(recs.length:Int):=by omega
 clear hro
 by_cases hcm:tc=j+1
 ·have hcut:ai U U.heap.size Rcd.cells 3 (some ⟨tb,0,none⟩) (recs.drop (j+1)):=by
   rw[List.drop_eq_nil_of_le omA]
   exact ai.nil
  go_upto_region 4 with (fail)
  exact Jv
 ·have hcut:ai U U.heap.size Rcd.cells 3 (some ⟨tb,(j+1)*3,none⟩) (recs.drop (j+1)):=by have h:=EO.out.cut (c:=tc) (j+1) omA;rw[if_neg hcm]at h;simpa using h
  go_upto_region 4 with (fail)
  exact Jv
theorem Bf(RA:Option Addr)(rc n:Nat)(rt:List RTab)(k:Nat)(kd sq dy:Int)(A0:Option Addr)(cp:Nat)(row:List Val)(key:Val)(cl:Int)(vl:Val)(w:World)(hrt:aJ w w.heap.size RA rt)(hn:rt.length=n)(hsr:dQ rt)(hk:k<rt.length)(hR:ai w w.heap.size Val.cells 3 A0 row)(hrlen:row.length≤1000000)(h1:kd=1→0<row.length){z:Int}(hz:eU (aG rt[k]) (keyOf ⟨kd,sq,dy,(k:Int),A0,cp,row,key,cl,vl⟩)=z)(hk2:kd=2)(hc:0≤z)(sQ:∃col:Nat,cl=(col:Int) ∧ ∀r∈rt[k].recs,col<r.row.length∧col<r.seq.length):
 Calls Tryz.prog 56 #[.slice RA n rc,.agg #[.int .i64 kd,.int .i64 sq,.int .i64 dy,.int .i64 (k:Int),.slice A0 row.length cp,.int .i64 key.kind,.int .i64 key.num,.string key.text,.int .i64 cl,.int .i64 vl.kind,.int .i64 vl.num,.string vl.text]] w (iE w n (aT (rt.map aG) ⟨kd,sq,dy,(k:Int),A0,cp,row,key,cl,vl⟩)):=by
 obtain⟨col,hcl,sQ⟩:=sQ
 have HCL:=qh hcl
 have hkd:(kd == 1)=false:=by rw[hk2];rfl
 have O9:(kd == 2)=true:=by rw[hk2];rfl
 have HK2:=qh hk2
 have rR:=qh sQ
 obtain⟨j,hj,hje⟩:=rD (by rw[hz];exact hc)
 have hjr:j<rt[k].recs.length:=by simpa[aG]using hj
 rw[hz]at hje
 subst hje
 have hz0:decide ((j:Int)<0)=false:=by simp
 clear hc hj sQ hcl hk2
 subst hn
 have hrn:=hsr.len
 have qg:=hsr.recs rt[k] (lgm hk)
 have eF:=hsr.row rt[k] (lgm hk)
 obtain⟨kv,hkv⟩:∃kv,keyOf ⟨kd,sq,dy,(k:Int),A0,cp,row,key,cl,vl⟩=kv:=⟨_,rfl⟩
 have HKV:=qh hkv
 have HZ:=qh hz
 have HRT:=qh hrt
 have HSR:=qh hsr
 have HR:=qh hR
 have H1:=qh h1
 clear hz hrt hsr hR h1 hkv
 go_enter Tryz.func56,Tryz.ntmps56
 go_upto_region 1 with (fail)
 refine aj (P:=fun u=>Code.wp _ _ _ _ u) (R:=fun u=>Blk u w.heap.size 64 (Chg.cells ⟨kd,sq,dy,(k:Int),A0,cp,row,key,cl,vl⟩).toArray∧Below w.heap.size w u) ⟨?_,?_⟩ ?_
 ·exact Blk.new _ _ _
 ·exact ak
 rintro W ⟨hX,hbW⟩
 have hzW:=hX.lt
 have HX:=qh hX
 clear hX
 go_wp2_with fail
 (with_reducible refine(ku RA rc rt.length rt _ (HRT.out.next (ae hbW brf hbW.size)) rfl HSR.out).mono ?_)
 rintro e w1 ⟨q,l,rfl,hq,hll,hO,hT,hpl,hb1⟩
 have hx1:=ae hbW hb1 hbW.size
 have hX1:=HX.out.below hb1 omA
 have HX1:=qh hX1
 have hkl:k<l.length:=by omega
 have g0:=hO.eY bg (by rw[hll]) hkl (j:= 0) rfl
 have hmp:=zN hpl hkl hk
 have hT0:=hT.recs hkl
 obtain⟨⟨TA,tc,recs⟩,hlk⟩:∃x:RTab,l[k]=x:=⟨_,rfl⟩
 rw[hlk]at g0 hmp hT0
 simp only[Nat.mul_one,Nat.add_zero]at g0 hmp hT0
 have wE:recs.length=rt[k].recs.length:=by have:=congrArg List.length hmp;simpa[aG]using this
 have hrw:∀x∈recs,x.row.length≤1000000:=fun x hx=>by
  have h:aN x∈aG rt[k]:=by rw[←hmp];exact List.mem_map_of_mem hx
  obtain⟨y,hy,hyx⟩:=List.mem_map.1 h
  have h2:y.row=x.row:=congrArg (fun p=>p.1) hyx
  rw[←h2]
  exact eF y hy
 have hrl:recs.length≤1000000:=by omega
 have tO:=qh wE
 have HLL:=qh hll
 have hzk:=HZ.out
 rw[HKV.out,←hmp,←fQ]at hzk
 have HMP:=qh hmp
 have HT0:=qh hT0
 have HLK:=qh hlk
 have HO:=qh hO
 have HT:=qh hT
 have HPL:=qh hpl
 have HZK:=qh hzk
 have HRW:=qh hrw
 have hkn:decide (k<rt.length)=true:=by simpa using hk
 have hzq:=hb1.size
 obtain⟨⟨q0,q1,q2,q3⟩,q4,⟨q5,q6,q7⟩,q8,q9,q10,q11⟩:=Chg.fT hX1
 simp only at q0 q1 q2 q3 q4 q5 q6 q7 q8 q9 q10 q11
 clear hX1 hmp hT0 hlk hO hT hpl hzk hrw qg eF wE hll
 go_wp2_with fail
 (with_reducible refine(gJ ⟨kd,sq,dy,(k:Int),A0,cp,row,key,cl,vl⟩ _ (HR.out.next (ae hx1 ak hx1.size)) hrlen H1.out HKV.out).mono ?_)
 rintro e w2 ⟨rfl,hb2⟩
 clear q0 q1 q2 q3 q4 q5 q6 q7 q8 q9 q10 q11
 have hz2:=hb2.size
 have hX2:=HX1.out.below hb2 omA
 have HX2:=qh hX2
 obtain⟨⟨q0,q1,q2,q3⟩,q4,⟨q5,q6,q7⟩,q8,q9,q10,q11⟩:=Chg.fT hX2
 simp only at q0 q1 q2 q3 q4 q5 q6 q7 q8 q9 q10 q11
 clear hX2 g0
 go_wp2_with fail
 (with_reducible refine(iB TA tc recs.length recs kv _ (HT0.out.read.next hb2) rfl hrl HRW.out HZK.out).mono ?_)
 rintro e U ⟨rfl,hb3⟩
 clear q0 q1 q2 q3 q4 q5 q6 q7 q8 q9 q10 q11
 have hbU:=ae hb2 hb3 hb2.size
 have hzU:=hbU.size
 have hxU:=ae hx1 hbU hx1.size
 have hX3:=HX1.out.below hbU omA
 have HX3:=qh hX3
 have HO3:=qh (HO.out.below hbU nlr)
 have HT3:=qh (HT.out.below hbU nlr)
 have hbase:w.heap.size≤W.heap.size:=hbW.size
 have Gu:w.heap.size<U.heap.size:=by omega
 have HRR:=qh ((HT3.out.recs hkl).read)
 rw[HLK.out]at HRR
 have EO:=qh HRR.out.1
 clear HX1 HO HT hb2 hb3 hz2 HR H1
 obtain⟨⟨q0,q1,q2,q3⟩,q4,⟨q5,q6,q7⟩,q8,q9,q10,q11⟩:=Chg.fT hX3
 simp only at q0 q1 q2 q3 q4 q5 q6 q7 q8 q9 q10 q11
 clear hX3
 have hjl:j<recs.length:=by have:=tO.out;omega
 have Pf:decide (j<recs.length)=true:=by simpa using hjl
 have hro:=HT3.out.recs hkl
 rw[HLK.out]at hro
 obtain⟨tb,htb⟩:=fw hro.1 (Nat.lt_of_le_of_lt (Nat.zero_le _) hjl)
 simp only at htb
 subst htb
 have hcj:col<recs[j].row.length∧col<recs[j].seq.length:=by
  have h:aN recs[j]∈aG rt[k]:=by rw[←HMP.out];exact List.mem_map_of_mem (lgm hjl)
  obtain⟨y,hy,hyx⟩:=List.mem_map.1 h
  have h2:y.row=recs[j].row:=congrArg (fun p=>p.1) hyx
  have h3:y.seq=recs[j].seq:=congrArg (fun p=>p.2.1) hyx
  rw[←h2,←h3]
  exact rR.out y hy
 have hrow:=hro.2 recs[j] (lgm hjl)
 have d0:=hro.1.eY aR rfl hjl (j:= 0) rfl
 have d1:=hro.1.eY aR rfl hjl (j:= 1) rfl
 have VW:tb<U.heap.size:=hro.1.lt tb rfl
 have V8:W.heap.size≤tb:=hro.1.row tb rfl
 obtain⟨⟨QA,qc,jO,QS,qs,kN,qd⟩,hqr⟩:∃x:Rcd,recs[j]=x:=⟨_,rfl⟩
 rw[hqr]at hcj hrow d0 d1
 simp only[Nat.add_zero]at hcj hrow d0 d1
 obtain⟨hc1,hc2⟩:=hcj
 have dU:=hrow.1
 have hrow2:=hrow.2
 simp only at dU hrow2
 obtain⟨rb,rfl⟩:=fw dU (Nat.lt_of_le_of_lt (Nat.zero_le _) hc1)
 obtain⟨sb,rfl⟩:=fw hrow2 (Nat.lt_of_le_of_lt (Nat.zero_le _) hc2)
 have TJ:W.heap.size≤rb:=dU.row rb rfl
 have QF:W.heap.size≤sb:=hrow2.row sb rfl
 have TI:rb<U.heap.size:=dU.lt rb rfl
 have TF:sb<U.heap.size:=hrow2.lt sb rfl
 have hn1:rb≠tb:=fun e=>hro.1.dK dU zm tb rfl (by rw[←e];rfl)
 have hn2:sb≠tb:=fun e=>hro.1.dK hrow2 CX tb rfl (by rw[←e];rfl)
 have hn3:rb≠sb:=fun e=>dU.dK hrow2 (by decide) rb rfl (by rw[←e];rfl)
 have hn4:rb≠w.heap.size:=by omega
 have hn5:sb≠w.heap.size:=by omega
 have e0:=dU.eY bF rfl hc1 (j:= 0) rfl
 have e1:=dU.eY bF rfl hc1 (j:= 1) rfl
 have e2:=dU.eY bF rfl hc1 (j:= 2) rfl
 have s0:=hrow2.eY aV rfl hc2 (j:= 0) rfl
 simp only[Nat.mul_one,Nat.add_zero]at e0 e1 e2 s0
 have fr0:=dU.iN rfl
 have fs0:=hrow2.iN rfl
 have hc1':decide (col<jO.length)=true:=by simpa using hc1
 have hc2':decide (col<kN.length)=true:=by simpa using hc2
 have KU:=qh dU
 have KT:=qh hrow2
 have HQR:=qh hqr
 clear hro hrow dU hrow2 hqr rR
 go_upto_region 21 with (fail)
 rw[HCL.out]at q8
 refine aW (S:=(fun u=>u.cell? ⟨w.heap.size,8,none⟩=some (.int .i64 (col:Int))∧u.cell? ⟨w.heap.size,9,none⟩=some (.int .i64 vl.kind)∧u.cell? ⟨w.heap.size,10,none⟩=some (.int .i64 vl.num)∧u.cell? ⟨w.heap.size,11,none⟩=some (.string vl.text)∧u.cell? ⟨w.heap.size,1,none⟩=some (.int .i64 sq)∧u.cell? ⟨tb,j*3,none⟩=some (.slice (some ⟨rb,0,none⟩) jO.length qc)∧u.cell? ⟨tb,j*3+1,none⟩=some (.slice (some ⟨sb,0,none⟩) kN.length qs))) [21] krA ⟨q8,q9,q10,q11,q1,d0,d1⟩ (fun hHeld =>?_)
 refine tkT 0 hHeld ?_
 refine tkT 1 hHeld ?_
 refine tkT 2 hHeld ?_
 refine tkT 3 hHeld ?_
 refine tkT 4 hHeld ?_
 refine tkT 5 hHeld ?_
 refine tkT 6 hHeld ?_
 refine tkT 7 hHeld ?_
 refine tkT 8 hHeld ?_
 refine tkT 9 hHeld ?_
 refine tkT 10 hHeld ?_
 refine tkT 11 hHeld ?_
 refine tkT 12 hHeld ?_
 refine tkT 13 hHeld ?_
 refine tkT 14 hHeld ?_
 refine tkT 15 hHeld ?_
 refine tkT 16 hHeld ?_
 refine tkT 17 hHeld ?_
 refine r1T 18 (fun K hK =>?_)
 go_simp
 refine hK.out _ _ _ ⟨?_,?_,?_,?_,?_,?_,?_⟩ (fun hHeld =>?_)
 iterate 7 (go_simp)
 clear hK K
 refine r1T 19 (fun K hK =>?_)
 go_simp
 refine hK.out _ _ _ ⟨?_,?_,?_,?_,?_,?_,?_⟩ (fun hHeld =>?_)
 ·exact fe q8 hn4 hn4 hn4
 ·exact fe q9 hn4 hn4 hn4
 ·exact fe q10 hn4 hn4 hn4
 ·exact fe q11 hn4 hn4 hn4
 ·exact fe q1 hn4 hn4 hn4
 ·exact fe d0 hn1 hn1 hn1
 ·exact fe d1 hn1 hn1 hn1
 clear hK K
 have s0':=fe (u1:= .int .i64 vl.kind) (u2:= .int .i64 vl.num) (u3:= .string vl.text) (p1:=⟨rb,col*3,none⟩) (p2:=⟨rb,col*3+1,none⟩) (p3:=⟨rb,col*3+2,none⟩) s0 hn3 hn3 hn3
 obtain⟨U1,hU1⟩:∃U1,((U.setCell ⟨rb,col*3,none⟩ (.int .i64 vl.kind)).setCell ⟨rb,col*3+1,none⟩ (.int .i64 vl.num)).setCell ⟨rb,col*3+2,none⟩ (.string vl.text)=U1:=⟨_,rfl⟩
 have hP1:=qM KU.out rfl hc1 vl
 rw[hU1]at hP1 s0' hHeld
 rw[hU1]
 obtain⟨vs,hvs⟩:=KU.out.typ (q:=rb) rfl
 have hP2:=((KT.out.fA (i:=col*3) hvs (by decide) (.int .i64 vl.kind)).far (p:=⟨rb,col*3+1,none⟩) (fun g hg e=>hn3 (e.symm.trans (by simpa[Value.ownBlock]using hg.symm))) (.int .i64 vl.num)).far (p:=⟨rb,col*3+2,none⟩) (fun g hg e=>hn3 (e.symm.trans (by simpa[Value.ownBlock]using hg.symm))) (.string vl.text)
 rw[hU1]at hP2
 have hfr:=hP2.iN rfl col
 have BK:∀g,g≠rb→U1.heap[g]?=U.heap[g]?:= fun g hg=>by
  rw[←hU1,Below.heap_setCell _ _ _ _ hg,Below.heap_setCell _ _ _ _ hg,Below.heap_setCell _ _ _ _ hg]
 have Kl:Below w.heap.size w U1:=by
  rw[←hU1]
  exact((hxU.setCell (by show _≤rb;omega) _).setCell (by show _≤rb;omega) _).setCell (by show _≤rb;omega) _
 have HP1:=qh hP1
 have HP2:=qh hP2
 have PZ:=qh BK
 have P7:=qh Kl
 clear hU1 hP1 hP2 hvs BK Kl
 refine r1T 20 (fun K hK =>?_)
 go_simp
 refine hK.out _ _ _ hHeld (fun hHeld =>?_)
 clear hK K
 refine rzT 21 (fun K hK =>?_)
 go_simp
 refine hK.out _ _ _ ?_
 clear hK K
 refine bC krA ?_ _
 clear hHeld
 obtain⟨is,his⟩:=HP2.out.typ (q:=sb) rfl
 have hP3:=HP2.out.gp aV rfl hc2 sq (j:= 0) (o:=col) (u:= .int .i64 sq) omA omA rfl
 have hP4:=HP1.out.fA (i:=col) his (by decide) (.int .i64 sq)
 have rf:iE w rt.length (aT (rt.map aG) ⟨kd,sq,dy,(k:Int),A0,cp,row,key,cl,vl⟩) (.returned (.slice (some ⟨q,0,none⟩) rt.length rt.length)) (U1.setCell ⟨sb,col,none⟩ (.int .i64 sq)):=by
  have hjk:j<l[k].recs.length:=by rw[HLK.out];exact hjl
  have hrj:l[k].recs[j]=⟨some ⟨rb,0,none⟩,qc,jO,some ⟨sb,0,none⟩,qs,kN,qd⟩:=by
   have h:∀t:RTab,t=⟨some ⟨tb,0,none⟩,tc,recs⟩→∀h:j<t.recs.length,t.recs[j]=recs[j]:=fun t ht h=>by subst ht;rfl
   rw[h _ HLK.out hjk]
   exact HQR.out
  refine Ii (U:=U) HO3.out HLL.out HT3.out hkl HPL.out rfl hbase (P7.out.setCell (by show _≤sb;omega) _) hjk (r':=⟨some ⟨rb,0,none⟩,qc,jO.set col vl,some ⟨sb,0,none⟩,qs,kN.set col sq,qd⟩) ?_ ⟨?_,?_⟩ ?_ ?_
  ·rw[hrj]
   simp[Rcd.cells]
  ·simpa using hP4
  ·simpa using hP3
  ·rw[hrj]
   intro g h1 h2
   have h2':g≠sb:=h2 ⟨sb,0,none⟩ rfl
   rw[Below.heap_setCell _ ⟨sb,col,none⟩ _ g h2']
   exact PZ.out g (h1 _ rfl)
  ·have h:=AO hjl HQR.out (x:=⟨kd,sq,dy,(k:Int),A0,cp,row,key,cl,vl⟩) HCL.out (A':=some ⟨rb,0,none⟩) (S':=some ⟨sb,0,none⟩) (c':=qc) (s':=qs)
   have h2:∀t:RTab,t=⟨some ⟨tb,0,none⟩,tc,recs⟩→t.recs=recs:=fun t ht=>by subst ht;rfl
   rw[h2 _ HLK.out,sG (x:=⟨kd,sq,dy,(k:Int),A0,cp,row,key,cl,vl⟩) HK2.out (j:=j) (by rw[HKV.out,←fQ];exact HZK.out)]
   exact h
 have aZ:=qh rf
 clear rf hP3 hP4 his
 go_wp2_with fail
 go_ret
 first|exact aZ.out|exact aZ.out.drew
theorem Fa{P:Prop}(h:P:=by
 (
 refine aW (S:=(fun _=>True)) [] krA trivial (fun hHeld =>?_)
 refine tkT 1 hHeld ?_
 refine tkT 2 hHeld ?_
 refine tkT 3 hHeld ?_
 refine tkT 5 hHeld ?_
 refine tkT 6 hHeld ?_
 refine tkT 7 hHeld ?_
 refine tkT 8 hHeld ?_
 refine r1T 0 (fun K hK =>?_)
 go_simp
 refine hK.out _ _ _ trivial (fun hHeld =>?_)
 clear hK K
 refine r1T 4 (fun K hK =>?_)
 (refine aB _ rfl (.tmp 42) (.tmp 45) 127 rfl 126 ir _ Rcd.cells 3 56 Tryz.underlying127 hir mK mJ mI rfl omA aR dO U.heap.size (.slice (some ⟨U.heap.size,0,none⟩) 0 0) [] rfl (ay.empty nbA leA) _ _ _ (recs.take j) rfl smA ((EO.out.take j).next ak) smA mxA leA ?_;intro v1 u1 hown1 hg1 sS;have hb1':Below U.heap.size U u1:=Below.grown ak hg1 leA (bS leA);have hsz1:=hb1'.size)
 refine hK.out _ _ _ trivial (fun hHeld =>?_)
 clear hK K
 refine r1T 9 (fun K hK =>?_)
 (refine aB _ rfl (.tmp 46) (.tmp 50) 127 rfl 126 ir _ Rcd.cells 3 56 Tryz.underlying127 hir mK mJ mI rfl omA aR dO U.heap.size v1 ([]++recs.take j) rfl hown1 _ _ _ (recs.drop (j+1)) rfl spA (hcut.next hb1') smA mxA hb1'.size ?_;intro v2 u2 hown2 hg2 x9;have hb2':Below U.heap.size U u2:=Below.grown hb1' hg2 hb1'.size hown1.row)
 rw[←HLD.out]at hown2
 obtain⟨LA,LC,rfl,_,_⟩:=hown2.form
 refine hK.out _ _ _ trivial (fun hHeld =>?_)
 clear hK K
 refine r1T 10 (fun K hK =>?_)
 go_simp
 refine hK.out _ _ _ trivial (fun hHeld =>?_)
 clear hK K
 refine bC krA ?_ _
 clear hHeld
 go_wp2_with fail
 go_meet
 exact HOLD.out LA LC _ hown2 hb2')):P:=h
theorem LW{P:Prop}(h:P:=by
 (
 have hmc:m≤LC:=by omega
 by_cases hcm:LC=m
 ·have hcut:ai V V.heap.size Rcd.cells 3 (some ⟨lb,0,none⟩) (L.drop m):=by
   rw[List.drop_eq_nil_of_le omA]
   exact ai.nil
  exact zQ
 ·have hcut:ai V V.heap.size Rcd.cells 3 (some ⟨lb,m*3,none⟩) (L.drop m):=by have h:=HSL.out.cut (c:=LC) m omA;rw[if_neg hcm]at h;simpa using h
  exact zQ)):P:=h
theorem LV{P:Prop}(h:P:=by
 (
 go_upto_region 18 with (fail)
 obtain⟨V,rfl⟩:∃V:World,V=wq:=⟨_,rfl⟩
 have nS:Below V0.heap.size V0 V:=ae hbV hq hbV.size
 have hoV:Below wo.heap.size wo V:=ae hb2 hq hb2.size
 have TB:=hoV.size
 have Tw:=nS.size
 have hYV:Y<V.heap.size:=by omega
 have BM:w.heap.size<V.heap.size:=by omega
 have hYb:=HBY.out.below hoV hYr
 have y0:=hYb.cell 0
 have y1:=hYb.cell 1
 have y2:=hYb.cell 2
 simp only[gE3]at y0 y1 y2
 rw[←MX.out]at y1
 have hXb:=HXV.out.below nS uz
 obtain⟨⟨q0,q1,q2,q3⟩,q4,⟨q5,q6,q7⟩,q8,q9,q10,q11⟩:=Chg.fT hXb
 simp only at q0 q1 q2 q3 q4 q5 q6 q7 q8 q9 q10 q11
 have HSL:=qh (HLR.out.1.next nS)
 have M6:=qh (HOV.out.below nS nlr)
 have PN:=qh (HTV.out.below nS nlr)
 have PU:=qh (HRO.out.below hoV nlr)
 have PQ:=qh (Sj.out.below hoV nlr)
 have rQ:Hid (∀u3 A3 c3 v,Below V.heap.size V u3→ay u3 V.heap.size 126 Rcd.cells 3 (.slice A3 ([]++L.take m ++ [(⟨some ⟨rbb,0,none⟩,rc',row,SA',sc',sqs,dy⟩:Rcd)]++L.drop m).length c3) ([]++L.take m ++ [(⟨some ⟨rbb,0,none⟩,rc',row,SA',sc',sqs,dy⟩:Rcd)]++L.drop m)→v=.slice A3 ([]++L.take m ++ [(⟨some ⟨rbb,0,none⟩,rc',row,SA',sc',sqs,dy⟩:Rcd)]++L.drop m).length c3→iE w rt.length (aT (rt.map aG) ⟨kd,sq,dy,(k:Int),A0,cp,row,key,cl,vl⟩) (.returned (.slice (some ⟨q,0,none⟩) rt.length rt.length)) (u3.setCell ⟨q,k,none⟩ v)):=qh fun u3 A3 c3 v hb hown hv=>by
  have Kj:=ae nS hb nS.size
  refine sF M6.out HLL.out PN.out hkl HPL.out rfl hbase (ae hxV nS hxV.size) hb ⟨hown.mono omA,fun x hx =>?_⟩ ?_ hv
  ·have hin:x∈L∨x=⟨some ⟨rbb,0,none⟩,rc',row,SA',sc',sqs,dy⟩:=by
    rcases List.mem_append.1 hx with h|h
    ·rcases List.mem_append.1 h with h|h
     ·exact .inl (List.mem_of_mem_take (by simpa using h))
     ·exact .inr (List.mem_singleton.1 h)
    ·exact .inl (List.mem_of_mem_drop h)
   rcases hin with hin|rfl
   ·have:=HLV.out.2 x hin
    exact⟨this.1.below Kj nlr,this.2.below Kj nlr⟩
   ·refine⟨(PU.out.below hb nlr).mono omA,?_⟩
    have h:=(PQ.out.below hb nlr).mono (b':=W.heap.size) omA
    rw[←MX.out]at h
    exact h
  ·rw[←HPF.out]
   unfold sN
   rw[M4.out]
   have hnp:jG ⟨kd,sq,dy,(k:Int),A0,cp,row,key,cl,vl⟩=aN ⟨some ⟨rbb,0,none⟩,rc',row,SA',sc',sqs,dy⟩:=by rw[←Si.out];rfl
   rw[hnp]
   simp[List.map_take,List.map_drop]
 clear hYb hXb
 (
  have hm0:m=0:=by have:=HL0.out;omega
  have hcut:ai V V.heap.size Rcd.cells 3 none (L.drop m):=by
   rw[List.drop_eq_nil_of_le (by rw[HL0.out];exact Nat.zero_le _)]
   exact ai.nil
  exact zQ))):P:=h
theorem E9{P:Prop}(h:P:=by
 (
 go_upto_region 18 with (fail)
 obtain⟨V,rfl⟩:∃V:World,V=wq:=⟨_,rfl⟩
 have nS:Below V0.heap.size V0 V:=ae hbV hq hbV.size
 have hoV:Below wo.heap.size wo V:=ae hb2 hq hb2.size
 have TB:=hoV.size
 have Tw:=nS.size
 have hYV:Y<V.heap.size:=by omega
 have BM:w.heap.size<V.heap.size:=by omega
 have hYb:=HBY.out.below hoV hYr
 have y0:=hYb.cell 0
 have y1:=hYb.cell 1
 have y2:=hYb.cell 2
 simp only[gE3]at y0 y1 y2
 rw[←MX.out]at y1
 have hXb:=HXV.out.below nS uz
 obtain⟨⟨q0,q1,q2,q3⟩,q4,⟨q5,q6,q7⟩,q8,q9,q10,q11⟩:=Chg.fT hXb
 simp only at q0 q1 q2 q3 q4 q5 q6 q7 q8 q9 q10 q11
 have HSL:=qh (HLR.out.1.next nS)
 have M6:=qh (HOV.out.below nS nlr)
 have PN:=qh (HTV.out.below nS nlr)
 have PU:=qh (HRO.out.below hoV nlr)
 have PQ:=qh (Sj.out.below hoV nlr)
 have rQ:Hid (∀u3 A3 c3 v,Below V.heap.size V u3→ay u3 V.heap.size 126 Rcd.cells 3 (.slice A3 ([]++L.take m ++ [(⟨some ⟨rbb,0,none⟩,rc',row,SA',sc',sqs,dy⟩:Rcd)]++L.drop m).length c3) ([]++L.take m ++ [(⟨some ⟨rbb,0,none⟩,rc',row,SA',sc',sqs,dy⟩:Rcd)]++L.drop m)→v=.slice A3 ([]++L.take m ++ [(⟨some ⟨rbb,0,none⟩,rc',row,SA',sc',sqs,dy⟩:Rcd)]++L.drop m).length c3→iE w rt.length (aT (rt.map aG) ⟨kd,sq,dy,(k:Int),A0,cp,row,key,cl,vl⟩) (.returned (.slice (some ⟨q,0,none⟩) rt.length rt.length)) (u3.setCell ⟨q,k,none⟩ v)):=qh fun u3 A3 c3 v hb hown hv=>by
  have Kj:=ae nS hb nS.size
  refine sF M6.out HLL.out PN.out hkl HPL.out rfl hbase (ae hxV nS hxV.size) hb ⟨hown.mono omA,fun x hx =>?_⟩ ?_ hv
  ·have hin:x∈L∨x=⟨some ⟨rbb,0,none⟩,rc',row,SA',sc',sqs,dy⟩:=by
    rcases List.mem_append.1 hx with h|h
    ·rcases List.mem_append.1 h with h|h
     ·exact .inl (List.mem_of_mem_take (by simpa using h))
     ·exact .inr (List.mem_singleton.1 h)
    ·exact .inl (List.mem_of_mem_drop h)
   rcases hin with hin|rfl
   ·have:=HLV.out.2 x hin
    exact⟨this.1.below Kj nlr,this.2.below Kj nlr⟩
   ·refine⟨(PU.out.below hb nlr).mono omA,?_⟩
    have h:=(PQ.out.below hb nlr).mono (b':=W.heap.size) omA
    rw[←MX.out]at h
    exact h
  ·rw[←HPF.out]
   unfold sN
   rw[M4.out]
   have hnp:jG ⟨kd,sq,dy,(k:Int),A0,cp,row,key,cl,vl⟩=aN ⟨some ⟨rbb,0,none⟩,rc',row,SA',sc',sqs,dy⟩:=by rw[←Si.out];rfl
   rw[hnp]
   simp[List.map_take,List.map_drop]
 clear hYb hXb
 exact LW)):P:=h
theorem zR{P:Prop}(h:P:=by
 refine r1T 8 (fun K hK =>?_)
 go_simp
 refine hK.out _ _ _ ⟨?_,?_⟩ (fun hHeld =>?_)
 iterate 2 (go_simp)
 clear hK K
 refine bC krA ?_ _
 clear hHeld
 go_wp2_with fail
 go_meet
 refine⟨_,RA',rc',rfl,?_,?_,?_,?_⟩
 ·first|exact Nat.le_refl _|omega|(simp;omega)
 ·first|exact Blk.new' rfl|exact rJ qi
 ·first|exact hown1.alloc _|exact sI hown1 qi (by decide)
 ·exact ak):P:=h
theorem zQ{P:Prop}(h:P:=by
 (
 refine aW (S:=(fun u=>u.cell? ⟨w.heap.size,3,none⟩=some (.int .i64 (k:Int))∧u.cell? ⟨Y,0,none⟩=some (.slice (some ⟨rbb,0,none⟩) row.length rc')∧u.cell? ⟨Y,1,none⟩=some (.slice SA' sqs.length sc')∧u.cell? ⟨Y,2,none⟩=some (.int .i64 dy))) [] krA ⟨q3,y0,y1,y2⟩ (fun hHeld =>?_)
 refine tkT 0 hHeld ?_
 refine tkT 1 hHeld ?_
 refine tkT 2 hHeld ?_
 refine tkT 4 hHeld ?_
 refine tkT 5 hHeld ?_
 refine tkT 6 hHeld ?_
 refine tkT 8 hHeld ?_
 refine tkT 11 hHeld ?_
 refine tkT 12 hHeld ?_
 refine tkT 13 hHeld ?_
 refine r2T 3 9 (fun K hK =>?_) (fun K hK =>?_)
 ·go_simp
  refine hK.out _ _ _ ⟨?_,?_,?_,?_⟩ (fun hHeld =>?_)
  iterate 4 (go_simp)
  clear hK K
  refine r2T 7 9 (fun K hK =>?_) (fun K hK =>?_)
  ·(refine aB _ rfl (.tmp 101) (.tmp 104) 127 rfl 126 ir _ Rcd.cells 3 56 Tryz.underlying127 hir mK mJ mI rfl omA aR dO V.heap.size (.slice (some ⟨V.heap.size,0,none⟩) 0 0) [] rfl (ay.empty nbA leA) _ _ _ (L.take m) rfl smA ((HSL.out.take m).next ak) smA mxA leA ?_;intro v1 u1 hown1 hg1 sS;have hb1':Below V.heap.size V u1:=Below.grown ak hg1 leA (bS leA);have hsz1:=hb1'.size;have JM:w.heap.size<u1.heap.size:=omA;have Qo:Y<u1.heap.size:=omA;have kx1:=(bQ hb1' w.heap.size BM).1;have ky1:=(bQ hb1' Y hYV).1)
   refine hK.out _ _ _ ⟨?_,?_,?_,?_⟩ (fun hHeld =>?_)
   iterate 4 (go_simp)
   clear hK K
   refine r1T 9 (fun K hK =>?_)
   go_simp
   refine hK.out _ _ _ ⟨?_,?_,?_,?_⟩ (fun hHeld =>?_)
   iterate 4 (go_simp)
   clear hK K
   refine r1T 10 (fun K hK =>?_)
   (refine aB _ rfl (.tmp 105) (.tmp 107) 127 rfl 126 ir _ Rcd.cells 3 56 Tryz.underlying127 hir mK mJ mI rfl omA aR dO V.heap.size v1 ([]++L.take m) rfl nfA _ _ _ [(⟨some ⟨rbb,0,none⟩,rc',row,SA',sc',sqs,dy⟩:Rcd)] rfl rfl (by exact Blk.one (enc:=Rcd.cells) (x:=⟨some ⟨rbb,0,none⟩,rc',row,SA',sc',sqs,dy⟩) (Blk.new' spA) spA) smA mxA (by have:=hb1'.size;simp;omega) ?_;intro v2 u2 hown2 hg2 x9;have hb2':Below V.heap.size V u2:=Below.grown ak hg2 (by have:=hb1'.size;simp;omega) hown1.row;have hsz2:=hb2'.size;have Qp:w.heap.size<u2.heap.size:=omA;have Qn:Y<u2.heap.size:=omA;have kx2:=(bQ hb2' w.heap.size BM).1;have ky2:=(bQ hb2' Y hYV).1)
   refine hK.out _ _ _ ⟨?_,?_,?_,?_⟩ (fun hHeld =>?_)
   iterate 4 (go_simp)
   clear hK K
   exact zP
  ·go_simp
   refine hK.out _ _ _ ⟨?_,?_,?_,?_⟩ (fun hHeld =>?_)
   iterate 4 (go_simp)
   clear hK K
   refine r1T 7 (fun K hK =>?_)
   (refine aB _ rfl (.tmp 101) (.tmp 104) 127 rfl 126 ir _ Rcd.cells 3 56 Tryz.underlying127 hir mK mJ mI rfl omA aR dO V.heap.size (.slice (some ⟨V.heap.size,0,none⟩) 0 0) [] rfl (ay.empty nbA leA) _ _ _ (L.take m) rfl smA ((HSL.out.take m).next ak) smA mxA leA ?_;intro v1 u1 hown1 hg1 sS;have hb1':Below V.heap.size V u1:=Below.grown ak hg1 leA (bS leA);have hsz1:=hb1'.size;have JM:w.heap.size<u1.heap.size:=omA;have Qo:Y<u1.heap.size:=omA;have kx1:=(bQ hb1' w.heap.size BM).1;have ky1:=(bQ hb1' Y hYV).1)
   have h40:Blk u1 (V.heap.size+1) 126 (Rcd.cells ⟨some ⟨rbb,0,none⟩,rc',row,SA',sc',sqs,dy⟩).toArray:=Blk.grown ndA hg1 (gT omA)
   refine hK.out _ _ _ ⟨?_,?_,?_,?_⟩ (fun hHeld =>?_)
   iterate 4 (go_simp)
   clear hK K
   refine r1T 10 (fun K hK =>?_)
   (refine aB _ rfl (.tmp 105) (.tmp 107) 127 rfl 126 ir _ Rcd.cells 3 56 Tryz.underlying127 hir mK mJ mI rfl omA aR dO V.heap.size v1 ([]++L.take m) rfl nfA _ _ _ [(⟨some ⟨rbb,0,none⟩,rc',row,SA',sc',sqs,dy⟩:Rcd)] rfl rfl (by exact Blk.one (enc:=Rcd.cells) (x:=⟨some ⟨rbb,0,none⟩,rc',row,SA',sc',sqs,dy⟩) h40 h40.lt) smA mxA (by have:=hb1'.size;simp;omega) ?_;intro v2 u2 hown2 hg2 x9;have hb2':Below V.heap.size V u2:=Below.grown ak hg2 (by have:=hb1'.size;simp;omega) hown1.row;have hsz2:=hb2'.size;have Qp:w.heap.size<u2.heap.size:=omA;have Qn:Y<u2.heap.size:=omA;have kx2:=(bQ hb2' w.heap.size BM).1;have ky2:=(bQ hb2' Y hYV).1)
   refine hK.out _ _ _ ⟨?_,?_,?_,?_⟩ (fun hHeld =>?_)
   iterate 4 (go_simp)
   clear hK K
   exact zP
 ·go_simp
  refine hK.out _ _ _ ⟨?_,?_,?_,?_⟩ (fun hHeld =>?_)
  iterate 4 (go_simp)
  clear hK K
  refine r1T 3 (fun K hK =>?_)
  go_simp
  refine hK.out _ _ _ ⟨?_,?_,?_,?_⟩ (fun hHeld =>?_)
  iterate 4 (go_simp)
  clear hK K
  refine r1T 7 (fun K hK =>?_)
  (refine aB _ rfl (.tmp 101) (.tmp 104) 127 rfl 126 ir _ Rcd.cells 3 56 Tryz.underlying127 hir mK mJ mI rfl omA aR dO V.heap.size (.slice (some ⟨(V.heap.size+1),0,none⟩) 0 0) [] rfl (ay.empty nbA leA) _ _ _ (L.take m) rfl smA ((HSL.out.take m).next ak) smA mxA leA ?_;intro v1 u1 hown1 hg1 sS;have hb1':Below V.heap.size V u1:=Below.grown ak hg1 leA (bS leA);have hsz1:=hb1'.size;have JM:w.heap.size<u1.heap.size:=omA;have Qo:Y<u1.heap.size:=omA;have kx1:=(bQ hb1' w.heap.size BM).1;have ky1:=(bQ hb1' Y hYV).1)
  have h40:Blk u1 V.heap.size 126 (Rcd.cells ⟨some ⟨rbb,0,none⟩,rc',row,SA',sc',sqs,dy⟩).toArray:=Blk.grown ncA hg1 (gT omA)
  refine hK.out _ _ _ ⟨?_,?_,?_,?_⟩ (fun hHeld =>?_)
  iterate 4 (go_simp)
  clear hK K
  refine r1T 10 (fun K hK =>?_)
  (refine aB _ rfl (.tmp 105) (.tmp 107) 127 rfl 126 ir _ Rcd.cells 3 56 Tryz.underlying127 hir mK mJ mI rfl omA aR dO V.heap.size v1 ([]++L.take m) rfl nfA _ _ _ [(⟨some ⟨rbb,0,none⟩,rc',row,SA',sc',sqs,dy⟩:Rcd)] rfl rfl (by exact Blk.one (enc:=Rcd.cells) (x:=⟨some ⟨rbb,0,none⟩,rc',row,SA',sc',sqs,dy⟩) h40 h40.lt) smA mxA (by have:=hb1'.size;simp;omega) ?_;intro v2 u2 hown2 hg2 x9;have hb2':Below V.heap.size V u2:=Below.grown ak hg2 (by have:=hb1'.size;simp;omega) hown1.row;have hsz2:=hb2'.size;have Qp:w.heap.size<u2.heap.size:=omA;have Qn:Y<u2.heap.size:=omA;have kx2:=(bQ hb2' w.heap.size BM).1;have ky2:=(bQ hb2' Y hYV).1)
  refine hK.out _ _ _ ⟨?_,?_,?_,?_⟩ (fun hHeld =>?_)
  iterate 4 (go_simp)
  clear hK K
  exact zP)):P:=h
theorem zP{P:Prop}(h:P:=by
 (
 refine r1T 14 (fun K hK =>?_)
 (refine aB _ rfl (.tmp 108) (.tmp 111) 127 rfl 126 ir _ Rcd.cells 3 56 Tryz.underlying127 hir mK mJ mI rfl omA aR dO V.heap.size v2 ([]++L.take m ++ [(⟨some ⟨rbb,0,none⟩,rc',row,SA',sc',sqs,dy⟩:Rcd)]) rfl hown2 _ _ _ (L.drop m) rfl (by first|(simp;done)|(have:=HL0.out;simp;omega)) (hcut.next hb2') smA mxA hb2'.size ?_;intro v3 u3 hown3 hg3 uJ;have Km:Below V.heap.size V u3:=Below.grown hb2' hg3 hb2'.size hown2.row;have VH:=Km.size;have kx3:=(bQ Km w.heap.size BM).1;have ky3:=(bQ Km Y hYV).1;obtain⟨A3,c3,hv3,_,_⟩:=hown3.form;obtain⟨n3,hn3⟩:∃n3,n3=([]++L.take m ++ [(⟨some ⟨rbb,0,none⟩,rc',row,SA',sc',sqs,dy⟩:Rcd)]++L.drop m).length:=⟨_,rfl⟩;rw[←hn3]at hv3;subst hv3;have HN3:=qh hn3;have CJ:=qh hown3;clear hn3 hown3)
 refine hK.out _ _ _ ⟨?_,?_,?_,?_⟩ (fun hHeld =>?_)
 iterate 4 (go_simp)
 clear hK K
 refine r1T 15 (fun K hK =>?_)
 go_simp
 refine hK.out _ _ _ ⟨?_,?_,?_,?_⟩ (fun hHeld =>?_)
 iterate 4 (go_simp)
 clear hK K
 refine r1T 16 (fun K hK =>?_)
 have Pv:=M6.out.below Km nlr
 have g3:=Pv.eY bg HLL.out.symm hkl (j:= 0) rfl
 have f3:=Pv.iN HLL.out.symm k
 simp only[Nat.mul_one,Nat.add_zero]at g3
 clear Pv
 go_simp
 have hqY:q≠Y:=(by have:=HOV.out.lt q rfl;omega)
 refine hK.out _ _ _ ⟨?_,?_,?_,?_⟩ (fun hHeld =>?_)
 go_simp
 iterate 3 (rw[World.cell?_setCell_far _ _ _ _ (by exact hqY)];go_simp)
 clear hK K
 refine bC krA ?_ _
 clear hHeld
 exact LU)):P:=h
theorem LU{P:Prop}(h:P:=by
 (
 have aZ:=qh (rQ.out u3 A3 c3 (.slice A3 n3 c3) Km (by rw[←HN3.out];exact CJ.out) (by rw[HN3.out]))
 go_wp2_with fail
 go_ret
 first|exact aZ.out|exact aZ.out.drew)):P:=h
theorem Bg(RA:Option Addr)(rc n:Nat)(rt:List RTab)(k:Nat)(kd sq dy:Int)(A0:Option Addr)(cp:Nat)(row:List Val)(key:Val)(cl:Int)(vl:Val)(w:World)(hrt:aJ w w.heap.size RA rt)(hn:rt.length=n)(hsr:dQ rt)(hk:k<rt.length)(hR:ai w w.heap.size Val.cells 3 A0 row)(hrlen:row.length≤1000000)(h1:kd=1→0<row.length){z:Int}(hz:eU (aG rt[k]) (keyOf ⟨kd,sq,dy,(k:Int),A0,cp,row,key,cl,vl⟩)=z)(hk1:kd=1)(hc:z<0→rt[k].recs.length<64)(hne:∀r∈rt[k].recs,0<r.row.length):
 Calls Tryz.prog 56 #[.slice RA n rc,.agg #[.int .i64 kd,.int .i64 sq,.int .i64 dy,.int .i64 (k:Int),.slice A0 row.length cp,.int .i64 key.kind,.int .i64 key.num,.string key.text,.int .i64 cl,.int .i64 vl.kind,.int .i64 vl.num,.string vl.text]] w (iE w n (aT (rt.map aG) ⟨kd,sq,dy,(k:Int),A0,cp,row,key,cl,vl⟩)):=by
 have hr0:=h1 hk1
 have hkd:(kd == 1)=true:=by rw[hk1];rfl
 have HK1:=qh hk1
 have HNE:=qh hne
 have Vg:=qh hc
 have HZ0:=qh hz
 obtain⟨ir,hir,mK,mJ,mI⟩:=info_parts jS
 obtain⟨iv,hiv,qX,qW,qV⟩:=info_parts qR
 obtain⟨ii,hii,D8,D7,D6⟩:=info_parts iL
 clear hc hne hk1
 subst hn
 have hrn:=hsr.len
 have qg:=hsr.recs rt[k] (lgm hk)
 have eF:=hsr.row rt[k] (lgm hk)
 obtain⟨kv,hkv⟩:∃kv,keyOf ⟨kd,sq,dy,(k:Int),A0,cp,row,key,cl,vl⟩=kv:=⟨_,rfl⟩
 have HKV:=qh hkv
 have HZ:=qh hz
 have HRT:=qh hrt
 have HSR:=qh hsr
 have HR:=qh hR
 have HR0:=HR
 have H1:=qh h1
 clear hz hrt hsr hR h1 hkv
 go_enter Tryz.func56,Tryz.ntmps56
 go_upto_region 1 with (fail)
 refine aj (P:=fun u=>Code.wp _ _ _ _ u) (R:=fun u=>Blk u w.heap.size 64 (Chg.cells ⟨kd,sq,dy,(k:Int),A0,cp,row,key,cl,vl⟩).toArray∧Below w.heap.size w u) ⟨?_,?_⟩ ?_
 ·exact Blk.new _ _ _
 ·exact ak
 rintro W ⟨hX,hbW⟩
 have hzW:=hX.lt
 have HX:=qh hX
 clear hX
 go_wp2_with fail
 (with_reducible refine(ku RA rc rt.length rt _ (HRT.out.next (ae hbW brf hbW.size)) rfl HSR.out).mono ?_)
 rintro e w1 ⟨q,l,rfl,hq,hll,hO,hT,hpl,hb1⟩
 have hx1:=ae hbW hb1 hbW.size
 have hX1:=HX.out.below hb1 omA
 have HX1:=qh hX1
 have hkl:k<l.length:=by omega
 have g0:=hO.eY bg (by rw[hll]) hkl (j:= 0) rfl
 have hmp:=zN hpl hkl hk
 have hT0:=hT.recs hkl
 obtain⟨⟨TA,tc,recs⟩,hlk⟩:∃x:RTab,l[k]=x:=⟨_,rfl⟩
 rw[hlk]at g0 hmp hT0
 simp only[Nat.mul_one,Nat.add_zero]at g0 hmp hT0
 have wE:recs.length=rt[k].recs.length:=by have:=congrArg List.length hmp;simpa[aG]using this
 have hrw:∀x∈recs,x.row.length≤1000000:=fun x hx=>by
  have h:aN x∈aG rt[k]:=by rw[←hmp];exact List.mem_map_of_mem hx
  obtain⟨y,hy,hyx⟩:=List.mem_map.1 h
  have h2:y.row=x.row:=congrArg (fun p=>p.1) hyx
  rw[←h2]
  exact eF y hy
 have hrl:recs.length≤1000000:=by omega
 have tO:=qh wE
 have HLL:=qh hll
 have hzk:=HZ.out
 rw[HKV.out,←hmp,←fQ]at hzk
 have HMP:=qh hmp
 have HT0:=qh hT0
 have HLK:=qh hlk
 have HO:=qh hO
 have HT:=qh hT
 have HPL:=qh hpl
 have HZK:=qh hzk
 have HRW:=qh hrw
 have hkn:decide (k<rt.length)=true:=by simpa using hk
 have hzq:=hb1.size
 obtain⟨⟨q0,q1,q2,q3⟩,q4,⟨q5,q6,q7⟩,q8,q9,q10,q11⟩:=Chg.fT hX1
 simp only at q0 q1 q2 q3 q4 q5 q6 q7 q8 q9 q10 q11
 clear hX1 hmp hT0 hlk hO hT hpl hzk hrw qg eF wE hll
 go_wp2_with fail
 (with_reducible refine(gJ ⟨kd,sq,dy,(k:Int),A0,cp,row,key,cl,vl⟩ _ (HR.out.next (ae hx1 ak hx1.size)) hrlen H1.out HKV.out).mono ?_)
 rintro e w2 ⟨rfl,hb2⟩
 clear q0 q1 q2 q3 q4 q5 q6 q7 q8 q9 q10 q11
 have hz2:=hb2.size
 have hX2:=HX1.out.below hb2 omA
 have HX2:=qh hX2
 obtain⟨⟨q0,q1,q2,q3⟩,q4,⟨q5,q6,q7⟩,q8,q9,q10,q11⟩:=Chg.fT hX2
 simp only at q0 q1 q2 q3 q4 q5 q6 q7 q8 q9 q10 q11
 clear hX2 g0
 go_wp2_with fail
 (with_reducible refine(iB TA tc recs.length recs kv _ (HT0.out.read.next hb2) rfl hrl HRW.out HZK.out).mono ?_)
 rintro e U ⟨rfl,hb3⟩
 clear q0 q1 q2 q3 q4 q5 q6 q7 q8 q9 q10 q11
 have hbU:=ae hb2 hb3 hb2.size
 have hzU:=hbU.size
 have hxU:=ae hx1 hbU hx1.size
 have hX3:=HX1.out.below hbU omA
 have HX3:=qh hX3
 have HO3:=qh (HO.out.below hbU nlr)
 have HT3:=qh (HT.out.below hbU nlr)
 have hbase:w.heap.size≤W.heap.size:=hbW.size
 have Gu:w.heap.size<U.heap.size:=by omega
 have HRR:=qh ((HT3.out.recs hkl).read)
 rw[HLK.out]at HRR
 have EO:=qh HRR.out.1
 clear HX1 HO HT hb2 hb3 hz2 HR H1
 obtain⟨⟨q0,q1,q2,q3⟩,q4,⟨q5,q6,q7⟩,q8,q9,q10,q11⟩:=Chg.fT hX3
 simp only at q0 q1 q2 q3 q4 q5 q6 q7 q8 q9 q10 q11
 clear hX3
 have hro:=HT3.out.recs hkl
 rw[HLK.out]at hro
 have HRO:=qh hro
 have Sw:Hid (∀x∈recs,0<x.row.length):=qh fun x hx=>by
  have h:aN x∈aG rt[k]:=by rw[←HMP.out];exact List.mem_map_of_mem hx
  obtain⟨y,hy,hyx⟩:=List.mem_map.1 h
  have h2:y.row=x.row:=congrArg (fun p=>p.1) hyx
  rw[←h2]
  exact HNE.out y hy
 have SN:Hid (l[k].recs=recs):=qh (by
  have h2:∀t:RTab,t=⟨TA,tc,recs⟩→t.recs=recs:=fun t ht=>by subst ht;rfl
  exact h2 _ HLK.out)
 clear hro
 go_upto_if 41 with (fail)
 go_cut [6] from 40 to 54 (fun v6 wx =>∃(LA:Option Addr) (LC:Nat) (L:List Rcd),v6=.slice LA L.length LC∧gm wx W.heap.size LA LC L∧Below U.heap.size U wx∧(∀x∈L,0<x.row.length)∧sN (L.map aN) (jG ⟨kd,sq,dy,(k:Int),A0,cp,row,key,cl,vl⟩)=dz (l[k].recs.map aN) ⟨kd,sq,dy,(k:Int),A0,cp,row,key,cl,vl⟩∧L.length≤1000000)
 case first =>
  by_cases hz0:0≤z
  ·obtain⟨j,hj,hje⟩:=rD (l:=aG rt[k]) (key:=keyOf ⟨kd,sq,dy,(k:Int),A0,cp,row,key,cl,vl⟩) (by rw[HZ0.out];exact hz0)
   have hjr:j<rt[k].recs.length:=by simpa[aG]using hj
   rw[HZ0.out]at hje
   subst hje
   have hz1:decide ((0:Int)≤(j:Int))=true:=by simp
   have hjl:j<recs.length:=by have:=tO.out;omega
   obtain⟨tb,htb⟩:∃g,TA=some ⟨g,0,none⟩:=fw HRO.out.1 (Nat.lt_of_le_of_lt (Nat.zero_le _) hjl)
   have hcap:recs.length≤tc:=qN HRO.out.1
   subst htb
   have hjc:j≤tc:=by omega
   have Ud:j+1≤tc:=by omega
   have hwr:IntKind.i64.wrap ((j:Int)+1)=((j+1:Nat):Int):=by rw[show (j:Int)+1=((j+1:Nat):Int) by omega];exact IntWalk.i64_in _ omA
   have hi1:(j:Int)≤(j:Int)+1:=by omega
   have hi2:(0:Int)≤(j:Int)+1:=by omega
   have hi3:(j:Int)+1≤(recs.length:Int):=by omega
   obtain⟨L,hLd⟩:∃L,L=[]++recs.take j++recs.drop (j+1):=⟨_,rfl⟩
   have HLD:=qh hLd
   have hLl:L.length≤1000000:=by rw[hLd];simp;omega
   have hsub:∀x∈L,x∈recs:=fun x hx=>by
    rw[hLd]at hx
    rcases List.mem_append.1 hx with h|h
    ·exact List.mem_of_mem_take (by simpa using h)
    ·exact List.mem_of_mem_drop h
   have HOLD:Hid (∀LA LC u2,ay u2 U.heap.size 126 Rcd.cells 3 (.slice LA L.length LC) L→Below U.heap.size U u2→∃(LA':Option Addr) (LC':Nat) (L':List Rcd),Value.slice LA L.length LC=.slice LA' L'.length LC'∧gm u2 W.heap.size LA' LC' L'∧Below U.heap.size U u2∧(∀x∈L',0<x.row.length)∧sN (L'.map aN) (jG ⟨kd,sq,dy,(k:Int),A0,cp,row,key,cl,vl⟩)=dz (l[k].recs.map aN) ⟨kd,sq,dy,(k:Int),A0,cp,row,key,cl,vl⟩∧L'.length≤1000000):=qh fun LA LC u2 hown hb=>by
    refine⟨LA,LC,L,rfl,⟨hown.mono omA,fun x hx =>?_⟩,hb,fun x hx=>Sw.out x (hsub x hx),?_,hLl⟩
    ·have:=HRO.out.2 x (hsub x hx)
     exact⟨this.1.below hb nlr,this.2.below hb nlr⟩
    ·rw[SN.out,yJ (x:=⟨kd,sq,dy,(k:Int),A0,cp,row,key,cl,vl⟩) (j:=j) HK1.out (by rw[HKV.out,←fQ];exact HZK.out),HLD.out]
     simp[kP,List.map_take,List.map_drop]
   clear hLd hsub hz0
   rw[hz1]
   go_upto_region 7 with (fail)
   by_cases hcm:tc=j+1
   ·have hcut:ai U U.heap.size Rcd.cells 3 (some ⟨tb,0,none⟩) (recs.drop (j+1)):=by
     rw[List.drop_eq_nil_of_le omA]
     exact ai.nil
    have hcm':=eq_true hcm
    clear hcm
    exact Fa
   ·have hcut:ai U U.heap.size Rcd.cells 3 (some ⟨tb,(j+1)*3,none⟩) (recs.drop (j+1)):=by have h:=EO.out.cut (c:=tc) (j+1) omA;rw[if_neg hcm]at h;simpa using h
    exact Fa
  ·have hz1:decide (0≤z)=false:=by simp;omega
   have h64:=Vg.out omA
   have Em:decide (64≤recs.length)=false:=by have:=tO.out;simp;omega
   have UG:decide ((64:Int)≤(recs.length:Int))=false:=by have:=tO.out;simp;omega
   have CL:Hid (sN (recs.map aN) (jG ⟨kd,sq,dy,(k:Int),A0,cp,row,key,cl,vl⟩)=dz (l[k].recs.map aN) ⟨kd,sq,dy,(k:Int),A0,cp,row,key,cl,vl⟩):=qh (by
    rw[SN.out,sH (x:=⟨kd,sq,dy,(k:Int),A0,cp,row,key,cl,vl⟩) HK1.out (by rw[HKV.out,←fQ,HZK.out];omega) (by have:=tO.out;simp;omega)])
   have PV:Hid (gm U W.heap.size TA tc recs):=HRO
   have hrl2:recs.length≤1000000:=by have:=tO.out;omega
   clear hz0 h64
   rw[hz1]
   go_wp2_with fail
   go_meet
   exact⟨TA,tc,recs,rfl,PV.out,Below.refl _ _,Sw.out,CL.out,hrl2⟩
 case rest =>
 obtain⟨LA,LC,L,rfl,QJ,Kk,Q4,hpf,hLl⟩:=hcut
 obtain⟨V0,rfl⟩:∃V0:World,V0=wc:=⟨_,rfl⟩
 have Vr:=Kk.size
 have HLV:=qh QJ
 have U9:=qh Q4
 have HPF:=qh hpf
 have HLR:=qh HLV.out.read
 have Vn:=qN HLV.out.1
 have HOC:=qh (Gf HLV.out.1)
 have HOV:=qh (HO3.out.below Kk nlr)
 have HTV:=qh (HT3.out.below Kk nlr)
 have hxV:=ae hxU Kk hxU.size
 have HRV:=qh (HR0.out.next hxV)
 have hXV:=HX3.out.below Kk Gu
 have HXV:=qh hXV
 have uz:w.heap.size<V0.heap.size:=by omega
 clear q0 q1 q2 q3 q4 q5 q6 q7 q8 q9 q10 q11
 obtain⟨⟨q0,q1,q2,q3⟩,q4,⟨q5,q6,q7⟩,q8,q9,q10,q11⟩:=Chg.fT hXV
 simp only at q0 q1 q2 q3 q4 q5 q6 q7 q8 q9 q10 q11
 clear hXV QJ Q4 hpf
 go_upto_region 10 with (fail)
 go_cut [8] from 56 to 62 (fun v8 wx =>∃Y RA' rc',v8=.pointer (some ⟨Y,0,none⟩)∧V0.heap.size≤Y∧Blk wx Y 126 #[.slice RA' row.length rc',.slice none 0 0,.int .i64 dy]∧ay wx V0.heap.size 62 Val.cells 3 (.slice RA' row.length rc') row∧Below V0.heap.size V0 wx)
 case first =>
  refine aW (S:=(fun u=>u.cell? ⟨w.heap.size,4,none⟩=some (.slice A0 row.length cp)∧u.cell? ⟨w.heap.size,2,none⟩=some (.int .i64 dy))) [] krA ⟨q4,q2⟩ (fun hHeld =>?_)
  refine tkT 1 hHeld ?_
  refine tkT 2 hHeld ?_
  refine tkT 4 hHeld ?_
  refine tkT 5 hHeld ?_
  refine r2T 0 7 (fun K hK =>?_) (fun K hK =>?_)
  ·go_simp
   refine hK.out _ _ _ ⟨?_,?_⟩ (fun hHeld =>?_)
   iterate 2 (go_simp)
   clear hK K
   refine r2T 3 7 (fun K hK =>?_) (fun K hK =>?_)
   ·(refine aB _ rfl (.tmp 56) (.tmp 58) 60 rfl 62 iv _ Val.cells 3 32 Tryz.underlying60 hiv qX qW qV rfl omA bF val_one V0.heap.size (.slice (some ⟨V0.heap.size,0,none⟩) 0 0) [] rfl (ay.empty nbA leA) _ _ _ row rfl rfl (HRV.out.next ak) smA mxA leA ?_;intro v1 u1 hown1 hg1 sS;have hb1':Below V0.heap.size V0 u1:=Below.grown ak hg1 leA (bS leA);have hsz1:=hb1'.size;have JM:w.heap.size<u1.heap.size:=omA;have kx1:=(bQ hb1' w.heap.size uz).1;rw[List.nil_append]at hown1;obtain⟨RA',rc',rfl,QM,_⟩:=hown1.form)
    refine hK.out _ _ _ ⟨?_,?_⟩ (fun hHeld =>?_)
    iterate 2 (go_simp)
    clear hK K
    refine tkT 6 hHeld ?_
    refine r1T 7 (fun K hK =>?_)
    go_simp
    refine hK.out _ _ _ ⟨?_,?_⟩ (fun hHeld =>?_)
    iterate 2 (go_simp)
    clear hK K
    exact zR
   ·go_simp
    refine hK.out _ _ _ ⟨?_,?_⟩ (fun hHeld =>?_)
    iterate 2 (go_simp)
    clear hK K
    refine r1T 3 (fun K hK =>?_)
    (refine aB _ rfl (.tmp 56) (.tmp 58) 60 rfl 62 iv _ Val.cells 3 32 Tryz.underlying60 hiv qX qW qV rfl omA bF val_one V0.heap.size (.slice (some ⟨V0.heap.size,0,none⟩) 0 0) [] rfl (ay.empty nbA leA) _ _ _ row rfl rfl (HRV.out.next ak) smA mxA leA ?_;intro v1 u1 hown1 hg1 sS;have hb1':Below V0.heap.size V0 u1:=Below.grown ak hg1 leA (bS leA);have hsz1:=hb1'.size;have JM:w.heap.size<u1.heap.size:=omA;have kx1:=(bQ hb1' w.heap.size uz).1;rw[List.nil_append]at hown1;obtain⟨RA',rc',rfl,QM,_⟩:=hown1.form)
    have qi:Blk u1 (V0.heap.size+1) 126 #[.slice none 0 0,.slice none 0 0,.int .i64 0]:=Blk.grown ndA hg1 (gT omA)
    have yy0:=qi.cell 0
    have yy1:=qi.cell 1
    have yy2:=qi.cell 2
    have yf0:=qi.frozen 0
    have yf1:=qi.frozen 1
    have yf2:=qi.frozen 2
    simp only[gE3]at yy0 yy1 yy2
    refine hK.out _ _ _ ⟨?_,?_⟩ (fun hHeld =>?_)
    iterate 2 (go_simp)
    clear hK K
    refine tkT 6 hHeld ?_
    exact zR
  ·go_simp
   refine hK.out _ _ _ ⟨?_,?_⟩ (fun hHeld =>?_)
   iterate 2 (go_simp)
   clear hK K
   refine r1T 0 (fun K hK =>?_)
   go_simp
   refine hK.out _ _ _ ⟨?_,?_⟩ (fun hHeld =>?_)
   iterate 2 (go_simp)
   clear hK K
   refine r1T 3 (fun K hK =>?_)
   (refine aB _ rfl (.tmp 56) (.tmp 58) 60 rfl 62 iv _ Val.cells 3 32 Tryz.underlying60 hiv qX qW qV rfl omA bF val_one V0.heap.size (.slice (some ⟨(V0.heap.size+1),0,none⟩) 0 0) [] rfl (ay.empty nbA leA) _ _ _ row rfl rfl (HRV.out.next ak) smA mxA leA ?_;intro v1 u1 hown1 hg1 sS;have hb1':Below V0.heap.size V0 u1:=Below.grown ak hg1 leA (bS leA);have hsz1:=hb1'.size;have JM:w.heap.size<u1.heap.size:=omA;have kx1:=(bQ hb1' w.heap.size uz).1;rw[List.nil_append]at hown1;obtain⟨RA',rc',rfl,QM,_⟩:=hown1.form)
   have qi:Blk u1 V0.heap.size 126 #[.slice none 0 0,.slice none 0 0,.int .i64 0]:=Blk.grown ncA hg1 (gT omA)
   have yy0:=qi.cell 0
   have yy1:=qi.cell 1
   have yy2:=qi.cell 2
   have yf0:=qi.frozen 0
   have yf1:=qi.frozen 1
   have yf2:=qi.frozen 2
   simp only[gE3]at yy0 yy1 yy2
   refine hK.out _ _ _ ⟨?_,?_⟩ (fun hHeld =>?_)
   iterate 2 (go_simp)
   clear hK K
   refine tkT 6 hHeld ?_
   exact zR
 case rest =>
  obtain⟨Y,RA',rc',rfl,hY,hbY,JY,hbx⟩:=hcut
  have Tf:=qh hbY
  have Sv:=qh JY
  clear hbY JY
  clear q0 q1 q2 q3 q4 q5 q6 q7 q8 q9 q10 q11
  go_wp2_with fail
  go_loopw [9] (fun vi wr =>∃(i:Nat) (SA':Option Addr) (sc':Nat),i≤row.length∧vi=.int .i64 i∧Blk wr Y 126 #[.slice RA' row.length rc',.slice SA' i sc',.int .i64 dy]∧ay wr V0.heap.size 62 Val.cells 3 (.slice RA' row.length rc') row∧ay wr V0.heap.size 3 intCells 1 (.slice SA' i sc') (List.replicate i sq)∧Below V0.heap.size V0 wr) (fun vi _=>row.length-(intOf vi).toNat)
  case atStart=>exact⟨0,none,0,Nat.zero_le _,rfl,Tf.out,Sv.out,ay.nil,hbx⟩
  case round =>
   clear hbx Tf Sv
   obtain⟨i,SA',sc',hi,rfl,hbY,JY,QZ,hbr⟩:=hrel
   have hwz:=hbr.size
   have HBY:=qh hbY
   have HRO:=qh JY
   have HSQ:=qh QZ
   have hXr:=HXV.out.below hbr uz
   have hYr:=hbY.lt
   have y1:=hbY.cell 1
   simp only[gE3]at y1
   obtain⟨⟨q0,q1,q2,q3⟩,q4,⟨q5,q6,q7⟩,q8,q9,q10,q11⟩:=Chg.fT hXr
   simp only at q0 q1 q2 q3 q4 q5 q6 q7 q8 q9 q10 q11
   clear hbY JY QZ hXr
   by_cases hlt:i<row.length
   ·have hlt':decide (i<row.length)=true:=by simpa using hlt
    go_wp2_with (at_builtin;go_must (refine aH _ rfl (.tmp 71) (.tmp 74) 22 rfl 3 ii _ intCells 1 8 Tryz.underlying22 hii D8 D7 D6 rfl omA aV dG V0.heap.size (.slice SA' i sc') (List.replicate i sq) rfl (HSQ.out.alloc _) _ _ _ [sq] rfl rfl (Blk.one (enc:=intCells) (x:=sq) (Blk.new' rfl) spA) smA mxA smA ?_);intro v2 w2 hown2 hg2 x9;obtain⟨SA2,sc2,rfl,hsc2,_⟩:=hown2.form;have ME:=(HBY.out.alloc _).grown hg2 (fun e=>HSQ.out.bK HBY.out (by decide) Y e.symm rfl);have y1:=ME.cell 1;have f1:=ME.frozen 1;simp only[gE3]at y1;have P6:=qh ME;have HQ2:=qh hown2;have PV:=qh ((HRO.out.alloc _).kept hg2 (HRO.out.dK HSQ.out (by decide)));have hx2:Below V0.heap.size V0 w2:=Below.grown (hbr.alloc hbr.size _) hg2 smA HSQ.out.row;clear ME hown2)
    go_roundw
    case rel=>exact⟨i+1,SA2,sc2,by omega,by go_num,P6.out.bU 1 _,PV.out.fA (by have h:=P6.out;unfold Blk at h;exact h) (by decide) _,by have h:=HQ2.out.fA (q:=Y) (i:= 1) (by have h:=P6.out;unfold Blk at h;exact h) (by decide) (.slice SA2 (i+1) sc2);simpa[List.replicate_succ']using h,hx2.setCell hY _⟩
    case measure=>exact meA
   have hlt':decide (i<row.length)=false:=by simpa using hlt
   have hie:i=row.length:=by omega
   subst hie
   go_wp2_with fail
   clear y1 hlt hlt' hi
   clear q0 q1 q2 q3 q4 q5 q6 q7 q8 q9 q10 q11
   have Gm:=HRO.out
   obtain⟨rbb,TH⟩:=fw Gm hr0
   subst TH
   have hx0:=Gm.eY bF rfl hr0 (j:= 0) rfl
   have hx1:=Gm.eY bF rfl hr0 (j:= 1) rfl
   have hx2:=Gm.eY bF rfl hr0 (j:= 2) rfl
   have OW:rbb<wr.heap.size:=Gm.lt rbb rfl
   obtain⟨rh,hrh⟩:∃v,row[0]=v:=⟨_,rfl⟩
   rw[hrh]at hx0 hx1 hx2
   simp only[Nat.zero_mul,Nat.add_zero,Nat.zero_add]at hx0 hx1 hx2
   have R9:=qh (And.intro hx0 (And.intro hx1 hx2))
   have HRH:=qh hrh
   obtain⟨sqs,Mh⟩:∃s,List.replicate row.length sq=s:=⟨_,rfl⟩
   have hsl:sqs.length=row.length:=by rw[←Mh];simp
   have hsq:=HSQ.out
   rw[Mh]at hsq
   have Si:=qh Mh
   have Sj:=qh hsq
   have MX:=qh hsl
   clear hx0 hx1 hx2 hrh Mh hsq hsl Gm
   rcases HOC.out with ⟨hA,hL,hC⟩|⟨lb,hA⟩
   ·have HL0:Hid (L.length=0):=qh (by rw[hL];rfl)
    clear hL
    subst hA hC
    obtain⟨wo,rfl⟩:∃wo:World,wo=wr:=⟨_,rfl⟩
    go_loopw [10] (fun vm wr =>∃m:Nat,m≤L.length∧vm=.int .i64 m∧Below wo.heap.size wo wr∧(∀i (h:i<L.length),i<m→decide (bz (bO (aN L[i])) rh<0)=true)) (fun vm _=>L.length-(intOf vm).toNat)
    case atStart=>exact⟨0,Nat.zero_le _,rfl,Below.refl _ _,fun i _ h=>by omega⟩
    case round =>
     obtain⟨m,hm,rfl,hb2,hlo⟩:=hrel
     have HLO:=qh hlo
     have hbV:=ae hbr hb2 hbr.size
     have xW:=hb2.size
     have Ag:=HBY.out.below hb2 hYr
     have y0:=Ag.cell 0
     have y1:=Ag.cell 1
     have y2:=Ag.cell 2
     simp only[gE3]at y0 y1 y2
     have hXr:=HXV.out.below hbV uz
     obtain⟨⟨q0,q1,q2,q3⟩,q4,⟨q5,q6,q7⟩,q8,q9,q10,q11⟩:=Chg.fT hXr
     simp only at q0 q1 q2 q3 q4 q5 q6 q7 q8 q9 q10 q11
     clear hlo Ag hXr
     by_cases hlt:m<L.length
     ·exact absurd hlt (by rw[HL0.out];exact Nat.not_lt_zero _)
     ·have hlt':decide (m<L.length)=false:=by simpa using hlt
      have M4:Hid (nJ (L.map aN) (jG ⟨kd,sq,dy,(k:Int),A0,cp,row,key,cl,vl⟩)=m):=qh (by
       have e1:bO (jG ⟨kd,sq,dy,(k:Int),A0,cp,row,key,cl,vl⟩)=rh:=by rw[jY hr0];exact HRH.out
       refine sw omA (fun i h hi=>by rw[e1];exact HLO.out i h hi) (fun h=>absurd h hlt))
      go_upto_region 16 with (fail)
      refine ag krA krA ?_;(repeat(go_big_quiet_step (fail)));refine wpQuiet_nil ?_;intro wq hq
      clear y0 y1 y2
      clear q0 q1 q2 q3 q4 q5 q6 q7 q8 q9 q10 q11
      exact LV
   ·subst hA
    obtain⟨wo,rfl⟩:∃wo:World,wo=wr:=⟨_,rfl⟩
    go_loopw [10] (fun vm wr =>∃m:Nat,m≤L.length∧vm=.int .i64 m∧Below wo.heap.size wo wr∧(∀i (h:i<L.length),i<m→decide (bz (bO (aN L[i])) rh<0)=true)) (fun vm _=>L.length-(intOf vm).toNat)
    case atStart=>exact⟨0,Nat.zero_le _,rfl,Below.refl _ _,fun i _ h=>by omega⟩
    case round =>
     obtain⟨m,hm,rfl,hb2,hlo⟩:=hrel
     have HLO:=qh hlo
     have hbV:=ae hbr hb2 hbr.size
     have xW:=hb2.size
     have Ag:=HBY.out.below hb2 hYr
     have y0:=Ag.cell 0
     have y1:=Ag.cell 1
     have y2:=Ag.cell 2
     simp only[gE3]at y0 y1 y2
     have hXr:=HXV.out.below hbV uz
     obtain⟨⟨q0,q1,q2,q3⟩,q4,⟨q5,q6,q7⟩,q8,q9,q10,q11⟩:=Chg.fT hXr
     simp only at q0 q1 q2 q3 q4 q5 q6 q7 q8 q9 q10 q11
     clear hlo Ag hXr
     by_cases hlt:m<L.length
     ·have hlt':decide (m<L.length)=true:=by simpa using hlt
      have eF:=U9.out L[m] (lgm hlt)
      obtain⟨b5,o5,hAe,hb5,hc5⟩:=(HLR.out.1.below hbV).get hlt
      obtain⟨d0,d1,d2⟩:=Rcd.cells3 hc5
      have Ml:=(HLR.out.2 L[m] (lgm hlt)).1.below hbV
      obtain⟨⟨QA,qc,jO,QS,qs,kN,qd⟩,hy⟩:∃x:Rcd,L[m]=x:=⟨_,rfl⟩
      rw[hy]at d0 d1 d2 Ml eF
      simp only at d0 d1 d2 Ml eF
      obtain⟨b6,o6,hQe,hb6,hc6⟩:=Ml.get eF
      obtain⟨v0,v1,v2⟩:=Val.cells3 hc6
      simp only[Nat.zero_mul,Nat.add_zero]at v0 v1 v2
      obtain⟨pv,hpv⟩:∃v:Val,jO[0]=v:=⟨_,rfl⟩
      rw[hpv]at v0 v1 v2
      have HPV:Hid (bO (aN L[m])=pv):=qh (by rw[hy];exact(Kb (x:=⟨QA,qc,jO,QS,qs,kN,qd⟩) eF).trans hpv)
      subst hQe
      injection hAe with hAe
      injection hAe with hA1 hA2
      subst hA1 hA2
      simp only[Nat.zero_add]at d0 d1 d2
      obtain⟨z9,hz9⟩:∃z,bz pv rh=z:=⟨_,rfl⟩
      have HZ9:=qh hz9
      obtain⟨x0,x1,x2⟩:=R9.out
      have x0:=(hb2.cell (p:=⟨rbb,_,none⟩) OW).trans x0
      have x1:=(hb2.cell (p:=⟨rbb,_,none⟩) OW).trans x1
      have x2:=(hb2.cell (p:=⟨rbb,_,none⟩) OW).trans x2
      have hk0:=aI (w:=wr) Y omA
      have hk1:=aI (w:=wr) lb omA
      have hk2:=aI (w:=wr) b6 omA
      have hk3:=aI (w:=wr) rbb omA
      have Ed:decide (0<jO.length)=true:=by simpa using eF
      have oP:decide (0<row.length)=true:=by simpa using hr0
      clear hc5 Ml hy hc6 hpv hz9
      cases hzz:decide (z9<0)
      rotate_left
      ·have HLT:Hid (decide (bz (bO (aN L[m])) rh<0)=true):=qh (by rw[HPV.out,HZ9.out];exact hzz)
       go_upto_region 16 with (fail)
       refine ag krA krA ?_;(repeat(go_big_quiet_step ((go_at_call 100;with_reducible exact aU (nH pv rh _ HZ9.out)))));refine wpQuiet_nil ?_;intro wq hq
       clear hk0 hk1 hk2 hk3 d0 d1 d2 v0 v1 v2 x0 x1 x2 y0 y1 y2
       clear q0 q1 q2 q3 q4 q5 q6 q7 q8 q9 q10 q11
       go_wp2_with fail
       go_roundw
       case rel=>exact⟨m+1,by omega,by go_num,ae hb2 hq hb2.size,fun j h hj=>by
        rcases Nat.lt_or_ge j m with h1|h1
        ·exact HLO.out j h h1
        ·obtain rfl:j=m:=by omega
         exact HLT.out⟩
       case measure=>exact meA
      ·have M4:Hid (nJ (L.map aN) (jG ⟨kd,sq,dy,(k:Int),A0,cp,row,key,cl,vl⟩)=m):=qh (by
        have e1:bO (jG ⟨kd,sq,dy,(k:Int),A0,cp,row,key,cl,vl⟩)=rh:=by rw[jY hr0];exact HRH.out
        refine sw omA (fun i h hi=>by rw[e1];exact HLO.out i h hi) (fun h=>by rw[e1,HPV.out,HZ9.out];exact hzz))
       go_upto_region 16 with (fail)
       refine ag krA krA ?_;(repeat(go_big_quiet_step ((go_at_call 100;with_reducible exact aU (nH pv rh _ HZ9.out)))));refine wpQuiet_nil ?_;intro wq hq
       clear hk0 hk1 hk2 hk3 d0 d1 d2 v0 v1 v2 x0 x1 x2 y0 y1 y2
       clear q0 q1 q2 q3 q4 q5 q6 q7 q8 q9 q10 q11
       exact E9
     ·have hlt':decide (m<L.length)=false:=by simpa using hlt
      have M4:Hid (nJ (L.map aN) (jG ⟨kd,sq,dy,(k:Int),A0,cp,row,key,cl,vl⟩)=m):=qh (by
       have e1:bO (jG ⟨kd,sq,dy,(k:Int),A0,cp,row,key,cl,vl⟩)=rh:=by rw[jY hr0];exact HRH.out
       refine sw omA (fun i h hi=>by rw[e1];exact HLO.out i h hi) (fun h=>absurd h hlt))
      go_upto_region 16 with (fail)
      refine ag krA krA ?_;(repeat(go_big_quiet_step (fail)));refine wpQuiet_nil ?_;intro wq hq
      clear y0 y1 y2
      clear q0 q1 q2 q3 q4 q5 q6 q7 q8 q9 q10 q11
      exact E9
end Go.Proofs.YtebippoohpnjkaaGreat
