/-
  Contracts and plain laws of this seat, part 8: Perf, PerfN.
-/
import Derived.Test.YtkiglflbngfelaaGreatQ7
set_option linter.unusedVariables false
set_option linter.unusedSimpArgs false
set_option maxRecDepth 100000
set_option maxHeartbeats 16000000
namespace Go.Proofs.YtkiglflbngfelaaGreat
open Go.RowKit
theorem K7 {P:Prop} (h:P:=by
 refine aM (S:=(fun u=>u.cell? ⟨w.heap.size,3,none⟩=some (.int .i64 (k:Int)))) [] krA q3 (fun hHeld => ?_)
 refine tkT 0 hHeld ?_
 refine tkT 1 hHeld ?_
 refine tkT 2 hHeld ?_
 refine tkT 4 hHeld ?_
 refine tkT 5 hHeld ?_
 refine tkT 6 hHeld ?_
 refine tkT 8 hHeld ?_
 refine tkT 9 hHeld ?_
 refine tkT 10 hHeld ?_
 refine tkT 11 hHeld ?_
 refine r1T 3 (fun K hK => ?_)
 go_simp
 refine hK.out _ _ _ ?_ (fun hHeld => ?_)
 ·go_simp
 clear hK K
 refine r1T 7 (fun K hK => ?_)
 (refine ai _ rfl (.tmp 25) (.tmp 28) 40 rfl 43 ir _ Rcd.cells 3 56 Tryz.underlying40 hir pK oO pJ rfl omA bn dP U.heap.size (.slice (some ⟨U.heap.size,0,none⟩) 0 0) [] rfl (av.empty nbA leA) _ _ _ (recs.take j) rfl smA ((oh.out.take j).next au) smA mxA leA ?_;intro v1 u1 hown1 hg1 iM;have hb1':Below U.heap.size U u1:=Below.grown au hg1 leA (bC leA);have hsz1:=hb1'.size;have kx1:=(bD hb1' w.heap.size Jw).1)
 refine hK.out _ _ _ ?_ (fun hHeld => ?_)
 ·go_simp
 clear hK K
 refine r1T 12 (fun K hK => ?_)
 (refine ai _ rfl (.tmp 29) (.tmp 33) 40 rfl 43 ir _ Rcd.cells 3 56 Tryz.underlying40 hir pK oO pJ rfl omA bn dP U.heap.size v1 ([]++recs.take j) rfl hown1 _ _ _ (recs.drop (j + 1)) rfl spA (hcut.next hb1') smA mxA hb1'.size ?_;intro v2 u2 hown2 hg2 qZ;have hb2':Below U.heap.size U u2:=Below.grown hb1' hg2 hb1'.size hown1.row;have hsz2:=hb2'.size;have kx2:=(bD hb2' w.heap.size Jw).1)
 rw [List.nil_append] at hown2
 obtain ⟨A3,c3,hv2,_,_⟩:=hown2.form
 obtain ⟨n3,hn3⟩ : ∃ n3,n3=(recs.take j++recs.drop (j + 1)).length:=⟨_,rfl⟩
 rw [← hn3] at hv2
 subst hv2
 have HN3:=qh hn3
 have qE:=qh hown2
 clear hn3 hown2
 refine hK.out _ _ _ ?_ (fun hHeld => ?_)
 ·go_simp
 clear hK K
 refine r1T 13 (fun K hK => ?_)
 go_simp
 refine hK.out _ _ _ ?_ (fun hHeld => ?_)
 ·go_simp
 clear hK K
 refine r1T 14 (fun K hK => ?_)
 have Rh:=HO3.out.below hb2' nlr
 have g3:=Rh.eB bL HLL.out.symm hkl (j := 0) rfl
 have f3:=Rh.iN HLL.out.symm k
 simp only [Nat.mul_one,Nat.add_zero] at g3
 clear Rh
 go_simp
 refine hK.out _ _ _ ?_ (fun hHeld => ?_)
 ·go_simp
 clear hK K
 refine aZ krA ?_ _
 clear hHeld
 have bF:=qh (jf.out u2 A3 c3 (.slice A3 n3 c3) hb2' (by rw [← HN3.out];exact qE.out) (by rw [HN3.out]))
 go_wp2_with fail
 go_ret
 first|exact bF.out|exact bF.out.drew):P:=h
theorem tX (RA:Option Addr) (rc n:Nat) (rt:List RTab) (k:Nat) (kd sq dy:Int) (A0:Option Addr) (cp:Nat) (row:List Val) (key:Val) (cl:Int) (vl:Val) (w:World) (hrt:aP w w.heap.size RA rt) (hn:rt.length=n) (hsr:fV rt) (hk:k<rt.length) (hR:ag w w.heap.size Val.cells 3 A0 row) (hrlen:row.length ≤ 1000000) (h1:kd = 1 → 0<row.length) {z:Int} (hz:dS (ax rt[k]) (keyOf ⟨kd,sq,dy,(k:Int),A0,cp,row,key,cl,vl⟩)=z) (hc:(kd ≠ 1∧z < 0)∨(kd = 1∧z < 0 ∧ 64≤rt[k].recs.length)) :
 Calls Tryz.prog 46 #[.slice RA n rc, .agg #[.int .i64 kd, .int .i64 sq, .int .i64 dy, .int .i64 (k:Int), .slice A0 row.length cp, .int .i64 key.kind, .int .i64 key.num, .string key.text, .int .i64 cl, .int .i64 vl.kind, .int .i64 vl.num, .string vl.text]] w (iw w n (aU (rt.map ax) ⟨kd,sq,dy,(k:Int),A0,cp,row,key,cl,vl⟩)):=by
 have HC:=qh hc
 have hz0:decide (z < 0)=true:=by rcases hc with h|h <;> simp <;> omega
 have hz1:decide (0≤z)=false:=by rcases hc with h|h <;> simp <;> omega
 have hkd:(kd == 1)=false∨((kd == 1)=true ∧ 64≤rt[k].recs.length):=by
  rcases hc with h|h
  ·exact .inl (by simpa using h.1)
  ·exact .inr ⟨by simpa using h.1,h.2.2⟩
 clear hc
 subst hn
 have hrn:=hsr.len
 have sP:=hsr.recs rt[k] (lgm hk)
 have eu:=hsr.row rt[k] (lgm hk)
 obtain ⟨kv,hkv⟩ : ∃ kv,keyOf ⟨kd,sq,dy,(k:Int),A0,cp,row,key,cl,vl⟩=kv:=⟨_,rfl⟩
 have HKV:=qh hkv
 have HZ:=qh hz
 have HRT:=qh hrt
 have HSR:=qh hsr
 have HR:=qh hR
 have H1:=qh h1
 clear hz hrt hsr hR h1 hkv
 go_enter Tryz.func46,Tryz.ntmps46
 go_upto_region 1 with (fail)
 refine ah (P:=fun u=>Code.wp _ _ _ _ u) (R:=fun u=>Blk u w.heap.size 53 (Chg.cells ⟨kd,sq,dy,(k:Int),A0,cp,row,key,cl,vl⟩).toArray∧Below w.heap.size w u) ⟨?_,?_⟩ ?_
 ·exact Blk.new _ _ _
 ·exact au
 rintro W ⟨hX,hbW⟩
 have hzW:=hX.lt
 have HX:=qh hX
 clear hX
 go_wp2_with fail
 (with_reducible refine (lY RA rc rt.length rt _ (HRT.out.next (aa hbW brf hbW.size)) rfl HSR.out).mono ?_)
 rintro e w1 ⟨q,l,rfl,hq,hll,hO,hT,hpl,hb1⟩
 have hx1:=aa hbW hb1 hbW.size
 have hX1:=HX.out.below hb1 omA
 have HX1:=qh hX1
 have hkl:k<l.length:=by omega
 have g0:=hO.eB bL (by rw [hll]) hkl (j := 0) rfl
 have hmp:=BL hpl hkl hk
 have hT0:=hT.recs hkl
 obtain ⟨⟨TA,tc,recs⟩,hlk⟩ : ∃ x:RTab,l[k]=x:=⟨_,rfl⟩
 rw [hlk] at g0 hmp hT0
 simp only [Nat.mul_one,Nat.add_zero] at g0 hmp hT0
 have vB:recs.length=rt[k].recs.length:=by have:=congrArg List.length hmp;simpa [ax] using this
 have hrw : ∀ x∈recs,x.row.length ≤ 1000000:=fun x hx=>by
  have h:aG x∈ax rt[k]:=by rw [← hmp];exact List.mem_map_of_mem hx
  obtain ⟨y,hy,hyx⟩:=List.mem_map.1 h
  have h2:y.row=x.row:=congrArg (fun p=>p.1) hyx
  rw [← h2]
  exact eu y hy
 have hrl:recs.length ≤ 1000000:=by omega
 have vR:=qh vB
 have HLL:=qh hll
 have hzk:=HZ.out
 rw [HKV.out,← hmp,← eY] at hzk
 have HMP:=qh hmp
 have HT0:=qh hT0
 have HLK:=qh hlk
 have HO:=qh hO
 have HT:=qh hT
 have HPL:=qh hpl
 have HZK:=qh hzk
 have HRW:=qh hrw
 have hkn:decide (k<rt.length)=true:=by simpa using hk
 have hzq:=hb1.size
 obtain ⟨⟨q0,q1,q2,q3⟩,q4,⟨q5,q6,q7⟩,q8,q9,q10,q11⟩:=Chg.eZ hX1
 simp only at q0 q1 q2 q3 q4 q5 q6 q7 q8 q9 q10 q11
 clear hX1 hmp hT0 hlk hO hT hpl hzk hrw sP eu vB hll
 go_wp2_with fail
 (with_reducible refine (gp ⟨kd,sq,dy,(k:Int),A0,cp,row,key,cl,vl⟩ _ (HR.out.next (aa hx1 au hx1.size)) hrlen H1.out HKV.out).mono ?_)
 rintro e w2 ⟨rfl,hb2⟩
 clear q0 q1 q2 q3 q4 q5 q6 q7 q8 q9 q10 q11
 have hz2:=hb2.size
 have hX2:=HX1.out.below hb2 omA
 have HX2:=qh hX2
 obtain ⟨⟨q0,q1,q2,q3⟩,q4,⟨q5,q6,q7⟩,q8,q9,q10,q11⟩:=Chg.eZ hX2
 simp only at q0 q1 q2 q3 q4 q5 q6 q7 q8 q9 q10 q11
 clear hX2 g0
 go_wp2_with fail
 (with_reducible refine (iq TA tc recs.length recs kv _ (HT0.out.read.next hb2) rfl hrl HRW.out HZK.out).mono ?_)
 rintro e U ⟨rfl,hb3⟩
 clear q0 q1 q2 q3 q4 q5 q6 q7 q8 q9 q10 q11
 have hbU:=aa hb2 hb3 hb2.size
 have hzU:=hbU.size
 have hxU:=aa hx1 hbU hx1.size
 have hX3:=HX1.out.below hbU omA
 have HX3:=qh hX3
 have HO3:=qh (HO.out.below hbU nlr)
 have HT3:=qh (HT.out.below hbU nlr)
 have hbase:w.heap.size≤W.heap.size:=hbW.size
 have Jw:w.heap.size<U.heap.size:=by omega
 have HRR:=qh ((HT3.out.recs hkl).read)
 rw [HLK.out] at HRR
 have oh:=qh HRR.out.1
 clear HX1 HO HT hb2 hb3 hz2 HR H1
 obtain ⟨⟨q0,q1,q2,q3⟩,q4,⟨q5,q6,q7⟩,q8,q9,q10,q11⟩:=Chg.eZ hX3
 simp only at q0 q1 q2 q3 q4 q5 q6 q7 q8 q9 q10 q11
 clear hX3
 have jf:Hid (∀ w',Below U.heap.size U w'→iw w rt.length (aU (rt.map ax) ⟨kd,sq,dy,(k:Int),A0,cp,row,key,cl,vl⟩) (.returned (.slice (some ⟨q,0,none⟩) rt.length rt.length)) w'):=qh fun w' hb'=>by
  have hO4:=HO3.out.below hb' nlr
  have hT4:=HT3.out.below hb' nlr
  have hrd:=nJ (by simpa [HLL.out] using hO4) (fun t ht=>(⟨hT4.tab t ht,hT4.row t ht⟩:gz w' _ t.A t.cap t.recs))
  refine ⟨⟨_,_,l,rfl,HLL.out,hrd.1,hrd.2.mono hbase,?_⟩,aa hxU hb' hxU.size⟩
  refine I9 HPL.out hkl (k:=k) rfl ?_
  rw [HLK.out]
  show recs.map aG=dn (recs.map aG) _
  have hz2:dS (recs.map aG) (keyOf ⟨kd,sq,dy,(k:Int),A0,cp,row,key,cl,vl⟩)=z:=by rw [HKV.out,← eY];exact HZK.out
  rcases HC.out with h|h
  ·exact (sI h.1 (by rw [hz2];exact h.2)).symm
  ·exact (FH h.1 (by rw [hz2];exact h.2.1) (by rw [List.length_map,vR.out];exact h.2.2)).symm
 rcases hkd with hkd|⟨hkd,h64⟩
 ·go_wp2_with fail
  go_ret
  exact jf.out _ au
 ·have yD:decide (64≤recs.length)=true:=by have:=vR.out;simp;omega
  have Ro:decide ((64:Int)≤(recs.length:Int))=true:=by have:=vR.out;simp;omega
  go_wp2_with fail
  go_ret
  exact jf.out _ au
theorem DR (RA:Option Addr) (rc n:Nat) (rt:List RTab) (k:Nat) (kd sq dy:Int) (A0:Option Addr) (cp:Nat) (row:List Val) (key:Val) (cl:Int) (vl:Val) (w:World) (hrt:aP w w.heap.size RA rt) (hn:rt.length=n) (hsr:fV rt) (hk:k<rt.length) (hR:ag w w.heap.size Val.cells 3 A0 row) (hrlen:row.length ≤ 1000000) (h1:kd = 1 → 0<row.length) {z:Int} (hz:dS (ax rt[k]) (keyOf ⟨kd,sq,dy,(k:Int),A0,cp,row,key,cl,vl⟩)=z) (hk1:kd ≠ 1) (hk2:kd ≠ 2) (hc : 0≤z) :
 Calls Tryz.prog 46 #[.slice RA n rc, .agg #[.int .i64 kd, .int .i64 sq, .int .i64 dy, .int .i64 (k:Int), .slice A0 row.length cp, .int .i64 key.kind, .int .i64 key.num, .string key.text, .int .i64 cl, .int .i64 vl.kind, .int .i64 vl.num, .string vl.text]] w (iw w n (aU (rt.map ax) ⟨kd,sq,dy,(k:Int),A0,cp,row,key,cl,vl⟩)):=by
 have HC:=qh (And.intro hk1 hk2)
 have hkd:(kd == 1)=false:=by simpa using hk1
 have QN:(kd == 2)=false:=by simpa using hk2
 obtain ⟨j,hj,hje⟩:=nT (by rw [hz];exact hc)
 have hjr:j<rt[k].recs.length:=by simpa [ax] using hj
 rw [hz] at hje
 subst hje
 have hz0:decide ((j:Int) < 0)=false:=by simp
 obtain ⟨ir,hir,pK,oO,pJ⟩:=info_parts kL
 clear hc hk1 hk2 hj
 subst hn
 have hrn:=hsr.len
 have sP:=hsr.recs rt[k] (lgm hk)
 have eu:=hsr.row rt[k] (lgm hk)
 obtain ⟨kv,hkv⟩ : ∃ kv,keyOf ⟨kd,sq,dy,(k:Int),A0,cp,row,key,cl,vl⟩=kv:=⟨_,rfl⟩
 have HKV:=qh hkv
 have HZ:=qh hz
 have HRT:=qh hrt
 have HSR:=qh hsr
 have HR:=qh hR
 have H1:=qh h1
 clear hz hrt hsr hR h1 hkv
 go_enter Tryz.func46,Tryz.ntmps46
 go_upto_region 1 with (fail)
 refine ah (P:=fun u=>Code.wp _ _ _ _ u) (R:=fun u=>Blk u w.heap.size 53 (Chg.cells ⟨kd,sq,dy,(k:Int),A0,cp,row,key,cl,vl⟩).toArray∧Below w.heap.size w u) ⟨?_,?_⟩ ?_
 ·exact Blk.new _ _ _
 ·exact au
 rintro W ⟨hX,hbW⟩
 have hzW:=hX.lt
 have HX:=qh hX
 clear hX
 go_wp2_with fail
 (with_reducible refine (lY RA rc rt.length rt _ (HRT.out.next (aa hbW brf hbW.size)) rfl HSR.out).mono ?_)
 rintro e w1 ⟨q,l,rfl,hq,hll,hO,hT,hpl,hb1⟩
 have hx1:=aa hbW hb1 hbW.size
 have hX1:=HX.out.below hb1 omA
 have HX1:=qh hX1
 have hkl:k<l.length:=by omega
 have g0:=hO.eB bL (by rw [hll]) hkl (j := 0) rfl
 have hmp:=BL hpl hkl hk
 have hT0:=hT.recs hkl
 obtain ⟨⟨TA,tc,recs⟩,hlk⟩ : ∃ x:RTab,l[k]=x:=⟨_,rfl⟩
 rw [hlk] at g0 hmp hT0
 simp only [Nat.mul_one,Nat.add_zero] at g0 hmp hT0
 have vB:recs.length=rt[k].recs.length:=by have:=congrArg List.length hmp;simpa [ax] using this
 have hrw : ∀ x∈recs,x.row.length ≤ 1000000:=fun x hx=>by
  have h:aG x∈ax rt[k]:=by rw [← hmp];exact List.mem_map_of_mem hx
  obtain ⟨y,hy,hyx⟩:=List.mem_map.1 h
  have h2:y.row=x.row:=congrArg (fun p=>p.1) hyx
  rw [← h2]
  exact eu y hy
 have hrl:recs.length ≤ 1000000:=by omega
 have vR:=qh vB
 have HLL:=qh hll
 have hzk:=HZ.out
 rw [HKV.out,← hmp,← eY] at hzk
 have HMP:=qh hmp
 have HT0:=qh hT0
 have HLK:=qh hlk
 have HO:=qh hO
 have HT:=qh hT
 have HPL:=qh hpl
 have HZK:=qh hzk
 have HRW:=qh hrw
 have hkn:decide (k<rt.length)=true:=by simpa using hk
 have hzq:=hb1.size
 obtain ⟨⟨q0,q1,q2,q3⟩,q4,⟨q5,q6,q7⟩,q8,q9,q10,q11⟩:=Chg.eZ hX1
 simp only at q0 q1 q2 q3 q4 q5 q6 q7 q8 q9 q10 q11
 clear hX1 hmp hT0 hlk hO hT hpl hzk hrw sP eu vB hll
 go_wp2_with fail
 (with_reducible refine (gp ⟨kd,sq,dy,(k:Int),A0,cp,row,key,cl,vl⟩ _ (HR.out.next (aa hx1 au hx1.size)) hrlen H1.out HKV.out).mono ?_)
 rintro e w2 ⟨rfl,hb2⟩
 clear q0 q1 q2 q3 q4 q5 q6 q7 q8 q9 q10 q11
 have hz2:=hb2.size
 have hX2:=HX1.out.below hb2 omA
 have HX2:=qh hX2
 obtain ⟨⟨q0,q1,q2,q3⟩,q4,⟨q5,q6,q7⟩,q8,q9,q10,q11⟩:=Chg.eZ hX2
 simp only at q0 q1 q2 q3 q4 q5 q6 q7 q8 q9 q10 q11
 clear hX2 g0
 go_wp2_with fail
 (with_reducible refine (iq TA tc recs.length recs kv _ (HT0.out.read.next hb2) rfl hrl HRW.out HZK.out).mono ?_)
 rintro e U ⟨rfl,hb3⟩
 clear q0 q1 q2 q3 q4 q5 q6 q7 q8 q9 q10 q11
 have hbU:=aa hb2 hb3 hb2.size
 have hzU:=hbU.size
 have hxU:=aa hx1 hbU hx1.size
 have hX3:=HX1.out.below hbU omA
 have HX3:=qh hX3
 have HO3:=qh (HO.out.below hbU nlr)
 have HT3:=qh (HT.out.below hbU nlr)
 have hbase:w.heap.size≤W.heap.size:=hbW.size
 have Jw:w.heap.size<U.heap.size:=by omega
 have HRR:=qh ((HT3.out.recs hkl).read)
 rw [HLK.out] at HRR
 have oh:=qh HRR.out.1
 clear HX1 HO HT hb2 hb3 hz2 HR H1
 obtain ⟨⟨q0,q1,q2,q3⟩,q4,⟨q5,q6,q7⟩,q8,q9,q10,q11⟩:=Chg.eZ hX3
 simp only at q0 q1 q2 q3 q4 q5 q6 q7 q8 q9 q10 q11
 clear hX3
 have hjl:j<recs.length:=by have:=vR.out;omega
 have hro:=HT3.out.recs hkl
 rw [HLK.out] at hro
 obtain ⟨tb,htb⟩:=ed hro.1 (Nat.lt_of_le_of_lt (Nat.zero_le _) hjl)
 have hcap:=mY hro.1
 simp only at htb hcap
 subst htb
 have HRO:=qh hro
 have hjc:j≤tc:=by omega
 have QQ:j + 1≤tc:=by omega
 have hwr:IntKind.i64.wrap ((j:Int) + 1)=((j + 1:Nat):Int):=by rw [show (j:Int) + 1=((j + 1:Nat):Int) by omega];exact IntWalk.i64_in _ omA
 have jf:Hid (∀ u2 A3 c3 v,Below U.heap.size U u2→av u2 U.heap.size 43 Rcd.cells 3 (.slice A3 (recs.take j++recs.drop (j + 1)).length c3) (recs.take j++recs.drop (j + 1))→v = .slice A3 (recs.take j++recs.drop (j + 1)).length c3→iw w rt.length (aU (rt.map ax) ⟨kd,sq,dy,(k:Int),A0,cp,row,key,cl,vl⟩) (.returned (.slice (some ⟨q,0,none⟩) rt.length rt.length)) (u2.setCell ⟨q,k,none⟩ v)):=qh fun u2 A3 c3 v hb hown hv=>by
  refine uT HO3.out HLL.out HT3.out hkl HPL.out rfl hbase hxU hb ⟨hown.mono omA,fun x hx => ?_⟩ ?_ hv
  ·have hin:x∈recs:=by
    rcases List.mem_append.1 hx with h|h
    ·exact List.mem_of_mem_take h
    ·exact List.mem_of_mem_drop h
   have:=HRO.out.2 x hin
   exact ⟨this.1.below hb nlr,this.2.below hb nlr⟩
  ·rw [HLK.out]
   show (recs.take j++recs.drop (j + 1)).map aG=dn (recs.map aG) _
   rw [uW HC.out.1 HC.out.2 (j:=j) (by rw [HKV.out,← eY];exact HZK.out)]
   simp [iW,List.map_take,List.map_drop]
 have hi1:(j:Int)≤(j:Int) + 1:=by omega
 have hi2:(0:Int)≤(j:Int) + 1:=by omega
 have hi3:(j:Int) + 1≤(recs.length:Int):=by omega
 clear hro
 by_cases hcm:tc=j + 1
 ·have hcut:ag U U.heap.size Rcd.cells 3 (some ⟨tb,0,none⟩) (recs.drop (j + 1)):=by
   rw [List.drop_eq_nil_of_le omA]
   exact ag.nil
  go_upto_region 4 with (fail)
  exact K7
 ·have hcut:ag U U.heap.size Rcd.cells 3 (some ⟨tb,(j + 1) * 3,none⟩) (recs.drop (j + 1)):=by have h:=oh.out.cut (c:=tc) (j + 1) omA;rw [if_neg hcm] at h;simpa using h
  go_upto_region 4 with (fail)
  exact K7
theorem DL (RA:Option Addr) (rc n:Nat) (rt:List RTab) (k:Nat) (kd sq dy:Int) (A0:Option Addr) (cp:Nat) (row:List Val) (key:Val) (cl:Int) (vl:Val) (w:World) (hrt:aP w w.heap.size RA rt) (hn:rt.length=n) (hsr:fV rt) (hk:k<rt.length) (hR:ag w w.heap.size Val.cells 3 A0 row) (hrlen:row.length ≤ 1000000) (h1:kd = 1 → 0<row.length) {z:Int} (hz:dS (ax rt[k]) (keyOf ⟨kd,sq,dy,(k:Int),A0,cp,row,key,cl,vl⟩)=z) (hk2:kd = 2) (hc : 0≤z) (vE : ∃ col:Nat,cl=(col:Int) ∧ ∀ r∈rt[k].recs,col<r.row.length∧col<r.seq.length) :
 Calls Tryz.prog 46 #[.slice RA n rc, .agg #[.int .i64 kd, .int .i64 sq, .int .i64 dy, .int .i64 (k:Int), .slice A0 row.length cp, .int .i64 key.kind, .int .i64 key.num, .string key.text, .int .i64 cl, .int .i64 vl.kind, .int .i64 vl.num, .string vl.text]] w (iw w n (aU (rt.map ax) ⟨kd,sq,dy,(k:Int),A0,cp,row,key,cl,vl⟩)):=by
 obtain ⟨col,hcl,vE⟩:=vE
 have HCL:=qh hcl
 have hkd:(kd == 1)=false:=by rw [hk2];rfl
 have QN:(kd == 2)=true:=by rw [hk2];rfl
 have HK2:=qh hk2
 have zn:=qh vE
 obtain ⟨j,hj,hje⟩:=nT (by rw [hz];exact hc)
 have hjr:j<rt[k].recs.length:=by simpa [ax] using hj
 rw [hz] at hje
 subst hje
 have hz0:decide ((j:Int) < 0)=false:=by simp
 clear hc hj vE hcl hk2
 subst hn
 have hrn:=hsr.len
 have sP:=hsr.recs rt[k] (lgm hk)
 have eu:=hsr.row rt[k] (lgm hk)
 obtain ⟨kv,hkv⟩ : ∃ kv,keyOf ⟨kd,sq,dy,(k:Int),A0,cp,row,key,cl,vl⟩=kv:=⟨_,rfl⟩
 have HKV:=qh hkv
 have HZ:=qh hz
 have HRT:=qh hrt
 have HSR:=qh hsr
 have HR:=qh hR
 have H1:=qh h1
 clear hz hrt hsr hR h1 hkv
 go_enter Tryz.func46,Tryz.ntmps46
 go_upto_region 1 with (fail)
 refine ah (P:=fun u=>Code.wp _ _ _ _ u) (R:=fun u=>Blk u w.heap.size 53 (Chg.cells ⟨kd,sq,dy,(k:Int),A0,cp,row,key,cl,vl⟩).toArray∧Below w.heap.size w u) ⟨?_,?_⟩ ?_
 ·exact Blk.new _ _ _
 ·exact au
 rintro W ⟨hX,hbW⟩
 have hzW:=hX.lt
 have HX:=qh hX
 clear hX
 go_wp2_with fail
 (with_reducible refine (lY RA rc rt.length rt _ (HRT.out.next (aa hbW brf hbW.size)) rfl HSR.out).mono ?_)
 rintro e w1 ⟨q,l,rfl,hq,hll,hO,hT,hpl,hb1⟩
 have hx1:=aa hbW hb1 hbW.size
 have hX1:=HX.out.below hb1 omA
 have HX1:=qh hX1
 have hkl:k<l.length:=by omega
 have g0:=hO.eB bL (by rw [hll]) hkl (j := 0) rfl
 have hmp:=BL hpl hkl hk
 have hT0:=hT.recs hkl
 obtain ⟨⟨TA,tc,recs⟩,hlk⟩ : ∃ x:RTab,l[k]=x:=⟨_,rfl⟩
 rw [hlk] at g0 hmp hT0
 simp only [Nat.mul_one,Nat.add_zero] at g0 hmp hT0
 have vB:recs.length=rt[k].recs.length:=by have:=congrArg List.length hmp;simpa [ax] using this
 have hrw : ∀ x∈recs,x.row.length ≤ 1000000:=fun x hx=>by
  have h:aG x∈ax rt[k]:=by rw [← hmp];exact List.mem_map_of_mem hx
  obtain ⟨y,hy,hyx⟩:=List.mem_map.1 h
  have h2:y.row=x.row:=congrArg (fun p=>p.1) hyx
  rw [← h2]
  exact eu y hy
 have hrl:recs.length ≤ 1000000:=by omega
 have vR:=qh vB
 have HLL:=qh hll
 have hzk:=HZ.out
 rw [HKV.out,← hmp,← eY] at hzk
 have HMP:=qh hmp
 have HT0:=qh hT0
 have HLK:=qh hlk
 have HO:=qh hO
 have HT:=qh hT
 have HPL:=qh hpl
 have HZK:=qh hzk
 have HRW:=qh hrw
 have hkn:decide (k<rt.length)=true:=by simpa using hk
 have hzq:=hb1.size
 obtain ⟨⟨q0,q1,q2,q3⟩,q4,⟨q5,q6,q7⟩,q8,q9,q10,q11⟩:=Chg.eZ hX1
 simp only at q0 q1 q2 q3 q4 q5 q6 q7 q8 q9 q10 q11
 clear hX1 hmp hT0 hlk hO hT hpl hzk hrw sP eu vB hll
 go_wp2_with fail
 (with_reducible refine (gp ⟨kd,sq,dy,(k:Int),A0,cp,row,key,cl,vl⟩ _ (HR.out.next (aa hx1 au hx1.size)) hrlen H1.out HKV.out).mono ?_)
 rintro e w2 ⟨rfl,hb2⟩
 clear q0 q1 q2 q3 q4 q5 q6 q7 q8 q9 q10 q11
 have hz2:=hb2.size
 have hX2:=HX1.out.below hb2 omA
 have HX2:=qh hX2
 obtain ⟨⟨q0,q1,q2,q3⟩,q4,⟨q5,q6,q7⟩,q8,q9,q10,q11⟩:=Chg.eZ hX2
 simp only at q0 q1 q2 q3 q4 q5 q6 q7 q8 q9 q10 q11
 clear hX2 g0
 go_wp2_with fail
 (with_reducible refine (iq TA tc recs.length recs kv _ (HT0.out.read.next hb2) rfl hrl HRW.out HZK.out).mono ?_)
 rintro e U ⟨rfl,hb3⟩
 clear q0 q1 q2 q3 q4 q5 q6 q7 q8 q9 q10 q11
 have hbU:=aa hb2 hb3 hb2.size
 have hzU:=hbU.size
 have hxU:=aa hx1 hbU hx1.size
 have hX3:=HX1.out.below hbU omA
 have HX3:=qh hX3
 have HO3:=qh (HO.out.below hbU nlr)
 have HT3:=qh (HT.out.below hbU nlr)
 have hbase:w.heap.size≤W.heap.size:=hbW.size
 have Jw:w.heap.size<U.heap.size:=by omega
 have HRR:=qh ((HT3.out.recs hkl).read)
 rw [HLK.out] at HRR
 have oh:=qh HRR.out.1
 clear HX1 HO HT hb2 hb3 hz2 HR H1
 obtain ⟨⟨q0,q1,q2,q3⟩,q4,⟨q5,q6,q7⟩,q8,q9,q10,q11⟩:=Chg.eZ hX3
 simp only at q0 q1 q2 q3 q4 q5 q6 q7 q8 q9 q10 q11
 clear hX3
 have hjl:j<recs.length:=by have:=vR.out;omega
 have Gg:decide (j<recs.length)=true:=by simpa using hjl
 have hro:=HT3.out.recs hkl
 rw [HLK.out] at hro
 obtain ⟨tb,htb⟩:=ed hro.1 (Nat.lt_of_le_of_lt (Nat.zero_le _) hjl)
 simp only at htb
 subst htb
 have hcj:col<recs[j].row.length∧col<recs[j].seq.length:=by
  have h:aG recs[j]∈ax rt[k]:=by rw [← HMP.out];exact List.mem_map_of_mem (lgm hjl)
  obtain ⟨y,hy,hyx⟩:=List.mem_map.1 h
  have h2:y.row=recs[j].row:=congrArg (fun p=>p.1) hyx
  have h3:y.seq=recs[j].seq:=congrArg (fun p=>p.2.1) hyx
  rw [← h2,← h3]
  exact zn.out y hy
 have hrow:=hro.2 recs[j] (lgm hjl)
 have d0:=hro.1.eB bn rfl hjl (j := 0) rfl
 have d1:=hro.1.eB bn rfl hjl (j := 1) rfl
 have YI:tb<U.heap.size:=hro.1.lt tb rfl
 have YS:W.heap.size≤tb:=hro.1.row tb rfl
 obtain ⟨⟨QA,qc,gU,QS,qs,gF,qd⟩,hqr⟩ : ∃ x:Rcd,recs[j]=x:=⟨_,rfl⟩
 rw [hqr] at hcj hrow d0 d1
 simp only [Nat.add_zero] at hcj hrow d0 d1
 obtain ⟨hc1,hc2⟩:=hcj
 have dO:=hrow.1
 have hrow2:=hrow.2
 simp only at dO hrow2
 obtain ⟨rb,rfl⟩:=ed dO (Nat.lt_of_le_of_lt (Nat.zero_le _) hc1)
 obtain ⟨sb,rfl⟩:=ed hrow2 (Nat.lt_of_le_of_lt (Nat.zero_le _) hc2)
 have Wo:W.heap.size≤rb:=dO.row rb rfl
 have Tz:W.heap.size≤sb:=hrow2.row sb rfl
 have Wn:rb<U.heap.size:=dO.lt rb rfl
 have Wh:sb<U.heap.size:=hrow2.lt sb rfl
 have hn1:rb≠tb:=fun e=>hro.1.dF dO Bn tb rfl (by rw [← e];rfl)
 have hn2:sb≠tb:=fun e=>hro.1.dF hrow2 Fg tb rfl (by rw [← e];rfl)
 have hn3:rb≠sb:=fun e=>dO.dF hrow2 (by decide) rb rfl (by rw [← e];rfl)
 have hn4:rb≠w.heap.size:=by omega
 have hn5:sb≠w.heap.size:=by omega
 have e0:=dO.eB dA rfl hc1 (j := 0) rfl
 have e1:=dO.eB dA rfl hc1 (j := 1) rfl
 have e2:=dO.eB dA rfl hc1 (j := 2) rfl
 have s0:=hrow2.eB bq rfl hc2 (j := 0) rfl
 simp only [Nat.mul_one,Nat.add_zero] at e0 e1 e2 s0
 have fr0:=dO.iN rfl
 have fs0:=hrow2.iN rfl
 have hc1':decide (col<gU.length)=true:=by simpa using hc1
 have hc2':decide (col<gF.length)=true:=by simpa using hc2
 have M9:=qh dO
 have M8:=qh hrow2
 have HQR:=qh hqr
 clear hro hrow dO hrow2 hqr zn
 go_upto_region 21 with (fail)
 rw [HCL.out] at q8
 refine aM (S:=(fun u=>u.cell? ⟨w.heap.size,8,none⟩=some (.int .i64 (col:Int))∧u.cell? ⟨w.heap.size,9,none⟩=some (.int .i64 vl.kind)∧u.cell? ⟨w.heap.size,10,none⟩=some (.int .i64 vl.num)∧u.cell? ⟨w.heap.size,11,none⟩=some (.string vl.text)∧u.cell? ⟨w.heap.size,1,none⟩=some (.int .i64 sq)∧u.cell? ⟨tb,j * 3,none⟩=some (.slice (some ⟨rb,0,none⟩) gU.length qc)∧u.cell? ⟨tb,j * 3 + 1,none⟩=some (.slice (some ⟨sb,0,none⟩) gF.length qs))) [21] krA ⟨q8,q9,q10,q11,q1,d0,d1⟩ (fun hHeld => ?_)
 refine tkT 0 hHeld ?_
 refine tkT 1 hHeld ?_
 refine tkT 2 hHeld ?_
 refine tkT 3 hHeld ?_
 refine tkT 4 hHeld ?_
 refine tkT 5 hHeld ?_
 refine tkT 6 hHeld ?_
 refine tkT 7 hHeld ?_
 refine tkT 8 hHeld ?_
 refine tkT 9 hHeld ?_
 refine tkT 10 hHeld ?_
 refine tkT 11 hHeld ?_
 refine tkT 12 hHeld ?_
 refine tkT 13 hHeld ?_
 refine tkT 14 hHeld ?_
 refine tkT 15 hHeld ?_
 refine tkT 16 hHeld ?_
 refine tkT 17 hHeld ?_
 refine r1T 18 (fun K hK => ?_)
 go_simp
 refine hK.out _ _ _ ⟨?_,?_,?_,?_,?_,?_,?_⟩ (fun hHeld => ?_)
 iterate 7 (go_simp)
 clear hK K
 refine r1T 19 (fun K hK => ?_)
 go_simp
 refine hK.out _ _ _ ⟨?_,?_,?_,?_,?_,?_,?_⟩ (fun hHeld => ?_)
 ·exact eQ q8 hn4 hn4 hn4
 ·exact eQ q9 hn4 hn4 hn4
 ·exact eQ q10 hn4 hn4 hn4
 ·exact eQ q11 hn4 hn4 hn4
 ·exact eQ q1 hn4 hn4 hn4
 ·exact eQ d0 hn1 hn1 hn1
 ·exact eQ d1 hn1 hn1 hn1
 clear hK K
 have s0':=eQ (u1 := .int .i64 vl.kind) (u2 := .int .i64 vl.num) (u3 := .string vl.text) (p1:=⟨rb,col * 3,none⟩) (p2:=⟨rb,col * 3 + 1,none⟩) (p3:=⟨rb,col * 3 + 2,none⟩) s0 hn3 hn3 hn3
 obtain ⟨U1,hU1⟩ : ∃ U1,((U.setCell ⟨rb,col * 3,none⟩ (.int .i64 vl.kind)).setCell ⟨rb,col * 3 + 1,none⟩ (.int .i64 vl.num)).setCell ⟨rb,col * 3 + 2,none⟩ (.string vl.text)=U1:=⟨_,rfl⟩
 have hP1:=DT M9.out rfl hc1 vl
 rw [hU1] at hP1 s0' hHeld
 rw [hU1]
 obtain ⟨vs,hvs⟩:=M9.out.typ (q:=rb) rfl
 have hP2:=((M8.out.eO (i:=col * 3) hvs (by decide) (.int .i64 vl.kind)).far (p:=⟨rb,col * 3 + 1,none⟩) (fun g hg e=>hn3 (e.symm.trans (by simpa [Value.ownBlock] using hg.symm))) (.int .i64 vl.num)).far (p:=⟨rb,col * 3 + 2,none⟩) (fun g hg e=>hn3 (e.symm.trans (by simpa [Value.ownBlock] using hg.symm))) (.string vl.text)
 rw [hU1] at hP2
 have hfr:=hP2.iN rfl col
 have Ep : ∀ g,g≠rb→U1.heap[g]? = U.heap[g]? := fun g hg=>by
  rw [← hU1,Below.heap_setCell _ _ _ _ hg,Below.heap_setCell _ _ _ _ hg,Below.heap_setCell _ _ _ _ hg]
 have Et:Below w.heap.size w U1:=by
  rw [← hU1]
  exact ((hxU.setCell (by show _≤rb;omega) _).setCell (by show _≤rb;omega) _).setCell (by show _≤rb;omega) _
 have HP1:=qh hP1
 have HP2:=qh hP2
 have RV:=qh Ep
 have R3:=qh Et
 clear hU1 hP1 hP2 hvs Ep Et
 refine r1T 20 (fun K hK => ?_)
 go_simp
 refine hK.out _ _ _ hHeld (fun hHeld => ?_)
 clear hK K
 refine rzT 21 (fun K hK => ?_)
 go_simp
 refine hK.out _ _ _ ?_
 clear hK K
 refine aZ krA ?_ _
 clear hHeld
 obtain ⟨is,his⟩:=HP2.out.typ (q:=sb) rfl
 have hP3:=HP2.out.gu bq rfl hc2 sq (j := 0) (o:=col) (u := .int .i64 sq) omA omA rfl
 have hP4:=HP1.out.eO (i:=col) his (by decide) (.int .i64 sq)
 have uw:iw w rt.length (aU (rt.map ax) ⟨kd,sq,dy,(k:Int),A0,cp,row,key,cl,vl⟩) (.returned (.slice (some ⟨q,0,none⟩) rt.length rt.length)) (U1.setCell ⟨sb,col,none⟩ (.int .i64 sq)):=by
  have hjk:j<l[k].recs.length:=by rw [HLK.out];exact hjl
  have hrj:l[k].recs[j]=⟨some ⟨rb,0,none⟩,qc,gU,some ⟨sb,0,none⟩,qs,gF,qd⟩:=by
   have h : ∀ t:RTab,t=⟨some ⟨tb,0,none⟩,tc,recs⟩ → ∀ h:j<t.recs.length,t.recs[j]=recs[j]:=fun t ht h=>by subst ht;rfl
   rw [h _ HLK.out hjk]
   exact HQR.out
  refine Kc (U:=U) HO3.out HLL.out HT3.out hkl HPL.out rfl hbase (R3.out.setCell (by show _≤sb;omega) _) hjk (r':=⟨some ⟨rb,0,none⟩,qc,gU.set col vl,some ⟨sb,0,none⟩,qs,gF.set col sq,qd⟩) ?_ ⟨?_,?_⟩ ?_ ?_
  ·rw [hrj]
   simp [Rcd.cells]
  ·simpa using hP4
  ·simpa using hP3
  ·rw [hrj]
   intro g h1 h2
   have h2':g≠sb:=h2 ⟨sb,0,none⟩ rfl
   rw [Below.heap_setCell _ ⟨sb,col,none⟩ _ g h2']
   exact RV.out g (h1 _ rfl)
  ·have h:=CS hjl HQR.out (x:=⟨kd,sq,dy,(k:Int),A0,cp,row,key,cl,vl⟩) HCL.out (A':=some ⟨rb,0,none⟩) (S':=some ⟨sb,0,none⟩) (c':=qc) (s':=qs)
   have h2 : ∀ t:RTab,t=⟨some ⟨tb,0,none⟩,tc,recs⟩→t.recs=recs:=fun t ht=>by subst ht;rfl
   rw [h2 _ HLK.out,uU (x:=⟨kd,sq,dy,(k:Int),A0,cp,row,key,cl,vl⟩) HK2.out (j:=j) (by rw [HKV.out,← eY];exact HZK.out)]
   exact h
 have bF:=qh uw
 clear uw hP3 hP4 his
 go_wp2_with fail
 go_ret
 first|exact bF.out|exact bF.out.drew
theorem Hg {P:Prop} (h:P:=by
 (
 refine aM (S:=(fun _=>True)) [] krA trivial (fun hHeld => ?_)
 refine tkT 1 hHeld ?_
 refine tkT 2 hHeld ?_
 refine tkT 3 hHeld ?_
 refine tkT 5 hHeld ?_
 refine tkT 6 hHeld ?_
 refine tkT 7 hHeld ?_
 refine tkT 8 hHeld ?_
 refine r1T 0 (fun K hK => ?_)
 go_simp
 refine hK.out _ _ _ trivial (fun hHeld => ?_)
 clear hK K
 refine r1T 4 (fun K hK => ?_)
 (refine ai _ rfl (.tmp 42) (.tmp 45) 40 rfl 43 ir _ Rcd.cells 3 56 Tryz.underlying40 hir pK oO pJ rfl omA bn dP U.heap.size (.slice (some ⟨U.heap.size,0,none⟩) 0 0) [] rfl (av.empty nbA leA) _ _ _ (recs.take j) rfl smA ((oh.out.take j).next au) smA mxA leA ?_;intro v1 u1 hown1 hg1 iM;have hb1':Below U.heap.size U u1:=Below.grown au hg1 leA (bC leA);have hsz1:=hb1'.size)
 refine hK.out _ _ _ trivial (fun hHeld => ?_)
 clear hK K
 refine r1T 9 (fun K hK => ?_)
 (refine ai _ rfl (.tmp 46) (.tmp 50) 40 rfl 43 ir _ Rcd.cells 3 56 Tryz.underlying40 hir pK oO pJ rfl omA bn dP U.heap.size v1 ([]++recs.take j) rfl hown1 _ _ _ (recs.drop (j + 1)) rfl spA (hcut.next hb1') smA mxA hb1'.size ?_;intro v2 u2 hown2 hg2 qZ;have hb2':Below U.heap.size U u2:=Below.grown hb1' hg2 hb1'.size hown1.row)
 rw [← HLD.out] at hown2
 obtain ⟨LA,LC,rfl,_,_⟩:=hown2.form
 refine hK.out _ _ _ trivial (fun hHeld => ?_)
 clear hK K
 refine r1T 10 (fun K hK => ?_)
 go_simp
 refine hK.out _ _ _ trivial (fun hHeld => ?_)
 clear hK K
 refine aZ krA ?_ _
 clear hHeld
 go_wp2_with fail
 go_meet
 exact HOLD.out LA LC _ hown2 hb2')):P:=h
theorem NS {P:Prop} (h:P:=by
 (
 have hmc:m≤LC:=by omega
 by_cases hcm:LC=m
 ·have hcut:ag V V.heap.size Rcd.cells 3 (some ⟨lb,0,none⟩) (L.drop m):=by
   rw [List.drop_eq_nil_of_le omA]
   exact ag.nil
  exact BP
 ·have hcut:ag V V.heap.size Rcd.cells 3 (some ⟨lb,m * 3,none⟩) (L.drop m):=by have h:=HSL.out.cut (c:=LC) m omA;rw [if_neg hcm] at h;simpa using h
  exact BP)):P:=h
theorem NR {P:Prop} (h:P:=by
 (
 go_upto_region 18 with (fail)
 obtain ⟨V,rfl⟩ : ∃ V:World,V=wq:=⟨_,rfl⟩
 have qp:Below V0.heap.size V0 V:=aa hbV hq hbV.size
 have hoV:Below wo.heap.size wo V:=aa hb2 hq hb2.size
 have V8:=hoV.size
 have VZ:=qp.size
 have hYV:Y<V.heap.size:=by omega
 have Es:w.heap.size<V.heap.size:=by omega
 have hYb:=HBY.out.below hoV hYr
 have y0:=hYb.cell 0
 have y1:=hYb.cell 1
 have y2:=hYb.cell 2
 simp only [gE3] at y0 y1 y2
 rw [← O0.out] at y1
 have hXb:=HXV.out.below qp wC
 obtain ⟨⟨q0,q1,q2,q3⟩,q4,⟨q5,q6,q7⟩,q8,q9,q10,q11⟩:=Chg.eZ hXb
 simp only at q0 q1 q2 q3 q4 q5 q6 q7 q8 q9 q10 q11
 have HSL:=qh (HLR.out.1.next qp)
 have O7:=qh (HOV.out.below qp nlr)
 have RD:=qh (HTV.out.below qp nlr)
 have RN:=qh (HRO.out.below hoV nlr)
 have RG:=qh (Vf.out.below hoV nlr)
 have jf:Hid (∀ u3 A3 c3 v,Below V.heap.size V u3→av u3 V.heap.size 43 Rcd.cells 3 (.slice A3 ([]++L.take m ++ [(⟨some ⟨rbb,0,none⟩,rc',row,SA',sc',sqs,dy⟩:Rcd)]++L.drop m).length c3) ([]++L.take m ++ [(⟨some ⟨rbb,0,none⟩,rc',row,SA',sc',sqs,dy⟩:Rcd)]++L.drop m)→v = .slice A3 ([]++L.take m ++ [(⟨some ⟨rbb,0,none⟩,rc',row,SA',sc',sqs,dy⟩:Rcd)]++L.drop m).length c3→iw w rt.length (aU (rt.map ax) ⟨kd,sq,dy,(k:Int),A0,cp,row,key,cl,vl⟩) (.returned (.slice (some ⟨q,0,none⟩) rt.length rt.length)) (u3.setCell ⟨q,k,none⟩ v)):=qh fun u3 A3 c3 v hb hown hv=>by
  have Mm:=aa qp hb qp.size
  refine uT O7.out HLL.out RD.out hkl HPL.out rfl hbase (aa hxV qp hxV.size) hb ⟨hown.mono omA,fun x hx => ?_⟩ ?_ hv
  ·have hin:x∈L∨x=⟨some ⟨rbb,0,none⟩,rc',row,SA',sc',sqs,dy⟩:=by
    rcases List.mem_append.1 hx with h|h
    ·rcases List.mem_append.1 h with h|h
     ·exact .inl (List.mem_of_mem_take (by simpa using h))
     ·exact .inr (List.mem_singleton.1 h)
    ·exact .inl (List.mem_of_mem_drop h)
   rcases hin with hin|rfl
   ·have:=HLV.out.2 x hin
    exact ⟨this.1.below Mm nlr,this.2.below Mm nlr⟩
   ·refine ⟨(RN.out.below hb nlr).mono omA,?_⟩
    have h:=(RG.out.below hb nlr).mono (b':=W.heap.size) omA
    rw [← O0.out] at h
    exact h
  ·rw [← HPF.out]
   unfold nS
   rw [O6.out]
   have hnp:gN ⟨kd,sq,dy,(k:Int),A0,cp,row,key,cl,vl⟩=aG ⟨some ⟨rbb,0,none⟩,rc',row,SA',sc',sqs,dy⟩:=by rw [← Ve.out];rfl
   rw [hnp]
   simp [List.map_take,List.map_drop]
 clear hYb hXb
 (
  have hm0:m = 0:=by have:=HL0.out;omega
  have hcut:ag V V.heap.size Rcd.cells 3 none (L.drop m):=by
   rw [List.drop_eq_nil_of_le (by rw [HL0.out];exact Nat.zero_le _)]
   exact ag.nil
  exact BP))):P:=h
theorem Hf {P:Prop} (h:P:=by
 (
 go_upto_region 18 with (fail)
 obtain ⟨V,rfl⟩ : ∃ V:World,V=wq:=⟨_,rfl⟩
 have qp:Below V0.heap.size V0 V:=aa hbV hq hbV.size
 have hoV:Below wo.heap.size wo V:=aa hb2 hq hb2.size
 have V8:=hoV.size
 have VZ:=qp.size
 have hYV:Y<V.heap.size:=by omega
 have Es:w.heap.size<V.heap.size:=by omega
 have hYb:=HBY.out.below hoV hYr
 have y0:=hYb.cell 0
 have y1:=hYb.cell 1
 have y2:=hYb.cell 2
 simp only [gE3] at y0 y1 y2
 rw [← O0.out] at y1
 have hXb:=HXV.out.below qp wC
 obtain ⟨⟨q0,q1,q2,q3⟩,q4,⟨q5,q6,q7⟩,q8,q9,q10,q11⟩:=Chg.eZ hXb
 simp only at q0 q1 q2 q3 q4 q5 q6 q7 q8 q9 q10 q11
 have HSL:=qh (HLR.out.1.next qp)
 have O7:=qh (HOV.out.below qp nlr)
 have RD:=qh (HTV.out.below qp nlr)
 have RN:=qh (HRO.out.below hoV nlr)
 have RG:=qh (Vf.out.below hoV nlr)
 have jf:Hid (∀ u3 A3 c3 v,Below V.heap.size V u3→av u3 V.heap.size 43 Rcd.cells 3 (.slice A3 ([]++L.take m ++ [(⟨some ⟨rbb,0,none⟩,rc',row,SA',sc',sqs,dy⟩:Rcd)]++L.drop m).length c3) ([]++L.take m ++ [(⟨some ⟨rbb,0,none⟩,rc',row,SA',sc',sqs,dy⟩:Rcd)]++L.drop m)→v = .slice A3 ([]++L.take m ++ [(⟨some ⟨rbb,0,none⟩,rc',row,SA',sc',sqs,dy⟩:Rcd)]++L.drop m).length c3→iw w rt.length (aU (rt.map ax) ⟨kd,sq,dy,(k:Int),A0,cp,row,key,cl,vl⟩) (.returned (.slice (some ⟨q,0,none⟩) rt.length rt.length)) (u3.setCell ⟨q,k,none⟩ v)):=qh fun u3 A3 c3 v hb hown hv=>by
  have Mm:=aa qp hb qp.size
  refine uT O7.out HLL.out RD.out hkl HPL.out rfl hbase (aa hxV qp hxV.size) hb ⟨hown.mono omA,fun x hx => ?_⟩ ?_ hv
  ·have hin:x∈L∨x=⟨some ⟨rbb,0,none⟩,rc',row,SA',sc',sqs,dy⟩:=by
    rcases List.mem_append.1 hx with h|h
    ·rcases List.mem_append.1 h with h|h
     ·exact .inl (List.mem_of_mem_take (by simpa using h))
     ·exact .inr (List.mem_singleton.1 h)
    ·exact .inl (List.mem_of_mem_drop h)
   rcases hin with hin|rfl
   ·have:=HLV.out.2 x hin
    exact ⟨this.1.below Mm nlr,this.2.below Mm nlr⟩
   ·refine ⟨(RN.out.below hb nlr).mono omA,?_⟩
    have h:=(RG.out.below hb nlr).mono (b':=W.heap.size) omA
    rw [← O0.out] at h
    exact h
  ·rw [← HPF.out]
   unfold nS
   rw [O6.out]
   have hnp:gN ⟨kd,sq,dy,(k:Int),A0,cp,row,key,cl,vl⟩=aG ⟨some ⟨rbb,0,none⟩,rc',row,SA',sc',sqs,dy⟩:=by rw [← Ve.out];rfl
   rw [hnp]
   simp [List.map_take,List.map_drop]
 clear hYb hXb
 exact NS)):P:=h
theorem BQ {P:Prop} (h:P:=by
 refine r1T 8 (fun K hK => ?_)
 go_simp
 refine hK.out _ _ _ ⟨?_,?_⟩ (fun hHeld => ?_)
 iterate 2 (go_simp)
 clear hK K
 refine aZ krA ?_ _
 clear hHeld
 go_wp2_with fail
 go_meet
 refine ⟨_,RA',rc',rfl,?_,?_,?_,?_⟩
 ·first|exact Nat.le_refl _|omega|(simp;omega)
 ·first|exact Blk.new' rfl|exact qA sU
 ·first|exact hown1.alloc _|exact uY hown1 sU (by decide)
 ·exact au):P:=h
theorem BP {P:Prop} (h:P:=by
 (
 refine aM (S:=(fun u=>u.cell? ⟨w.heap.size,3,none⟩=some (.int .i64 (k:Int))∧u.cell? ⟨Y,0,none⟩=some (.slice (some ⟨rbb,0,none⟩) row.length rc')∧u.cell? ⟨Y,1,none⟩=some (.slice SA' sqs.length sc')∧u.cell? ⟨Y,2,none⟩=some (.int .i64 dy))) [] krA ⟨q3,y0,y1,y2⟩ (fun hHeld => ?_)
 refine tkT 0 hHeld ?_
 refine tkT 1 hHeld ?_
 refine tkT 2 hHeld ?_
 refine tkT 4 hHeld ?_
 refine tkT 5 hHeld ?_
 refine tkT 6 hHeld ?_
 refine tkT 8 hHeld ?_
 refine tkT 11 hHeld ?_
 refine tkT 12 hHeld ?_
 refine tkT 13 hHeld ?_
 refine r2T 3 9 (fun K hK => ?_) (fun K hK => ?_)
 ·go_simp
  refine hK.out _ _ _ ⟨?_,?_,?_,?_⟩ (fun hHeld => ?_)
  iterate 4 (go_simp)
  clear hK K
  refine r2T 7 9 (fun K hK => ?_) (fun K hK => ?_)
  ·(refine ai _ rfl (.tmp 101) (.tmp 104) 40 rfl 43 ir _ Rcd.cells 3 56 Tryz.underlying40 hir pK oO pJ rfl omA bn dP V.heap.size (.slice (some ⟨V.heap.size,0,none⟩) 0 0) [] rfl (av.empty nbA leA) _ _ _ (L.take m) rfl smA ((HSL.out.take m).next au) smA mxA leA ?_;intro v1 u1 hown1 hg1 iM;have hb1':Below V.heap.size V u1:=Below.grown au hg1 leA (bC leA);have hsz1:=hb1'.size;have LB:w.heap.size<u1.heap.size:=omA;have S9:Y<u1.heap.size:=omA;have kx1:=(bD hb1' w.heap.size Es).1;have ky1:=(bD hb1' Y hYV).1)
   refine hK.out _ _ _ ⟨?_,?_,?_,?_⟩ (fun hHeld => ?_)
   iterate 4 (go_simp)
   clear hK K
   refine r1T 9 (fun K hK => ?_)
   go_simp
   refine hK.out _ _ _ ⟨?_,?_,?_,?_⟩ (fun hHeld => ?_)
   iterate 4 (go_simp)
   clear hK K
   refine r1T 10 (fun K hK => ?_)
   (refine ai _ rfl (.tmp 105) (.tmp 107) 40 rfl 43 ir _ Rcd.cells 3 56 Tryz.underlying40 hir pK oO pJ rfl omA bn dP V.heap.size v1 ([]++L.take m) rfl nfA _ _ _ [(⟨some ⟨rbb,0,none⟩,rc',row,SA',sc',sqs,dy⟩:Rcd)] rfl rfl (by exact Blk.one (enc:=Rcd.cells) (x:=⟨some ⟨rbb,0,none⟩,rc',row,SA',sc',sqs,dy⟩) (Blk.new' spA) spA) smA mxA (by have:=hb1'.size;simp;omega) ?_;intro v2 u2 hown2 hg2 qZ;have hb2':Below V.heap.size V u2:=Below.grown au hg2 (by have:=hb1'.size;simp;omega) hown1.row;have hsz2:=hb2'.size;have Td:w.heap.size<u2.heap.size:=omA;have SY:Y<u2.heap.size:=omA;have kx2:=(bD hb2' w.heap.size Es).1;have ky2:=(bD hb2' Y hYV).1)
   refine hK.out _ _ _ ⟨?_,?_,?_,?_⟩ (fun hHeld => ?_)
   iterate 4 (go_simp)
   clear hK K
   exact BO
  ·go_simp
   refine hK.out _ _ _ ⟨?_,?_,?_,?_⟩ (fun hHeld => ?_)
   iterate 4 (go_simp)
   clear hK K
   refine r1T 7 (fun K hK => ?_)
   (refine ai _ rfl (.tmp 101) (.tmp 104) 40 rfl 43 ir _ Rcd.cells 3 56 Tryz.underlying40 hir pK oO pJ rfl omA bn dP V.heap.size (.slice (some ⟨V.heap.size,0,none⟩) 0 0) [] rfl (av.empty nbA leA) _ _ _ (L.take m) rfl smA ((HSL.out.take m).next au) smA mxA leA ?_;intro v1 u1 hown1 hg1 iM;have hb1':Below V.heap.size V u1:=Below.grown au hg1 leA (bC leA);have hsz1:=hb1'.size;have LB:w.heap.size<u1.heap.size:=omA;have S9:Y<u1.heap.size:=omA;have kx1:=(bD hb1' w.heap.size Es).1;have ky1:=(bD hb1' Y hYV).1)
   have h40:Blk u1 (V.heap.size + 1) 43 (Rcd.cells ⟨some ⟨rbb,0,none⟩,rc',row,SA',sc',sqs,dy⟩).toArray:=Blk.grown ndA hg1 (fD omA)
   refine hK.out _ _ _ ⟨?_,?_,?_,?_⟩ (fun hHeld => ?_)
   iterate 4 (go_simp)
   clear hK K
   refine r1T 10 (fun K hK => ?_)
   (refine ai _ rfl (.tmp 105) (.tmp 107) 40 rfl 43 ir _ Rcd.cells 3 56 Tryz.underlying40 hir pK oO pJ rfl omA bn dP V.heap.size v1 ([]++L.take m) rfl nfA _ _ _ [(⟨some ⟨rbb,0,none⟩,rc',row,SA',sc',sqs,dy⟩:Rcd)] rfl rfl (by exact Blk.one (enc:=Rcd.cells) (x:=⟨some ⟨rbb,0,none⟩,rc',row,SA',sc',sqs,dy⟩) h40 h40.lt) smA mxA (by have:=hb1'.size;simp;omega) ?_;intro v2 u2 hown2 hg2 qZ;have hb2':Below V.heap.size V u2:=Below.grown au hg2 (by have:=hb1'.size;simp;omega) hown1.row;have hsz2:=hb2'.size;have Td:w.heap.size<u2.heap.size:=omA;have SY:Y<u2.heap.size:=omA;have kx2:=(bD hb2' w.heap.size Es).1;have ky2:=(bD hb2' Y hYV).1)
   refine hK.out _ _ _ ⟨?_,?_,?_,?_⟩ (fun hHeld => ?_)
   iterate 4 (go_simp)
   clear hK K
   exact BO
 ·go_simp
  refine hK.out _ _ _ ⟨?_,?_,?_,?_⟩ (fun hHeld => ?_)
  iterate 4 (go_simp)
  clear hK K
  refine r1T 3 (fun K hK => ?_)
  go_simp
  refine hK.out _ _ _ ⟨?_,?_,?_,?_⟩ (fun hHeld => ?_)
  iterate 4 (go_simp)
  clear hK K
  refine r1T 7 (fun K hK => ?_)
  (refine ai _ rfl (.tmp 101) (.tmp 104) 40 rfl 43 ir _ Rcd.cells 3 56 Tryz.underlying40 hir pK oO pJ rfl omA bn dP V.heap.size (.slice (some ⟨(V.heap.size + 1),0,none⟩) 0 0) [] rfl (av.empty nbA leA) _ _ _ (L.take m) rfl smA ((HSL.out.take m).next au) smA mxA leA ?_;intro v1 u1 hown1 hg1 iM;have hb1':Below V.heap.size V u1:=Below.grown au hg1 leA (bC leA);have hsz1:=hb1'.size;have LB:w.heap.size<u1.heap.size:=omA;have S9:Y<u1.heap.size:=omA;have kx1:=(bD hb1' w.heap.size Es).1;have ky1:=(bD hb1' Y hYV).1)
  have h40:Blk u1 V.heap.size 43 (Rcd.cells ⟨some ⟨rbb,0,none⟩,rc',row,SA',sc',sqs,dy⟩).toArray:=Blk.grown ncA hg1 (fD omA)
  refine hK.out _ _ _ ⟨?_,?_,?_,?_⟩ (fun hHeld => ?_)
  iterate 4 (go_simp)
  clear hK K
  refine r1T 10 (fun K hK => ?_)
  (refine ai _ rfl (.tmp 105) (.tmp 107) 40 rfl 43 ir _ Rcd.cells 3 56 Tryz.underlying40 hir pK oO pJ rfl omA bn dP V.heap.size v1 ([]++L.take m) rfl nfA _ _ _ [(⟨some ⟨rbb,0,none⟩,rc',row,SA',sc',sqs,dy⟩:Rcd)] rfl rfl (by exact Blk.one (enc:=Rcd.cells) (x:=⟨some ⟨rbb,0,none⟩,rc',row,SA',sc',sqs,dy⟩) h40 h40.lt) smA mxA (by have:=hb1'.size;simp;omega) ?_;intro v2 u2 hown2 hg2 qZ;have hb2':Below V.heap.size V u2:=Below.grown au hg2 (by have:=hb1'.size;simp;omega) hown1.row;have hsz2:=hb2'.size;have Td:w.heap.size<u2.heap.size:=omA;have SY:Y<u2.heap.size:=omA;have kx2:=(bD hb2' w.heap.size Es).1;have ky2:=(bD hb2' Y hYV).1)
  refine hK.out _ _ _ ⟨?_,?_,?_,?_⟩ (fun hHeld => ?_)
  iterate 4 (go_simp)
  clear hK K
  exact BO)):P:=h
theorem BO {P:Prop} (h:P:=by
 (
 refine r1T 14 (fun K hK => ?_)
 (refine ai _ rfl (.tmp 108) (.tmp 111) 40 rfl 43 ir _ Rcd.cells 3 56 Tryz.underlying40 hir pK oO pJ rfl omA bn dP V.heap.size v2 ([]++L.take m ++ [(⟨some ⟨rbb,0,none⟩,rc',row,SA',sc',sqs,dy⟩:Rcd)]) rfl hown2 _ _ _ (L.drop m) rfl (by first|(simp;done)|(have:=HL0.out;simp;omega)) (hcut.next hb2') smA mxA hb2'.size ?_;intro v3 u3 hown3 hg3 pO;have Mq:Below V.heap.size V u3:=Below.grown hb2' hg3 hb2'.size hown2.row;have Yt:=Mq.size;have kx3:=(bD Mq w.heap.size Es).1;have ky3:=(bD Mq Y hYV).1;obtain ⟨A3,c3,hv3,_,_⟩:=hown3.form;obtain ⟨n3,hn3⟩ : ∃ n3,n3=([]++L.take m ++ [(⟨some ⟨rbb,0,none⟩,rc',row,SA',sc',sqs,dy⟩:Rcd)]++L.drop m).length:=⟨_,rfl⟩;rw [← hn3] at hv3;subst hv3;have HN3:=qh hn3;have EW:=qh hown3;clear hn3 hown3)
 refine hK.out _ _ _ ⟨?_,?_,?_,?_⟩ (fun hHeld => ?_)
 iterate 4 (go_simp)
 clear hK K
 refine r1T 15 (fun K hK => ?_)
 go_simp
 refine hK.out _ _ _ ⟨?_,?_,?_,?_⟩ (fun hHeld => ?_)
 iterate 4 (go_simp)
 clear hK K
 refine r1T 16 (fun K hK => ?_)
 have Rf:=O7.out.below Mq nlr
 have g3:=Rf.eB bL HLL.out.symm hkl (j := 0) rfl
 have f3:=Rf.iN HLL.out.symm k
 simp only [Nat.mul_one,Nat.add_zero] at g3
 clear Rf
 go_simp
 have hqY:q≠Y:=(by have:=HOV.out.lt q rfl;omega)
 refine hK.out _ _ _ ⟨?_,?_,?_,?_⟩ (fun hHeld => ?_)
 go_simp
 iterate 3 (rw [World.cell?_setCell_far _ _ _ _ (by exact hqY)];go_simp)
 clear hK K
 refine aZ krA ?_ _
 clear hHeld
 exact NQ)):P:=h
theorem NQ {P:Prop} (h:P:=by
 (
 have bF:=qh (jf.out u3 A3 c3 (.slice A3 n3 c3) Mq (by rw [← HN3.out];exact EW.out) (by rw [HN3.out]))
 go_wp2_with fail
 go_ret
 first|exact bF.out|exact bF.out.drew)):P:=h
theorem DN (RA:Option Addr) (rc n:Nat) (rt:List RTab) (k:Nat) (kd sq dy:Int) (A0:Option Addr) (cp:Nat) (row:List Val) (key:Val) (cl:Int) (vl:Val) (w:World) (hrt:aP w w.heap.size RA rt) (hn:rt.length=n) (hsr:fV rt) (hk:k<rt.length) (hR:ag w w.heap.size Val.cells 3 A0 row) (hrlen:row.length ≤ 1000000) (h1:kd = 1 → 0<row.length) {z:Int} (hz:dS (ax rt[k]) (keyOf ⟨kd,sq,dy,(k:Int),A0,cp,row,key,cl,vl⟩)=z) (hk1:kd = 1) (hc:z < 0→rt[k].recs.length < 64) (hne : ∀ r∈rt[k].recs,0<r.row.length) :
 Calls Tryz.prog 46 #[.slice RA n rc, .agg #[.int .i64 kd, .int .i64 sq, .int .i64 dy, .int .i64 (k:Int), .slice A0 row.length cp, .int .i64 key.kind, .int .i64 key.num, .string key.text, .int .i64 cl, .int .i64 vl.kind, .int .i64 vl.num, .string vl.text]] w (iw w n (aU (rt.map ax) ⟨kd,sq,dy,(k:Int),A0,cp,row,key,cl,vl⟩)):=by
 have hr0:=h1 hk1
 have hkd:(kd == 1)=true:=by rw [hk1];rfl
 have HK1:=qh hk1
 have HNE:=qh hne
 have X0:=qh hc
 have HZ0:=qh hz
 obtain ⟨ir,hir,pK,oO,pJ⟩:=info_parts kL
 obtain ⟨iv,hiv,BZ,BX,BV⟩:=info_parts wX
 obtain ⟨ii,hii,Lv,Ls,Lr⟩:=info_parts jE
 clear hc hne hk1
 subst hn
 have hrn:=hsr.len
 have sP:=hsr.recs rt[k] (lgm hk)
 have eu:=hsr.row rt[k] (lgm hk)
 obtain ⟨kv,hkv⟩ : ∃ kv,keyOf ⟨kd,sq,dy,(k:Int),A0,cp,row,key,cl,vl⟩=kv:=⟨_,rfl⟩
 have HKV:=qh hkv
 have HZ:=qh hz
 have HRT:=qh hrt
 have HSR:=qh hsr
 have HR:=qh hR
 have HR0:=HR
 have H1:=qh h1
 clear hz hrt hsr hR h1 hkv
 go_enter Tryz.func46,Tryz.ntmps46
 go_upto_region 1 with (fail)
 refine ah (P:=fun u=>Code.wp _ _ _ _ u) (R:=fun u=>Blk u w.heap.size 53 (Chg.cells ⟨kd,sq,dy,(k:Int),A0,cp,row,key,cl,vl⟩).toArray∧Below w.heap.size w u) ⟨?_,?_⟩ ?_
 ·exact Blk.new _ _ _
 ·exact au
 rintro W ⟨hX,hbW⟩
 have hzW:=hX.lt
 have HX:=qh hX
 clear hX
 go_wp2_with fail
 (with_reducible refine (lY RA rc rt.length rt _ (HRT.out.next (aa hbW brf hbW.size)) rfl HSR.out).mono ?_)
 rintro e w1 ⟨q,l,rfl,hq,hll,hO,hT,hpl,hb1⟩
 have hx1:=aa hbW hb1 hbW.size
 have hX1:=HX.out.below hb1 omA
 have HX1:=qh hX1
 have hkl:k<l.length:=by omega
 have g0:=hO.eB bL (by rw [hll]) hkl (j := 0) rfl
 have hmp:=BL hpl hkl hk
 have hT0:=hT.recs hkl
 obtain ⟨⟨TA,tc,recs⟩,hlk⟩ : ∃ x:RTab,l[k]=x:=⟨_,rfl⟩
 rw [hlk] at g0 hmp hT0
 simp only [Nat.mul_one,Nat.add_zero] at g0 hmp hT0
 have vB:recs.length=rt[k].recs.length:=by have:=congrArg List.length hmp;simpa [ax] using this
 have hrw : ∀ x∈recs,x.row.length ≤ 1000000:=fun x hx=>by
  have h:aG x∈ax rt[k]:=by rw [← hmp];exact List.mem_map_of_mem hx
  obtain ⟨y,hy,hyx⟩:=List.mem_map.1 h
  have h2:y.row=x.row:=congrArg (fun p=>p.1) hyx
  rw [← h2]
  exact eu y hy
 have hrl:recs.length ≤ 1000000:=by omega
 have vR:=qh vB
 have HLL:=qh hll
 have hzk:=HZ.out
 rw [HKV.out,← hmp,← eY] at hzk
 have HMP:=qh hmp
 have HT0:=qh hT0
 have HLK:=qh hlk
 have HO:=qh hO
 have HT:=qh hT
 have HPL:=qh hpl
 have HZK:=qh hzk
 have HRW:=qh hrw
 have hkn:decide (k<rt.length)=true:=by simpa using hk
 have hzq:=hb1.size
 obtain ⟨⟨q0,q1,q2,q3⟩,q4,⟨q5,q6,q7⟩,q8,q9,q10,q11⟩:=Chg.eZ hX1
 simp only at q0 q1 q2 q3 q4 q5 q6 q7 q8 q9 q10 q11
 clear hX1 hmp hT0 hlk hO hT hpl hzk hrw sP eu vB hll
 go_wp2_with fail
 (with_reducible refine (gp ⟨kd,sq,dy,(k:Int),A0,cp,row,key,cl,vl⟩ _ (HR.out.next (aa hx1 au hx1.size)) hrlen H1.out HKV.out).mono ?_)
 rintro e w2 ⟨rfl,hb2⟩
 clear q0 q1 q2 q3 q4 q5 q6 q7 q8 q9 q10 q11
 have hz2:=hb2.size
 have hX2:=HX1.out.below hb2 omA
 have HX2:=qh hX2
 obtain ⟨⟨q0,q1,q2,q3⟩,q4,⟨q5,q6,q7⟩,q8,q9,q10,q11⟩:=Chg.eZ hX2
 simp only at q0 q1 q2 q3 q4 q5 q6 q7 q8 q9 q10 q11
 clear hX2 g0
 go_wp2_with fail
 (with_reducible refine (iq TA tc recs.length recs kv _ (HT0.out.read.next hb2) rfl hrl HRW.out HZK.out).mono ?_)
 rintro e U ⟨rfl,hb3⟩
 clear q0 q1 q2 q3 q4 q5 q6 q7 q8 q9 q10 q11
 have hbU:=aa hb2 hb3 hb2.size
 have hzU:=hbU.size
 have hxU:=aa hx1 hbU hx1.size
 have hX3:=HX1.out.below hbU omA
 have HX3:=qh hX3
 have HO3:=qh (HO.out.below hbU nlr)
 have HT3:=qh (HT.out.below hbU nlr)
 have hbase:w.heap.size≤W.heap.size:=hbW.size
 have Jw:w.heap.size<U.heap.size:=by omega
 have HRR:=qh ((HT3.out.recs hkl).read)
 rw [HLK.out] at HRR
 have oh:=qh HRR.out.1
 clear HX1 HO HT hb2 hb3 hz2 HR H1
 obtain ⟨⟨q0,q1,q2,q3⟩,q4,⟨q5,q6,q7⟩,q8,q9,q10,q11⟩:=Chg.eZ hX3
 simp only at q0 q1 q2 q3 q4 q5 q6 q7 q8 q9 q10 q11
 clear hX3
 have hro:=HT3.out.recs hkl
 rw [HLK.out] at hro
 have HRO:=qh hro
 have Vr:Hid (∀ x∈recs,0<x.row.length):=qh fun x hx=>by
  have h:aG x∈ax rt[k]:=by rw [← HMP.out];exact List.mem_map_of_mem hx
  obtain ⟨y,hy,hyx⟩:=List.mem_map.1 h
  have h2:y.row=x.row:=congrArg (fun p=>p.1) hyx
  rw [← h2]
  exact HNE.out y hy
 have VB:Hid (l[k].recs=recs):=qh (by
  have h2 : ∀ t:RTab,t=⟨TA,tc,recs⟩→t.recs=recs:=fun t ht=>by subst ht;rfl
  exact h2 _ HLK.out)
 clear hro
 go_upto_if 41 with (fail)
 go_cut [6] from 40 to 54 (fun v6 wx => ∃ (LA:Option Addr) (LC:Nat) (L:List Rcd),v6 = .slice LA L.length LC∧gz wx W.heap.size LA LC L∧Below U.heap.size U wx∧(∀ x∈L,0<x.row.length)∧nS (L.map aG) (gN ⟨kd,sq,dy,(k:Int),A0,cp,row,key,cl,vl⟩)=dn (l[k].recs.map aG) ⟨kd,sq,dy,(k:Int),A0,cp,row,key,cl,vl⟩∧L.length ≤ 1000000)
 case first =>
  by_cases hz0 : 0≤z
  ·obtain ⟨j,hj,hje⟩:=nT (l:=ax rt[k]) (key:=keyOf ⟨kd,sq,dy,(k:Int),A0,cp,row,key,cl,vl⟩) (by rw [HZ0.out];exact hz0)
   have hjr:j<rt[k].recs.length:=by simpa [ax] using hj
   rw [HZ0.out] at hje
   subst hje
   have hz1:decide ((0:Int)≤(j:Int))=true:=by simp
   have hjl:j<recs.length:=by have:=vR.out;omega
   obtain ⟨tb,htb⟩ : ∃ g,TA=some ⟨g,0,none⟩:=ed HRO.out.1 (Nat.lt_of_le_of_lt (Nat.zero_le _) hjl)
   have hcap:recs.length≤tc:=mY HRO.out.1
   subst htb
   have hjc:j≤tc:=by omega
   have QQ:j + 1≤tc:=by omega
   have hwr:IntKind.i64.wrap ((j:Int) + 1)=((j + 1:Nat):Int):=by rw [show (j:Int) + 1=((j + 1:Nat):Int) by omega];exact IntWalk.i64_in _ omA
   have hi1:(j:Int)≤(j:Int) + 1:=by omega
   have hi2:(0:Int)≤(j:Int) + 1:=by omega
   have hi3:(j:Int) + 1≤(recs.length:Int):=by omega
   obtain ⟨L,hLd⟩ : ∃ L,L = []++recs.take j++recs.drop (j + 1):=⟨_,rfl⟩
   have HLD:=qh hLd
   have hLl:L.length ≤ 1000000:=by rw [hLd];simp;omega
   have hsub : ∀ x∈L,x∈recs:=fun x hx=>by
    rw [hLd] at hx
    rcases List.mem_append.1 hx with h|h
    ·exact List.mem_of_mem_take (by simpa using h)
    ·exact List.mem_of_mem_drop h
   have HOLD:Hid (∀ LA LC u2,av u2 U.heap.size 43 Rcd.cells 3 (.slice LA L.length LC) L→Below U.heap.size U u2 → ∃ (LA':Option Addr) (LC':Nat) (L':List Rcd),Value.slice LA L.length LC = .slice LA' L'.length LC'∧gz u2 W.heap.size LA' LC' L'∧Below U.heap.size U u2∧(∀ x∈L',0<x.row.length)∧nS (L'.map aG) (gN ⟨kd,sq,dy,(k:Int),A0,cp,row,key,cl,vl⟩)=dn (l[k].recs.map aG) ⟨kd,sq,dy,(k:Int),A0,cp,row,key,cl,vl⟩∧L'.length ≤ 1000000):=qh fun LA LC u2 hown hb=>by
    refine ⟨LA,LC,L,rfl,⟨hown.mono omA,fun x hx => ?_⟩,hb,fun x hx=>Vr.out x (hsub x hx),?_,hLl⟩
    ·have:=HRO.out.2 x (hsub x hx)
     exact ⟨this.1.below hb nlr,this.2.below hb nlr⟩
    ·rw [VB.out,Ar (x:=⟨kd,sq,dy,(k:Int),A0,cp,row,key,cl,vl⟩) (j:=j) HK1.out (by rw [HKV.out,← eY];exact HZK.out),HLD.out]
     simp [iW,List.map_take,List.map_drop]
   clear hLd hsub hz0
   rw [hz1]
   go_upto_region 7 with (fail)
   by_cases hcm:tc=j + 1
   ·have hcut:ag U U.heap.size Rcd.cells 3 (some ⟨tb,0,none⟩) (recs.drop (j + 1)):=by
     rw [List.drop_eq_nil_of_le omA]
     exact ag.nil
    have hcm':=eq_true hcm
    clear hcm
    exact Hg
   ·have hcut:ag U U.heap.size Rcd.cells 3 (some ⟨tb,(j + 1) * 3,none⟩) (recs.drop (j + 1)):=by have h:=oh.out.cut (c:=tc) (j + 1) omA;rw [if_neg hcm] at h;simpa using h
    exact Hg
  ·have hz1:decide (0≤z)=false:=by simp;omega
   have h64:=X0.out omA
   have yD:decide (64≤recs.length)=false:=by have:=vR.out;simp;omega
   have Ro:decide ((64:Int)≤(recs.length:Int))=false:=by have:=vR.out;simp;omega
   have uJ:Hid (nS (recs.map aG) (gN ⟨kd,sq,dy,(k:Int),A0,cp,row,key,cl,vl⟩)=dn (l[k].recs.map aG) ⟨kd,sq,dy,(k:Int),A0,cp,row,key,cl,vl⟩):=qh (by
    rw [VB.out,uV (x:=⟨kd,sq,dy,(k:Int),A0,cp,row,key,cl,vl⟩) HK1.out (by rw [HKV.out,← eY,HZK.out];omega) (by have:=vR.out;simp;omega)])
   have EU:Hid (gz U W.heap.size TA tc recs):=HRO
   have hrl2:recs.length ≤ 1000000:=by have:=vR.out;omega
   clear hz0 h64
   rw [hz1]
   go_wp2_with fail
   go_meet
   exact ⟨TA,tc,recs,rfl,EU.out,Below.refl _ _,Vr.out,uJ.out,hrl2⟩
 case rest =>
 obtain ⟨LA,LC,L,rfl,TE,Mo,T9,hpf,hLl⟩:=hcut
 obtain ⟨V0,rfl⟩ : ∃ V0:World,V0=wc:=⟨_,rfl⟩
 have Yd:=Mo.size
 have HLV:=qh TE
 have XR:=qh T9
 have HPF:=qh hpf
 have HLR:=qh HLV.out.read
 have X7:=mY HLV.out.1
 have HOC:=qh (Ja HLV.out.1)
 have HOV:=qh (HO3.out.below Mo nlr)
 have HTV:=qh (HT3.out.below Mo nlr)
 have hxV:=aa hxU Mo hxU.size
 have HRV:=qh (HR0.out.next hxV)
 have hXV:=HX3.out.below Mo Jw
 have HXV:=qh hXV
 have wC:w.heap.size<V0.heap.size:=by omega
 clear q0 q1 q2 q3 q4 q5 q6 q7 q8 q9 q10 q11
 obtain ⟨⟨q0,q1,q2,q3⟩,q4,⟨q5,q6,q7⟩,q8,q9,q10,q11⟩:=Chg.eZ hXV
 simp only at q0 q1 q2 q3 q4 q5 q6 q7 q8 q9 q10 q11
 clear hXV TE T9 hpf
 go_upto_region 10 with (fail)
 go_cut [8] from 56 to 62 (fun v8 wx => ∃ Y RA' rc',v8 = .pointer (some ⟨Y,0,none⟩)∧V0.heap.size≤Y∧Blk wx Y 43 #[.slice RA' row.length rc', .slice none 0 0, .int .i64 dy]∧av wx V0.heap.size 51 Val.cells 3 (.slice RA' row.length rc') row∧Below V0.heap.size V0 wx)
 case first =>
  refine aM (S:=(fun u=>u.cell? ⟨w.heap.size,4,none⟩=some (.slice A0 row.length cp)∧u.cell? ⟨w.heap.size,2,none⟩=some (.int .i64 dy))) [] krA ⟨q4,q2⟩ (fun hHeld => ?_)
  refine tkT 1 hHeld ?_
  refine tkT 2 hHeld ?_
  refine tkT 4 hHeld ?_
  refine tkT 5 hHeld ?_
  refine r2T 0 7 (fun K hK => ?_) (fun K hK => ?_)
  ·go_simp
   refine hK.out _ _ _ ⟨?_,?_⟩ (fun hHeld => ?_)
   iterate 2 (go_simp)
   clear hK K
   refine r2T 3 7 (fun K hK => ?_) (fun K hK => ?_)
   ·(refine ai _ rfl (.tmp 56) (.tmp 58) 41 rfl 51 iv _ Val.cells 3 32 Tryz.underlying41 hiv BZ BX BV rfl omA dA val_one V0.heap.size (.slice (some ⟨V0.heap.size,0,none⟩) 0 0) [] rfl (av.empty nbA leA) _ _ _ row rfl rfl (HRV.out.next au) smA mxA leA ?_;intro v1 u1 hown1 hg1 iM;have hb1':Below V0.heap.size V0 u1:=Below.grown au hg1 leA (bC leA);have hsz1:=hb1'.size;have LB:w.heap.size<u1.heap.size:=omA;have kx1:=(bD hb1' w.heap.size wC).1;rw [List.nil_append] at hown1;obtain ⟨RA',rc',rfl,TH,_⟩:=hown1.form)
    refine hK.out _ _ _ ⟨?_,?_⟩ (fun hHeld => ?_)
    iterate 2 (go_simp)
    clear hK K
    refine tkT 6 hHeld ?_
    refine r1T 7 (fun K hK => ?_)
    go_simp
    refine hK.out _ _ _ ⟨?_,?_⟩ (fun hHeld => ?_)
    iterate 2 (go_simp)
    clear hK K
    exact BQ
   ·go_simp
    refine hK.out _ _ _ ⟨?_,?_⟩ (fun hHeld => ?_)
    iterate 2 (go_simp)
    clear hK K
    refine r1T 3 (fun K hK => ?_)
    (refine ai _ rfl (.tmp 56) (.tmp 58) 41 rfl 51 iv _ Val.cells 3 32 Tryz.underlying41 hiv BZ BX BV rfl omA dA val_one V0.heap.size (.slice (some ⟨V0.heap.size,0,none⟩) 0 0) [] rfl (av.empty nbA leA) _ _ _ row rfl rfl (HRV.out.next au) smA mxA leA ?_;intro v1 u1 hown1 hg1 iM;have hb1':Below V0.heap.size V0 u1:=Below.grown au hg1 leA (bC leA);have hsz1:=hb1'.size;have LB:w.heap.size<u1.heap.size:=omA;have kx1:=(bD hb1' w.heap.size wC).1;rw [List.nil_append] at hown1;obtain ⟨RA',rc',rfl,TH,_⟩:=hown1.form)
    have sU:Blk u1 (V0.heap.size + 1) 43 #[.slice none 0 0, .slice none 0 0, .int .i64 0]:=Blk.grown ndA hg1 (fD omA)
    have yy0:=sU.cell 0
    have yy1:=sU.cell 1
    have yy2:=sU.cell 2
    have yf0:=sU.frozen 0
    have yf1:=sU.frozen 1
    have yf2:=sU.frozen 2
    simp only [gE3] at yy0 yy1 yy2
    refine hK.out _ _ _ ⟨?_,?_⟩ (fun hHeld => ?_)
    iterate 2 (go_simp)
    clear hK K
    refine tkT 6 hHeld ?_
    exact BQ
  ·go_simp
   refine hK.out _ _ _ ⟨?_,?_⟩ (fun hHeld => ?_)
   iterate 2 (go_simp)
   clear hK K
   refine r1T 0 (fun K hK => ?_)
   go_simp
   refine hK.out _ _ _ ⟨?_,?_⟩ (fun hHeld => ?_)
   iterate 2 (go_simp)
   clear hK K
   refine r1T 3 (fun K hK => ?_)
   (refine ai _ rfl (.tmp 56) (.tmp 58) 41 rfl 51 iv _ Val.cells 3 32 Tryz.underlying41 hiv BZ BX BV rfl omA dA val_one V0.heap.size (.slice (some ⟨(V0.heap.size + 1),0,none⟩) 0 0) [] rfl (av.empty nbA leA) _ _ _ row rfl rfl (HRV.out.next au) smA mxA leA ?_;intro v1 u1 hown1 hg1 iM;have hb1':Below V0.heap.size V0 u1:=Below.grown au hg1 leA (bC leA);have hsz1:=hb1'.size;have LB:w.heap.size<u1.heap.size:=omA;have kx1:=(bD hb1' w.heap.size wC).1;rw [List.nil_append] at hown1;obtain ⟨RA',rc',rfl,TH,_⟩:=hown1.form)
   have sU:Blk u1 V0.heap.size 43 #[.slice none 0 0, .slice none 0 0, .int .i64 0]:=Blk.grown ncA hg1 (fD omA)
   have yy0:=sU.cell 0
   have yy1:=sU.cell 1
   have yy2:=sU.cell 2
   have yf0:=sU.frozen 0
   have yf1:=sU.frozen 1
   have yf2:=sU.frozen 2
   simp only [gE3] at yy0 yy1 yy2
   refine hK.out _ _ _ ⟨?_,?_⟩ (fun hHeld => ?_)
   iterate 2 (go_simp)
   clear hK K
   refine tkT 6 hHeld ?_
   exact BQ
 case rest =>
  obtain ⟨Y,RA',rc',rfl,hY,hbY,LQ,hbx⟩:=hcut
  have VK:=qh hbY
  have Vn:=qh LQ
  clear hbY LQ
  clear q0 q1 q2 q3 q4 q5 q6 q7 q8 q9 q10 q11
  go_wp2_with fail
  go_loopw [9] (fun vi wr => ∃ (i:Nat) (SA':Option Addr) (sc':Nat),i≤row.length∧vi = .int .i64 i∧Blk wr Y 43 #[.slice RA' row.length rc', .slice SA' i sc', .int .i64 dy]∧av wr V0.heap.size 51 Val.cells 3 (.slice RA' row.length rc') row∧av wr V0.heap.size 3 intCells 1 (.slice SA' i sc') (List.replicate i sq)∧Below V0.heap.size V0 wr) (fun vi _=>row.length - (intOf vi).toNat)
  case atStart=>exact ⟨0,none,0,Nat.zero_le _,rfl,VK.out,Vn.out,av.nil,hbx⟩
  case round =>
   clear hbx VK Vn
   obtain ⟨i,SA',sc',hi,rfl,hbY,LQ,TW,hbr⟩:=hrel
   have hwz:=hbr.size
   have HBY:=qh hbY
   have HRO:=qh LQ
   have HSQ:=qh TW
   have hXr:=HXV.out.below hbr wC
   have hYr:=hbY.lt
   have y1:=hbY.cell 1
   simp only [gE3] at y1
   obtain ⟨⟨q0,q1,q2,q3⟩,q4,⟨q5,q6,q7⟩,q8,q9,q10,q11⟩:=Chg.eZ hXr
   simp only at q0 q1 q2 q3 q4 q5 q6 q7 q8 q9 q10 q11
   clear hbY LQ TW hXr
   by_cases hlt:i<row.length
   ·have hlt':decide (i<row.length)=true:=by simpa using hlt
    go_wp2_with (at_builtin;go_must (refine aR _ rfl (.tmp 71) (.tmp 74) 22 rfl 3 ii _ intCells 1 8 Tryz.underlying22 hii Lv Ls Lr rfl omA bq dQ V0.heap.size (.slice SA' i sc') (List.replicate i sq) rfl (HSQ.out.alloc _) _ _ _ [sq] rfl rfl (Blk.one (enc:=intCells) (x:=sq) (Blk.new' rfl) spA) smA mxA smA ?_);intro v2 w2 hown2 hg2 qZ;obtain ⟨SA2,sc2,rfl,hsc2,_⟩:=hown2.form;have OC:=(HBY.out.alloc _).grown hg2 (fun e=>HSQ.out.fC HBY.out (by decide) Y e.symm rfl);have y1:=OC.cell 1;have f1:=OC.frozen 1;simp only [gE3] at y1;have RZ:=qh OC;have HQ2:=qh hown2;have EU:=qh ((HRO.out.alloc _).kept hg2 (HRO.out.dF HSQ.out (by decide)));have hx2:Below V0.heap.size V0 w2:=Below.grown (hbr.alloc hbr.size _) hg2 smA HSQ.out.row;clear OC hown2)
    go_roundw
    case rel=>exact ⟨i + 1,SA2,sc2,by omega,by go_num,RZ.out.bS 1 _,EU.out.eO (by have h:=RZ.out;unfold Blk at h;exact h) (by decide) _,by have h:=HQ2.out.eO (q:=Y) (i := 1) (by have h:=RZ.out;unfold Blk at h;exact h) (by decide) (.slice SA2 (i + 1) sc2);simpa [List.replicate_succ'] using h,hx2.setCell hY _⟩
    case measure=>exact meA
   have hlt':decide (i<row.length)=false:=by simpa using hlt
   have hie:i=row.length:=by omega
   subst hie
   go_wp2_with fail
   clear y1 hlt hlt' hi
   clear q0 q1 q2 q3 q4 q5 q6 q7 q8 q9 q10 q11
   have Js:=HRO.out
   obtain ⟨rbb,Wm⟩:=ed Js hr0
   subst Wm
   have hx0:=Js.eB dA rfl hr0 (j := 0) rfl
   have hx1:=Js.eB dA rfl hr0 (j := 1) rfl
   have hx2:=Js.eB dA rfl hr0 (j := 2) rfl
   have Qz:rbb<wr.heap.size:=Js.lt rbb rfl
   obtain ⟨rh,hrh⟩ : ∃ v,row[0]=v:=⟨_,rfl⟩
   rw [hrh] at hx0 hx1 hx2
   simp only [Nat.zero_mul,Nat.add_zero,Nat.zero_add] at hx0 hx1 hx2
   have U9:=qh (And.intro hx0 (And.intro hx1 hx2))
   have HRH:=qh hrh
   obtain ⟨sqs,Og⟩ : ∃ s,List.replicate row.length sq=s:=⟨_,rfl⟩
   have hsl:sqs.length=row.length:=by rw [← Og];simp
   have hsq:=HSQ.out
   rw [Og] at hsq
   have Ve:=qh Og
   have Vf:=qh hsq
   have O0:=qh hsl
   clear hx0 hx1 hx2 hrh Og hsq hsl Js
   rcases HOC.out with ⟨hA,hL,hC⟩|⟨lb,hA⟩
   ·have HL0:Hid (L.length = 0):=qh (by rw [hL];rfl)
    clear hL
    subst hA hC
    obtain ⟨wo,rfl⟩ : ∃ wo:World,wo=wr:=⟨_,rfl⟩
    go_loopw [10] (fun vm wr => ∃ m:Nat,m≤L.length∧vm = .int .i64 m∧Below wo.heap.size wo wr∧(∀ i (h:i<L.length),i<m→decide (aY (aJ (aG L[i])) rh < 0)=true)) (fun vm _=>L.length - (intOf vm).toNat)
    case atStart=>exact ⟨0,Nat.zero_le _,rfl,Below.refl _ _,fun i _ h=>by omega⟩
    case round =>
     obtain ⟨m,hm,rfl,hb2,hlo⟩:=hrel
     have HLO:=qh hlo
     have hbV:=aa hbr hb2 hbr.size
     have Od:=hb2.size
     have Cr:=HBY.out.below hb2 hYr
     have y0:=Cr.cell 0
     have y1:=Cr.cell 1
     have y2:=Cr.cell 2
     simp only [gE3] at y0 y1 y2
     have hXr:=HXV.out.below hbV wC
     obtain ⟨⟨q0,q1,q2,q3⟩,q4,⟨q5,q6,q7⟩,q8,q9,q10,q11⟩:=Chg.eZ hXr
     simp only at q0 q1 q2 q3 q4 q5 q6 q7 q8 q9 q10 q11
     clear hlo Cr hXr
     by_cases hlt:m<L.length
     ·exact absurd hlt (by rw [HL0.out];exact Nat.not_lt_zero _)
     ·have hlt':decide (m<L.length)=false:=by simpa using hlt
      have O6:Hid (gG (L.map aG) (gN ⟨kd,sq,dy,(k:Int),A0,cp,row,key,cl,vl⟩)=m):=qh (by
       have e1:aJ (gN ⟨kd,sq,dy,(k:Int),A0,cp,row,key,cl,vl⟩)=rh:=by rw [jm hr0];exact HRH.out
       refine uS omA (fun i h hi=>by rw [e1];exact HLO.out i h hi) (fun h=>absurd h hlt))
      go_upto_region 16 with (fail)
      refine af krA krA ?_;(repeat (go_big_quiet_step (fail)));refine wpQuiet_nil ?_;intro wq hq
      clear y0 y1 y2
      clear q0 q1 q2 q3 q4 q5 q6 q7 q8 q9 q10 q11
      exact NR
   ·subst hA
    obtain ⟨wo,rfl⟩ : ∃ wo:World,wo=wr:=⟨_,rfl⟩
    go_loopw [10] (fun vm wr => ∃ m:Nat,m≤L.length∧vm = .int .i64 m∧Below wo.heap.size wo wr∧(∀ i (h:i<L.length),i<m→decide (aY (aJ (aG L[i])) rh < 0)=true)) (fun vm _=>L.length - (intOf vm).toNat)
    case atStart=>exact ⟨0,Nat.zero_le _,rfl,Below.refl _ _,fun i _ h=>by omega⟩
    case round =>
     obtain ⟨m,hm,rfl,hb2,hlo⟩:=hrel
     have HLO:=qh hlo
     have hbV:=aa hbr hb2 hbr.size
     have Od:=hb2.size
     have Cr:=HBY.out.below hb2 hYr
     have y0:=Cr.cell 0
     have y1:=Cr.cell 1
     have y2:=Cr.cell 2
     simp only [gE3] at y0 y1 y2
     have hXr:=HXV.out.below hbV wC
     obtain ⟨⟨q0,q1,q2,q3⟩,q4,⟨q5,q6,q7⟩,q8,q9,q10,q11⟩:=Chg.eZ hXr
     simp only at q0 q1 q2 q3 q4 q5 q6 q7 q8 q9 q10 q11
     clear hlo Cr hXr
     by_cases hlt:m<L.length
     ·have hlt':decide (m<L.length)=true:=by simpa using hlt
      have eu:=XR.out L[m] (lgm hlt)
      obtain ⟨b5,o5,hAe,hb5,hc5⟩:=(HLR.out.1.below hbV).get hlt
      obtain ⟨d0,d1,d2⟩:=Rcd.cells3 hc5
      have Oj:=(HLR.out.2 L[m] (lgm hlt)).1.below hbV
      obtain ⟨⟨QA,qc,gU,QS,qs,gF,qd⟩,hy⟩ : ∃ x:Rcd,L[m]=x:=⟨_,rfl⟩
      rw [hy] at d0 d1 d2 Oj eu
      simp only at d0 d1 d2 Oj eu
      obtain ⟨b6,o6,hQe,hb6,hc6⟩:=Oj.get eu
      obtain ⟨v0,v1,v2⟩:=Val.cells3 hc6
      simp only [Nat.zero_mul,Nat.add_zero] at v0 v1 v2
      obtain ⟨pv,hpv⟩ : ∃ v:Val,gU[0]=v:=⟨_,rfl⟩
      rw [hpv] at v0 v1 v2
      have HPV:Hid (aJ (aG L[m])=pv):=qh (by rw [hy];exact (Md (x:=⟨QA,qc,gU,QS,qs,gF,qd⟩) eu).trans hpv)
      subst hQe
      injection hAe with hAe
      injection hAe with hA1 hA2
      subst hA1 hA2
      simp only [Nat.zero_add] at d0 d1 d2
      obtain ⟨z9,hz9⟩ : ∃ z,aY pv rh=z:=⟨_,rfl⟩
      have HZ9:=qh hz9
      obtain ⟨x0,x1,x2⟩:=U9.out
      have x0:=(hb2.cell (p:=⟨rbb,_,none⟩) Qz).trans x0
      have x1:=(hb2.cell (p:=⟨rbb,_,none⟩) Qz).trans x1
      have x2:=(hb2.cell (p:=⟨rbb,_,none⟩) Qz).trans x2
      have hk0:=aC (w:=wr) Y omA
      have hk1:=aC (w:=wr) lb omA
      have hk2:=aC (w:=wr) b6 omA
      have hk3:=aC (w:=wr) rbb omA
      have Gc:decide (0<gU.length)=true:=by simpa using eu
      have pM:decide (0<row.length)=true:=by simpa using hr0
      clear hc5 Oj hy hc6 hpv hz9
      cases hzz:decide (z9 < 0)
      rotate_left
      ·have HLT:Hid (decide (aY (aJ (aG L[m])) rh < 0)=true):=qh (by rw [HPV.out,HZ9.out];exact hzz)
       go_upto_region 16 with (fail)
       refine af krA krA ?_;(repeat (go_big_quiet_step ((go_at_call 96;with_reducible exact aW (qg pv rh _ HZ9.out)))));refine wpQuiet_nil ?_;intro wq hq
       clear hk0 hk1 hk2 hk3 d0 d1 d2 v0 v1 v2 x0 x1 x2 y0 y1 y2
       clear q0 q1 q2 q3 q4 q5 q6 q7 q8 q9 q10 q11
       go_wp2_with fail
       go_roundw
       case rel=>exact ⟨m + 1,by omega,by go_num,aa hb2 hq hb2.size,fun j h hj=>by
        rcases Nat.lt_or_ge j m with h1|h1
        ·exact HLO.out j h h1
        ·obtain rfl:j=m:=by omega
         exact HLT.out⟩
       case measure=>exact meA
      ·have O6:Hid (gG (L.map aG) (gN ⟨kd,sq,dy,(k:Int),A0,cp,row,key,cl,vl⟩)=m):=qh (by
        have e1:aJ (gN ⟨kd,sq,dy,(k:Int),A0,cp,row,key,cl,vl⟩)=rh:=by rw [jm hr0];exact HRH.out
        refine uS omA (fun i h hi=>by rw [e1];exact HLO.out i h hi) (fun h=>by rw [e1,HPV.out,HZ9.out];exact hzz))
       go_upto_region 16 with (fail)
       refine af krA krA ?_;(repeat (go_big_quiet_step ((go_at_call 96;with_reducible exact aW (qg pv rh _ HZ9.out)))));refine wpQuiet_nil ?_;intro wq hq
       clear hk0 hk1 hk2 hk3 d0 d1 d2 v0 v1 v2 x0 x1 x2 y0 y1 y2
       clear q0 q1 q2 q3 q4 q5 q6 q7 q8 q9 q10 q11
       exact Hf
     ·have hlt':decide (m<L.length)=false:=by simpa using hlt
      have O6:Hid (gG (L.map aG) (gN ⟨kd,sq,dy,(k:Int),A0,cp,row,key,cl,vl⟩)=m):=qh (by
       have e1:aJ (gN ⟨kd,sq,dy,(k:Int),A0,cp,row,key,cl,vl⟩)=rh:=by rw [jm hr0];exact HRH.out
       refine uS omA (fun i h hi=>by rw [e1];exact HLO.out i h hi) (fun h=>absurd h hlt))
      go_upto_region 16 with (fail)
      refine af krA krA ?_;(repeat (go_big_quiet_step (fail)));refine wpQuiet_nil ?_;intro wq hq
      clear y0 y1 y2
      clear q0 q1 q2 q3 q4 q5 q6 q7 q8 q9 q10 q11
      exact Hf
end Go.Proofs.YtkiglflbngfelaaGreat
