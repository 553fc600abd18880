/-
  Contracts and plain laws of this seat, part 8: Perf, PerfN.
-/
import Derived.Test.YtjhnpnhpmdkpcaaGreatB7
set_option linter.unusedVariables false
set_option linter.unusedSimpArgs false
set_option maxRecDepth 100000
set_option maxHeartbeats 16000000
namespace Go.Proofs.YtjhnpnhpmdkpcaaGreat
open Go.RowKit
theorem lPerf1 {P:Prop} (h:P:=by
 refine wp_region_T (S:=(fun u=>u.cell? ⟨w.heap.size,3,none⟩=some (.int .i64 (k:Int)))) [] krA q3 (fun hHeld => ?_)
 refine tkT 0 hHeld ?_
 refine tkT 1 hHeld ?_
 refine tkT 2 hHeld ?_
 refine tkT 4 hHeld ?_
 refine tkT 5 hHeld ?_
 refine tkT 6 hHeld ?_
 refine tkT 8 hHeld ?_
 refine tkT 9 hHeld ?_
 refine tkT 10 hHeld ?_
 refine tkT 11 hHeld ?_
 refine r1T 3 (fun K hK => ?_)
 go_simp
 refine hK.out _ _ _ ?_ (fun hHeld => ?_)
 ·go_simp
 clear hK K
 refine r1T 7 (fun K hK => ?_)
 (refine step_append_list _ rfl (.tmp 25) (.tmp 28) 45 rfl 48 ir _ Rcd.cells 3 56 Tryz.underlying45 hir hzr1 hzr2 hzr3 rfl omA rcd_len rcd_one U.heap.size (.slice (some ⟨U.heap.size,0,none⟩) 0 0) [] rfl (Owns.empty nbA leA) _ _ _ (recs.take j) rfl smA ((HRR1.out.take j).next belA) smA mxA leA ?_;intro v1 u1 hown1 hg1 hat1;have hb1':Below U.heap.size U u1:=Below.grown belA hg1 leA (own_row leA);have hsz1:=hb1'.size;have kx1:=(keepB hb1' w.heap.size hbxU).1)
 refine hK.out _ _ _ ?_ (fun hHeld => ?_)
 ·go_simp
 clear hK K
 refine r1T 12 (fun K hK => ?_)
 (refine step_append_list _ rfl (.tmp 29) (.tmp 33) 45 rfl 48 ir _ Rcd.cells 3 56 Tryz.underlying45 hir hzr1 hzr2 hzr3 rfl omA rcd_len rcd_one U.heap.size v1 ([]++recs.take j) rfl hown1 _ _ _ (recs.drop (j + 1)) rfl spA (hcut.next hb1') smA mxA hb1'.size ?_;intro v2 u2 hown2 hg2 hat2;have hb2':Below U.heap.size U u2:=Below.grown hb1' hg2 hb1'.size hown1.row;have hsz2:=hb2'.size;have kx2:=(keepB hb2' w.heap.size hbxU).1)
 rw [List.nil_append] at hown2
 obtain ⟨A3,c3,hv2,_,_⟩:=hown2.form
 obtain ⟨n3,hn3⟩ : ∃ n3,n3=(recs.take j++recs.drop (j + 1)).length:=⟨_,rfl⟩
 rw [← hn3] at hv2
 subst hv2
 have HN3:=qh hn3
 have HOWN2:=qh hown2
 clear hn3 hown2
 refine hK.out _ _ _ ?_ (fun hHeld => ?_)
 ·go_simp
 clear hK K
 refine r1T 13 (fun K hK => ?_)
 go_simp
 refine hK.out _ _ _ ?_ (fun hHeld => ?_)
 ·go_simp
 clear hK K
 refine r1T 14 (fun K hK => ?_)
 have hO2':=HO3.out.below hb2' nlr
 have g3:=hO2'.getE rtab_len HLL.out.symm hkl (j := 0) rfl
 have f3:=hO2'.frzE HLL.out.symm k
 simp only [Nat.mul_one,Nat.add_zero] at g3
 clear hO2'
 go_simp
 refine hK.out _ _ _ ?_ (fun hHeld => ?_)
 ·go_simp
 clear hK K
 refine wpT_done krA ?_ _
 clear hHeld
 have HRES:=qh (HDONE.out u2 A3 c3 (.slice A3 n3 c3) hb2' (by rw [← HN3.out];exact HOWN2.out) (by rw [HN3.out]))
 go_wp2_with fail
 go_ret
 first|exact HRES.out|exact HRES.out.drew):P:=h
theorem perform_same (RA:Option Addr) (rc n:Nat) (rt:List RTab) (k:Nat) (kd sq dy:Int) (A0:Option Addr) (cp:Nat) (row:List Val) (key:Val) (cl:Int) (vl:Val) (w:World) (hrt:RTabsIn w w.heap.size RA rt) (hn:rt.length=n) (hsr:SaneR rt) (hk:k<rt.length) (hR:SliceIs w w.heap.size Val.cells 3 A0 row) (hrlen:row.length ≤ 1000000) (h1:kd = 1 → 0<row.length) {z:Int} (hz:findP (pureT rt[k]) (keyOf ⟨kd,sq,dy,(k:Int),A0,cp,row,key,cl,vl⟩)=z) (hc:(kd ≠ 1∧z < 0)∨(kd = 1∧z < 0 ∧ 64≤rt[k].recs.length)) :
 Calls Tryz.prog 34 #[.slice RA n rc, .agg #[.int .i64 kd, .int .i64 sq, .int .i64 dy, .int .i64 (k:Int), .slice A0 row.length cp, .int .i64 key.kind, .int .i64 key.num, .string key.text, .int .i64 cl, .int .i64 vl.kind, .int .i64 vl.num, .string vl.text]] w (PerfTo w n (performE (rt.map pureT) ⟨kd,sq,dy,(k:Int),A0,cp,row,key,cl,vl⟩)):=by
 have HC:=qh hc
 have hz0:decide (z < 0)=true:=by rcases hc with h|h <;> simp <;> omega
 have hz1:decide (0≤z)=false:=by rcases hc with h|h <;> simp <;> omega
 have hkd:(kd == 1)=false∨((kd == 1)=true ∧ 64≤rt[k].recs.length):=by
  rcases hc with h|h
  ·exact .inl (by simpa using h.1)
  ·exact .inr ⟨by simpa using h.1,h.2.2⟩
 clear hc
 subst hn
 have hrn:=hsr.len
 have hrecs0:=hsr.recs rt[k] (lgm hk)
 have hrow0:=hsr.row rt[k] (lgm hk)
 obtain ⟨kv,hkv⟩ : ∃ kv,keyOf ⟨kd,sq,dy,(k:Int),A0,cp,row,key,cl,vl⟩=kv:=⟨_,rfl⟩
 have HKV:=qh hkv
 have HZ:=qh hz
 have HRT:=qh hrt
 have HSR:=qh hsr
 have HR:=qh hR
 have H1:=qh h1
 clear hz hrt hsr hR h1 hkv
 go_enter Tryz.func34,Tryz.ntmps34
 go_upto_region 1 with (fail)
 refine abs_world (P:=fun u=>Code.wp _ _ _ _ u) (R:=fun u=>Blk u w.heap.size 79 (Chg.cells ⟨kd,sq,dy,(k:Int),A0,cp,row,key,cl,vl⟩).toArray∧Below w.heap.size w u) ⟨?_,?_⟩ ?_
 ·exact Blk.new _ _ _
 ·exact belA
 rintro W ⟨hX,hbW⟩
 have hzW:=hX.lt
 have HX:=qh hX
 clear hX
 go_wp2_with fail
 (with_reducible refine (ref07_Copy RA rc rt.length rt _ (HRT.out.next (below_nextN hbW brf hbW.size)) rfl HSR.out).mono ?_)
 rintro e w1 ⟨q,l,rfl,hq,hll,hO,hT,hpl,hb1⟩
 have hx1:=below_nextN hbW hb1 hbW.size
 have hX1:=HX.out.below hb1 omA
 have HX1:=qh hX1
 have hkl:k<l.length:=by omega
 have g0:=hO.getE rtab_len (by rw [hll]) hkl (j := 0) rfl
 have hmp:=map_at hpl hkl hk
 have hT0:=hT.recs hkl
 obtain ⟨⟨TA,tc,recs⟩,hlk⟩ : ∃ x:RTab,l[k]=x:=⟨_,rfl⟩
 rw [hlk] at g0 hmp hT0
 simp only [Nat.mul_one,Nat.add_zero] at g0 hmp hT0
 have hrl1:recs.length=rt[k].recs.length:=by have:=congrArg List.length hmp;simpa [pureT] using this
 have hrw : ∀ x∈recs,x.row.length ≤ 1000000:=fun x hx=>by
  have h:pureR x∈pureT rt[k]:=by rw [← hmp];exact List.mem_map_of_mem hx
  obtain ⟨y,hy,hyx⟩:=List.mem_map.1 h
  have h2:y.row=x.row:=congrArg (fun p=>p.1) hyx
  rw [← h2]
  exact hrow0 y hy
 have hrl:recs.length ≤ 1000000:=by omega
 have HRL1:=qh hrl1
 have HLL:=qh hll
 have hzk:=HZ.out
 rw [HKV.out,← hmp,← findK_pure] at hzk
 have HMP:=qh hmp
 have HT0:=qh hT0
 have HLK:=qh hlk
 have HO:=qh hO
 have HT:=qh hT
 have HPL:=qh hpl
 have HZK:=qh hzk
 have HRW:=qh hrw
 have hkn:decide (k<rt.length)=true:=by simpa using hk
 have hzq:=hb1.size
 obtain ⟨⟨q0,q1,q2,q3⟩,q4,⟨q5,q6,q7⟩,q8,q9,q10,q11⟩:=Chg.blkE hX1
 simp only at q0 q1 q2 q3 q4 q5 q6 q7 q8 q9 q10 q11
 clear hX1 hmp hT0 hlk hO hT hpl hzk hrw hrecs0 hrow0 hrl1 hll
 go_wp2_with fail
 (with_reducible refine (ref07_key ⟨kd,sq,dy,(k:Int),A0,cp,row,key,cl,vl⟩ _ (HR.out.next (below_nextN hx1 belA hx1.size)) hrlen H1.out HKV.out).mono ?_)
 rintro e w2 ⟨rfl,hb2⟩
 clear q0 q1 q2 q3 q4 q5 q6 q7 q8 q9 q10 q11
 have hz2:=hb2.size
 have hX2:=HX1.out.below hb2 omA
 have HX2:=qh hX2
 obtain ⟨⟨q0,q1,q2,q3⟩,q4,⟨q5,q6,q7⟩,q8,q9,q10,q11⟩:=Chg.blkE hX2
 simp only at q0 q1 q2 q3 q4 q5 q6 q7 q8 q9 q10 q11
 clear hX2 g0
 go_wp2_with fail
 (with_reducible refine (ref07_Find TA tc recs.length recs kv _ (HT0.out.read.next hb2) rfl hrl HRW.out HZK.out).mono ?_)
 rintro e U ⟨rfl,hb3⟩
 clear q0 q1 q2 q3 q4 q5 q6 q7 q8 q9 q10 q11
 have hbU:=below_nextN hb2 hb3 hb2.size
 have hzU:=hbU.size
 have hxU:=below_nextN hx1 hbU hx1.size
 have hX3:=HX1.out.below hbU omA
 have HX3:=qh hX3
 have HO3:=qh (HO.out.below hbU nlr)
 have HT3:=qh (HT.out.below hbU nlr)
 have hbase:w.heap.size≤W.heap.size:=hbW.size
 have hbxU:w.heap.size<U.heap.size:=by omega
 have HRR:=qh ((HT3.out.recs hkl).read)
 rw [HLK.out] at HRR
 have HRR1:=qh HRR.out.1
 clear HX1 HO HT hb2 hb3 hz2 HR H1
 obtain ⟨⟨q0,q1,q2,q3⟩,q4,⟨q5,q6,q7⟩,q8,q9,q10,q11⟩:=Chg.blkE hX3
 simp only at q0 q1 q2 q3 q4 q5 q6 q7 q8 q9 q10 q11
 clear hX3
 have HDONE:Hid (∀ w',Below U.heap.size U w'→PerfTo w rt.length (performE (rt.map pureT) ⟨kd,sq,dy,(k:Int),A0,cp,row,key,cl,vl⟩) (.returned (.slice (some ⟨q,0,none⟩) rt.length rt.length)) w'):=qh fun w' hb'=>by
  have hO4:=HO3.out.below hb' nlr
  have hT4:=HT3.out.below hb' nlr
  have hrd:=tabs_read (by simpa [HLL.out] using hO4) (fun t ht=>(⟨hT4.tab t ht,hT4.row t ht⟩:RecsOwn w' _ t.A t.cap t.recs))
  refine ⟨⟨_,_,l,rfl,HLL.out,hrd.1,hrd.2.mono hbase,?_⟩,below_nextN hxU hb' hxU.size⟩
  refine perf_same HPL.out hkl (k:=k) rfl ?_
  rw [HLK.out]
  show recs.map pureR=perfL (recs.map pureR) _
  have hz2:findP (recs.map pureR) (keyOf ⟨kd,sq,dy,(k:Int),A0,cp,row,key,cl,vl⟩)=z:=by rw [HKV.out,← findK_pure];exact HZK.out
  rcases HC.out with h|h
  ·exact (perfL_none h.1 (by rw [hz2];exact h.2)).symm
  ·exact (perfL_full h.1 (by rw [hz2];exact h.2.1) (by rw [List.length_map,HRL1.out];exact h.2.2)).symm
 rcases hkd with hkd|⟨hkd,h64⟩
 ·go_wp2_with fail
  go_ret
  exact HDONE.out _ belA
 ·have h64':decide (64≤recs.length)=true:=by have:=HRL1.out;simp;omega
  have h64i:decide ((64:Int)≤(recs.length:Int))=true:=by have:=HRL1.out;simp;omega
  go_wp2_with fail
  go_ret
  exact HDONE.out _ belA
theorem perform_del (RA:Option Addr) (rc n:Nat) (rt:List RTab) (k:Nat) (kd sq dy:Int) (A0:Option Addr) (cp:Nat) (row:List Val) (key:Val) (cl:Int) (vl:Val) (w:World) (hrt:RTabsIn w w.heap.size RA rt) (hn:rt.length=n) (hsr:SaneR rt) (hk:k<rt.length) (hR:SliceIs w w.heap.size Val.cells 3 A0 row) (hrlen:row.length ≤ 1000000) (h1:kd = 1 → 0<row.length) {z:Int} (hz:findP (pureT rt[k]) (keyOf ⟨kd,sq,dy,(k:Int),A0,cp,row,key,cl,vl⟩)=z) (hk1:kd ≠ 1) (hk2:kd ≠ 2) (hc : 0≤z) :
 Calls Tryz.prog 34 #[.slice RA n rc, .agg #[.int .i64 kd, .int .i64 sq, .int .i64 dy, .int .i64 (k:Int), .slice A0 row.length cp, .int .i64 key.kind, .int .i64 key.num, .string key.text, .int .i64 cl, .int .i64 vl.kind, .int .i64 vl.num, .string vl.text]] w (PerfTo w n (performE (rt.map pureT) ⟨kd,sq,dy,(k:Int),A0,cp,row,key,cl,vl⟩)):=by
 have HC:=qh (And.intro hk1 hk2)
 have hkd:(kd == 1)=false:=by simpa using hk1
 have hkd2:(kd == 2)=false:=by simpa using hk2
 obtain ⟨j,hj,hje⟩:=findP_at (by rw [hz];exact hc)
 have hjr:j<rt[k].recs.length:=by simpa [pureT] using hj
 rw [hz] at hje
 subst hje
 have hz0:decide ((j:Int) < 0)=false:=by simp
 obtain ⟨ir,hir,hzr1,hzr2,hzr3⟩:=info_parts infoRcd
 clear hc hk1 hk2 hj
 subst hn
 have hrn:=hsr.len
 have hrecs0:=hsr.recs rt[k] (lgm hk)
 have hrow0:=hsr.row rt[k] (lgm hk)
 obtain ⟨kv,hkv⟩ : ∃ kv,keyOf ⟨kd,sq,dy,(k:Int),A0,cp,row,key,cl,vl⟩=kv:=⟨_,rfl⟩
 have HKV:=qh hkv
 have HZ:=qh hz
 have HRT:=qh hrt
 have HSR:=qh hsr
 have HR:=qh hR
 have H1:=qh h1
 clear hz hrt hsr hR h1 hkv
 go_enter Tryz.func34,Tryz.ntmps34
 go_upto_region 1 with (fail)
 refine abs_world (P:=fun u=>Code.wp _ _ _ _ u) (R:=fun u=>Blk u w.heap.size 79 (Chg.cells ⟨kd,sq,dy,(k:Int),A0,cp,row,key,cl,vl⟩).toArray∧Below w.heap.size w u) ⟨?_,?_⟩ ?_
 ·exact Blk.new _ _ _
 ·exact belA
 rintro W ⟨hX,hbW⟩
 have hzW:=hX.lt
 have HX:=qh hX
 clear hX
 go_wp2_with fail
 (with_reducible refine (ref07_Copy RA rc rt.length rt _ (HRT.out.next (below_nextN hbW brf hbW.size)) rfl HSR.out).mono ?_)
 rintro e w1 ⟨q,l,rfl,hq,hll,hO,hT,hpl,hb1⟩
 have hx1:=below_nextN hbW hb1 hbW.size
 have hX1:=HX.out.below hb1 omA
 have HX1:=qh hX1
 have hkl:k<l.length:=by omega
 have g0:=hO.getE rtab_len (by rw [hll]) hkl (j := 0) rfl
 have hmp:=map_at hpl hkl hk
 have hT0:=hT.recs hkl
 obtain ⟨⟨TA,tc,recs⟩,hlk⟩ : ∃ x:RTab,l[k]=x:=⟨_,rfl⟩
 rw [hlk] at g0 hmp hT0
 simp only [Nat.mul_one,Nat.add_zero] at g0 hmp hT0
 have hrl1:recs.length=rt[k].recs.length:=by have:=congrArg List.length hmp;simpa [pureT] using this
 have hrw : ∀ x∈recs,x.row.length ≤ 1000000:=fun x hx=>by
  have h:pureR x∈pureT rt[k]:=by rw [← hmp];exact List.mem_map_of_mem hx
  obtain ⟨y,hy,hyx⟩:=List.mem_map.1 h
  have h2:y.row=x.row:=congrArg (fun p=>p.1) hyx
  rw [← h2]
  exact hrow0 y hy
 have hrl:recs.length ≤ 1000000:=by omega
 have HRL1:=qh hrl1
 have HLL:=qh hll
 have hzk:=HZ.out
 rw [HKV.out,← hmp,← findK_pure] at hzk
 have HMP:=qh hmp
 have HT0:=qh hT0
 have HLK:=qh hlk
 have HO:=qh hO
 have HT:=qh hT
 have HPL:=qh hpl
 have HZK:=qh hzk
 have HRW:=qh hrw
 have hkn:decide (k<rt.length)=true:=by simpa using hk
 have hzq:=hb1.size
 obtain ⟨⟨q0,q1,q2,q3⟩,q4,⟨q5,q6,q7⟩,q8,q9,q10,q11⟩:=Chg.blkE hX1
 simp only at q0 q1 q2 q3 q4 q5 q6 q7 q8 q9 q10 q11
 clear hX1 hmp hT0 hlk hO hT hpl hzk hrw hrecs0 hrow0 hrl1 hll
 go_wp2_with fail
 (with_reducible refine (ref07_key ⟨kd,sq,dy,(k:Int),A0,cp,row,key,cl,vl⟩ _ (HR.out.next (below_nextN hx1 belA hx1.size)) hrlen H1.out HKV.out).mono ?_)
 rintro e w2 ⟨rfl,hb2⟩
 clear q0 q1 q2 q3 q4 q5 q6 q7 q8 q9 q10 q11
 have hz2:=hb2.size
 have hX2:=HX1.out.below hb2 omA
 have HX2:=qh hX2
 obtain ⟨⟨q0,q1,q2,q3⟩,q4,⟨q5,q6,q7⟩,q8,q9,q10,q11⟩:=Chg.blkE hX2
 simp only at q0 q1 q2 q3 q4 q5 q6 q7 q8 q9 q10 q11
 clear hX2 g0
 go_wp2_with fail
 (with_reducible refine (ref07_Find TA tc recs.length recs kv _ (HT0.out.read.next hb2) rfl hrl HRW.out HZK.out).mono ?_)
 rintro e U ⟨rfl,hb3⟩
 clear q0 q1 q2 q3 q4 q5 q6 q7 q8 q9 q10 q11
 have hbU:=below_nextN hb2 hb3 hb2.size
 have hzU:=hbU.size
 have hxU:=below_nextN hx1 hbU hx1.size
 have hX3:=HX1.out.below hbU omA
 have HX3:=qh hX3
 have HO3:=qh (HO.out.below hbU nlr)
 have HT3:=qh (HT.out.below hbU nlr)
 have hbase:w.heap.size≤W.heap.size:=hbW.size
 have hbxU:w.heap.size<U.heap.size:=by omega
 have HRR:=qh ((HT3.out.recs hkl).read)
 rw [HLK.out] at HRR
 have HRR1:=qh HRR.out.1
 clear HX1 HO HT hb2 hb3 hz2 HR H1
 obtain ⟨⟨q0,q1,q2,q3⟩,q4,⟨q5,q6,q7⟩,q8,q9,q10,q11⟩:=Chg.blkE hX3
 simp only at q0 q1 q2 q3 q4 q5 q6 q7 q8 q9 q10 q11
 clear hX3
 have hjl:j<recs.length:=by have:=HRL1.out;omega
 have hro:=HT3.out.recs hkl
 rw [HLK.out] at hro
 obtain ⟨tb,htb⟩:=own_addr hro.1 (Nat.lt_of_le_of_lt (Nat.zero_le _) hjl)
 have hcap:=own_cap hro.1
 simp only at htb hcap
 subst htb
 have HRO:=qh hro
 have hjc:j≤tc:=by omega
 have hjc1:j + 1≤tc:=by omega
 have hwr:IntKind.i64.wrap ((j:Int) + 1)=((j + 1:Nat):Int):=by rw [show (j:Int) + 1=((j + 1:Nat):Int) by omega];exact IntWalk.i64_in _ omA
 have HDONE:Hid (∀ u2 A3 c3 v,Below U.heap.size U u2→Owns u2 U.heap.size 48 Rcd.cells 3 (.slice A3 (recs.take j++recs.drop (j + 1)).length c3) (recs.take j++recs.drop (j + 1))→v = .slice A3 (recs.take j++recs.drop (j + 1)).length c3→PerfTo w rt.length (performE (rt.map pureT) ⟨kd,sq,dy,(k:Int),A0,cp,row,key,cl,vl⟩) (.returned (.slice (some ⟨q,0,none⟩) rt.length rt.length)) (u2.setCell ⟨q,k,none⟩ v)):=qh fun u2 A3 c3 v hb hown hv=>by
  refine perf_done HO3.out HLL.out HT3.out hkl HPL.out rfl hbase hxU hb ⟨hown.mono omA,fun x hx => ?_⟩ ?_ hv
  ·have hin:x∈recs:=by
    rcases List.mem_append.1 hx with h|h
    ·exact List.mem_of_mem_take h
    ·exact List.mem_of_mem_drop h
   have:=HRO.out.2 x hin
   exact ⟨this.1.below hb nlr,this.2.below hb nlr⟩
  ·rw [HLK.out]
   show (recs.take j++recs.drop (j + 1)).map pureR=perfL (recs.map pureR) _
   rw [perfL_del HC.out.1 HC.out.2 (j:=j) (by rw [HKV.out,← findK_pure];exact HZK.out)]
   simp [cutP,List.map_take,List.map_drop]
 have hi1:(j:Int)≤(j:Int) + 1:=by omega
 have hi2:(0:Int)≤(j:Int) + 1:=by omega
 have hi3:(j:Int) + 1≤(recs.length:Int):=by omega
 clear hro
 by_cases hcm:tc=j + 1
 ·have hcut:SliceIs U U.heap.size Rcd.cells 3 (some ⟨tb,0,none⟩) (recs.drop (j + 1)):=by
   rw [List.drop_eq_nil_of_le omA]
   exact SliceIs.nil
  go_upto_region 4 with (fail)
  exact lPerf1
 ·have hcut:SliceIs U U.heap.size Rcd.cells 3 (some ⟨tb,(j + 1) * 3,none⟩) (recs.drop (j + 1)):=by have h:=HRR1.out.cut (c:=tc) (j + 1) omA;rw [if_neg hcm] at h;simpa using h
  go_upto_region 4 with (fail)
  exact lPerf1
theorem perform_upd (RA:Option Addr) (rc n:Nat) (rt:List RTab) (k:Nat) (kd sq dy:Int) (A0:Option Addr) (cp:Nat) (row:List Val) (key:Val) (cl:Int) (vl:Val) (w:World) (hrt:RTabsIn w w.heap.size RA rt) (hn:rt.length=n) (hsr:SaneR rt) (hk:k<rt.length) (hR:SliceIs w w.heap.size Val.cells 3 A0 row) (hrlen:row.length ≤ 1000000) (h1:kd = 1 → 0<row.length) {z:Int} (hz:findP (pureT rt[k]) (keyOf ⟨kd,sq,dy,(k:Int),A0,cp,row,key,cl,vl⟩)=z) (hk2:kd = 2) (hc : 0≤z) (hcol : ∃ col:Nat,cl=(col:Int) ∧ ∀ r∈rt[k].recs,col<r.row.length∧col<r.seq.length) :
 Calls Tryz.prog 34 #[.slice RA n rc, .agg #[.int .i64 kd, .int .i64 sq, .int .i64 dy, .int .i64 (k:Int), .slice A0 row.length cp, .int .i64 key.kind, .int .i64 key.num, .string key.text, .int .i64 cl, .int .i64 vl.kind, .int .i64 vl.num, .string vl.text]] w (PerfTo w n (performE (rt.map pureT) ⟨kd,sq,dy,(k:Int),A0,cp,row,key,cl,vl⟩)):=by
 obtain ⟨col,hcl,hcol⟩:=hcol
 have HCL:=qh hcl
 have hkd:(kd == 1)=false:=by rw [hk2];rfl
 have hkd2:(kd == 2)=true:=by rw [hk2];rfl
 have HK2:=qh hk2
 have HCOL:=qh hcol
 obtain ⟨j,hj,hje⟩:=findP_at (by rw [hz];exact hc)
 have hjr:j<rt[k].recs.length:=by simpa [pureT] using hj
 rw [hz] at hje
 subst hje
 have hz0:decide ((j:Int) < 0)=false:=by simp
 clear hc hj hcol hcl hk2
 subst hn
 have hrn:=hsr.len
 have hrecs0:=hsr.recs rt[k] (lgm hk)
 have hrow0:=hsr.row rt[k] (lgm hk)
 obtain ⟨kv,hkv⟩ : ∃ kv,keyOf ⟨kd,sq,dy,(k:Int),A0,cp,row,key,cl,vl⟩=kv:=⟨_,rfl⟩
 have HKV:=qh hkv
 have HZ:=qh hz
 have HRT:=qh hrt
 have HSR:=qh hsr
 have HR:=qh hR
 have H1:=qh h1
 clear hz hrt hsr hR h1 hkv
 go_enter Tryz.func34,Tryz.ntmps34
 go_upto_region 1 with (fail)
 refine abs_world (P:=fun u=>Code.wp _ _ _ _ u) (R:=fun u=>Blk u w.heap.size 79 (Chg.cells ⟨kd,sq,dy,(k:Int),A0,cp,row,key,cl,vl⟩).toArray∧Below w.heap.size w u) ⟨?_,?_⟩ ?_
 ·exact Blk.new _ _ _
 ·exact belA
 rintro W ⟨hX,hbW⟩
 have hzW:=hX.lt
 have HX:=qh hX
 clear hX
 go_wp2_with fail
 (with_reducible refine (ref07_Copy RA rc rt.length rt _ (HRT.out.next (below_nextN hbW brf hbW.size)) rfl HSR.out).mono ?_)
 rintro e w1 ⟨q,l,rfl,hq,hll,hO,hT,hpl,hb1⟩
 have hx1:=below_nextN hbW hb1 hbW.size
 have hX1:=HX.out.below hb1 omA
 have HX1:=qh hX1
 have hkl:k<l.length:=by omega
 have g0:=hO.getE rtab_len (by rw [hll]) hkl (j := 0) rfl
 have hmp:=map_at hpl hkl hk
 have hT0:=hT.recs hkl
 obtain ⟨⟨TA,tc,recs⟩,hlk⟩ : ∃ x:RTab,l[k]=x:=⟨_,rfl⟩
 rw [hlk] at g0 hmp hT0
 simp only [Nat.mul_one,Nat.add_zero] at g0 hmp hT0
 have hrl1:recs.length=rt[k].recs.length:=by have:=congrArg List.length hmp;simpa [pureT] using this
 have hrw : ∀ x∈recs,x.row.length ≤ 1000000:=fun x hx=>by
  have h:pureR x∈pureT rt[k]:=by rw [← hmp];exact List.mem_map_of_mem hx
  obtain ⟨y,hy,hyx⟩:=List.mem_map.1 h
  have h2:y.row=x.row:=congrArg (fun p=>p.1) hyx
  rw [← h2]
  exact hrow0 y hy
 have hrl:recs.length ≤ 1000000:=by omega
 have HRL1:=qh hrl1
 have HLL:=qh hll
 have hzk:=HZ.out
 rw [HKV.out,← hmp,← findK_pure] at hzk
 have HMP:=qh hmp
 have HT0:=qh hT0
 have HLK:=qh hlk
 have HO:=qh hO
 have HT:=qh hT
 have HPL:=qh hpl
 have HZK:=qh hzk
 have HRW:=qh hrw
 have hkn:decide (k<rt.length)=true:=by simpa using hk
 have hzq:=hb1.size
 obtain ⟨⟨q0,q1,q2,q3⟩,q4,⟨q5,q6,q7⟩,q8,q9,q10,q11⟩:=Chg.blkE hX1
 simp only at q0 q1 q2 q3 q4 q5 q6 q7 q8 q9 q10 q11
 clear hX1 hmp hT0 hlk hO hT hpl hzk hrw hrecs0 hrow0 hrl1 hll
 go_wp2_with fail
 (with_reducible refine (ref07_key ⟨kd,sq,dy,(k:Int),A0,cp,row,key,cl,vl⟩ _ (HR.out.next (below_nextN hx1 belA hx1.size)) hrlen H1.out HKV.out).mono ?_)
 rintro e w2 ⟨rfl,hb2⟩
 clear q0 q1 q2 q3 q4 q5 q6 q7 q8 q9 q10 q11
 have hz2:=hb2.size
 have hX2:=HX1.out.below hb2 omA
 have HX2:=qh hX2
 obtain ⟨⟨q0,q1,q2,q3⟩,q4,⟨q5,q6,q7⟩,q8,q9,q10,q11⟩:=Chg.blkE hX2
 simp only at q0 q1 q2 q3 q4 q5 q6 q7 q8 q9 q10 q11
 clear hX2 g0
 go_wp2_with fail
 (with_reducible refine (ref07_Find TA tc recs.length recs kv _ (HT0.out.read.next hb2) rfl hrl HRW.out HZK.out).mono ?_)
 rintro e U ⟨rfl,hb3⟩
 clear q0 q1 q2 q3 q4 q5 q6 q7 q8 q9 q10 q11
 have hbU:=below_nextN hb2 hb3 hb2.size
 have hzU:=hbU.size
 have hxU:=below_nextN hx1 hbU hx1.size
 have hX3:=HX1.out.below hbU omA
 have HX3:=qh hX3
 have HO3:=qh (HO.out.below hbU nlr)
 have HT3:=qh (HT.out.below hbU nlr)
 have hbase:w.heap.size≤W.heap.size:=hbW.size
 have hbxU:w.heap.size<U.heap.size:=by omega
 have HRR:=qh ((HT3.out.recs hkl).read)
 rw [HLK.out] at HRR
 have HRR1:=qh HRR.out.1
 clear HX1 HO HT hb2 hb3 hz2 HR H1
 obtain ⟨⟨q0,q1,q2,q3⟩,q4,⟨q5,q6,q7⟩,q8,q9,q10,q11⟩:=Chg.blkE hX3
 simp only at q0 q1 q2 q3 q4 q5 q6 q7 q8 q9 q10 q11
 clear hX3
 have hjl:j<recs.length:=by have:=HRL1.out;omega
 have hjl':decide (j<recs.length)=true:=by simpa using hjl
 have hro:=HT3.out.recs hkl
 rw [HLK.out] at hro
 obtain ⟨tb,htb⟩:=own_addr hro.1 (Nat.lt_of_le_of_lt (Nat.zero_le _) hjl)
 simp only at htb
 subst htb
 have hcj:col<recs[j].row.length∧col<recs[j].seq.length:=by
  have h:pureR recs[j]∈pureT rt[k]:=by rw [← HMP.out];exact List.mem_map_of_mem (lgm hjl)
  obtain ⟨y,hy,hyx⟩:=List.mem_map.1 h
  have h2:y.row=recs[j].row:=congrArg (fun p=>p.1) hyx
  have h3:y.seq=recs[j].seq:=congrArg (fun p=>p.2.1) hyx
  rw [← h2,← h3]
  exact HCOL.out y hy
 have hrow:=hro.2 recs[j] (lgm hjl)
 have d0:=hro.1.getE rcd_len rfl hjl (j := 0) rfl
 have d1:=hro.1.getE rcd_len rfl hjl (j := 1) rfl
 have hltb:tb<U.heap.size:=hro.1.lt tb rfl
 have hgeb:W.heap.size≤tb:=hro.1.row tb rfl
 obtain ⟨⟨QA,qc,qrow,QS,qs,qseq,qd⟩,hqr⟩ : ∃ x:Rcd,recs[j]=x:=⟨_,rfl⟩
 rw [hqr] at hcj hrow d0 d1
 simp only [Nat.add_zero] at hcj hrow d0 d1
 obtain ⟨hc1,hc2⟩:=hcj
 have hrow1:=hrow.1
 have hrow2:=hrow.2
 simp only at hrow1 hrow2
 obtain ⟨rb,rfl⟩:=own_addr hrow1 (Nat.lt_of_le_of_lt (Nat.zero_le _) hc1)
 obtain ⟨sb,rfl⟩:=own_addr hrow2 (Nat.lt_of_le_of_lt (Nat.zero_le _) hc2)
 have hrb1:W.heap.size≤rb:=hrow1.row rb rfl
 have hsb1:W.heap.size≤sb:=hrow2.row sb rfl
 have hrb2:rb<U.heap.size:=hrow1.lt rb rfl
 have hsb2:sb<U.heap.size:=hrow2.lt sb rfl
 have hn1:rb≠tb:=fun e=>hro.1.neType hrow1 ty_ne1 tb rfl (by rw [← e];rfl)
 have hn2:sb≠tb:=fun e=>hro.1.neType hrow2 ty_ne2 tb rfl (by rw [← e];rfl)
 have hn3:rb≠sb:=fun e=>hrow1.neType hrow2 (by decide) rb rfl (by rw [← e];rfl)
 have hn4:rb≠w.heap.size:=by omega
 have hn5:sb≠w.heap.size:=by omega
 have e0:=hrow1.getE val_len rfl hc1 (j := 0) rfl
 have e1:=hrow1.getE val_len rfl hc1 (j := 1) rfl
 have e2:=hrow1.getE val_len rfl hc1 (j := 2) rfl
 have s0:=hrow2.getE int_len rfl hc2 (j := 0) rfl
 simp only [Nat.mul_one,Nat.add_zero] at e0 e1 e2 s0
 have fr0:=hrow1.frzE rfl
 have fs0:=hrow2.frzE rfl
 have hc1':decide (col<qrow.length)=true:=by simpa using hc1
 have hc2':decide (col<qseq.length)=true:=by simpa using hc2
 have HRW1:=qh hrow1
 have HRW2:=qh hrow2
 have HQR:=qh hqr
 clear hro hrow hrow1 hrow2 hqr HCOL
 go_upto_region 21 with (fail)
 rw [HCL.out] at q8
 refine wp_region_T (S:=(fun u=>u.cell? ⟨w.heap.size,8,none⟩=some (.int .i64 (col:Int))∧u.cell? ⟨w.heap.size,9,none⟩=some (.int .i64 vl.kind)∧u.cell? ⟨w.heap.size,10,none⟩=some (.int .i64 vl.num)∧u.cell? ⟨w.heap.size,11,none⟩=some (.string vl.text)∧u.cell? ⟨w.heap.size,1,none⟩=some (.int .i64 sq)∧u.cell? ⟨tb,j * 3,none⟩=some (.slice (some ⟨rb,0,none⟩) qrow.length qc)∧u.cell? ⟨tb,j * 3 + 1,none⟩=some (.slice (some ⟨sb,0,none⟩) qseq.length qs))) [21] krA ⟨q8,q9,q10,q11,q1,d0,d1⟩ (fun hHeld => ?_)
 refine tkT 0 hHeld ?_
 refine tkT 1 hHeld ?_
 refine tkT 2 hHeld ?_
 refine tkT 3 hHeld ?_
 refine tkT 4 hHeld ?_
 refine tkT 5 hHeld ?_
 refine tkT 6 hHeld ?_
 refine tkT 7 hHeld ?_
 refine tkT 8 hHeld ?_
 refine tkT 9 hHeld ?_
 refine tkT 10 hHeld ?_
 refine tkT 11 hHeld ?_
 refine tkT 12 hHeld ?_
 refine tkT 13 hHeld ?_
 refine tkT 14 hHeld ?_
 refine tkT 15 hHeld ?_
 refine tkT 16 hHeld ?_
 refine tkT 17 hHeld ?_
 refine r1T 18 (fun K hK => ?_)
 go_simp
 refine hK.out _ _ _ ⟨?_,?_,?_,?_,?_,?_,?_⟩ (fun hHeld => ?_)
 iterate 7 (go_simp)
 clear hK K
 refine r1T 19 (fun K hK => ?_)
 go_simp
 refine hK.out _ _ _ ⟨?_,?_,?_,?_,?_,?_,?_⟩ (fun hHeld => ?_)
 ·exact cell_far3 q8 hn4 hn4 hn4
 ·exact cell_far3 q9 hn4 hn4 hn4
 ·exact cell_far3 q10 hn4 hn4 hn4
 ·exact cell_far3 q11 hn4 hn4 hn4
 ·exact cell_far3 q1 hn4 hn4 hn4
 ·exact cell_far3 d0 hn1 hn1 hn1
 ·exact cell_far3 d1 hn1 hn1 hn1
 clear hK K
 have s0':=cell_far3 (u1 := .int .i64 vl.kind) (u2 := .int .i64 vl.num) (u3 := .string vl.text) (p1:=⟨rb,col * 3,none⟩) (p2:=⟨rb,col * 3 + 1,none⟩) (p3:=⟨rb,col * 3 + 2,none⟩) s0 hn3 hn3 hn3
 obtain ⟨U1,hU1⟩ : ∃ U1,((U.setCell ⟨rb,col * 3,none⟩ (.int .i64 vl.kind)).setCell ⟨rb,col * 3 + 1,none⟩ (.int .i64 vl.num)).setCell ⟨rb,col * 3 + 2,none⟩ (.string vl.text)=U1:=⟨_,rfl⟩
 have hP1:=own_put3 HRW1.out rfl hc1 vl
 rw [hU1] at hP1 s0' hHeld
 rw [hU1]
 obtain ⟨vs,hvs⟩:=HRW1.out.typ (q:=rb) rfl
 have hP2:=((HRW2.out.otype (i:=col * 3) hvs (by decide) (.int .i64 vl.kind)).far (p:=⟨rb,col * 3 + 1,none⟩) (fun g hg e=>hn3 (e.symm.trans (by simpa [Value.ownBlock] using hg.symm))) (.int .i64 vl.num)).far (p:=⟨rb,col * 3 + 2,none⟩) (fun g hg e=>hn3 (e.symm.trans (by simpa [Value.ownBlock] using hg.symm))) (.string vl.text)
 rw [hU1] at hP2
 have hfr:=hP2.frzE rfl col
 have hfar1 : ∀ g,g≠rb→U1.heap[g]? = U.heap[g]? := fun g hg=>by
  rw [← hU1,Below.heap_setCell _ _ _ _ hg,Below.heap_setCell _ _ _ _ hg,Below.heap_setCell _ _ _ _ hg]
 have hbU1:Below w.heap.size w U1:=by
  rw [← hU1]
  exact ((hxU.setCell (by show _≤rb;omega) _).setCell (by show _≤rb;omega) _).setCell (by show _≤rb;omega) _
 have HP1:=qh hP1
 have HP2:=qh hP2
 have HFAR:=qh hfar1
 have HBU1:=qh hbU1
 clear hU1 hP1 hP2 hvs hfar1 hbU1
 refine r1T 20 (fun K hK => ?_)
 go_simp
 refine hK.out _ _ _ hHeld (fun hHeld => ?_)
 clear hK K
 refine rzT 21 (fun K hK => ?_)
 go_simp
 refine hK.out _ _ _ ?_
 clear hK K
 refine wpT_done krA ?_ _
 clear hHeld
 obtain ⟨is,his⟩:=HP2.out.typ (q:=sb) rfl
 have hP3:=HP2.out.store1 int_len rfl hc2 sq (j := 0) (o:=col) (u := .int .i64 sq) omA omA rfl
 have hP4:=HP1.out.otype (i:=col) his (by decide) (.int .i64 sq)
 have hRES:PerfTo w rt.length (performE (rt.map pureT) ⟨kd,sq,dy,(k:Int),A0,cp,row,key,cl,vl⟩) (.returned (.slice (some ⟨q,0,none⟩) rt.length rt.length)) (U1.setCell ⟨sb,col,none⟩ (.int .i64 sq)):=by
  have hjk:j<l[k].recs.length:=by rw [HLK.out];exact hjl
  have hrj:l[k].recs[j]=⟨some ⟨rb,0,none⟩,qc,qrow,some ⟨sb,0,none⟩,qs,qseq,qd⟩:=by
   have h : ∀ t:RTab,t=⟨some ⟨tb,0,none⟩,tc,recs⟩ → ∀ h:j<t.recs.length,t.recs[j]=recs[j]:=fun t ht h=>by subst ht;rfl
   rw [h _ HLK.out hjk]
   exact HQR.out
  refine upd_done (U:=U) HO3.out HLL.out HT3.out hkl HPL.out rfl hbase (HBU1.out.setCell (by show _≤sb;omega) _) hjk (r':=⟨some ⟨rb,0,none⟩,qc,qrow.set col vl,some ⟨sb,0,none⟩,qs,qseq.set col sq,qd⟩) ?_ ⟨?_,?_⟩ ?_ ?_
  ·rw [hrj]
   simp [Rcd.cells]
  ·simpa using hP4
  ·simpa using hP3
  ·rw [hrj]
   intro g h1 h2
   have h2':g≠sb:=h2 ⟨sb,0,none⟩ rfl
   rw [Below.heap_setCell _ ⟨sb,col,none⟩ _ g h2']
   exact HFAR.out g (h1 _ rfl)
  ·have h:=upd_pure hjl HQR.out (x:=⟨kd,sq,dy,(k:Int),A0,cp,row,key,cl,vl⟩) HCL.out (A':=some ⟨rb,0,none⟩) (S':=some ⟨sb,0,none⟩) (c':=qc) (s':=qs)
   have h2 : ∀ t:RTab,t=⟨some ⟨tb,0,none⟩,tc,recs⟩→t.recs=recs:=fun t ht=>by subst ht;rfl
   rw [h2 _ HLK.out,perfL_upd (x:=⟨kd,sq,dy,(k:Int),A0,cp,row,key,cl,vl⟩) HK2.out (j:=j) (by rw [HKV.out,← findK_pure];exact HZK.out)]
   exact h
 have HRES:=qh hRES
 clear hRES hP3 hP4 his
 go_wp2_with fail
 go_ret
 first|exact HRES.out|exact HRES.out.drew
theorem lPerfN1 {P:Prop} (h:P:=by
 (
 refine wp_region_T (S:=(fun _=>True)) [] krA trivial (fun hHeld => ?_)
 refine tkT 1 hHeld ?_
 refine tkT 2 hHeld ?_
 refine tkT 3 hHeld ?_
 refine tkT 5 hHeld ?_
 refine tkT 6 hHeld ?_
 refine tkT 7 hHeld ?_
 refine tkT 8 hHeld ?_
 refine r1T 0 (fun K hK => ?_)
 go_simp
 refine hK.out _ _ _ trivial (fun hHeld => ?_)
 clear hK K
 refine r1T 4 (fun K hK => ?_)
 (refine step_append_list _ rfl (.tmp 42) (.tmp 45) 45 rfl 48 ir _ Rcd.cells 3 56 Tryz.underlying45 hir hzr1 hzr2 hzr3 rfl omA rcd_len rcd_one U.heap.size (.slice (some ⟨U.heap.size,0,none⟩) 0 0) [] rfl (Owns.empty nbA leA) _ _ _ (recs.take j) rfl smA ((HRR1.out.take j).next belA) smA mxA leA ?_;intro v1 u1 hown1 hg1 hat1;have hb1':Below U.heap.size U u1:=Below.grown belA hg1 leA (own_row leA);have hsz1:=hb1'.size)
 refine hK.out _ _ _ trivial (fun hHeld => ?_)
 clear hK K
 refine r1T 9 (fun K hK => ?_)
 (refine step_append_list _ rfl (.tmp 46) (.tmp 50) 45 rfl 48 ir _ Rcd.cells 3 56 Tryz.underlying45 hir hzr1 hzr2 hzr3 rfl omA rcd_len rcd_one U.heap.size v1 ([]++recs.take j) rfl hown1 _ _ _ (recs.drop (j + 1)) rfl spA (hcut.next hb1') smA mxA hb1'.size ?_;intro v2 u2 hown2 hg2 hat2;have hb2':Below U.heap.size U u2:=Below.grown hb1' hg2 hb1'.size hown1.row)
 rw [← HLD.out] at hown2
 obtain ⟨LA,LC,rfl,_,_⟩:=hown2.form
 refine hK.out _ _ _ trivial (fun hHeld => ?_)
 clear hK K
 refine r1T 10 (fun K hK => ?_)
 go_simp
 refine hK.out _ _ _ trivial (fun hHeld => ?_)
 clear hK K
 refine wpT_done krA ?_ _
 clear hHeld
 go_wp2_with fail
 go_meet
 exact HOLD.out LA LC _ hown2 hb2')):P:=h
theorem lPerfN2 {P:Prop} (h:P:=by
 (
 have hmc:m≤LC:=by omega
 by_cases hcm:LC=m
 ·have hcut:SliceIs V V.heap.size Rcd.cells 3 (some ⟨lb,0,none⟩) (L.drop m):=by
   rw [List.drop_eq_nil_of_le omA]
   exact SliceIs.nil
  exact lPerfN6
 ·have hcut:SliceIs V V.heap.size Rcd.cells 3 (some ⟨lb,m * 3,none⟩) (L.drop m):=by have h:=HSL.out.cut (c:=LC) m omA;rw [if_neg hcm] at h;simpa using h
  exact lPerfN6)):P:=h
theorem lPerfN3 {P:Prop} (h:P:=by
 (
 go_upto_region 18 with (fail)
 obtain ⟨V,rfl⟩ : ∃ V:World,V=wq:=⟨_,rfl⟩
 have hbVV:Below V0.heap.size V0 V:=below_nextN hbV hq hbV.size
 have hoV:Below wo.heap.size wo V:=below_nextN hb2 hq hb2.size
 have hwzV:=hoV.size
 have hzVV:=hbVV.size
 have hYV:Y<V.heap.size:=by omega
 have hbxV:w.heap.size<V.heap.size:=by omega
 have hYb:=HBY.out.below hoV hYr
 have y0:=hYb.cell 0
 have y1:=hYb.cell 1
 have y2:=hYb.cell 2
 simp only [gE3] at y0 y1 y2
 rw [← HSL1.out] at y1
 have hXb:=HXV.out.below hbVV hbxV0
 obtain ⟨⟨q0,q1,q2,q3⟩,q4,⟨q5,q6,q7⟩,q8,q9,q10,q11⟩:=Chg.blkE hXb
 simp only at q0 q1 q2 q3 q4 q5 q6 q7 q8 q9 q10 q11
 have HSL:=qh (HLR.out.1.next hbVV)
 have HOVV:=qh (HOV.out.below hbVV nlr)
 have HTVV:=qh (HTV.out.below hbVV nlr)
 have HRO3:=qh (HRO.out.below hoV nlr)
 have HSQ3:=qh (HSQ2.out.below hoV nlr)
 have HDONE:Hid (∀ u3 A3 c3 v,Below V.heap.size V u3→Owns u3 V.heap.size 48 Rcd.cells 3 (.slice A3 ([]++L.take m ++ [(⟨some ⟨rbb,0,none⟩,rc',row,SA',sc',sqs,dy⟩:Rcd)]++L.drop m).length c3) ([]++L.take m ++ [(⟨some ⟨rbb,0,none⟩,rc',row,SA',sc',sqs,dy⟩:Rcd)]++L.drop m)→v = .slice A3 ([]++L.take m ++ [(⟨some ⟨rbb,0,none⟩,rc',row,SA',sc',sqs,dy⟩:Rcd)]++L.drop m).length c3→PerfTo w rt.length (performE (rt.map pureT) ⟨kd,sq,dy,(k:Int),A0,cp,row,key,cl,vl⟩) (.returned (.slice (some ⟨q,0,none⟩) rt.length rt.length)) (u3.setCell ⟨q,k,none⟩ v)):=qh fun u3 A3 c3 v hb hown hv=>by
  have hbV3:=below_nextN hbVV hb hbVV.size
  refine perf_done HOVV.out HLL.out HTVV.out hkl HPL.out rfl hbase (below_nextN hxV hbVV hxV.size) hb ⟨hown.mono omA,fun x hx => ?_⟩ ?_ hv
  ·have hin:x∈L∨x=⟨some ⟨rbb,0,none⟩,rc',row,SA',sc',sqs,dy⟩:=by
    rcases List.mem_append.1 hx with h|h
    ·rcases List.mem_append.1 h with h|h
     ·exact .inl (List.mem_of_mem_take (by simpa using h))
     ·exact .inr (List.mem_singleton.1 h)
    ·exact .inl (List.mem_of_mem_drop h)
   rcases hin with hin|rfl
   ·have:=HLV.out.2 x hin
    exact ⟨this.1.below hbV3 nlr,this.2.below hbV3 nlr⟩
   ·refine ⟨(HRO3.out.below hb nlr).mono omA,?_⟩
    have h:=(HSQ3.out.below hb nlr).mono (b':=W.heap.size) omA
    rw [← HSL1.out] at h
    exact h
  ·rw [← HPF.out]
   unfold insP
   rw [HPLC.out]
   have hnp:newP ⟨kd,sq,dy,(k:Int),A0,cp,row,key,cl,vl⟩=pureR ⟨some ⟨rbb,0,none⟩,rc',row,SA',sc',sqs,dy⟩:=by rw [← HSQS.out];rfl
   rw [hnp]
   simp [List.map_take,List.map_drop]
 clear hYb hXb
 (
  have hm0:m = 0:=by have:=HL0.out;omega
  have hcut:SliceIs V V.heap.size Rcd.cells 3 none (L.drop m):=by
   rw [List.drop_eq_nil_of_le (by rw [HL0.out];exact Nat.zero_le _)]
   exact SliceIs.nil
  exact lPerfN6))):P:=h
theorem lPerfN4 {P:Prop} (h:P:=by
 (
 go_upto_region 18 with (fail)
 obtain ⟨V,rfl⟩ : ∃ V:World,V=wq:=⟨_,rfl⟩
 have hbVV:Below V0.heap.size V0 V:=below_nextN hbV hq hbV.size
 have hoV:Below wo.heap.size wo V:=below_nextN hb2 hq hb2.size
 have hwzV:=hoV.size
 have hzVV:=hbVV.size
 have hYV:Y<V.heap.size:=by omega
 have hbxV:w.heap.size<V.heap.size:=by omega
 have hYb:=HBY.out.below hoV hYr
 have y0:=hYb.cell 0
 have y1:=hYb.cell 1
 have y2:=hYb.cell 2
 simp only [gE3] at y0 y1 y2
 rw [← HSL1.out] at y1
 have hXb:=HXV.out.below hbVV hbxV0
 obtain ⟨⟨q0,q1,q2,q3⟩,q4,⟨q5,q6,q7⟩,q8,q9,q10,q11⟩:=Chg.blkE hXb
 simp only at q0 q1 q2 q3 q4 q5 q6 q7 q8 q9 q10 q11
 have HSL:=qh (HLR.out.1.next hbVV)
 have HOVV:=qh (HOV.out.below hbVV nlr)
 have HTVV:=qh (HTV.out.below hbVV nlr)
 have HRO3:=qh (HRO.out.below hoV nlr)
 have HSQ3:=qh (HSQ2.out.below hoV nlr)
 have HDONE:Hid (∀ u3 A3 c3 v,Below V.heap.size V u3→Owns u3 V.heap.size 48 Rcd.cells 3 (.slice A3 ([]++L.take m ++ [(⟨some ⟨rbb,0,none⟩,rc',row,SA',sc',sqs,dy⟩:Rcd)]++L.drop m).length c3) ([]++L.take m ++ [(⟨some ⟨rbb,0,none⟩,rc',row,SA',sc',sqs,dy⟩:Rcd)]++L.drop m)→v = .slice A3 ([]++L.take m ++ [(⟨some ⟨rbb,0,none⟩,rc',row,SA',sc',sqs,dy⟩:Rcd)]++L.drop m).length c3→PerfTo w rt.length (performE (rt.map pureT) ⟨kd,sq,dy,(k:Int),A0,cp,row,key,cl,vl⟩) (.returned (.slice (some ⟨q,0,none⟩) rt.length rt.length)) (u3.setCell ⟨q,k,none⟩ v)):=qh fun u3 A3 c3 v hb hown hv=>by
  have hbV3:=below_nextN hbVV hb hbVV.size
  refine perf_done HOVV.out HLL.out HTVV.out hkl HPL.out rfl hbase (below_nextN hxV hbVV hxV.size) hb ⟨hown.mono omA,fun x hx => ?_⟩ ?_ hv
  ·have hin:x∈L∨x=⟨some ⟨rbb,0,none⟩,rc',row,SA',sc',sqs,dy⟩:=by
    rcases List.mem_append.1 hx with h|h
    ·rcases List.mem_append.1 h with h|h
     ·exact .inl (List.mem_of_mem_take (by simpa using h))
     ·exact .inr (List.mem_singleton.1 h)
    ·exact .inl (List.mem_of_mem_drop h)
   rcases hin with hin|rfl
   ·have:=HLV.out.2 x hin
    exact ⟨this.1.below hbV3 nlr,this.2.below hbV3 nlr⟩
   ·refine ⟨(HRO3.out.below hb nlr).mono omA,?_⟩
    have h:=(HSQ3.out.below hb nlr).mono (b':=W.heap.size) omA
    rw [← HSL1.out] at h
    exact h
  ·rw [← HPF.out]
   unfold insP
   rw [HPLC.out]
   have hnp:newP ⟨kd,sq,dy,(k:Int),A0,cp,row,key,cl,vl⟩=pureR ⟨some ⟨rbb,0,none⟩,rc',row,SA',sc',sqs,dy⟩:=by rw [← HSQS.out];rfl
   rw [hnp]
   simp [List.map_take,List.map_drop]
 clear hYb hXb
 exact lPerfN2)):P:=h
theorem lPerfN5 {P:Prop} (h:P:=by
 refine r1T 8 (fun K hK => ?_)
 go_simp
 refine hK.out _ _ _ ⟨?_,?_⟩ (fun hHeld => ?_)
 iterate 2 (go_simp)
 clear hK K
 refine wpT_done krA ?_ _
 clear hHeld
 go_wp2_with fail
 go_meet
 refine ⟨_,RA',rc',rfl,?_,?_,?_,?_⟩
 ·first|exact Nat.le_refl _|omega|(simp;omega)
 ·first|exact Blk.new' rfl|exact blk_put3 hbYY
 ·first|exact hown1.alloc _|exact owns_put3 hown1 hbYY (by decide)
 ·exact belA):P:=h
theorem lPerfN6 {P:Prop} (h:P:=by
 (
 refine wp_region_T (S:=(fun u=>u.cell? ⟨w.heap.size,3,none⟩=some (.int .i64 (k:Int))∧u.cell? ⟨Y,0,none⟩=some (.slice (some ⟨rbb,0,none⟩) row.length rc')∧u.cell? ⟨Y,1,none⟩=some (.slice SA' sqs.length sc')∧u.cell? ⟨Y,2,none⟩=some (.int .i64 dy))) [] krA ⟨q3,y0,y1,y2⟩ (fun hHeld => ?_)
 refine tkT 0 hHeld ?_
 refine tkT 1 hHeld ?_
 refine tkT 2 hHeld ?_
 refine tkT 4 hHeld ?_
 refine tkT 5 hHeld ?_
 refine tkT 6 hHeld ?_
 refine tkT 8 hHeld ?_
 refine tkT 11 hHeld ?_
 refine tkT 12 hHeld ?_
 refine tkT 13 hHeld ?_
 refine r2T 3 9 (fun K hK => ?_) (fun K hK => ?_)
 ·go_simp
  refine hK.out _ _ _ ⟨?_,?_,?_,?_⟩ (fun hHeld => ?_)
  iterate 4 (go_simp)
  clear hK K
  refine r2T 7 9 (fun K hK => ?_) (fun K hK => ?_)
  ·(refine step_append_list _ rfl (.tmp 101) (.tmp 104) 45 rfl 48 ir _ Rcd.cells 3 56 Tryz.underlying45 hir hzr1 hzr2 hzr3 rfl omA rcd_len rcd_one V.heap.size (.slice (some ⟨V.heap.size,0,none⟩) 0 0) [] rfl (Owns.empty nbA leA) _ _ _ (L.take m) rfl smA ((HSL.out.take m).next belA) smA mxA leA ?_;intro v1 u1 hown1 hg1 hat1;have hb1':Below V.heap.size V u1:=Below.grown belA hg1 leA (own_row leA);have hsz1:=hb1'.size;have hxu1:w.heap.size<u1.heap.size:=omA;have hyu1:Y<u1.heap.size:=omA;have kx1:=(keepB hb1' w.heap.size hbxV).1;have ky1:=(keepB hb1' Y hYV).1)
   refine hK.out _ _ _ ⟨?_,?_,?_,?_⟩ (fun hHeld => ?_)
   iterate 4 (go_simp)
   clear hK K
   refine r1T 9 (fun K hK => ?_)
   go_simp
   refine hK.out _ _ _ ⟨?_,?_,?_,?_⟩ (fun hHeld => ?_)
   iterate 4 (go_simp)
   clear hK K
   refine r1T 10 (fun K hK => ?_)
   (refine step_append_list _ rfl (.tmp 105) (.tmp 107) 45 rfl 48 ir _ Rcd.cells 3 56 Tryz.underlying45 hir hzr1 hzr2 hzr3 rfl omA rcd_len rcd_one V.heap.size v1 ([]++L.take m) rfl nfA _ _ _ [(⟨some ⟨rbb,0,none⟩,rc',row,SA',sc',sqs,dy⟩:Rcd)] rfl rfl (by exact Blk.one (enc:=Rcd.cells) (x:=⟨some ⟨rbb,0,none⟩,rc',row,SA',sc',sqs,dy⟩) (Blk.new' spA) spA) smA mxA (by have:=hb1'.size;simp;omega) ?_;intro v2 u2 hown2 hg2 hat2;have hb2':Below V.heap.size V u2:=Below.grown belA hg2 (by have:=hb1'.size;simp;omega) hown1.row;have hsz2:=hb2'.size;have hxu2:w.heap.size<u2.heap.size:=omA;have hyu2:Y<u2.heap.size:=omA;have kx2:=(keepB hb2' w.heap.size hbxV).1;have ky2:=(keepB hb2' Y hYV).1)
   refine hK.out _ _ _ ⟨?_,?_,?_,?_⟩ (fun hHeld => ?_)
   iterate 4 (go_simp)
   clear hK K
   exact lPerfN7
  ·go_simp
   refine hK.out _ _ _ ⟨?_,?_,?_,?_⟩ (fun hHeld => ?_)
   iterate 4 (go_simp)
   clear hK K
   refine r1T 7 (fun K hK => ?_)
   (refine step_append_list _ rfl (.tmp 101) (.tmp 104) 45 rfl 48 ir _ Rcd.cells 3 56 Tryz.underlying45 hir hzr1 hzr2 hzr3 rfl omA rcd_len rcd_one V.heap.size (.slice (some ⟨V.heap.size,0,none⟩) 0 0) [] rfl (Owns.empty nbA leA) _ _ _ (L.take m) rfl smA ((HSL.out.take m).next belA) smA mxA leA ?_;intro v1 u1 hown1 hg1 hat1;have hb1':Below V.heap.size V u1:=Below.grown belA hg1 leA (own_row leA);have hsz1:=hb1'.size;have hxu1:w.heap.size<u1.heap.size:=omA;have hyu1:Y<u1.heap.size:=omA;have kx1:=(keepB hb1' w.heap.size hbxV).1;have ky1:=(keepB hb1' Y hYV).1)
   have h40:Blk u1 (V.heap.size + 1) 48 (Rcd.cells ⟨some ⟨rbb,0,none⟩,rc',row,SA',sc',sqs,dy⟩).toArray:=Blk.grown ndA hg1 (ne_row omA)
   refine hK.out _ _ _ ⟨?_,?_,?_,?_⟩ (fun hHeld => ?_)
   iterate 4 (go_simp)
   clear hK K
   refine r1T 10 (fun K hK => ?_)
   (refine step_append_list _ rfl (.tmp 105) (.tmp 107) 45 rfl 48 ir _ Rcd.cells 3 56 Tryz.underlying45 hir hzr1 hzr2 hzr3 rfl omA rcd_len rcd_one V.heap.size v1 ([]++L.take m) rfl nfA _ _ _ [(⟨some ⟨rbb,0,none⟩,rc',row,SA',sc',sqs,dy⟩:Rcd)] rfl rfl (by exact Blk.one (enc:=Rcd.cells) (x:=⟨some ⟨rbb,0,none⟩,rc',row,SA',sc',sqs,dy⟩) h40 h40.lt) smA mxA (by have:=hb1'.size;simp;omega) ?_;intro v2 u2 hown2 hg2 hat2;have hb2':Below V.heap.size V u2:=Below.grown belA hg2 (by have:=hb1'.size;simp;omega) hown1.row;have hsz2:=hb2'.size;have hxu2:w.heap.size<u2.heap.size:=omA;have hyu2:Y<u2.heap.size:=omA;have kx2:=(keepB hb2' w.heap.size hbxV).1;have ky2:=(keepB hb2' Y hYV).1)
   refine hK.out _ _ _ ⟨?_,?_,?_,?_⟩ (fun hHeld => ?_)
   iterate 4 (go_simp)
   clear hK K
   exact lPerfN7
 ·go_simp
  refine hK.out _ _ _ ⟨?_,?_,?_,?_⟩ (fun hHeld => ?_)
  iterate 4 (go_simp)
  clear hK K
  refine r1T 3 (fun K hK => ?_)
  go_simp
  refine hK.out _ _ _ ⟨?_,?_,?_,?_⟩ (fun hHeld => ?_)
  iterate 4 (go_simp)
  clear hK K
  refine r1T 7 (fun K hK => ?_)
  (refine step_append_list _ rfl (.tmp 101) (.tmp 104) 45 rfl 48 ir _ Rcd.cells 3 56 Tryz.underlying45 hir hzr1 hzr2 hzr3 rfl omA rcd_len rcd_one V.heap.size (.slice (some ⟨(V.heap.size + 1),0,none⟩) 0 0) [] rfl (Owns.empty nbA leA) _ _ _ (L.take m) rfl smA ((HSL.out.take m).next belA) smA mxA leA ?_;intro v1 u1 hown1 hg1 hat1;have hb1':Below V.heap.size V u1:=Below.grown belA hg1 leA (own_row leA);have hsz1:=hb1'.size;have hxu1:w.heap.size<u1.heap.size:=omA;have hyu1:Y<u1.heap.size:=omA;have kx1:=(keepB hb1' w.heap.size hbxV).1;have ky1:=(keepB hb1' Y hYV).1)
  have h40:Blk u1 V.heap.size 48 (Rcd.cells ⟨some ⟨rbb,0,none⟩,rc',row,SA',sc',sqs,dy⟩).toArray:=Blk.grown ncA hg1 (ne_row omA)
  refine hK.out _ _ _ ⟨?_,?_,?_,?_⟩ (fun hHeld => ?_)
  iterate 4 (go_simp)
  clear hK K
  refine r1T 10 (fun K hK => ?_)
  (refine step_append_list _ rfl (.tmp 105) (.tmp 107) 45 rfl 48 ir _ Rcd.cells 3 56 Tryz.underlying45 hir hzr1 hzr2 hzr3 rfl omA rcd_len rcd_one V.heap.size v1 ([]++L.take m) rfl nfA _ _ _ [(⟨some ⟨rbb,0,none⟩,rc',row,SA',sc',sqs,dy⟩:Rcd)] rfl rfl (by exact Blk.one (enc:=Rcd.cells) (x:=⟨some ⟨rbb,0,none⟩,rc',row,SA',sc',sqs,dy⟩) h40 h40.lt) smA mxA (by have:=hb1'.size;simp;omega) ?_;intro v2 u2 hown2 hg2 hat2;have hb2':Below V.heap.size V u2:=Below.grown belA hg2 (by have:=hb1'.size;simp;omega) hown1.row;have hsz2:=hb2'.size;have hxu2:w.heap.size<u2.heap.size:=omA;have hyu2:Y<u2.heap.size:=omA;have kx2:=(keepB hb2' w.heap.size hbxV).1;have ky2:=(keepB hb2' Y hYV).1)
  refine hK.out _ _ _ ⟨?_,?_,?_,?_⟩ (fun hHeld => ?_)
  iterate 4 (go_simp)
  clear hK K
  exact lPerfN7)):P:=h
theorem lPerfN7 {P:Prop} (h:P:=by
 (
 refine r1T 14 (fun K hK => ?_)
 (refine step_append_list _ rfl (.tmp 108) (.tmp 111) 45 rfl 48 ir _ Rcd.cells 3 56 Tryz.underlying45 hir hzr1 hzr2 hzr3 rfl omA rcd_len rcd_one V.heap.size v2 ([]++L.take m ++ [(⟨some ⟨rbb,0,none⟩,rc',row,SA',sc',sqs,dy⟩:Rcd)]) rfl hown2 _ _ _ (L.drop m) rfl (by first|(simp;done)|(have:=HL0.out;simp;omega)) (hcut.next hb2') smA mxA hb2'.size ?_;intro v3 u3 hown3 hg3 hat3;have hb3':Below V.heap.size V u3:=Below.grown hb2' hg3 hb2'.size hown2.row;have hsz3:=hb3'.size;have kx3:=(keepB hb3' w.heap.size hbxV).1;have ky3:=(keepB hb3' Y hYV).1;obtain ⟨A3,c3,hv3,_,_⟩:=hown3.form;obtain ⟨n3,hn3⟩ : ∃ n3,n3=([]++L.take m ++ [(⟨some ⟨rbb,0,none⟩,rc',row,SA',sc',sqs,dy⟩:Rcd)]++L.drop m).length:=⟨_,rfl⟩;rw [← hn3] at hv3;subst hv3;have HN3:=qh hn3;have HOWN3:=qh hown3;clear hn3 hown3)
 refine hK.out _ _ _ ⟨?_,?_,?_,?_⟩ (fun hHeld => ?_)
 iterate 4 (go_simp)
 clear hK K
 refine r1T 15 (fun K hK => ?_)
 go_simp
 refine hK.out _ _ _ ⟨?_,?_,?_,?_⟩ (fun hHeld => ?_)
 iterate 4 (go_simp)
 clear hK K
 refine r1T 16 (fun K hK => ?_)
 have hO3':=HOVV.out.below hb3' nlr
 have g3:=hO3'.getE rtab_len HLL.out.symm hkl (j := 0) rfl
 have f3:=hO3'.frzE HLL.out.symm k
 simp only [Nat.mul_one,Nat.add_zero] at g3
 clear hO3'
 go_simp
 have hqY:q≠Y:=(by have:=HOV.out.lt q rfl;omega)
 refine hK.out _ _ _ ⟨?_,?_,?_,?_⟩ (fun hHeld => ?_)
 go_simp
 iterate 3 (rw [World.cell?_setCell_far _ _ _ _ (by exact hqY)];go_simp)
 clear hK K
 refine wpT_done krA ?_ _
 clear hHeld
 exact lPerfN8)):P:=h
theorem lPerfN8 {P:Prop} (h:P:=by
 (
 have HRES:=qh (HDONE.out u3 A3 c3 (.slice A3 n3 c3) hb3' (by rw [← HN3.out];exact HOWN3.out) (by rw [HN3.out]))
 go_wp2_with fail
 go_ret
 first|exact HRES.out|exact HRES.out.drew)):P:=h
theorem perform_ins (RA:Option Addr) (rc n:Nat) (rt:List RTab) (k:Nat) (kd sq dy:Int) (A0:Option Addr) (cp:Nat) (row:List Val) (key:Val) (cl:Int) (vl:Val) (w:World) (hrt:RTabsIn w w.heap.size RA rt) (hn:rt.length=n) (hsr:SaneR rt) (hk:k<rt.length) (hR:SliceIs w w.heap.size Val.cells 3 A0 row) (hrlen:row.length ≤ 1000000) (h1:kd = 1 → 0<row.length) {z:Int} (hz:findP (pureT rt[k]) (keyOf ⟨kd,sq,dy,(k:Int),A0,cp,row,key,cl,vl⟩)=z) (hk1:kd = 1) (hc:z < 0→rt[k].recs.length < 64) (hne : ∀ r∈rt[k].recs,0<r.row.length) :
 Calls Tryz.prog 34 #[.slice RA n rc, .agg #[.int .i64 kd, .int .i64 sq, .int .i64 dy, .int .i64 (k:Int), .slice A0 row.length cp, .int .i64 key.kind, .int .i64 key.num, .string key.text, .int .i64 cl, .int .i64 vl.kind, .int .i64 vl.num, .string vl.text]] w (PerfTo w n (performE (rt.map pureT) ⟨kd,sq,dy,(k:Int),A0,cp,row,key,cl,vl⟩)):=by
 have hr0:=h1 hk1
 have hkd:(kd == 1)=true:=by rw [hk1];rfl
 have HK1:=qh hk1
 have HNE:=qh hne
 have HC64:=qh hc
 have HZ0:=qh hz
 obtain ⟨ir,hir,hzr1,hzr2,hzr3⟩:=info_parts infoRcd
 obtain ⟨iv,hiv,hzv1,hzv2,hzv3⟩:=info_parts infoVal
 obtain ⟨ii,hii,hzi1,hzi2,hzi3⟩:=info_parts infoIntT
 clear hc hne hk1
 subst hn
 have hrn:=hsr.len
 have hrecs0:=hsr.recs rt[k] (lgm hk)
 have hrow0:=hsr.row rt[k] (lgm hk)
 obtain ⟨kv,hkv⟩ : ∃ kv,keyOf ⟨kd,sq,dy,(k:Int),A0,cp,row,key,cl,vl⟩=kv:=⟨_,rfl⟩
 have HKV:=qh hkv
 have HZ:=qh hz
 have HRT:=qh hrt
 have HSR:=qh hsr
 have HR:=qh hR
 have HR0:=HR
 have H1:=qh h1
 clear hz hrt hsr hR h1 hkv
 go_enter Tryz.func34,Tryz.ntmps34
 go_upto_region 1 with (fail)
 refine abs_world (P:=fun u=>Code.wp _ _ _ _ u) (R:=fun u=>Blk u w.heap.size 79 (Chg.cells ⟨kd,sq,dy,(k:Int),A0,cp,row,key,cl,vl⟩).toArray∧Below w.heap.size w u) ⟨?_,?_⟩ ?_
 ·exact Blk.new _ _ _
 ·exact belA
 rintro W ⟨hX,hbW⟩
 have hzW:=hX.lt
 have HX:=qh hX
 clear hX
 go_wp2_with fail
 (with_reducible refine (ref07_Copy RA rc rt.length rt _ (HRT.out.next (below_nextN hbW brf hbW.size)) rfl HSR.out).mono ?_)
 rintro e w1 ⟨q,l,rfl,hq,hll,hO,hT,hpl,hb1⟩
 have hx1:=below_nextN hbW hb1 hbW.size
 have hX1:=HX.out.below hb1 omA
 have HX1:=qh hX1
 have hkl:k<l.length:=by omega
 have g0:=hO.getE rtab_len (by rw [hll]) hkl (j := 0) rfl
 have hmp:=map_at hpl hkl hk
 have hT0:=hT.recs hkl
 obtain ⟨⟨TA,tc,recs⟩,hlk⟩ : ∃ x:RTab,l[k]=x:=⟨_,rfl⟩
 rw [hlk] at g0 hmp hT0
 simp only [Nat.mul_one,Nat.add_zero] at g0 hmp hT0
 have hrl1:recs.length=rt[k].recs.length:=by have:=congrArg List.length hmp;simpa [pureT] using this
 have hrw : ∀ x∈recs,x.row.length ≤ 1000000:=fun x hx=>by
  have h:pureR x∈pureT rt[k]:=by rw [← hmp];exact List.mem_map_of_mem hx
  obtain ⟨y,hy,hyx⟩:=List.mem_map.1 h
  have h2:y.row=x.row:=congrArg (fun p=>p.1) hyx
  rw [← h2]
  exact hrow0 y hy
 have hrl:recs.length ≤ 1000000:=by omega
 have HRL1:=qh hrl1
 have HLL:=qh hll
 have hzk:=HZ.out
 rw [HKV.out,← hmp,← findK_pure] at hzk
 have HMP:=qh hmp
 have HT0:=qh hT0
 have HLK:=qh hlk
 have HO:=qh hO
 have HT:=qh hT
 have HPL:=qh hpl
 have HZK:=qh hzk
 have HRW:=qh hrw
 have hkn:decide (k<rt.length)=true:=by simpa using hk
 have hzq:=hb1.size
 obtain ⟨⟨q0,q1,q2,q3⟩,q4,⟨q5,q6,q7⟩,q8,q9,q10,q11⟩:=Chg.blkE hX1
 simp only at q0 q1 q2 q3 q4 q5 q6 q7 q8 q9 q10 q11
 clear hX1 hmp hT0 hlk hO hT hpl hzk hrw hrecs0 hrow0 hrl1 hll
 go_wp2_with fail
 (with_reducible refine (ref07_key ⟨kd,sq,dy,(k:Int),A0,cp,row,key,cl,vl⟩ _ (HR.out.next (below_nextN hx1 belA hx1.size)) hrlen H1.out HKV.out).mono ?_)
 rintro e w2 ⟨rfl,hb2⟩
 clear q0 q1 q2 q3 q4 q5 q6 q7 q8 q9 q10 q11
 have hz2:=hb2.size
 have hX2:=HX1.out.below hb2 omA
 have HX2:=qh hX2
 obtain ⟨⟨q0,q1,q2,q3⟩,q4,⟨q5,q6,q7⟩,q8,q9,q10,q11⟩:=Chg.blkE hX2
 simp only at q0 q1 q2 q3 q4 q5 q6 q7 q8 q9 q10 q11
 clear hX2 g0
 go_wp2_with fail
 (with_reducible refine (ref07_Find TA tc recs.length recs kv _ (HT0.out.read.next hb2) rfl hrl HRW.out HZK.out).mono ?_)
 rintro e U ⟨rfl,hb3⟩
 clear q0 q1 q2 q3 q4 q5 q6 q7 q8 q9 q10 q11
 have hbU:=below_nextN hb2 hb3 hb2.size
 have hzU:=hbU.size
 have hxU:=below_nextN hx1 hbU hx1.size
 have hX3:=HX1.out.below hbU omA
 have HX3:=qh hX3
 have HO3:=qh (HO.out.below hbU nlr)
 have HT3:=qh (HT.out.below hbU nlr)
 have hbase:w.heap.size≤W.heap.size:=hbW.size
 have hbxU:w.heap.size<U.heap.size:=by omega
 have HRR:=qh ((HT3.out.recs hkl).read)
 rw [HLK.out] at HRR
 have HRR1:=qh HRR.out.1
 clear HX1 HO HT hb2 hb3 hz2 HR H1
 obtain ⟨⟨q0,q1,q2,q3⟩,q4,⟨q5,q6,q7⟩,q8,q9,q10,q11⟩:=Chg.blkE hX3
 simp only at q0 q1 q2 q3 q4 q5 q6 q7 q8 q9 q10 q11
 clear hX3
 have hro:=HT3.out.recs hkl
 rw [HLK.out] at hro
 have HRO:=qh hro
 have HREL:Hid (∀ x∈recs,0<x.row.length):=qh fun x hx=>by
  have h:pureR x∈pureT rt[k]:=by rw [← HMP.out];exact List.mem_map_of_mem hx
  obtain ⟨y,hy,hyx⟩:=List.mem_map.1 h
  have h2:y.row=x.row:=congrArg (fun p=>p.1) hyx
  rw [← h2]
  exact HNE.out y hy
 have HLR2:Hid (l[k].recs=recs):=qh (by
  have h2 : ∀ t:RTab,t=⟨TA,tc,recs⟩→t.recs=recs:=fun t ht=>by subst ht;rfl
  exact h2 _ HLK.out)
 clear hro
 go_upto_if 41 with (fail)
 go_cut [6] from 40 to 54 (fun v6 wx => ∃ (LA:Option Addr) (LC:Nat) (L:List Rcd),v6 = .slice LA L.length LC∧RecsOwn wx W.heap.size LA LC L∧Below U.heap.size U wx∧(∀ x∈L,0<x.row.length)∧insP (L.map pureR) (newP ⟨kd,sq,dy,(k:Int),A0,cp,row,key,cl,vl⟩)=perfL (l[k].recs.map pureR) ⟨kd,sq,dy,(k:Int),A0,cp,row,key,cl,vl⟩∧L.length ≤ 1000000)
 case first =>
  by_cases hz0 : 0≤z
  ·obtain ⟨j,hj,hje⟩:=findP_at (l:=pureT rt[k]) (key:=keyOf ⟨kd,sq,dy,(k:Int),A0,cp,row,key,cl,vl⟩) (by rw [HZ0.out];exact hz0)
   have hjr:j<rt[k].recs.length:=by simpa [pureT] using hj
   rw [HZ0.out] at hje
   subst hje
   have hz1:decide ((0:Int)≤(j:Int))=true:=by simp
   have hjl:j<recs.length:=by have:=HRL1.out;omega
   obtain ⟨tb,htb⟩ : ∃ g,TA=some ⟨g,0,none⟩:=own_addr HRO.out.1 (Nat.lt_of_le_of_lt (Nat.zero_le _) hjl)
   have hcap:recs.length≤tc:=own_cap HRO.out.1
   subst htb
   have hjc:j≤tc:=by omega
   have hjc1:j + 1≤tc:=by omega
   have hwr:IntKind.i64.wrap ((j:Int) + 1)=((j + 1:Nat):Int):=by rw [show (j:Int) + 1=((j + 1:Nat):Int) by omega];exact IntWalk.i64_in _ omA
   have hi1:(j:Int)≤(j:Int) + 1:=by omega
   have hi2:(0:Int)≤(j:Int) + 1:=by omega
   have hi3:(j:Int) + 1≤(recs.length:Int):=by omega
   obtain ⟨L,hLd⟩ : ∃ L,L = []++recs.take j++recs.drop (j + 1):=⟨_,rfl⟩
   have HLD:=qh hLd
   have hLl:L.length ≤ 1000000:=by rw [hLd];simp;omega
   have hsub : ∀ x∈L,x∈recs:=fun x hx=>by
    rw [hLd] at hx
    rcases List.mem_append.1 hx with h|h
    ·exact List.mem_of_mem_take (by simpa using h)
    ·exact List.mem_of_mem_drop h
   have HOLD:Hid (∀ LA LC u2,Owns u2 U.heap.size 48 Rcd.cells 3 (.slice LA L.length LC) L→Below U.heap.size U u2 → ∃ (LA':Option Addr) (LC':Nat) (L':List Rcd),Value.slice LA L.length LC = .slice LA' L'.length LC'∧RecsOwn u2 W.heap.size LA' LC' L'∧Below U.heap.size U u2∧(∀ x∈L',0<x.row.length)∧insP (L'.map pureR) (newP ⟨kd,sq,dy,(k:Int),A0,cp,row,key,cl,vl⟩)=perfL (l[k].recs.map pureR) ⟨kd,sq,dy,(k:Int),A0,cp,row,key,cl,vl⟩∧L'.length ≤ 1000000):=qh fun LA LC u2 hown hb=>by
    refine ⟨LA,LC,L,rfl,⟨hown.mono omA,fun x hx => ?_⟩,hb,fun x hx=>HREL.out x (hsub x hx),?_,hLl⟩
    ·have:=HRO.out.2 x (hsub x hx)
     exact ⟨this.1.below hb nlr,this.2.below hb nlr⟩
    ·rw [HLR2.out,perfL_old (x:=⟨kd,sq,dy,(k:Int),A0,cp,row,key,cl,vl⟩) (j:=j) HK1.out (by rw [HKV.out,← findK_pure];exact HZK.out),HLD.out]
     simp [cutP,List.map_take,List.map_drop]
   clear hLd hsub hz0
   rw [hz1]
   go_upto_region 7 with (fail)
   by_cases hcm:tc=j + 1
   ·have hcut:SliceIs U U.heap.size Rcd.cells 3 (some ⟨tb,0,none⟩) (recs.drop (j + 1)):=by
     rw [List.drop_eq_nil_of_le omA]
     exact SliceIs.nil
    have hcm':=eq_true hcm
    clear hcm
    exact lPerfN1
   ·have hcut:SliceIs U U.heap.size Rcd.cells 3 (some ⟨tb,(j + 1) * 3,none⟩) (recs.drop (j + 1)):=by have h:=HRR1.out.cut (c:=tc) (j + 1) omA;rw [if_neg hcm] at h;simpa using h
    exact lPerfN1
  ·have hz1:decide (0≤z)=false:=by simp;omega
   have h64:=HC64.out omA
   have h64':decide (64≤recs.length)=false:=by have:=HRL1.out;simp;omega
   have h64i:decide ((64:Int)≤(recs.length:Int))=false:=by have:=HRL1.out;simp;omega
   have HNEW:Hid (insP (recs.map pureR) (newP ⟨kd,sq,dy,(k:Int),A0,cp,row,key,cl,vl⟩)=perfL (l[k].recs.map pureR) ⟨kd,sq,dy,(k:Int),A0,cp,row,key,cl,vl⟩):=qh (by
    rw [HLR2.out,perfL_new (x:=⟨kd,sq,dy,(k:Int),A0,cp,row,key,cl,vl⟩) HK1.out (by rw [HKV.out,← findK_pure,HZK.out];omega) (by have:=HRL1.out;simp;omega)])
   have HRO2:Hid (RecsOwn U W.heap.size TA tc recs):=HRO
   have hrl2:recs.length ≤ 1000000:=by have:=HRL1.out;omega
   clear hz0 h64
   rw [hz1]
   go_wp2_with fail
   go_meet
   exact ⟨TA,tc,recs,rfl,HRO2.out,Below.refl _ _,HREL.out,HNEW.out,hrl2⟩
 case rest =>
 obtain ⟨LA,LC,L,rfl,hrov,hbUV,hnel,hpf,hLl⟩:=hcut
 obtain ⟨V0,rfl⟩ : ∃ V0:World,V0=wc:=⟨_,rfl⟩
 have hzUV:=hbUV.size
 have HLV:=qh hrov
 have HNEL:=qh hnel
 have HPF:=qh hpf
 have HLR:=qh HLV.out.read
 have hLcap:=own_cap HLV.out.1
 have HOC:=qh (own_cases HLV.out.1)
 have HOV:=qh (HO3.out.below hbUV nlr)
 have HTV:=qh (HT3.out.below hbUV nlr)
 have hxV:=below_nextN hxU hbUV hxU.size
 have HRV:=qh (HR0.out.next hxV)
 have hXV:=HX3.out.below hbUV hbxU
 have HXV:=qh hXV
 have hbxV0:w.heap.size<V0.heap.size:=by omega
 clear q0 q1 q2 q3 q4 q5 q6 q7 q8 q9 q10 q11
 obtain ⟨⟨q0,q1,q2,q3⟩,q4,⟨q5,q6,q7⟩,q8,q9,q10,q11⟩:=Chg.blkE hXV
 simp only at q0 q1 q2 q3 q4 q5 q6 q7 q8 q9 q10 q11
 clear hXV hrov hnel hpf
 go_upto_region 10 with (fail)
 go_cut [8] from 56 to 62 (fun v8 wx => ∃ Y RA' rc',v8 = .pointer (some ⟨Y,0,none⟩)∧V0.heap.size≤Y∧Blk wx Y 48 #[.slice RA' row.length rc', .slice none 0 0, .int .i64 dy]∧Owns wx V0.heap.size 53 Val.cells 3 (.slice RA' row.length rc') row∧Below V0.heap.size V0 wx)
 case first =>
  refine wp_region_T (S:=(fun u=>u.cell? ⟨w.heap.size,4,none⟩=some (.slice A0 row.length cp)∧u.cell? ⟨w.heap.size,2,none⟩=some (.int .i64 dy))) [] krA ⟨q4,q2⟩ (fun hHeld => ?_)
  refine tkT 1 hHeld ?_
  refine tkT 2 hHeld ?_
  refine tkT 4 hHeld ?_
  refine tkT 5 hHeld ?_
  refine r2T 0 7 (fun K hK => ?_) (fun K hK => ?_)
  ·go_simp
   refine hK.out _ _ _ ⟨?_,?_⟩ (fun hHeld => ?_)
   iterate 2 (go_simp)
   clear hK K
   refine r2T 3 7 (fun K hK => ?_) (fun K hK => ?_)
   ·(refine step_append_list _ rfl (.tmp 56) (.tmp 58) 46 rfl 53 iv _ Val.cells 3 32 Tryz.underlying46 hiv hzv1 hzv2 hzv3 rfl omA val_len val_one V0.heap.size (.slice (some ⟨V0.heap.size,0,none⟩) 0 0) [] rfl (Owns.empty nbA leA) _ _ _ row rfl rfl (HRV.out.next belA) smA mxA leA ?_;intro v1 u1 hown1 hg1 hat1;have hb1':Below V0.heap.size V0 u1:=Below.grown belA hg1 leA (own_row leA);have hsz1:=hb1'.size;have hxu1:w.heap.size<u1.heap.size:=omA;have kx1:=(keepB hb1' w.heap.size hbxV0).1;rw [List.nil_append] at hown1;obtain ⟨RA',rc',rfl,hrc',_⟩:=hown1.form)
    refine hK.out _ _ _ ⟨?_,?_⟩ (fun hHeld => ?_)
    iterate 2 (go_simp)
    clear hK K
    refine tkT 6 hHeld ?_
    refine r1T 7 (fun K hK => ?_)
    go_simp
    refine hK.out _ _ _ ⟨?_,?_⟩ (fun hHeld => ?_)
    iterate 2 (go_simp)
    clear hK K
    exact lPerfN5
   ·go_simp
    refine hK.out _ _ _ ⟨?_,?_⟩ (fun hHeld => ?_)
    iterate 2 (go_simp)
    clear hK K
    refine r1T 3 (fun K hK => ?_)
    (refine step_append_list _ rfl (.tmp 56) (.tmp 58) 46 rfl 53 iv _ Val.cells 3 32 Tryz.underlying46 hiv hzv1 hzv2 hzv3 rfl omA val_len val_one V0.heap.size (.slice (some ⟨V0.heap.size,0,none⟩) 0 0) [] rfl (Owns.empty nbA leA) _ _ _ row rfl rfl (HRV.out.next belA) smA mxA leA ?_;intro v1 u1 hown1 hg1 hat1;have hb1':Below V0.heap.size V0 u1:=Below.grown belA hg1 leA (own_row leA);have hsz1:=hb1'.size;have hxu1:w.heap.size<u1.heap.size:=omA;have kx1:=(keepB hb1' w.heap.size hbxV0).1;rw [List.nil_append] at hown1;obtain ⟨RA',rc',rfl,hrc',_⟩:=hown1.form)
    have hbYY:Blk u1 (V0.heap.size + 1) 48 #[.slice none 0 0, .slice none 0 0, .int .i64 0]:=Blk.grown ndA hg1 (ne_row omA)
    have yy0:=hbYY.cell 0
    have yy1:=hbYY.cell 1
    have yy2:=hbYY.cell 2
    have yf0:=hbYY.frozen 0
    have yf1:=hbYY.frozen 1
    have yf2:=hbYY.frozen 2
    simp only [gE3] at yy0 yy1 yy2
    refine hK.out _ _ _ ⟨?_,?_⟩ (fun hHeld => ?_)
    iterate 2 (go_simp)
    clear hK K
    refine tkT 6 hHeld ?_
    exact lPerfN5
  ·go_simp
   refine hK.out _ _ _ ⟨?_,?_⟩ (fun hHeld => ?_)
   iterate 2 (go_simp)
   clear hK K
   refine r1T 0 (fun K hK => ?_)
   go_simp
   refine hK.out _ _ _ ⟨?_,?_⟩ (fun hHeld => ?_)
   iterate 2 (go_simp)
   clear hK K
   refine r1T 3 (fun K hK => ?_)
   (refine step_append_list _ rfl (.tmp 56) (.tmp 58) 46 rfl 53 iv _ Val.cells 3 32 Tryz.underlying46 hiv hzv1 hzv2 hzv3 rfl omA val_len val_one V0.heap.size (.slice (some ⟨(V0.heap.size + 1),0,none⟩) 0 0) [] rfl (Owns.empty nbA leA) _ _ _ row rfl rfl (HRV.out.next belA) smA mxA leA ?_;intro v1 u1 hown1 hg1 hat1;have hb1':Below V0.heap.size V0 u1:=Below.grown belA hg1 leA (own_row leA);have hsz1:=hb1'.size;have hxu1:w.heap.size<u1.heap.size:=omA;have kx1:=(keepB hb1' w.heap.size hbxV0).1;rw [List.nil_append] at hown1;obtain ⟨RA',rc',rfl,hrc',_⟩:=hown1.form)
   have hbYY:Blk u1 V0.heap.size 48 #[.slice none 0 0, .slice none 0 0, .int .i64 0]:=Blk.grown ncA hg1 (ne_row omA)
   have yy0:=hbYY.cell 0
   have yy1:=hbYY.cell 1
   have yy2:=hbYY.cell 2
   have yf0:=hbYY.frozen 0
   have yf1:=hbYY.frozen 1
   have yf2:=hbYY.frozen 2
   simp only [gE3] at yy0 yy1 yy2
   refine hK.out _ _ _ ⟨?_,?_⟩ (fun hHeld => ?_)
   iterate 2 (go_simp)
   clear hK K
   refine tkT 6 hHeld ?_
   exact lPerfN5
 case rest =>
  obtain ⟨Y,RA',rc',rfl,hY,hbY,howr,hbx⟩:=hcut
  have HBY0:=qh hbY
  have HRO0:=qh howr
  clear hbY howr
  clear q0 q1 q2 q3 q4 q5 q6 q7 q8 q9 q10 q11
  go_wp2_with fail
  go_loopw [9] (fun vi wr => ∃ (i:Nat) (SA':Option Addr) (sc':Nat),i≤row.length∧vi = .int .i64 i∧Blk wr Y 48 #[.slice RA' row.length rc', .slice SA' i sc', .int .i64 dy]∧Owns wr V0.heap.size 53 Val.cells 3 (.slice RA' row.length rc') row∧Owns wr V0.heap.size 3 intCells 1 (.slice SA' i sc') (List.replicate i sq)∧Below V0.heap.size V0 wr) (fun vi _=>row.length - (intOf vi).toNat)
  case atStart=>exact ⟨0,none,0,Nat.zero_le _,rfl,HBY0.out,HRO0.out,Owns.nil,hbx⟩
  case round =>
   clear hbx HBY0 HRO0
   obtain ⟨i,SA',sc',hi,rfl,hbY,howr,hosq,hbr⟩:=hrel
   have hwz:=hbr.size
   have HBY:=qh hbY
   have HRO:=qh howr
   have HSQ:=qh hosq
   have hXr:=HXV.out.below hbr hbxV0
   have hYr:=hbY.lt
   have y1:=hbY.cell 1
   simp only [gE3] at y1
   obtain ⟨⟨q0,q1,q2,q3⟩,q4,⟨q5,q6,q7⟩,q8,q9,q10,q11⟩:=Chg.blkE hXr
   simp only at q0 q1 q2 q3 q4 q5 q6 q7 q8 q9 q10 q11
   clear hbY howr hosq hXr
   by_cases hlt:i<row.length
   ·have hlt':decide (i<row.length)=true:=by simpa using hlt
    go_wp2_with (at_builtin;go_must (refine wpList_append_list _ rfl (.tmp 71) (.tmp 74) 22 rfl 3 ii _ intCells 1 8 Tryz.underlying22 hii hzi1 hzi2 hzi3 rfl omA int_len int_one V0.heap.size (.slice SA' i sc') (List.replicate i sq) rfl (HSQ.out.alloc _) _ _ _ [sq] rfl rfl (Blk.one (enc:=intCells) (x:=sq) (Blk.new' rfl) spA) smA mxA smA ?_);intro v2 w2 hown2 hg2 hat2;obtain ⟨SA2,sc2,rfl,hsc2,_⟩:=hown2.form;have hbY2:=(HBY.out.alloc _).grown hg2 (fun e=>HSQ.out.neBlk HBY.out (by decide) Y e.symm rfl);have y1:=hbY2.cell 1;have f1:=hbY2.frozen 1;simp only [gE3] at y1;have HBY2:=qh hbY2;have HQ2:=qh hown2;have HRO2:=qh ((HRO.out.alloc _).kept hg2 (HRO.out.neType HSQ.out (by decide)));have hx2:Below V0.heap.size V0 w2:=Below.grown (hbr.alloc hbr.size _) hg2 smA HSQ.out.row;clear hbY2 hown2)
    go_roundw
    case rel=>exact ⟨i + 1,SA2,sc2,by omega,by go_num,HBY2.out.set_ 1 _,HRO2.out.otype (by have h:=HBY2.out;unfold Blk at h;exact h) (by decide) _,by have h:=HQ2.out.otype (q:=Y) (i := 1) (by have h:=HBY2.out;unfold Blk at h;exact h) (by decide) (.slice SA2 (i + 1) sc2);simpa [List.replicate_succ'] using h,hx2.setCell hY _⟩
    case measure=>exact meA
   have hlt':decide (i<row.length)=false:=by simpa using hlt
   have hie:i=row.length:=by omega
   subst hie
   go_wp2_with fail
   clear y1 hlt hlt' hi
   clear q0 q1 q2 q3 q4 q5 q6 q7 q8 q9 q10 q11
   have hro0:=HRO.out
   obtain ⟨rbb,hrbb⟩:=own_addr hro0 hr0
   subst hrbb
   have hx0:=hro0.getE val_len rfl hr0 (j := 0) rfl
   have hx1:=hro0.getE val_len rfl hr0 (j := 1) rfl
   have hx2:=hro0.getE val_len rfl hr0 (j := 2) rfl
   have hrbl:rbb<wr.heap.size:=hro0.lt rbb rfl
   obtain ⟨rh,hrh⟩ : ∃ v,row[0]=v:=⟨_,rfl⟩
   rw [hrh] at hx0 hx1 hx2
   simp only [Nat.zero_mul,Nat.add_zero,Nat.zero_add] at hx0 hx1 hx2
   have HX012:=qh (And.intro hx0 (And.intro hx1 hx2))
   have HRH:=qh hrh
   obtain ⟨sqs,hsqs⟩ : ∃ s,List.replicate row.length sq=s:=⟨_,rfl⟩
   have hsl:sqs.length=row.length:=by rw [← hsqs];simp
   have hsq:=HSQ.out
   rw [hsqs] at hsq
   have HSQS:=qh hsqs
   have HSQ2:=qh hsq
   have HSL1:=qh hsl
   clear hx0 hx1 hx2 hrh hsqs hsq hsl hro0
   rcases HOC.out with ⟨hA,hL,hC⟩|⟨lb,hA⟩
   ·have HL0:Hid (L.length = 0):=qh (by rw [hL];rfl)
    clear hL
    subst hA hC
    obtain ⟨wo,rfl⟩ : ∃ wo:World,wo=wr:=⟨_,rfl⟩
    go_loopw [10] (fun vm wr => ∃ m:Nat,m≤L.length∧vm = .int .i64 m∧Below wo.heap.size wo wr∧(∀ i (h:i<L.length),i<m→decide (cmpVal (headP (pureR L[i])) rh < 0)=true)) (fun vm _=>L.length - (intOf vm).toNat)
    case atStart=>exact ⟨0,Nat.zero_le _,rfl,Below.refl _ _,fun i _ h=>by omega⟩
    case round =>
     obtain ⟨m,hm,rfl,hb2,hlo⟩:=hrel
     have HLO:=qh hlo
     have hbV:=below_nextN hbr hb2 hbr.size
     have hwz2:=hb2.size
     have hYr':=HBY.out.below hb2 hYr
     have y0:=hYr'.cell 0
     have y1:=hYr'.cell 1
     have y2:=hYr'.cell 2
     simp only [gE3] at y0 y1 y2
     have hXr:=HXV.out.below hbV hbxV0
     obtain ⟨⟨q0,q1,q2,q3⟩,q4,⟨q5,q6,q7⟩,q8,q9,q10,q11⟩:=Chg.blkE hXr
     simp only at q0 q1 q2 q3 q4 q5 q6 q7 q8 q9 q10 q11
     clear hlo hYr' hXr
     by_cases hlt:m<L.length
     ·exact absurd hlt (by rw [HL0.out];exact Nat.not_lt_zero _)
     ·have hlt':decide (m<L.length)=false:=by simpa using hlt
      have HPLC:Hid (placeP (L.map pureR) (newP ⟨kd,sq,dy,(k:Int),A0,cp,row,key,cl,vl⟩)=m):=qh (by
       have e1:headP (newP ⟨kd,sq,dy,(k:Int),A0,cp,row,key,cl,vl⟩)=rh:=by rw [headP_new hr0];exact HRH.out
       refine placeP_at omA (fun i h hi=>by rw [e1];exact HLO.out i h hi) (fun h=>absurd h hlt))
      go_upto_region 16 with (fail)
      refine wp_region_bel krA krA ?_;(repeat (go_big_quiet_step (fail)));refine wpQuiet_nil ?_;intro wq hq
      clear y0 y1 y2
      clear q0 q1 q2 q3 q4 q5 q6 q7 q8 q9 q10 q11
      exact lPerfN3
   ·subst hA
    obtain ⟨wo,rfl⟩ : ∃ wo:World,wo=wr:=⟨_,rfl⟩
    go_loopw [10] (fun vm wr => ∃ m:Nat,m≤L.length∧vm = .int .i64 m∧Below wo.heap.size wo wr∧(∀ i (h:i<L.length),i<m→decide (cmpVal (headP (pureR L[i])) rh < 0)=true)) (fun vm _=>L.length - (intOf vm).toNat)
    case atStart=>exact ⟨0,Nat.zero_le _,rfl,Below.refl _ _,fun i _ h=>by omega⟩
    case round =>
     obtain ⟨m,hm,rfl,hb2,hlo⟩:=hrel
     have HLO:=qh hlo
     have hbV:=below_nextN hbr hb2 hbr.size
     have hwz2:=hb2.size
     have hYr':=HBY.out.below hb2 hYr
     have y0:=hYr'.cell 0
     have y1:=hYr'.cell 1
     have y2:=hYr'.cell 2
     simp only [gE3] at y0 y1 y2
     have hXr:=HXV.out.below hbV hbxV0
     obtain ⟨⟨q0,q1,q2,q3⟩,q4,⟨q5,q6,q7⟩,q8,q9,q10,q11⟩:=Chg.blkE hXr
     simp only at q0 q1 q2 q3 q4 q5 q6 q7 q8 q9 q10 q11
     clear hlo hYr' hXr
     by_cases hlt:m<L.length
     ·have hlt':decide (m<L.length)=true:=by simpa using hlt
      have hrow0:=HNEL.out L[m] (lgm hlt)
      obtain ⟨b5,o5,hAe,hb5,hc5⟩:=(HLR.out.1.below hbV).get hlt
      obtain ⟨d0,d1,d2⟩:=Rcd.cells3 hc5
      have hqin:=(HLR.out.2 L[m] (lgm hlt)).1.below hbV
      obtain ⟨⟨QA,qc,qrow,QS,qs,qseq,qd⟩,hy⟩ : ∃ x:Rcd,L[m]=x:=⟨_,rfl⟩
      rw [hy] at d0 d1 d2 hqin hrow0
      simp only at d0 d1 d2 hqin hrow0
      obtain ⟨b6,o6,hQe,hb6,hc6⟩:=hqin.get hrow0
      obtain ⟨v0,v1,v2⟩:=Val.cells3 hc6
      simp only [Nat.zero_mul,Nat.add_zero] at v0 v1 v2
      obtain ⟨pv,hpv⟩ : ∃ v:Val,qrow[0]=v:=⟨_,rfl⟩
      rw [hpv] at v0 v1 v2
      have HPV:Hid (headP (pureR L[m])=pv):=qh (by rw [hy];exact (headP_at (x:=⟨QA,qc,qrow,QS,qs,qseq,qd⟩) hrow0).trans hpv)
      subst hQe
      injection hAe with hAe
      injection hAe with hA1 hA2
      subst hA1 hA2
      simp only [Nat.zero_add] at d0 d1 d2
      obtain ⟨z9,hz9⟩ : ∃ z,cmpVal pv rh=z:=⟨_,rfl⟩
      have HZ9:=qh hz9
      obtain ⟨x0,x1,x2⟩:=HX012.out
      have x0:=(hb2.cell (p:=⟨rbb,_,none⟩) hrbl).trans x0
      have x1:=(hb2.cell (p:=⟨rbb,_,none⟩) hrbl).trans x1
      have x2:=(hb2.cell (p:=⟨rbb,_,none⟩) hrbl).trans x2
      have hk0:=keepQ (w:=wr) Y omA
      have hk1:=keepQ (w:=wr) lb omA
      have hk2:=keepQ (w:=wr) b6 omA
      have hk3:=keepQ (w:=wr) rbb omA
      have hrow0':decide (0<qrow.length)=true:=by simpa using hrow0
      have hr0':decide (0<row.length)=true:=by simpa using hr0
      clear hc5 hqin hy hc6 hpv hz9
      cases hzz:decide (z9 < 0)
      rotate_left
      ·have HLT:Hid (decide (cmpVal (headP (pureR L[m])) rh < 0)=true):=qh (by rw [HPV.out,HZ9.out];exact hzz)
       go_upto_region 16 with (fail)
       refine wp_region_bel krA krA ?_;(repeat (go_big_quiet_step ((go_at_call 73;with_reducible exact bel_of_ext (ref01_CompareW pv rh _ HZ9.out)))));refine wpQuiet_nil ?_;intro wq hq
       clear hk0 hk1 hk2 hk3 d0 d1 d2 v0 v1 v2 x0 x1 x2 y0 y1 y2
       clear q0 q1 q2 q3 q4 q5 q6 q7 q8 q9 q10 q11
       go_wp2_with fail
       go_roundw
       case rel=>exact ⟨m + 1,by omega,by go_num,below_nextN hb2 hq hb2.size,fun j h hj=>by
        rcases Nat.lt_or_ge j m with h1|h1
        ·exact HLO.out j h h1
        ·obtain rfl:j=m:=by omega
         exact HLT.out⟩
       case measure=>exact meA
      ·have HPLC:Hid (placeP (L.map pureR) (newP ⟨kd,sq,dy,(k:Int),A0,cp,row,key,cl,vl⟩)=m):=qh (by
        have e1:headP (newP ⟨kd,sq,dy,(k:Int),A0,cp,row,key,cl,vl⟩)=rh:=by rw [headP_new hr0];exact HRH.out
        refine placeP_at omA (fun i h hi=>by rw [e1];exact HLO.out i h hi) (fun h=>by rw [e1,HPV.out,HZ9.out];exact hzz))
       go_upto_region 16 with (fail)
       refine wp_region_bel krA krA ?_;(repeat (go_big_quiet_step ((go_at_call 73;with_reducible exact bel_of_ext (ref01_CompareW pv rh _ HZ9.out)))));refine wpQuiet_nil ?_;intro wq hq
       clear hk0 hk1 hk2 hk3 d0 d1 d2 v0 v1 v2 x0 x1 x2 y0 y1 y2
       clear q0 q1 q2 q3 q4 q5 q6 q7 q8 q9 q10 q11
       exact lPerfN4
     ·have hlt':decide (m<L.length)=false:=by simpa using hlt
      have HPLC:Hid (placeP (L.map pureR) (newP ⟨kd,sq,dy,(k:Int),A0,cp,row,key,cl,vl⟩)=m):=qh (by
       have e1:headP (newP ⟨kd,sq,dy,(k:Int),A0,cp,row,key,cl,vl⟩)=rh:=by rw [headP_new hr0];exact HRH.out
       refine placeP_at omA (fun i h hi=>by rw [e1];exact HLO.out i h hi) (fun h=>absurd h hlt))
      go_upto_region 16 with (fail)
      refine wp_region_bel krA krA ?_;(repeat (go_big_quiet_step (fail)));refine wpQuiet_nil ?_;intro wq hq
      clear y0 y1 y2
      clear q0 q1 q2 q3 q4 q5 q6 q7 q8 q9 q10 q11
      exact lPerfN4
end Go.Proofs.YtjhnpnhpmdkpcaaGreat
