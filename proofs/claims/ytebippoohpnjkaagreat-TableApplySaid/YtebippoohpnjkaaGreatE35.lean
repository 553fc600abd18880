/-
  Contracts and plain laws of this seat, part 35.
-/
import Derived.Test.YtebippoohpnjkaaGreatE34
set_option linter.unusedVariables false
set_option linter.unusedSimpArgs false
set_option maxRecDepth 100000
set_option maxHeartbeats 16000000
namespace Go.Proofs.YtebippoohpnjkaaGreat
open Go.RowKit Go
variable {o:Oth}
theorem Et{ts:List Tab}{rt:List RTab}{x:Chg}{k:Nat}(h:dZ ts rt x=0)(hin:jm ts x k):(bZ (lH (rt.map aG) (k:Int)) (keyOf x)||(x.kind == 1&&decide ((lH (rt.map aG) (k:Int)).length<64)))=true:=by
 obtain⟨hok,hf⟩:=lu h
 have hk:k<rt.length:=by rw[hok.len];exact hin.lt
 have hkp:k<(rt.map aG).length:=by simpa using hk
 obtain⟨hkv,hkk⟩:=nT hf hok.cat
 have e0:lH (rt.map aG) (k:Int)=rt[k].recs.map aN:=by rw[ik hkp,List.getElem_map];rfl
 obtain⟨F,hF⟩:∃F,bZ (rt[k].recs.map aN) (keyOf x)=F:=⟨_,rfl⟩
 have hs:=ug hok hin.tab hk hkv hkk hF
 rw[e0,hF,List.length_map]
 unfold dZ at h
 rw[aS hok,if_neg (by decide),hf,if_neg (by decide)]at h
 split at h
 ·cases h
 ·rw[h]at hs
  cases F
  ·by_cases h1:x.kind=1
   ·have e1:(x.kind == 1)=true:=by simpa using h1
    rw[e1]at hs ⊢
    simp only[Bool.true_and,Bool.and_false,Bool.false_eq_true,if_false]at hs
    by_cases hl:rt[k].recs.length<64
    ·simpa using hl
    ·exfalso
     have e2:decide (64≤rt[k].recs.length)=true:=by simp;omega
     rw[e2]at hs
     have e3:(x.kind != 1)=false:=by simpa using h1
     rw[e3]at hs
     simp only[Bool.false_and,Bool.false_eq_true,if_false,if_true]at hs
     split at hs
     ·cases hs
     ·split at hs<;>cases hs
   ·have e1:(x.kind == 1)=false:=by simpa using h1
    have e3:(x.kind != 1)=true:=by simpa using h1
    rw[e1,e3]at hs
    simp at hs
  ·rfl
theorem jo(w:World):CallsD Tryz.prog 122 #[] .returning w fun e u' w'=>e=.returned (.tuple #[])∧u'=.returning∧w'=w:=by
 refine callsD_of_wpS Tryz.func122 rfl fun c₀ cs hu =>?_
 apply wpS_region
 cases c₀
 simp_all[wpOpsS,go_sem,recoverD,Tryz.ntmps122,bodyPostS,results,Tryz.results122]
theorem Dc(A:Option Addr)(c m:Nat)(ts:List Tab)(RA:Option Addr)(rc n:Nat)(rt:List RTab)(kd sq dy tb:Int)(A0:Option Addr)(cp:Nat)(row:List Val)(key:Val)(cl:Int)(vl:Val)(w:World)(ht:aM w w.heap.size A ts)(hm:ts.length=m)(hs:aK ts)(hok:aX ts)(hcg:fq w w.heap.size A c ts o)(hrt:aJ w w.heap.size RA rt)(hn:rt.length=n)(hsr:dQ rt)(hR:ai w w.heap.size Val.cells 3 A0 row)(hrl:row.length≤1000000){z:Int}(hz:dZ ts rt ⟨kd,sq,dy,tb,A0,cp,row,key,cl,vl⟩=z):
 Calls Tryz.prog 72 #[.agg #[.slice A m c,.slice o.vA 0 o.vc,.slice o.iA o.idx.length o.ic,.slice o.sA o.skt.length o.sc,.slice o.cA o.cch.length o.cc,.slice o.rA o.rel.length o.rc,.slice o.tA o.str.length o.tc,.slice o.bA o.bak.length o.bc],.slice RA n rc,.agg #[.int .i64 kd,.int .i64 sq,.int .i64 dy,.int .i64 tb,.slice A0 row.length cp,.int .i64 key.kind,.int .i64 key.num,.string key.text,.int .i64 cl,.int .i64 vl.kind,.int .i64 vl.num,.string vl.text]] w fun e w'=>(∃A' c' m' l',e=.returned (.tuple #[.slice A' m' c',.int .i64 z])∧(z=0→m'=n∧l'.length=n∧aJ w' w'.heap.size A' l'∧RUp w.heap.size A' l'∧ed ts l'∧l'.map aG=aT (rt.map aG) ⟨kd,sq,dy,tb,A0,cp,row,key,cl,vl⟩)∧(z≠0→A'=none∧m'=0∧c'=0))∧Below w.heap.size w w':=by
 subst hm hn
 obtain⟨b,hb⟩:∃b,pb (bf ts rt)=b:=⟨_,rfl⟩
 have HB:=qh hb
 have HZ:=qh hz
 have HT:=qh ht
 have HS:=qh hs
 have HOK:=qh hok
 have HCG:=qh hcg
 have HR:=qh hrt
 have HSR:=qh hsr
 have HRW:=qh hR
 clear hz hb ht hs hok hcg hrt hsr hR
 go_enter_defers Tryz.func72,Tryz.ntmps72
 go_upto_region 2 with (fail)
 refine aj (P:=fun u=>Code.wp _ _ _ _ u) (R:=fun u=>Blk u w.heap.size 39 #[.slice A ts.length c,.slice o.vA 0 o.vc,.slice o.iA o.idx.length o.ic,.slice o.sA o.skt.length o.sc,.slice o.cA o.cch.length o.cc,.slice o.rA o.rel.length o.rc,.slice o.tA o.str.length o.tc,.slice o.bA o.bak.length o.bc]∧Blk u (w.heap.size+1) 64 (Chg.cells ⟨kd,sq,dy,tb,A0,cp,row,key,cl,vl⟩).toArray∧Below w.heap.size w u) ⟨?_,?_,?_⟩ ?_
 ·exact(Blk.new _ _ _).alloc _
 ·exact Blk.new' spA
 ·exact ak
 rintro W ⟨hC,hX,hbW⟩
 have hzX:=hX.lt
 have HC:=qh hC
 have HX:=qh hX
 obtain⟨p0,p1,p2,p3,p4,p5,p6,p7⟩:=Cat.bG hC
 clear hC hX
 cases b
 ·have HZ1:Hid (z=1):=qh (by rw[←HZ.out];unfold dZ;rw[HB.out,if_pos rfl])
  go_wp2_with (first
   | (go_at_call 48;(with_reducible refine(HCG.out.prog _ hbW).mono ?_);rintro e w1 ⟨rfl,hb1⟩;have hz1:=hb1.size;have hx1:Below w.heap.size w w1:=ae hbW hb1 hbW.size;clear p0 p1 p2 p3 p4 p5 p6 p7;obtain⟨p0,p1,p2,p3,p4,p5,p6,p7⟩:=Cat.bG (HC.out.below hb1 omA))
   | (go_at_call 63;(with_reducible refine(gP A c ts.length ts _ (HT.out.next hx1) rfl HS.out HOK.out).mono ?_);rintro e w2 ⟨⟨p,mb,fb,rfl,hS2⟩,hb2⟩;have hz2:=hb2.size;have hx2:Below w.heap.size w w2:=ae hx1 hb2 hx1.size;have HS2:=qh hS2;clear hS2 p0 p1 p2 p3 p4 p5 p6 p7)
   | (go_at_call 118;(with_reducible refine(om p mb fb ts.length A c ts RA rc rt.length rt _ HS2.out.sch (HT.out.next hx2) HOK.out (HR.out.next hx2) rfl HSR.out HB.out).mono ?_);rintro e w3 ⟨rfl,hb3⟩;have hz3:=hb3.size;have hx3:Below w.heap.size w w3:=ae hx2 hb3 hx2.size))
  refine leaves_cons (f:= 122) (args:= #[]) spA (by simp[go_sem]) ?_
  refine(jo _).mono ?_
  rintro e u' w'' ⟨rfl,rfl,rfl⟩
  refine⟨_,results_tmp2 rfl _ _ _,?_⟩
  have h1:=HZ1.out
  subst h1
  exact⟨⟨none,0,0,[],rfl,(fun h=>by cases h),fun _=>⟨rfl,rfl,rfl⟩⟩,hx3⟩
 have HRK:Hid (bf ts rt):=qh (iC.1 HB.out)
 go_upto_region 7 with (first
  | (go_at_call 48;(with_reducible refine(HCG.out.prog _ hbW).mono ?_);rintro e w1 ⟨rfl,hb1⟩;have hz1:=hb1.size;have hx1:Below w.heap.size w w1:=ae hbW hb1 hbW.size;clear p0 p1 p2 p3 p4 p5 p6 p7;obtain⟨p0,p1,p2,p3,p4,p5,p6,p7⟩:=Cat.bG (HC.out.below hb1 omA))
  | (go_at_call 63;(with_reducible refine(gP A c ts.length ts _ (HT.out.next hx1) rfl HS.out HOK.out).mono ?_);rintro e w2 ⟨⟨p,mb,fb,rfl,hS2⟩,hb2⟩;have hz2:=hb2.size;have hx2:Below w.heap.size w w2:=ae hx1 hb2 hx1.size;have HS2:=qh hS2;clear hS2 p0 p1 p2 p3 p4 p5 p6 p7)
  | (go_at_call 118;(with_reducible refine(om p mb fb ts.length A c ts RA rc rt.length rt _ HS2.out.sch (HT.out.next hx2) HOK.out (HR.out.next hx2) rfl HSR.out HB.out).mono ?_);rintro e w3 ⟨rfl,hb3⟩;have hz3:=hb3.size;have hx3:Below w.heap.size w w3:=ae hx2 hb3 hx2.size))
 obtain⟨⟨q0,q1,q2,q3⟩,q4,⟨q5,q6,q7⟩,q8,q9,q10,q11⟩:=Chg.fT (HX.out.below (ae hb1 (ae hb2 hb3 hz2) hz1) hzX)
 simp only at q0 q1 q2 q3 q4 q5 q6 q7 q8 q9 q10 q11
 go_upto_region 8 with (go_at_call 119;(with_reducible refine(yx w1.heap.size p mb fb A c ts _ RA rc rt kd sq dy tb A0 cp row key cl vl _ (HS2.out.next hb3) omA ((HT.out.below hx3).mono omA) HS.out ((HCG.out.below hx3).mono omA) ((HR.out.below hx3).mono omA) HRK.out ((HRW.out.below hx3).mono omA) hrl HZ.out).mono ?_);rintro e w4 ⟨rfl,hF4,hb4⟩)
 have hz4:=hb4.size
 have hx4:Below w.heap.size w w4:=hx3.trans (hb4.mono omA)
 clear q0 q1 q2 q3 q4 q5 q6 q7 q8 q9 q10 q11
 clear hF4
 by_cases hz0:z=0
 rotate_left
 ·have hz0':(z != 0)=true:=by simpa using hz0
  have HZ0:=qh hz0
  clear hz0
  go_wp2_with fail
  refine leaves_cons (f:= 122) (args:= #[]) spA (by simp[go_sem]) ?_
  refine(jo _).mono ?_
  rintro e u' w'' ⟨rfl,rfl,rfl⟩
  refine⟨_,results_tmp2 rfl _ _ _,?_⟩
  exact⟨⟨none,0,0,[],rfl,fun h=>absurd h HZ0.out,fun _=>⟨rfl,rfl,rfl⟩⟩,hx4⟩
 have HCZ:=qh (HZ.out.trans hz0)
 have HF0:=qh (lu HCZ.out).2
 obtain⟨k,hin⟩:=iO HF0.out
 have htb:tb=(k:Int):=hin.tab
 subst htb
 have HIN:=qh hin
 have HPF:=qh (Et HCZ.out hin)
 have hz0':(z != 0)=false:=by rw[hz0];rfl
 have HZ0:=qh hz0
 have H0:Hid (∀t∈rt,∀r∈t.recs,0<r.row.length ∧ 0<r.seq.length):=qh (fun t ht r hr=>by
  obtain⟨i,hi,rfl⟩:=List.getElem_of_mem ht
  have hit:i<ts.length:=by rw[←HRK.out.len];exact hi
  have h1:=(HRK.out.tab i hi hit).pure.rcd (aN r) (List.mem_map_of_mem hr)
  have h2:=HOK.out.af hit
  have h3:r.row.length=ts[i].af.length:=h1.len
  have h4:r.seq.length=ts[i].af.length:=h1.xH
  omega)
 clear hin hz0
 go_upto_region 11 with (go_at_call 123;(with_reducible refine(vg RA rc rt.length rt _ (HR.out.next hx4) rfl HSR.out H0.out).mono ?_);rintro e w5 ⟨q,l,rfl,hqb,hll,hO,hTT,hpl,hb5⟩)
 have hz5:=hb5.size
 have hx5:Below w.heap.size w w5:=ae hx4 hb5 hx4.size
 have HO:=qh hO
 have HTT:=qh hTT
 have HPL:=qh hpl
 have HLL:=qh hll
 have U2:Hid ((bZ (lH (l.map aG) (k:Int)) (keyOf ⟨kd,sq,dy,(k:Int),A0,cp,row,key,cl,vl⟩)||(kd == 1&&decide ((lH (l.map aG) (k:Int)).length<64)))=true):=qh (by rw[HPL.out];exact HPF.out)
 have HPK:Hid (POk ts (l.map aG)):=qh (by rw[HPL.out];exact HRK.out.pure)
 have hW3:Below W.heap.size W w3:=ae hb1 (ae hb2 hb3 hz2) hz1
 have hW4:Below W.heap.size W w4:=hW3.trans (hb4.mono hz1)
 have hW5:Below W.heap.size W w5:=ae hW4 hb5 hW4.size
 obtain⟨⟨q0,q1,q2,q3⟩,q4,⟨q5,q6,q7⟩,q8,q9,q10,q11⟩:=Chg.fT (HX.out.below hW5 hzX)
 simp only at q0 q1 q2 q3 q4 q5 q6 q7 q8 q9 q10 q11
 clear hO hTT hpl hll
 go_upto_region 12 with (go_at_call 66;(with_reducible refine(tZ ts w4.heap.size q rt.length l kd sq dy k A0 cp row key cl vl _ HO.out HLL.out.symm HTT.out hz5 (HRW.out.next hx5) HOK.out HPK.out HIN.out HF0.out U2.out).mono ?_);rintro e w6 ⟨rfl,l',hl1,hl2,hl3,hl4,hb6,_⟩)
 have HL:=qh (And.intro hl1 (And.intro hl2 (And.intro hl3 hl4)))
 have hx6:Below w.heap.size w w6:=hx5.trans (hb6.mono omA)
 have hrd:=jX (c:=rt.length) (by rw[HL.out.1];exact HL.out.2.1) (fun t ht=>(⟨HL.out.2.2.1.tab t ht,HL.out.2.2.1.row t ht⟩:gm w6 _ t.A t.cap t.recs))
 have HRD:=qh hrd
 clear q0 q1 q2 q3 q4 q5 q6 q7 q8 q9 q10 q11
 clear hl1 hl2 hl3 hl4 hrd
 go_wp2_with fail
 refine leaves_cons (f:= 122) (args:= #[]) spA (by simp[go_sem]) ?_
 refine(jo _).mono ?_
 rintro e u' w'' ⟨rfl,rfl,rfl⟩
 refine⟨_,results_tmp2 rfl _ _ _,?_⟩
 have JL:=HZ0.out
 subst JL
 refine⟨⟨some ⟨q,0,none⟩,rt.length,rt.length,l',rfl,fun _=>⟨rfl,HL.out.1,HRD.out.1,HRD.out.2.mono (by have:=hx4.size;omega),?_,?_⟩,fun h=>absurd rfl h⟩,hx6⟩
 ·show iU ts (l'.map aG)
  rw[HL.out.2.2.2,HPL.out]
  exact iU.Bi HRK.out.shape HIN.out
 ·rw[HL.out.2.2.2,HPL.out]
end Go.Proofs.YtebippoohpnjkaaGreat
