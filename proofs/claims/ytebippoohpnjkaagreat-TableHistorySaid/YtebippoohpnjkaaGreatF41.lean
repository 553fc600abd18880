/-
  Contracts and plain laws of this seat, part 41.
-/
import Derived.Test.YtebippoohpnjkaaGreatF36
set_option linter.unusedVariables false
set_option linter.unusedSimpArgs false
set_option maxRecDepth 100000
set_option maxHeartbeats 16000000
namespace Go.Proofs.YtebippoohpnjkaaGreat
open Go.RowKit Go
variable {o:Oth}
theorem eA{P:Prop}(h:P:=by simp[go_sem]):P:=h
def rE(x y:Chg):Bool:=decide (x.seq<y.seq)&&decide (x.day≤y.day)
def pO(ts:List Tab)(l:List Chg)(i:Nat)(h:i<l.length):Prop:=bq ts l[i]=0∧(∀h0:0<i,rE (l[i-1]' omA) l[i]=true) ∧ ∀rt:List RTab,rt.map aB=aS ts (l.take i)→eU ts rt l[i]=0
def Ea(ts:List Tab)(l:List Chg)(i:Nat)(h:i<l.length)(z:Int):Prop:=z≠0∧(bq ts l[i]=z∨(bq ts l[i]=0∧((∃h0:0<i,rE (l[i-1]' omA) l[i]=false∧z=12)∨((∀h0:0<i,rE (l[i-1]' omA) l[i]=true) ∧ ∀rt:List RTab,rt.map aB=aS ts (l.take i)→eU ts rt l[i]=z))))
theorem wP{ts:List Tab}{rt:List RTab}{x:Chg}{k:Nat}(hok:bf ts rt)(hf:bq ts x=0)(h:eU ts rt x=0)(hin:iC ts x k):(bU (iL (rt.map aB) (k:Int)) (keyOf x)||(x.kind == 1&&decide ((iL (rt.map aB) (k:Int)).length<64)))=true:=by
 have hk:k<rt.length:=by rw[hok.len];exact hin.lt
 have hkp:k<(rt.map aB).length:=by simpa using hk
 obtain⟨hkv,hkk⟩:=ji hf hok.cat
 have e0:iL (rt.map aB) (k:Int)=rt[k].recs.map aQ:=by rw[fC hkp,List.getElem_map];rfl
 obtain⟨F,hF⟩:∃F,bU (rt[k].recs.map aQ) (keyOf x)=F:=⟨_,rfl⟩
 have hs:=vC hok hin.tab hk hkv hkk hF
 rw[e0,hF,List.length_map]
 rw[h]at hs
 cases F
 ·by_cases h1:x.kind=1
  ·have e1:(x.kind == 1)=true:=by simpa using h1
   rw[e1]at hs ⊢
   simp only[Bool.true_and,Bool.and_false,Bool.false_eq_true,if_false]at hs
   by_cases hl:rt[k].recs.length<64
   ·simpa using hl
   ·exfalso
    have e2:decide (64≤rt[k].recs.length)=true:=by simp;omega
    rw[e2]at hs
    have e3:(x.kind != 1)=false:=by simpa using h1
    rw[e3]at hs
    simp only[Bool.false_and,Bool.false_eq_true,if_false,if_true]at hs
    split at hs
    ·cases hs
    ·split at hs<;>cases hs
  ·have e1:(x.kind == 1)=false:=by simpa using h1
   have e3:(x.kind != 1)=true:=by simpa using h1
   rw[e1,e3]at hs
   simp at hs
 ·rfl
theorem rT(B p mb fb:Nat)(A:Option Addr)(c:Nat)(ts:List Tab)(F:List Fx)(RA:Option Addr)(rc n:Nat)(rt:List RTab)(kd sq dy:Int)(k:Nat)(A0:Option Addr)(cp:Nat)(row:List Val)(key:Val)(cl:Int)(vl:Val)(w:World)(hS:gP w B p mb fb A c ts o F)(hT:aJ w w.heap.size A ts)(hs:aI ts)(hRT:aR w w.heap.size RA rt)(hn:rt.length=n)(hok:bf ts rt)(hR:ah w w.heap.size Val.cells 3 A0 row)(hrl:row.length≤1000000)(hin:iC ts ⟨kd,sq,dy,(k:Int),A0,cp,row,key,cl,vl⟩ k)(hf:bq ts ⟨kd,sq,dy,(k:Int),A0,cp,row,key,cl,vl⟩=0){r:Int}(hr:eU ts rt ⟨kd,sq,dy,(k:Int),A0,cp,row,key,cl,vl⟩=r):
 Calls Tryz.prog 75 #[.pointer (some ⟨p,0,none⟩),.slice RA n rc,.agg #[.int .i64 kd,.int .i64 sq,.int .i64 dy,.int .i64 k,.slice A0 row.length cp,.int .i64 key.kind,.int .i64 key.num,.string key.text,.int .i64 cl,.int .i64 vl.kind,.int .i64 vl.num,.string vl.text]] w fun e w'=>e=.returned (.int .i64 r)∧Below w.heap.size w w':=by
 subst hn
 exact Gi B p mb fb A c ts F RA rc rt kd sq dy k A0 cp row key cl vl w hS hT hs hRT hok hR hrl hin hf hr
theorem fM(w:World):CallsD Tryz.prog 73 #[] .returning w fun e u' w'=>e=.returned (.tuple #[])∧u'=.returning∧w'=w:=by
 refine callsD_of_wpS Tryz.func73 rfl fun c₀ cs hu =>?_
 apply wpS_region
 cases c₀
 simp_all[wpOpsS,go_sem,recoverD,Tryz.ntmps73,bodyPostS,results,Tryz.results73]
theorem vB(A:Option Addr)(c m:Nat)(ts:List Tab)(LA:Option Addr)(lc n:Nat)(l:List Chg)(w:World)(ht:aJ w w.heap.size A ts)(hm:ts.length=m)(hs:aI ts)(hok:aV ts)(hcg:dZ w w.heap.size A c ts o)(hl:dh w w.heap.size LA l)(hn:l.length=n)(hn6:n≤1024)(hrow:∀x∈l,x.row.length≤1000000)(k:Nat)(z:Int)(hk:k≤l.length)(hp:∀i,i≤k→POk ts (aS ts (l.take i)))(hg:∀i (h:i<l.length),i<k→pO ts l i h)(hb:∀h:k<l.length,Ea ts l k h z){ra rb:Int}(hres:(k<l.length∧ra=k∧rb=z)∨(k=l.length∧ra=0∧rb=0)):
 Calls Tryz.prog 31 #[.agg #[.slice A m c,.slice o.vA 0 o.vc,.slice o.iA o.idx.length o.ic,.slice o.sA o.skt.length o.sc,.slice o.cA o.cch.length o.cc,.slice o.rA o.rel.length o.rc,.slice o.tA o.str.length o.tc,.slice o.bA o.bak.length o.bc],.slice LA n lc] w fun e w'=>e=.returned (.tuple #[.int .i64 ra,.int .i64 rb])∧Below w.heap.size w w':=by
 subst hm hn
 have h8:=hok.len
 obtain⟨i7,hi7,hz7,hs7,hb7⟩:=info_parts oU
 have hmk:∀u:World,(Instr.makeSlice 52 (.int .i64 (ts.length:Int)) (.int .i64 (ts.length:Int))).run Tryz.prog u=.ok (.slice (some ⟨u.heap.size,0,none⟩) ts.length ts.length) (u.alloc (.cells (madeCells (RTab.cells dH).toArray (ts.length*1)) 127)):=fun u=>by
  have:=gp (P:=Tryz.prog) 52 127 i7 (.slice none 0 0) Tryz.underlying52 hi7 hz7 .i64 .i64 ts.length ts.length nlr (by rw[hb7];omega) omA u
  rw[hs7]at this
  exact this
 have HT:=qh ht
 have HS:=qh hs
 have HOK:=qh hok
 have HCG:=qh hcg
 have HL:=qh hl
 have jy:=qh hrow
 have HP:=qh hp
 have HG:=qh hg
 have HB:=qh hb
 have bg:=qh hres
 have E9:decide (1024<l.length)=false:=by simp;omega
 clear ht hs hok hcg hl hrow hp hg hb hres hi7 hz7 hs7 hb7
 go_enter_defers Tryz.func31,Tryz.ntmps31
 go_upto_region 2 with (fail)
 refine ai (P:=fun u=>Code.wp _ _ _ _ u) (R:=fun u=>Blk u w.heap.size 39 #[.slice A ts.length c,.slice o.vA 0 o.vc,.slice o.iA o.idx.length o.ic,.slice o.sA o.skt.length o.sc,.slice o.cA o.cch.length o.cc,.slice o.rA o.rel.length o.rc,.slice o.tA o.str.length o.tc,.slice o.bA o.bak.length o.bc]∧Below w.heap.size w u) ⟨?_,?_⟩ ?_
 ·exact Blk.new _ _ _
 ·exact ak
 rintro W ⟨hC,hbW⟩
 have hzC:=hC.lt
 have HC:=qh hC
 obtain⟨p0,p1,p2,p3,p4,p5,p6,p7⟩:=Cat.aZ hC
 clear hC
 go_upto_region 9 with (first
  | (go_at_call 48;(with_reducible refine(HCG.out.prog _ hbW).mono ?_);rintro e w1 ⟨rfl,hb1⟩;have hz1:=hb1.size;have hx1:Below w.heap.size w w1:=ae hbW hb1 hbW.size;clear p0 p1 p2 p3 p4 p5 p6 p7;obtain⟨p0,p1,p2,p3,p4,p5,p6,p7⟩:=Cat.aZ (HC.out.below hb1 hzC))
  | (go_at_call 63;(with_reducible refine(gB A c ts.length ts _ (HT.out.next hx1) rfl HS.out HOK.out).mono ?_);rintro e w2 ⟨⟨p,mb,fb,rfl,hS2⟩,hb2⟩;have hz2:=hb2.size;have hx2:Below w.heap.size w w2:=ae hx1 hb2 hx1.size;have HS2:=qh hS2;clear hS2 p0 p1 p2 p3 p4 p5 p6 p7;obtain⟨p0,_⟩:=Cat.aZ (HC.out.below (ae hb1 hb2 hz1) hzC)))
 clear hmk p0 E9
 have hpl:=HS2.out.sch.blk.lt
 have hml:=HS2.out.sch.nums.lt
 have hfl:=HS2.out.blk.lt
 have hzw:w.heap.size≤w1.heap.size:=by have:=hx1.size;omega
 refine ai (P:=fun u=>Code.wp _ _ _ _ u) (R:=fun u=>ax u w2.heap.size 127 RTab.cells 1 (.slice (some ⟨w2.heap.size,0,none⟩) ts.length ts.length) (List.replicate ts.length dH)∧gP u w1.heap.size p mb fb A c ts o (List.replicate ts.length ⟨none,0,[]⟩)∧Below w2.heap.size w2 u) ⟨?_,?_,?_⟩ ?_
 ·exact ax.made dx omA (by rw[Nat.mul_one];exact Blk.new' rfl) nlr mxA
 ·exact HS2.out.next ak
 ·exact ak
 rintro V ⟨hO,hSV,hbV⟩
 have HO:=qh hO
 have HSV:=qh hSV
 have Fg:Below w.heap.size w V:=ae hx2 hbV hx2.size
 clear hO hSV HS2
 go_loopw [26] (fun vi wr =>∃(i:Nat) (rt:List RTab) (F:List Fx),i≤k∧vi=.int .i64 i∧rt.length=ts.length∧ax wr w2.heap.size 127 RTab.cells 1 (.slice (some ⟨w2.heap.size,0,none⟩) ts.length ts.length) rt∧dn wr w2.heap.size rt∧rt.map aB=aS ts (l.take i)∧gP wr w1.heap.size p mb fb A c ts o F∧pQ F rt∧Below w.heap.size w wr∧w2.heap.size≤wr.heap.size) (fun vi _=>l.length-(intOf vi).toNat)
 case atStart=>exact⟨0,_,_,Nat.zero_le _,rfl,by simp,HO.out,dn.zero _ _ _,by rw[List.map_replicate];rfl,HSV.out,fun f hf t ht r hr=>by rw[(List.mem_replicate.1 ht).2]at hr;simp[dH]at hr,Fg,hbV.size⟩
 case round =>
  obtain⟨i,rt,F,hi,rfl,hrl,hO,hT,hpu,hSF,hap,hbr,hzr⟩:=hrel
  have HRL:=qh hrl
  have HO:=qh hO
  have HTT:=qh hT
  have HPU:=qh hpu
  have HSF:=qh hSF
  have HAP:=qh hap
  have hwz:=hbr.size
  clear hrl hO hT hpu hSF hap
  by_cases hlt:i<l.length
  ·obtain⟨b5,o5,rfl,hb5,hc5⟩:=(HL.out.1.below hbr).get hlt
   obtain⟨⟨q0,q1,q2,q3⟩,q4,⟨q5,q6,q7⟩,q8,q9,q10,q11⟩:=Chg.dE hc5
   have hR:=HL.out.2 l[i] (lgm hlt)
   have hrl:=jy.out l[i] (lgm hlt)
   have hpk:POk ts (rt.map aB):=by rw[HPU.out];exact HP.out i hi
   have hnx:=iE ts hlt
   have hgd:i<k→pO ts l i hlt:=HG.out i hlt
   have hbd:¬ i<k→Ea ts l i hlt z:=fun h=>by
    obtain rfl:i=k:=by omega
    exact HB.out hlt
   have hrs:¬ i<k→ra=i∧rb=z:=fun h=>by
    obtain rfl:i=k:=by omega
    rcases bg.out with h1|h1
    ·exact h1.2
    ·omega
   unfold pO at hgd
   unfold Ea at hbd
   obtain⟨⟨kd,sq,dy,tb,A0,cp,row,key,cl,vl⟩,hx⟩:∃x,l[i]=x:=⟨_,rfl⟩
   rw[hx]at q0 q1 q2 q3 q4 q5 q6 q7 q8 q9 q10 q11 hR hrl hnx hgd hbd
   simp only at q0 q1 q2 q3 q4 q5 q6 q7 q8 q9 q10 q11 hR hrl
   obtain⟨z0,hz⟩:∃z0,bq ts ⟨kd,sq,dy,tb,A0,cp,row,key,cl,vl⟩=z0:=⟨_,rfl⟩
   have HNX:=qh hnx
   have HZ:=qh hz
   have HR:=qh hR
   have HPK:=qh hpk
   have HGD:=qh hgd
   have HBD:=qh hbd
   have HRS:=qh hrs
   clear hc5 hR hpk hnx hx hz hgd hbd hrs
   go_upto_region 11 with (fail)
   refine ai (P:=fun u=>Code.wp _ _ _ _ u) (R:=fun u=>Blk u wr.heap.size 64 (Chg.cells ⟨kd,sq,dy,tb,A0,cp,row,key,cl,vl⟩).toArray∧Below wr.heap.size wr u) ⟨?_,?_⟩ ?_
   ·exact Blk.new' spA
   ·exact ak
   clear q0 q1 q2 q3 q4 q5 q6 q7 q8 q9 q10 q11
   rintro Y ⟨hX,hbY⟩
   have hzX:=hX.lt
   have hzY:=hbY.size
   have HX:=qh hX
   have fJ:Below w.heap.size w Y:=ae hbr hbY hwz
   obtain⟨⟨q0,q1,q2,q3⟩,q4,⟨q5,q6,q7⟩,q8,q9,q10,q11⟩:=Chg.dW hX
   simp only at q0 q1 q2 q3 q4 q5 q6 q7 q8 q9 q10 q11
   have HSY:=qh (HSF.out.next hbY)
   have HOY:=qh (HO.out.below hbY nlr)
   have HTY:=qh (HTT.out.below hbY nlr)
   clear hX
   by_cases hz0:z0=0
   rotate_left
   ·have hz0':(z0 != 0)=true:=by simpa using hz0
    have hnk:¬ i<k:=fun h=>hz0 (HZ.out.symm.trans (HGD.out h).1)
    have HZR:Hid (ra=i∧rb=z0):=qh (by
     obtain⟨h1,h2⟩:=HRS.out hnk
     refine⟨h1,h2.trans ?_⟩
     rcases(HBD.out hnk).2 with h3|⟨h3,_⟩
     ·exact h3.symm.trans HZ.out
     ·exact absurd (HZ.out.symm.trans h3) hz0)
    clear hz0 hnk
    go_wp2_with (go_at_call 64;(with_reducible refine(iK w1.heap.size p mb fb A c ts F kd sq dy tb A0 cp row key cl vl _ HSY.out (HT.out.next fJ) HS.out HOK.out (HCG.out.next fJ) omA (HR.out.next fJ) hrl HZ.out).mono ?_);rintro e w5 ⟨rfl,⟨F5,hS5,hn5⟩,hg5⟩)
    have hz5:=hg5.size
    have eZ:Below w.heap.size w w5:=Below.grown fJ hg5 omA (fun g e=>by injection e with e;have:=hS5.lf;omega)
    refine leaves_cons (f:= 73) (args:= #[]) spA eA ?_
    refine(fM _).mono ?_
    rintro e u' w'' ⟨rfl,rfl,rfl⟩
    refine⟨_,results_tmp2 rfl _ _ _,?_⟩
    obtain⟨h1,h2⟩:=HZR.out
    subst h1 h2
    exact⟨rfl,eZ⟩
   subst hz0
   obtain⟨t,hin⟩:=gD HZ.out
   have htb:tb=(t:Int):=hin.tab
   subst htb
   have HIN:=qh hin
   have HRK:Hid (bf ts rt):=qh (HPK.out.back HOK.out)
   have DZ:Hid (aS ts (l.take (i+1))=aP (rt.map aB) ⟨kd,sq,dy,(t:Int),A0,cp,row,key,cl,vl⟩):=qh (by rw[HNX.out,HZ.out,if_pos rfl,←HPU.out])
   clear hin
   go_upto_region 14 with (go_at_call 64;(with_reducible refine(iK w1.heap.size p mb fb A c ts F kd sq dy (t:Int) A0 cp row key cl vl _ HSY.out (HT.out.next fJ) HS.out HOK.out (HCG.out.next fJ) omA (HR.out.next fJ) hrl HZ.out).mono ?_);rintro e w5 ⟨rfl,⟨F5,hS5,hn5⟩,hg5⟩)
   have hz5:=hg5.size
   have eZ:Below w.heap.size w w5:=Below.grown fJ hg5 omA (fun g e=>by injection e with e;have:=hS5.lf;omega)
   have HS5:=qh hS5
   have HN5:=qh (HAP.out.new hn5 HTY.out)
   have HO5:=qh (HOY.out.jA hg5 hfl)
   have HT5:=qh (HTY.out.jA hg5 hfl)
   have hX5:=HX.out.grown hg5 inA
   have HX5:=qh hX5
   have LY:=hX5.lt
   clear q0 q1 q2 q3 q4 q5 q6 q7 q8 q9 q10 q11 hS5 hn5 hg5 HSY HOY HTY HX HSF HAP
   obtain⟨⟨q0,q1,q2,q3⟩,q4,⟨q5,q6,q7⟩,q8,q9,q10,q11⟩:=Chg.dW hX5
   simp only at q0 q1 q2 q3 q4 q5 q6 q7 q8 q9 q10 q11
   clear hX5
   have P7:=eZ.size
   have k0:=aH (w:=w5) wr.heap.size LY
   by_cases h0:0<i
   ·have hkz:decide ((0:Int)<(i:Int))=true:=by simp;omega
    have j5:decide (0<i)=true:=by simpa using h0
    have oC:i-1<l.length:=by omega
    have lu:decide (i-1<l.length)=true:=by simpa using oC
    have hwrap:IntKind.i64.wrap ((i:Int)-1)=((i-1:Nat):Int):=by rw[show (i:Int)-1=((i-1:Nat):Int) by omega];exact IntWalk.i64_in _ omA
    obtain⟨b3,o3,he3,_,hc3⟩:=(HL.out.1.below eZ).get oC
    injection he3 with he3
    injection he3 with he4 he5
    subst he4 he5
    have hbz:=hbr.size
    have k1:=aH (w:=w5) b5 omA
    obtain⟨⟨f0,f1,f2,f3⟩,f4,⟨f5,f6,f7⟩,f8,f9,f10,f11⟩:=Chg.dE hc3
    obtain⟨⟨pk,ps,pd,pt,PA,pp,qp,uA,pc,pv⟩,hpx⟩:∃x,l[i-1]=x:=⟨_,rfl⟩
    rw[hpx]at f0 f1 f2 f3 f4 f5 f6 f7 f8 f9 f10 f11
    simp only at f0 f1 f2 f3 f4 f5 f6 f7 f8 f9 f10 f11
    have HPX:=qh hpx
    obtain⟨fo,hfo⟩:∃fo,(decide (ps<sq)&&decide (pd≤dy))=fo:=⟨_,rfl⟩
    have HFO:=qh hfo
    have HFX:Hid (rE l[i-1] ⟨kd,sq,dy,(t:Int),A0,cp,row,key,cl,vl⟩=fo):=qh (by rw[hpx];exact hfo)
    clear hc3 hpx hfo
    refine ag krA krA ?_;(repeat(go_big_quiet_step ((go_at_call 74;with_reducible exact bN (vw ⟨pk,ps,pd,pt,PA,pp,qp,uA,pc,pv⟩ ⟨kd,sq,dy,(t:Int),A0,cp,row,key,cl,vl⟩ _ HFO.out)))));refine wpQuiet_nil ?_;intro wq hq
    clear f0 f1 f2 f3 f4 f5 f6 f7 f8 f9 f10 f11 k0 k1 hkz j5 lu hwrap q0 q1 q2 q3 q4 q5 q6 q7 q8 q9 q10 q11
    cases fo
    ·have hnk:¬ i<k:=fun h=>by
      have h1:=(HGD.out h).2.1 h0
      rw[HFX.out]at h1
      cases h1
     have HZR:Hid (ra=i∧rb=12):=qh (by
      obtain⟨h1,h2⟩:=HRS.out hnk
      refine⟨h1,h2.trans ?_⟩
      obtain⟨hz,h3|⟨h3,⟨_,h4,h5⟩|⟨h4,_⟩⟩⟩:=HBD.out hnk
      ·exact absurd (h3.symm.trans HZ.out) hz
      ·exact h5
      ·have h5:=h4 h0
       rw[HFX.out]at h5
       cases h5)
     clear h0 hnk
     go_wp2_with fail
     refine leaves_cons (f:= 73) (args:= #[]) spA eA ?_
     refine(fM _).mono ?_
     rintro e u' w'' ⟨rfl,rfl,rfl⟩
     refine⟨_,results_tmp2 rfl _ _ _,?_⟩
     obtain⟨h1,h2⟩:=HZR.out
     subst h1 h2
     exact⟨rfl,ae eZ hq P7⟩
    clear h0
    have hq5:=hq.size
    have hbq:Below w.heap.size w wq:=ae eZ hq P7
    obtain⟨⟨q0,q1,q2,q3⟩,q4,⟨q5,q6,q7⟩,q8,q9,q10,q11⟩:=Chg.dW (HX5.out.below hq LY)
    simp only at q0 q1 q2 q3 q4 q5 q6 q7 q8 q9 q10 q11
    have HO6:=qh (HO5.out.below hq omA)
    have HT6:=qh (HT5.out.below hq omA)
    obtain⟨s,hs⟩:∃s,eU ts rt ⟨kd,sq,dy,(t:Int),A0,cp,row,key,cl,vl⟩=s:=⟨_,rfl⟩
    have HST:=qh hs
    clear hs
    by_cases hs0:s=0
    rotate_left
    ·have K6:(s != 0)=true:=by simpa using hs0
     have hnk:¬ i<k:=fun h=>hs0 (HST.out.symm.trans ((HGD.out h).2.2 rt HPU.out))
     have HZR:Hid (ra=i∧rb=s):=qh (by
      obtain⟨h1,h2⟩:=HRS.out hnk
      refine⟨h1,h2.trans ?_⟩
      obtain⟨hz,h3|⟨h3,⟨h0,h4,h5⟩|⟨_,h4⟩⟩⟩:=HBD.out hnk
      ·exact absurd (h3.symm.trans HZ.out) hz
      ·exact(by rw[HFX.out]at h4;cases h4)
      ·exact(h4 rt HPU.out).symm.trans HST.out)
     clear hs0 hnk
     go_wp2_with (go_at_call 75;(with_reducible refine(rT w1.heap.size p mb fb A c ts F5 (some ⟨w2.heap.size,0,none⟩) ts.length ts.length rt kd sq dy t A0 cp row key cl vl _ (HS5.out.next hq) (HT.out.next hbq) HS.out (HT6.out.read HO6.out) HRL.out HRK.out (HR.out.next hbq) hrl HIN.out HZ.out HST.out).mono ?_);rintro e w7 ⟨rfl,hb7⟩)
     refine leaves_cons (f:= 73) (args:= #[]) spA eA ?_
     refine(fM _).mono ?_
     rintro e u' w'' ⟨rfl,rfl,rfl⟩
     refine⟨_,results_tmp2 rfl _ _ _,?_⟩
     obtain⟨h1,h2⟩:=HZR.out
     subst h1 h2
     exact⟨rfl,ae hbq hb7 hbq.size⟩
    subst hs0
    have HEF:=qh (wP HRK.out HZ.out HST.out HIN.out)
    have hik:i<k:=by
     rcases Nat.lt_or_ge i k with h|h
     ·exact h
     ·exfalso
      have hnk:¬ i<k:=by omega
      obtain⟨hz,h3|⟨h3,⟨h0,h4,h5⟩|⟨_,h4⟩⟩⟩:=HBD.out hnk
      ·exact hz (h3.symm.trans HZ.out)
      ·exact(by rw[HFX.out]at h4;cases h4)
      ·exact hz ((h4 rt HPU.out).symm.trans HST.out)
    go_upto_region 19 with (go_at_call 75;(with_reducible refine(rT w1.heap.size p mb fb A c ts F5 (some ⟨w2.heap.size,0,none⟩) ts.length ts.length rt kd sq dy t A0 cp row key cl vl _ (HS5.out.next hq) (HT.out.next hbq) HS.out (HT6.out.read HO6.out) HRL.out HRK.out (HR.out.next hbq) hrl HIN.out HZ.out HST.out).mono ?_);rintro e w7 ⟨rfl,hb7⟩)
    clear q0 q1 q2 q3 q4 q5 q6 q7 q8 q9 q10 q11
    have LU:Below w.heap.size w w7:=ae hbq hb7 hbq.size
    have hz7:=hb7.size
    obtain⟨⟨q0,q1,q2,q3⟩,q4,⟨q5,q6,q7⟩,q8,q9,q10,q11⟩:=Chg.dW ((HX5.out.below hq LY).below hb7 omA)
    simp only at q0 q1 q2 q3 q4 q5 q6 q7 q8 q9 q10 q11
    go_wp2_with (go_at_call 66;(with_reducible refine(oJ ts w2.heap.size w2.heap.size ts.length rt kd sq dy t A0 cp row key cl vl _ (HO6.out.below hb7 omA) HRL.out.symm (HT6.out.below hb7 omA) omA (HR.out.next LU) HOK.out HPK.out HIN.out HZ.out HEF.out).mono ?_);rintro e w8 ⟨rfl,rt',hl8,hO8,hT8,hp8,hb8,Qy⟩)
    obtain⟨hS8,hF8⟩:=((HS5.out.next hq).next hb7).oq HN5.out hb8 hpl hml hfl Qy
    clear q0 q1 q2 q3 q4 q5 q6 q7 q8 q9 q10 q11
    have hz8:=hb8.size
    go_roundw
    case rel=>exact⟨i+1,rt',F5,by omega,by go_num,hl8,hO8,hT8,by rw[hp8,DZ.out],hS8,hF8,LU.trans (hb8.mono omA),by omega⟩
    case measure=>exact meA
   ·have hkz:decide ((0:Int)<(i:Int))=false:=by simp;omega
    have j5:decide (0<i)=false:=by simpa using h0
    have HN0:=qh h0
    clear h0
    refine ag krA krA ?_;(repeat(go_big_quiet_step (fail)));refine wpQuiet_nil ?_;intro wq hq
    clear k0 hkz j5 q0 q1 q2 q3 q4 q5 q6 q7 q8 q9 q10 q11
    have hq5:=hq.size
    have hbq:Below w.heap.size w wq:=ae eZ hq P7
    obtain⟨⟨q0,q1,q2,q3⟩,q4,⟨q5,q6,q7⟩,q8,q9,q10,q11⟩:=Chg.dW (HX5.out.below hq LY)
    simp only at q0 q1 q2 q3 q4 q5 q6 q7 q8 q9 q10 q11
    have HO6:=qh (HO5.out.below hq omA)
    have HT6:=qh (HT5.out.below hq omA)
    obtain⟨s,hs⟩:∃s,eU ts rt ⟨kd,sq,dy,(t:Int),A0,cp,row,key,cl,vl⟩=s:=⟨_,rfl⟩
    have HST:=qh hs
    clear hs
    by_cases hs0:s=0
    rotate_left
    ·have K6:(s != 0)=true:=by simpa using hs0
     have hnk:¬ i<k:=fun h=>hs0 (HST.out.symm.trans ((HGD.out h).2.2 rt HPU.out))
     have HZR:Hid (ra=i∧rb=s):=qh (by
      obtain⟨h1,h2⟩:=HRS.out hnk
      refine⟨h1,h2.trans ?_⟩
      obtain⟨hz,h3|⟨h3,⟨h0,h4,h5⟩|⟨_,h4⟩⟩⟩:=HBD.out hnk
      ·exact absurd (h3.symm.trans HZ.out) hz
      ·exact absurd h0 HN0.out
      ·exact(h4 rt HPU.out).symm.trans HST.out)
     clear hs0 hnk
     go_wp2_with (go_at_call 75;(with_reducible refine(rT w1.heap.size p mb fb A c ts F5 (some ⟨w2.heap.size,0,none⟩) ts.length ts.length rt kd sq dy t A0 cp row key cl vl _ (HS5.out.next hq) (HT.out.next hbq) HS.out (HT6.out.read HO6.out) HRL.out HRK.out (HR.out.next hbq) hrl HIN.out HZ.out HST.out).mono ?_);rintro e w7 ⟨rfl,hb7⟩)
     refine leaves_cons (f:= 73) (args:= #[]) spA eA ?_
     refine(fM _).mono ?_
     rintro e u' w'' ⟨rfl,rfl,rfl⟩
     refine⟨_,results_tmp2 rfl _ _ _,?_⟩
     obtain⟨h1,h2⟩:=HZR.out
     subst h1 h2
     exact⟨rfl,ae hbq hb7 hbq.size⟩
    subst hs0
    have HEF:=qh (wP HRK.out HZ.out HST.out HIN.out)
    have hik:i<k:=by
     rcases Nat.lt_or_ge i k with h|h
     ·exact h
     ·exfalso
      have hnk:¬ i<k:=by omega
      obtain⟨hz,h3|⟨h3,⟨h0,h4,h5⟩|⟨_,h4⟩⟩⟩:=HBD.out hnk
      ·exact hz (h3.symm.trans HZ.out)
      ·exact absurd h0 HN0.out
      ·exact hz ((h4 rt HPU.out).symm.trans HST.out)
    go_upto_region 19 with (go_at_call 75;(with_reducible refine(rT w1.heap.size p mb fb A c ts F5 (some ⟨w2.heap.size,0,none⟩) ts.length ts.length rt kd sq dy t A0 cp row key cl vl _ (HS5.out.next hq) (HT.out.next hbq) HS.out (HT6.out.read HO6.out) HRL.out HRK.out (HR.out.next hbq) hrl HIN.out HZ.out HST.out).mono ?_);rintro e w7 ⟨rfl,hb7⟩)
    clear q0 q1 q2 q3 q4 q5 q6 q7 q8 q9 q10 q11
    have LU:Below w.heap.size w w7:=ae hbq hb7 hbq.size
    have hz7:=hb7.size
    obtain⟨⟨q0,q1,q2,q3⟩,q4,⟨q5,q6,q7⟩,q8,q9,q10,q11⟩:=Chg.dW ((HX5.out.below hq LY).below hb7 omA)
    simp only at q0 q1 q2 q3 q4 q5 q6 q7 q8 q9 q10 q11
    go_wp2_with (go_at_call 66;(with_reducible refine(oJ ts w2.heap.size w2.heap.size ts.length rt kd sq dy t A0 cp row key cl vl _ (HO6.out.below hb7 omA) HRL.out.symm (HT6.out.below hb7 omA) omA (HR.out.next LU) HOK.out HPK.out HIN.out HZ.out HEF.out).mono ?_);rintro e w8 ⟨rfl,rt',hl8,hO8,hT8,hp8,hb8,Qy⟩)
    obtain⟨hS8,hF8⟩:=((HS5.out.next hq).next hb7).oq HN5.out hb8 hpl hml hfl Qy
    clear q0 q1 q2 q3 q4 q5 q6 q7 q8 q9 q10 q11
    have hz8:=hb8.size
    go_roundw
    case rel=>exact⟨i+1,rt',F5,by omega,by go_num,hl8,hO8,hT8,by rw[hp8,DZ.out],hS8,hF8,LU.trans (hb8.mono omA),by omega⟩
    case measure=>exact meA
  ·have hlt':decide (i<l.length)=false:=by simpa using hlt
   have HZR:Hid (ra=0∧rb=0):=qh (by
    rcases bg.out with h1|h1
    ·omega
    ·exact h1.2)
   go_wp2_with fail
   refine leaves_cons (f:= 73) (args:= #[]) spA eA ?_
   refine(fM _).mono ?_
   rintro e u' w'' ⟨rfl,rfl,rfl⟩
   refine⟨_,results_tmp2 rfl _ _ _,?_⟩
   obtain⟨h1,h2⟩:=HZR.out
   subst h1 h2
   exact⟨rfl,hbr⟩
theorem Ao(A:Option Addr)(c m:Nat)(ts:List Tab)(LA:Option Addr)(lc n:Nat)(l:List Chg)(w:World)(ht:aJ w w.heap.size A ts)(hm:ts.length=m)(hs:aI ts)(hok:aV ts)(hl:dh w w.heap.size LA l)(hn:l.length=n)(hn6:n≤1024)(hrow:∀x∈l,x.row.length≤1000000)(k:Nat)(z:Int)(hk:k≤l.length)(hp:∀i,i≤k→POk ts (aS ts (l.take i)))(hg:∀i (h:i<l.length),i<k→pO ts l i h)(hb:∀h:k<l.length,Ea ts l k h z){ra rb:Int}(hres:(k<l.length∧ra=k∧rb=z)∨(k=l.length∧ra=0∧rb=0)):
 Calls Tryz.prog 31 #[.agg #[.slice A m c,.slice none 0 0,.slice none 0 0,.slice none 0 0,.slice none 0 0,.slice none 0 0,.slice none 0 0,.slice none 0 0],.slice LA n lc] w fun e w'=>e=.returned (.tuple #[.int .i64 ra,.int .i64 rb])∧Below w.heap.size w w':=
 vB (o:=Oth.nil) A c m ts LA lc n l w ht hm hs hok (dZ.nil ht hs hok) hl hn hn6 hrow k z hk hp hg hb hres
end Go.Proofs.YtebippoohpnjkaaGreat
