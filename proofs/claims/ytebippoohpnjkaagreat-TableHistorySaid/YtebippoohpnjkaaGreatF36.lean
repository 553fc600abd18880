/-
  Contracts and plain laws of this seat, part 36.
-/
import Derived.Test.YtebippoohpnjkaaGreatF34
set_option linter.unusedVariables false
set_option linter.unusedSimpArgs false
set_option maxRecDepth 100000
set_option maxHeartbeats 16000000
namespace Go.Proofs.YtebippoohpnjkaaGreat
open Go.RowKit Go
variable {o:Oth}
def pQ(F:List Fx)(l:List RTab):Prop:= ∀f∈F,∀t∈l,∀r∈t.recs,ko r.SA f.A
theorem pQ.new{w:World}{base:Nat}{F F':List Fx}{l:List RTab}(h:pQ F l)(hn:mF w.heap.size F F')(hT:dn w base l):pQ F' l:=fun f hf t ht r hr=>by
 rcases hn f hf with h1|h1
 ·exact h f h1 t ht r hr
 ·intro a b ha hb e
  have h2:=(hT.row t ht r hr).2.lt a.block (by rw[ha];rfl)
  have h3:=h1 b hb
  omega
theorem gP.oq{w w':World}{B p mb fb base:Nat}{A:Option Addr}{c:Nat}{ts:List Tab}{F:List Fx}{l l':List RTab}(h:gP w B p mb fb A c ts o F)(hap:pQ F l)(hb:Below base w w')(hp:p<base)(hm:mb<base)(hf:fb<base)(hi:GM l l' w w'):gP w' B p mb fb A c ts o F∧pQ F l':=by
 have hk:∀(f:Fx) (hf:f∈F) (g:Nat),f.A=some ⟨g,0,none⟩→ax w B 3 intCells 1 f.val f.out→ax w' B 3 intCells 1 f.val f.out:=fun f hf g _ ho=>(hi B f.A f.cap f.out ho (hap f hf)).1
 refine⟨⟨⟨h.sch.blk.below hb hp,h.sch.nums.below hb hm⟩,h.lp,h.lm,h.lf,h.len,h.blk.below hb hf,fun i a b =>?_⟩,fun f hfm t ht r hr =>?_⟩
 ·rcases h.fix i a b with h1|⟨g,h1,h2,h3⟩
  ·exact .inl h1
  ·exact .inr ⟨g,h1,hk F[i] (lgm a) g h1 h2,h3⟩
 ·obtain⟨i,hi',rfl⟩:=List.getElem_of_mem hfm
  rcases h.fix i hi' (by rw[←h.len];exact hi') with h1|⟨g,h1,h2,h3⟩
  ·rw[h1]
   intro a b _ hb
   cases hb
  ·exact(hi B F[i].A F[i].cap F[i].out h2 (hap _ (lgm hi'))).2 t ht r hr
section
variable {w w':World}{base fb q n:Nat}{l:List RTab}
theorem ax.jA{α:Type}{enc:α→List Value}{s:Nat}{e:TypeId}{v:Value}{m:List α}(h:ax w base e enc s v m)(hg:w.grownBy w' (some fb))(hf:fb<base):ax w' base e enc s v m:=h.kept hg fun g hq e=>by
 have:=h.row g hq
 injection e with e
 omega
theorem dn.jA(h:dn w base l)(hg:w.grownBy w' (some fb))(hf:fb<base):dn w' base l:=
 ⟨fun t ht=>(h.tab t ht).jA hg hf,fun t ht r hr=>⟨(h.row t ht r hr).1.jA hg hf,(h.row t ht r hr).2.jA hg hf⟩,h.l9,h.jf,h.mJ⟩
end
theorem AJ{ts:List Tab}{pl:List (List bu)}{x:Chg}{k:Nat}(hp:POk ts pl)(hok:aV ts)(hin:iC ts x k)(hf:bq ts x=0)(hc:(bU (iL pl (k:Int)) (keyOf x)||(x.kind == 1&&decide ((iL pl (k:Int)).length<64)))=false):aP pl x=pl:=by
 have hk:k<pl.length:=by rw[hp.len];exact hin.lt
 have hK:=(hp.tab k hk hin.lt).keys (hok.af hin.lt).1
 obtain⟨hv,hkk⟩:=ji hf hok
 rw[fC hk,Bool.or_eq_false_iff]at hc
 have e:cK pl[k] x=pl[k]:=by
  by_cases h1:x.kind=1
  ·have e1:(x.kind == 1)=true:=by simpa using h1
   rw[e1,Bool.true_and,decide_eq_false_iff_not]at hc
   exact kZ hK h1 hv hc.1 omA
  ·exact qH hK h1 hv hc.1
 unfold aP
 rw[hin.tab,fC hk,e,Int.toNat_natCast,List.set_getElem_self]
theorem xO(w:World):CallsD Tryz.prog 62 #[] .returning w fun e u' w'=>e=.returned (.tuple #[])∧u'=.returning∧w'=w:=by
 refine callsD_of_wpS Tryz.func62 rfl fun c₀ cs hu =>?_
 apply wpS_region
 cases c₀
 simp_all[wpOpsS,go_sem,recoverD,Tryz.ntmps62,bodyPostS,results,Tryz.results62]
theorem Ei(A:Option Addr)(c m:Nat)(ts:List Tab)(LA:Option Addr)(lc n:Nat)(l:List Chg)(w:World)(ht:aJ w w.heap.size A ts)(hm:ts.length=m)(hs:aI ts)(hok:aV ts)(hcg:dZ w w.heap.size A c ts o)(hl:dh w w.heap.size LA l)(hn:l.length=n)(hn6:n≤1000000)(hrow:∀x∈l,x.row.length≤1000000)(hp:∀i,i≤l.length→POk ts (aS ts (l.take i))):
 Calls Tryz.prog 26 #[.agg #[.slice A m c,.slice o.vA 0 o.vc,.slice o.iA o.idx.length o.ic,.slice o.sA o.skt.length o.sc,.slice o.cA o.cch.length o.cc,.slice o.rA o.rel.length o.rc,.slice o.tA o.str.length o.tc,.slice o.bA o.bak.length o.bc],.slice LA n lc] w fun e w'=>(∃q rt,e=.returned (.slice (some ⟨q,0,none⟩) m m)∧rt.length=m∧aR w' w'.heap.size (some ⟨q,0,none⟩) rt∧RUp w.heap.size (some ⟨q,0,none⟩) rt∧rt.map aB=aS ts l)∧Below w.heap.size w w':=by
 subst hm hn
 have h8:=hok.len
 obtain⟨i7,hi7,hz7,hs7,hb7⟩:=info_parts oU
 have hmk:∀u:World,(Instr.makeSlice 52 (.int .i64 (ts.length:Int)) (.int .i64 (ts.length:Int))).run Tryz.prog u=.ok (.slice (some ⟨u.heap.size,0,none⟩) ts.length ts.length) (u.alloc (.cells (madeCells (RTab.cells dH).toArray (ts.length*1)) 127)):=fun u=>by
  have:=gp (P:=Tryz.prog) 52 127 i7 (.slice none 0 0) Tryz.underlying52 hi7 hz7 .i64 .i64 ts.length ts.length nlr (by rw[hb7];omega) omA u
  rw[hs7]at this
  exact this
 have HT:=qh ht
 have HS:=qh hs
 have HOK:=qh hok
 have HCG:=qh hcg
 have HL:=qh hl
 have jy:=qh hrow
 have HP:=qh hp
 clear ht hs hok hcg hl hrow hp hi7 hz7 hs7 hb7
 go_enter_defers Tryz.func26,Tryz.ntmps26
 go_upto_region 2 with (fail)
 refine ai (P:=fun u=>Code.wp _ _ _ _ u) (R:=fun u=>Blk u w.heap.size 39 #[.slice A ts.length c,.slice o.vA 0 o.vc,.slice o.iA o.idx.length o.ic,.slice o.sA o.skt.length o.sc,.slice o.cA o.cch.length o.cc,.slice o.rA o.rel.length o.rc,.slice o.tA o.str.length o.tc,.slice o.bA o.bak.length o.bc]∧Below w.heap.size w u) ⟨?_,?_⟩ ?_
 ·exact Blk.new _ _ _
 ·exact ak
 rintro W ⟨hC,hbW⟩
 have hzC:=hC.lt
 have HC:=qh hC
 obtain⟨p0,p1,p2,p3,p4,p5,p6,p7⟩:=Cat.aZ hC
 clear hC
 go_upto_region 7 with (first
  | (go_at_call 48;(with_reducible refine(HCG.out.prog _ hbW).mono ?_);rintro e w1 ⟨rfl,hb1⟩;have hz1:=hb1.size;have hx1:Below w.heap.size w w1:=ae hbW hb1 hbW.size;clear p0 p1 p2 p3 p4 p5 p6 p7;obtain⟨p0,p1,p2,p3,p4,p5,p6,p7⟩:=Cat.aZ (HC.out.below hb1 hzC))
  | (go_at_call 63;(with_reducible refine(gB A c ts.length ts _ (HT.out.next hx1) rfl HS.out HOK.out).mono ?_);rintro e w2 ⟨⟨p,mb,fb,rfl,hS2⟩,hb2⟩;have hz2:=hb2.size;have hx2:Below w.heap.size w w2:=ae hx1 hb2 hx1.size;have HS2:=qh hS2;clear hS2 p0 p1 p2 p3 p4 p5 p6 p7;obtain⟨p0,_⟩:=Cat.aZ (HC.out.below (ae hb1 hb2 hz1) hzC)))
 clear hmk p0
 have hpl:=HS2.out.sch.blk.lt
 have hml:=HS2.out.sch.nums.lt
 have hfl:=HS2.out.blk.lt
 have hzw:w.heap.size≤w1.heap.size:=by have:=hx1.size;omega
 refine ai (P:=fun u=>Code.wp _ _ _ _ u) (R:=fun u=>ax u w2.heap.size 127 RTab.cells 1 (.slice (some ⟨w2.heap.size,0,none⟩) ts.length ts.length) (List.replicate ts.length dH)∧gP u w1.heap.size p mb fb A c ts o (List.replicate ts.length ⟨none,0,[]⟩)∧Below w2.heap.size w2 u) ⟨?_,?_,?_⟩ ?_
 ·exact ax.made dx omA (by rw[Nat.mul_one];exact Blk.new' rfl) nlr mxA
 ·exact HS2.out.next ak
 ·exact ak
 rintro V ⟨hO,hSV,hbV⟩
 have HO:=qh hO
 have HSV:=qh hSV
 have Fg:Below w.heap.size w V:=ae hx2 hbV hx2.size
 clear hO hSV HS2
 go_loopw [20] (fun vi wr =>∃(i:Nat) (rt:List RTab) (F:List Fx),i≤l.length∧vi=.int .i64 i∧rt.length=ts.length∧ax wr w2.heap.size 127 RTab.cells 1 (.slice (some ⟨w2.heap.size,0,none⟩) ts.length ts.length) rt∧dn wr w2.heap.size rt∧rt.map aB=aS ts (l.take i)∧gP wr w1.heap.size p mb fb A c ts o F∧pQ F rt∧Below w.heap.size w wr∧w2.heap.size≤wr.heap.size) (fun vi _=>l.length-(intOf vi).toNat)
 case atStart=>exact⟨0,_,_,Nat.zero_le _,rfl,by simp,HO.out,dn.zero _ _ _,by rw[List.map_replicate];rfl,HSV.out,fun f hf t ht r hr=>by rw[(List.mem_replicate.1 ht).2]at hr;simp[dH]at hr,Fg,hbV.size⟩
 case round =>
  obtain⟨i,rt,F,hi,rfl,hrl,hO,hT,hpu,hSF,hap,hbr,hzr⟩:=hrel
  have HRL:=qh hrl
  have HO:=qh hO
  have HTT:=qh hT
  have HPU:=qh hpu
  have HSF:=qh hSF
  have HAP:=qh hap
  have hwz:=hbr.size
  clear hrl hO hT hpu hSF hap
  by_cases hlt:i<l.length
  ·obtain⟨b5,o5,rfl,hb5,hc5⟩:=(HL.out.1.below hbr).get hlt
   obtain⟨⟨q0,q1,q2,q3⟩,q4,⟨q5,q6,q7⟩,q8,q9,q10,q11⟩:=Chg.dE hc5
   have hR:=HL.out.2 l[i] (lgm hlt)
   have hrl:=jy.out l[i] (lgm hlt)
   have hpk:POk ts (rt.map aB):=by rw[HPU.out];exact HP.out i hi
   have hnx:=iE ts hlt
   obtain⟨⟨kd,sq,dy,tb,A0,cp,row,key,cl,vl⟩,hx⟩:∃x,l[i]=x:=⟨_,rfl⟩
   rw[hx]at q0 q1 q2 q3 q4 q5 q6 q7 q8 q9 q10 q11 hR hrl hnx
   simp only at q0 q1 q2 q3 q4 q5 q6 q7 q8 q9 q10 q11 hR hrl
   obtain⟨z,hz⟩:∃z,bq ts ⟨kd,sq,dy,tb,A0,cp,row,key,cl,vl⟩=z:=⟨_,rfl⟩
   have HNX:=qh hnx
   have HZ:=qh hz
   have HR:=qh hR
   have HPK:=qh hpk
   clear hc5 hR hpk hnx hx hz
   go_upto_region 9 with (fail)
   refine ai (P:=fun u=>Code.wp _ _ _ _ u) (R:=fun u=>Blk u wr.heap.size 64 (Chg.cells ⟨kd,sq,dy,tb,A0,cp,row,key,cl,vl⟩).toArray∧Below wr.heap.size wr u) ⟨?_,?_⟩ ?_
   ·exact Blk.new' spA
   ·exact ak
   clear q0 q1 q2 q3 q4 q5 q6 q7 q8 q9 q10 q11
   rintro Y ⟨hX,hbY⟩
   have hzX:=hX.lt
   have hzY:=hbY.size
   have HX:=qh hX
   have fJ:Below w.heap.size w Y:=ae hbr hbY hwz
   obtain⟨⟨q0,q1,q2,q3⟩,q4,⟨q5,q6,q7⟩,q8,q9,q10,q11⟩:=Chg.dW hX
   simp only at q0 q1 q2 q3 q4 q5 q6 q7 q8 q9 q10 q11
   have HSY:=qh (HSF.out.next hbY)
   have HOY:=qh (HO.out.below hbY nlr)
   have HTY:=qh (HTT.out.below hbY nlr)
   clear hX
   by_cases hz0:z=0
   rotate_left
   ·have hz0':(z == 0)=false:=by simpa using hz0
    have yO:Hid (aS ts (l.take (i+1))=rt.map aB):=qh (by rw[HNX.out,HZ.out,if_neg hz0,HPU.out])
    clear hz0
    go_wp2_with (go_at_call 64;(with_reducible refine(iK w1.heap.size p mb fb A c ts F kd sq dy tb A0 cp row key cl vl _ HSY.out (HT.out.next fJ) HS.out HOK.out (HCG.out.next fJ) omA (HR.out.next fJ) hrl HZ.out).mono ?_);rintro e w5 ⟨rfl,⟨F5,hS5,hn5⟩,hg5⟩)
    have hz5:=hg5.size
    have eZ:Below w.heap.size w w5:=Below.grown fJ hg5 omA (fun g e=>by injection e with e;have:=hS5.lf;omega)
    go_roundw
    case rel=>exact⟨i+1,rt,F5,by omega,by go_num,HRL.out,HOY.out.jA hg5 hfl,HTY.out.jA hg5 hfl,yO.out.symm,hS5,HAP.out.new hn5 HTY.out,eZ,by omega⟩
    case measure=>exact meA
   ·subst hz0
    obtain⟨k,hin⟩:=gD HZ.out
    have htb:tb=(k:Int):=hin.tab
    subst htb
    have hkt:=hin.lt
    have hkr:k<rt.length:=by rw[HRL.out];exact hkt
    have hkp:k<(rt.map aB).length:=by simpa using hkr
    have e0:iL (rt.map aB) (k:Int)=rt[k].recs.map aQ:=by rw[fC hkp,List.getElem_map];rfl
    obtain⟨hkv,hkk⟩:=ji HZ.out HOK.out
    have htab:=HPK.out.tab k hkp hkt
    rw[List.getElem_map]at htab
    have hcs:=HOK.out.af hkt
    have h64:rt[k].recs.length≤64:=by simpa[aB]using htab.len
    have Bc:∀x∈rt[k].recs,x.row.length≤1000000:=fun x hx=>by
     have h1:=htab.rcd (aQ x) (List.mem_map_of_mem hx)
     have h2:x.row.length=ts[k].af.length:=h1.len
     omega
    have hra:zC rt[k].recs:=htab.keys hcs.1
    have h1r:kd=1→0<row.length:=fun h=>by rw[iX hin hkt h];exact hcs.1
    obtain⟨ef,hef⟩:∃b,(bU (rt[k].recs.map aQ) (keyOf ⟨kd,sq,dy,(k:Int),A0,cp,row,key,cl,vl⟩)||(kd == 1&&decide (rt[k].recs.length<64)))=b:=⟨_,rfl⟩
    have HIN:=qh hin
    have HEF:=qh hef
    have HRA:=qh hra
    have MG:=qh Bc
    have HKV:=qh hkv
    have H1R:=qh h1r
    have MS:Hid ((bU (iL (rt.map aB) (k:Int)) (keyOf ⟨kd,sq,dy,(k:Int),A0,cp,row,key,cl,vl⟩)||(kd == 1&&decide ((iL (rt.map aB) (k:Int)).length<64)))=ef):=qh (by rw[e0,List.length_map];exact hef)
    have Li:rt[k].recs.length≤1000000:=by omega
    clear hin hef hra Bc hkv hkk htab e0 h1r
    cases ef
    ·have yO:Hid (aS ts (l.take (i+1))=rt.map aB):=qh (by rw[HNX.out,HZ.out,if_pos rfl,←HPU.out];exact AJ HPK.out HOK.out HIN.out HZ.out MS.out)
     go_wp2_with (first
      | (go_at_call 64;(with_reducible refine(iK w1.heap.size p mb fb A c ts F kd sq dy (k:Int) A0 cp row key cl vl _ HSY.out (HT.out.next fJ) HS.out HOK.out (HCG.out.next fJ) omA (HR.out.next fJ) hrl HZ.out).mono ?_);rintro e w5 ⟨rfl,⟨F5,hS5,hn5⟩,hg5⟩;have hz5:=hg5.size;have eZ:Below w.heap.size w w5:=Below.grown fJ hg5 omA (fun g e=>by injection e with e;have:=hS5.lf;omega);have HS5:=qh hS5;have HN5:=qh (HAP.out.new hn5 HTY.out);have HO5:=qh (HOY.out.jA hg5 hfl);have HT5:=qh (HTY.out.jA hg5 hfl);have hX5:=HX.out.grown hg5 inA;have HX5:=qh hX5;clear q0 q1 q2 q3 q4 q5 q6 q7 q8 q9 q10 q11 hS5 hn5 hg5;obtain⟨⟨q0,q1,q2,q3⟩,q4,⟨q5,q6,q7⟩,q8,q9,q10,q11⟩:=Chg.dW hX5;simp only at q0 q1 q2 q3 q4 q5 q6 q7 q8 q9 q10 q11;clear hX5)
      | (go_at_call 65;(with_reducible refine(jO (some ⟨w2.heap.size,0,none⟩) ts.length ts.length rt kd sq dy k A0 cp row key cl vl _ (HT5.out.read HO5.out) HRL.out hkr Li MG.out HRA.out (HR.out.next eZ) hrl H1R.out HKV.out HEF.out).mono ?_);rintro e w6 ⟨rfl,hb6⟩;have hz6:=hb6.size;clear q0 q1 q2 q3 q4 q5 q6 q7 q8 q9 q10 q11;obtain⟨⟨q0,q1,q2,q3⟩,q4,⟨q5,q6,q7⟩,q8,q9,q10,q11⟩:=Chg.dW (HX5.out.below hb6 HX5.out.lt);simp only at q0 q1 q2 q3 q4 q5 q6 q7 q8 q9 q10 q11))
     clear q0 q1 q2 q3 q4 q5 q6 q7 q8 q9 q10 q11
     go_roundw
     case rel=>exact⟨i+1,rt,F5,by omega,by go_num,HRL.out,HO5.out.below hb6 nlr,HT5.out.below hb6 nlr,yO.out.symm,HS5.out.next hb6,HN5.out,ae eZ hb6 omA,by omega⟩
     case measure=>exact meA
    ·have DZ:Hid (aS ts (l.take (i+1))=aP (rt.map aB) ⟨kd,sq,dy,(k:Int),A0,cp,row,key,cl,vl⟩):=qh (by rw[HNX.out,HZ.out,if_pos rfl,←HPU.out])
     go_upto_region 10 with (first
      | (go_at_call 64;(with_reducible refine(iK w1.heap.size p mb fb A c ts F kd sq dy (k:Int) A0 cp row key cl vl _ HSY.out (HT.out.next fJ) HS.out HOK.out (HCG.out.next fJ) omA (HR.out.next fJ) hrl HZ.out).mono ?_);rintro e w5 ⟨rfl,⟨F5,hS5,hn5⟩,hg5⟩;have hz5:=hg5.size;have eZ:Below w.heap.size w w5:=Below.grown fJ hg5 omA (fun g e=>by injection e with e;have:=hS5.lf;omega);have HS5:=qh hS5;have HN5:=qh (HAP.out.new hn5 HTY.out);have HO5:=qh (HOY.out.jA hg5 hfl);have HT5:=qh (HTY.out.jA hg5 hfl);have hX5:=HX.out.grown hg5 inA;have HX5:=qh hX5;clear q0 q1 q2 q3 q4 q5 q6 q7 q8 q9 q10 q11 hS5 hn5 hg5;obtain⟨⟨q0,q1,q2,q3⟩,q4,⟨q5,q6,q7⟩,q8,q9,q10,q11⟩:=Chg.dW hX5;simp only at q0 q1 q2 q3 q4 q5 q6 q7 q8 q9 q10 q11;clear hX5)
      | (go_at_call 65;(with_reducible refine(jO (some ⟨w2.heap.size,0,none⟩) ts.length ts.length rt kd sq dy k A0 cp row key cl vl _ (HT5.out.read HO5.out) HRL.out hkr Li MG.out HRA.out (HR.out.next eZ) hrl H1R.out HKV.out HEF.out).mono ?_);rintro e w6 ⟨rfl,hb6⟩;have hz6:=hb6.size;clear q0 q1 q2 q3 q4 q5 q6 q7 q8 q9 q10 q11;obtain⟨⟨q0,q1,q2,q3⟩,q4,⟨q5,q6,q7⟩,q8,q9,q10,q11⟩:=Chg.dW (HX5.out.below hb6 HX5.out.lt);simp only at q0 q1 q2 q3 q4 q5 q6 q7 q8 q9 q10 q11))
     have LV:Below w.heap.size w w6:=ae eZ hb6 omA
     go_wp2_with (go_at_call 66;(with_reducible refine(oJ ts w2.heap.size w2.heap.size ts.length rt kd sq dy k A0 cp row key cl vl _ (HO5.out.below hb6 nlr) HRL.out.symm (HT5.out.below hb6 nlr) omA (HR.out.next LV) HOK.out HPK.out HIN.out HZ.out MS.out).mono ?_);rintro e w7 ⟨rfl,rt',hl7,hO7,hT7,hp7,hb7,hik⟩)
     obtain⟨hS7,hF7⟩:=(HS5.out.next hb6).oq HN5.out hb7 hpl hml hfl hik
     clear q0 q1 q2 q3 q4 q5 q6 q7 q8 q9 q10 q11
     have hz7:=hb7.size
     go_roundw
     case rel=>exact⟨i+1,rt',F5,by omega,by go_num,hl7,hO7,hT7,by rw[hp7,DZ.out],hS7,hF7,LV.trans (hb7.mono omA),by omega⟩
     case measure=>exact meA
  ·have hlt':decide (i<l.length)=false:=by simpa using hlt
   have hie:i=l.length:=by omega
   have HRD:=qh (mH (c:=ts.length) (by rw[HRL.out];exact HO.out) (fun t ht=>(⟨HTT.out.tab t ht,HTT.out.row t ht⟩:ib wr _ t.A t.cap t.recs)))
   have yQ:Hid (rt.map aB=aS ts l):=qh (by rw[HPU.out,hie,List.take_length])
   clear hie
   go_wp2_with fail
   refine leaves_cons (f:= 62) (args:= #[]) spA (by simp[go_sem]) ?_
   refine(xO _).mono ?_
   rintro e u' w'' ⟨rfl,rfl,rfl⟩
   refine⟨_,results_tmp rfl _ _ _,?_⟩
   exact⟨⟨_,rt,rfl,HRL.out,HRD.out.1,HRD.out.2.mono (by have:=hx2.size;omega),yQ.out⟩,hbr⟩
theorem BZ(A:Option Addr)(c m:Nat)(ts:List Tab)(LA:Option Addr)(lc n:Nat)(l:List Chg)(w:World)(ht:aJ w w.heap.size A ts)(hm:ts.length=m)(hs:aI ts)(hok:aV ts)(hl:dh w w.heap.size LA l)(hn:l.length=n)(hn6:n≤1000000)(hrow:∀x∈l,x.row.length≤1000000)(hp:∀i,i≤l.length→POk ts (aS ts (l.take i))):
 Calls Tryz.prog 26 #[.agg #[.slice A m c,.slice none 0 0,.slice none 0 0,.slice none 0 0,.slice none 0 0,.slice none 0 0,.slice none 0 0,.slice none 0 0],.slice LA n lc] w fun e w'=>(∃q rt,e=.returned (.slice (some ⟨q,0,none⟩) m m)∧rt.length=m∧aR w' w'.heap.size (some ⟨q,0,none⟩) rt∧RUp w.heap.size (some ⟨q,0,none⟩) rt∧rt.map aB=aS ts l)∧Below w.heap.size w w':=
 Ei (o:=Oth.nil) A c m ts LA lc n l w ht hm hs hok (dZ.nil ht hs hok) hl hn hn6 hrow hp
open Go.RowKit Go
variable {o:Oth}
theorem qK(w:World):CallsD Tryz.prog 117 #[] .returning w fun e u' w'=>e=.returned (.tuple #[])∧u'=.returning∧w'=w:=by
 refine callsD_of_wpS Tryz.func117 rfl fun c₀ cs hu =>?_
 apply wpS_region
 cases c₀
 simp_all[wpOpsS,go_sem,recoverD,Tryz.ntmps117,bodyPostS,results,Tryz.results117]
theorem Ej(A:Option Addr)(c m:Nat)(ts:List Tab)(RA:Option Addr)(rc n:Nat)(rt:List RTab)(kd sq dy tb:Int)(A0:Option Addr)(cp:Nat)(row:List Val)(key:Val)(cl:Int)(vl:Val)(w:World)(ht:aJ w w.heap.size A ts)(hm:ts.length=m)(hs:aI ts)(hok:aV ts)(hcg:dZ w w.heap.size A c ts o)(hrt:aR w w.heap.size RA rt)(hn:rt.length=n)(hsr:iP rt)(hR:ah w w.heap.size Val.cells 3 A0 row)(hrl:row.length≤1000000){z:Int}(hz:eG ts rt ⟨kd,sq,dy,tb,A0,cp,row,key,cl,vl⟩=z):
 Calls Tryz.prog 69 #[.agg #[.slice A m c,.slice o.vA 0 o.vc,.slice o.iA o.idx.length o.ic,.slice o.sA o.skt.length o.sc,.slice o.cA o.cch.length o.cc,.slice o.rA o.rel.length o.rc,.slice o.tA o.str.length o.tc,.slice o.bA o.bak.length o.bc],.slice RA n rc,.agg #[.int .i64 kd,.int .i64 sq,.int .i64 dy,.int .i64 tb,.slice A0 row.length cp,.int .i64 key.kind,.int .i64 key.num,.string key.text,.int .i64 cl,.int .i64 vl.kind,.int .i64 vl.num,.string vl.text]] w fun e w'=>e=.returned (.int .i64 z)∧Below w.heap.size w w':=by
 subst hm hn
 obtain⟨b,hb⟩:∃b,pb (bf ts rt)=b:=⟨_,rfl⟩
 have HB:=qh hb
 have HZ:=qh hz
 have HT:=qh ht
 have HS:=qh hs
 have HOK:=qh hok
 have HCG:=qh hcg
 have HR:=qh hrt
 have HSR:=qh hsr
 have HRW:=qh hR
 clear hz hb ht hs hok hcg hrt hsr hR
 go_enter_defers Tryz.func69,Tryz.ntmps69
 go_upto_region 2 with (fail)
 refine ai (P:=fun u=>Code.wp _ _ _ _ u) (R:=fun u=>Blk u w.heap.size 39 #[.slice A ts.length c,.slice o.vA 0 o.vc,.slice o.iA o.idx.length o.ic,.slice o.sA o.skt.length o.sc,.slice o.cA o.cch.length o.cc,.slice o.rA o.rel.length o.rc,.slice o.tA o.str.length o.tc,.slice o.bA o.bak.length o.bc]∧Blk u (w.heap.size+1) 64 (Chg.cells ⟨kd,sq,dy,tb,A0,cp,row,key,cl,vl⟩).toArray∧Below w.heap.size w u) ⟨?_,?_,?_⟩ ?_
 ·exact(Blk.new _ _ _).alloc _
 ·exact Blk.new' spA
 ·exact ak
 rintro W ⟨hC,hX,hbW⟩
 have hzX:=hX.lt
 have HC:=qh hC
 have HX:=qh hX
 obtain⟨p0,p1,p2,p3,p4,p5,p6,p7⟩:=Cat.aZ hC
 clear hC hX
 cases b
 ·have HZ1:Hid (z=1):=qh (by rw[←HZ.out];unfold eG;rw[HB.out,if_pos rfl])
  go_wp2_with (first
   | (go_at_call 48;(with_reducible refine(HCG.out.prog _ hbW).mono ?_);rintro e w1 ⟨rfl,hb1⟩;have hz1:=hb1.size;have hx1:Below w.heap.size w w1:=ae hbW hb1 hbW.size;clear p0 p1 p2 p3 p4 p5 p6 p7;obtain⟨p0,p1,p2,p3,p4,p5,p6,p7⟩:=Cat.aZ (HC.out.below hb1 omA))
   | (go_at_call 63;(with_reducible refine(gB A c ts.length ts _ (HT.out.next hx1) rfl HS.out HOK.out).mono ?_);rintro e w2 ⟨⟨p,mb,fb,rfl,hS2⟩,hb2⟩;have hz2:=hb2.size;have hx2:Below w.heap.size w w2:=ae hx1 hb2 hx1.size;have HS2:=qh hS2;clear hS2 p0 p1 p2 p3 p4 p5 p6 p7)
   | (go_at_call 118;(with_reducible refine(zH p mb fb ts.length A c ts RA rc rt.length rt _ HS2.out.sch (HT.out.next hx2) HOK.out (HR.out.next hx2) rfl HSR.out HB.out).mono ?_);rintro e w3 ⟨rfl,hb3⟩;have hz3:=hb3.size;have hx3:Below w.heap.size w w3:=ae hx2 hb3 hx2.size))
  refine leaves_cons (f:= 117) (args:= #[]) spA (by simp[go_sem]) ?_
  refine(qK _).mono ?_
  rintro e u' w'' ⟨rfl,rfl,rfl⟩
  refine⟨_,results_tmp rfl _ _ _,?_⟩
  exact⟨av HZ1.out.symm,hx3⟩
 have HRK:Hid (bf ts rt):=qh (iH.1 HB.out)
 go_upto_region 7 with (first
  | (go_at_call 48;(with_reducible refine(HCG.out.prog _ hbW).mono ?_);rintro e w1 ⟨rfl,hb1⟩;have hz1:=hb1.size;have hx1:Below w.heap.size w w1:=ae hbW hb1 hbW.size;clear p0 p1 p2 p3 p4 p5 p6 p7;obtain⟨p0,p1,p2,p3,p4,p5,p6,p7⟩:=Cat.aZ (HC.out.below hb1 omA))
  | (go_at_call 63;(with_reducible refine(gB A c ts.length ts _ (HT.out.next hx1) rfl HS.out HOK.out).mono ?_);rintro e w2 ⟨⟨p,mb,fb,rfl,hS2⟩,hb2⟩;have hz2:=hb2.size;have hx2:Below w.heap.size w w2:=ae hx1 hb2 hx1.size;have HS2:=qh hS2;clear hS2 p0 p1 p2 p3 p4 p5 p6 p7)
  | (go_at_call 118;(with_reducible refine(zH p mb fb ts.length A c ts RA rc rt.length rt _ HS2.out.sch (HT.out.next hx2) HOK.out (HR.out.next hx2) rfl HSR.out HB.out).mono ?_);rintro e w3 ⟨rfl,hb3⟩;have hz3:=hb3.size;have hx3:Below w.heap.size w w3:=ae hx2 hb3 hx2.size))
 obtain⟨⟨q0,q1,q2,q3⟩,q4,⟨q5,q6,q7⟩,q8,q9,q10,q11⟩:=Chg.dW (HX.out.below (ae hb1 (ae hb2 hb3 hz2) hz1) hzX)
 simp only at q0 q1 q2 q3 q4 q5 q6 q7 q8 q9 q10 q11
 go_wp2_with (go_at_call 119;(with_reducible refine(G5 w1.heap.size p mb fb A c ts _ RA rc rt kd sq dy tb A0 cp row key cl vl _ (HS2.out.next hb3) omA ((HT.out.below hx3).mono omA) HS.out ((HCG.out.below hx3).mono omA) ((HR.out.below hx3).mono omA) HRK.out ((HRW.out.below hx3).mono omA) hrl HZ.out).mono ?_);rintro e w4 ⟨rfl,hF4,hb4⟩;have hx4:Below w.heap.size w w4:=hx3.trans (hb4.mono omA))
 refine leaves_cons (f:= 117) (args:= #[]) spA (by simp[go_sem]) ?_
 refine(qK _).mono ?_
 rintro e u' w'' ⟨rfl,rfl,rfl⟩
 refine⟨_,results_tmp rfl _ _ _,?_⟩
 exact⟨rfl,hx4⟩
theorem Ca(A:Option Addr)(c m:Nat)(ts:List Tab)(RA:Option Addr)(rc n:Nat)(rt:List RTab)(kd sq dy tb:Int)(A0:Option Addr)(cp:Nat)(row:List Val)(key:Val)(cl:Int)(vl:Val)(w:World)(ht:aJ w w.heap.size A ts)(hm:ts.length=m)(hs:aI ts)(hok:aV ts)(hrt:aR w w.heap.size RA rt)(hn:rt.length=n)(hsr:iP rt)(hR:ah w w.heap.size Val.cells 3 A0 row)(hrl:row.length≤1000000){z:Int}(hz:eG ts rt ⟨kd,sq,dy,tb,A0,cp,row,key,cl,vl⟩=z):
 Calls Tryz.prog 69 #[.agg #[.slice A m c,.slice none 0 0,.slice none 0 0,.slice none 0 0,.slice none 0 0,.slice none 0 0,.slice none 0 0,.slice none 0 0],.slice RA n rc,.agg #[.int .i64 kd,.int .i64 sq,.int .i64 dy,.int .i64 tb,.slice A0 row.length cp,.int .i64 key.kind,.int .i64 key.num,.string key.text,.int .i64 cl,.int .i64 vl.kind,.int .i64 vl.num,.string vl.text]] w fun e w'=>e=.returned (.int .i64 z)∧Below w.heap.size w w':=
 Ej (o:=Oth.nil) A c m ts RA rc n rt kd sq dy tb A0 cp row key cl vl w ht hm hs hok (dZ.nil ht hs hok) hrt hn hsr hR hrl hz
end Go.Proofs.YtebippoohpnjkaaGreat
