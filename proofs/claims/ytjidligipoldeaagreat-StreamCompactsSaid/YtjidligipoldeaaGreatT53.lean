/-
  Contracts and plain laws of this seat, part 53.
-/
import Derived.Test.YtjidligipoldeaaGreatT41
set_option linter.unusedVariables false
set_option linter.unusedSimpArgs false
set_option maxRecDepth 100000
set_option maxHeartbeats 16000000
namespace Go.Proofs.YtjidligipoldeaaGreat
open Go.RowKit Go
variable {o:Oth}
theorem AJ(ts:List Tab)(base q n:Nat)(l:List RTab)(kd sq dy:Int)(k:Nat)(A0:Option Addr)(cp:Nat)(row:List Val)(key:Val)(cl:Int)(vl:Val)(w:World)(hO:aj w base 46 RTab.cells 1 (.slice (some ⟨q,0,none⟩) n n) l)(hn:n=l.length)(hT:dB w base l)(hbase:base≤w.heap.size)(hR:ag w w.heap.size Val.cells 3 A0 row)(hok:aN ts)(hp:iB ts (l.map aD))(hka:mo (l.map aD))(hin:jN ts ⟨kd,sq,dy,(k:Int),A0,cp,row,key,cl,vl⟩ k)(hf:aV ts ⟨kd,sq,dy,(k:Int),A0,cp,row,key,cl,vl⟩=0)(hc:(dC (pq (l.map aD) (k:Int)) (keyOf ⟨kd,sq,dy,(k:Int),A0,cp,row,key,cl,vl⟩)||(kd == 1&&decide ((pq (l.map aD) (k:Int)).length<64)))=true):
 Calls Tryz.prog 78 #[.slice (some ⟨q,0,none⟩) n n,.agg #[.int .i64 kd,.int .i64 sq,.int .i64 dy,.int .i64 k,.slice A0 row.length cp,.int .i64 key.kind,.int .i64 key.num,.string key.text,.int .i64 cl,.int .i64 vl.kind,.int .i64 vl.num,.string vl.text]] w (fun e w'=>e=.returned (.tuple #[])∧jL base q n l (aQ (l.map aD) ⟨kd,sq,dy,(k:Int),A0,cp,row,key,cl,vl⟩) w w'):=by
 have hkt:=hin.lt
 have hk:k<l.length:=by have:=hp.len;simp at this;omega
 have h8:ts.length≤8:=hok.len
 have hl8:l.length≤8:=by have:=hp.len;simp at this;omega
 have hkp:k<(l.map aD).length:=by simpa using hk
 have htab:=hp.tab k hkp hkt
 rw[List.getElem_map]at htab
 have e0:pq (l.map aD) (k:Int)=l[k].recs.map aA:=by rw[jV hkp,List.getElem_map];rfl
 rw[e0]at hc
 obtain⟨hkv,hkk⟩:=ll hf hok
 have hcs:=hok.ae hkt
 have h64:l[k].recs.length≤64:=by simpa[aD]using htab.1
 have hrw:∀x∈l[k].recs,x.row.length=ts[k].ae.length∧x.seq.length=ts[k].ae.length:=fun x hx=>htab.2 (aA x) (List.mem_map_of_mem hx)
 have hkeys:aT (l[k].recs.map aA):=hka _ (List.mem_map.2 ⟨l[k],lgm hk,rfl⟩)
 have h1r:kd=1→0<row.length:=fun h=>by rw[pU hin hkt h];exact hcs.1
 have hrl:row.length≤1000:=by
  by_cases h:kd=1
  ·have h2:row.length=ts[k].ae.length:=pU hin hkt h
   omega
  ·have h2:row.length=0:=hin.rest h
   omega
 have OD:∀x∈l[k].recs,x.row.length≤1000000:=fun x hx=>by have:=hrw x hx;omega
 obtain⟨fd,hfd⟩:∃b,dC (l[k].recs.map aA) (keyOf ⟨kd,sq,dy,(k:Int),A0,cp,row,key,cl,vl⟩)=b:=⟨_,rfl⟩
 rw[hfd]at hc
 have hkind:kd=1∨kd=2∨kd=3:=hin.kind
 exact xw base q n l kd sq dy k A0 cp row key cl vl w hO hn hT hbase hk omA hR hrl h1r hkv hkk hkeys h64 OD hfd hkind (by
  cases fd
  ·exact .inr (by simpa using hc)
  ·exact .inl rfl) fun h=>by
  obtain⟨c,hu⟩:=ny hf h hin
  have hcl:cl=(c:Int):=hu.col
  exact⟨c,hcl,fun r hr=>by have:=hrw r hr;have:=hu.lt;omega⟩
theorem zy{ts:List Tab}{pl:List (List aG)}{x:Chg}{k:Nat}(hp:iB ts pl)(hka:mo pl)(hok:aN ts)(hin:jN ts x k)(hf:aV ts x=0)(hc:(dC (pq pl (k:Int)) (keyOf x)||(x.kind == 1&&decide ((pq pl (k:Int)).length<64)))=false):aQ pl x=pl:=by
 have hk:k<pl.length:=by rw[hp.len];exact hin.lt
 have hK:aT pl[k]:=hka _ (lgm hk)
 obtain⟨hv,hkk⟩:=ll hf hok
 rw[jV hk,Bool.or_eq_false_iff]at hc
 have e:aW pl[k] x=pl[k]:=by
  by_cases h1:x.kind=1
  ·have e1:(x.kind == 1)=true:=by simpa using h1
   rw[e1,Bool.true_and,decide_eq_false_iff_not]at hc
   exact jg hK h1 hv hc.1 omA
  ·exact jR hK h1 hv hc.1
 unfold aQ
 rw[hin.tab,jV hk,e,Int.toNat_natCast,List.set_getElem_self]
theorem Cx{ts:List Tab}(hok:aN ts)(l:List Chg):iB ts (bM ts l)∧mo (bM ts l):=by
 have h:∀(l:List Chg) (pl:List (List aG)),iB ts pl∧mo pl→iB ts (l.foldl (fun pl x=>if aV ts x=0 then aQ pl x else pl) pl)∧mo (l.foldl (fun pl x=>if aV ts x=0 then aQ pl x else pl) pl):=by
  intro l
  induction l with
  | nil=>exact fun pl h=>h
  | cons x l ih =>
    intro pl hp
    rw[List.foldl_cons]
    refine ih _ ?_
    by_cases hf:aV ts x=0
    ·rw[if_pos hf]
     obtain⟨k,hin⟩:=fF hf
     exact⟨iB.sw hp.1 hin,hp.2.sw hf hok⟩
    ·rw[if_neg hf]
     exact hp
 refine h l _ ⟨?_,mo.zero _⟩
 have h0:=eU.zero ts
 unfold eU at h0
 rw[List.map_replicate]at h0
 exact h0
theorem wK(w:World):CallsD Tryz.prog 74 #[] .returning w fun e u' w'=>e=.returned (.tuple #[])∧u'=.returning∧w'=w:=by
 refine callsD_of_wpS Tryz.func74 rfl fun c₀ cs hu =>?_
 apply wpS_region
 cases c₀
 simp_all[wpOpsS,go_sem,recoverD,Tryz.ntmps74,bodyPostS,results,Tryz.results74]
theorem Ct(A:Option Addr)(c m:Nat)(ts:List Tab)(LA:Option Addr)(lc n:Nat)(l:List Chg)(w:World)(ht:aF w w.heap.size A ts)(hm:ts.length=m)(hs:aM ts)(hok:aN ts)(hcg:gF w w.heap.size A c ts o)(hl:dQ w w.heap.size LA l)(hn:l.length=n)(hn6:n≤1000000)(hrow:∀x∈l,x.row.length≤1000000):
 Calls Tryz.prog 33 #[.agg #[.slice A m c,.slice o.vA 0 o.vc,.slice o.iA o.idx.length o.ic,.slice o.sA o.skt.length o.sc,.slice o.cA o.cch.length o.cc,.slice o.rA o.rel.length o.rc,.slice o.tA o.str.length o.tc,.slice o.bA o.bak.length o.bc],.slice LA n lc] w fun e w'=>(∃q rt,e=.returned (.slice (some ⟨q,0,none⟩) m m)∧rt.length=m∧aR w' w'.heap.size (some ⟨q,0,none⟩) rt∧RUp w.heap.size (some ⟨q,0,none⟩) rt∧rt.map aD=bM ts l)∧Below w.heap.size w w':=by
 subst hm hn
 have h8:=hok.len
 obtain⟨i7,hi7,hz7,hs7,hb7⟩:=info_parts ym
 have hmk:∀u:World,(Instr.makeSlice 57 (.int .i64 (ts.length:Int)) (.int .i64 (ts.length:Int))).run Tryz.prog u=.ok (.slice (some ⟨u.heap.size,0,none⟩) ts.length ts.length) (u.alloc (.cells (madeCells (RTab.cells dY).toArray (ts.length*1)) 46)):=fun u=>by
  have:=iN (P:=Tryz.prog) 57 46 i7 (.slice none 0 0) Tryz.underlying57 hi7 hz7 .i64 .i64 ts.length ts.length nlr (by rw[hb7];omega) omA u
  rw[hs7]at this
  exact this
 have HT:=qh ht
 have HS:=qh hs
 have HOK:=qh hok
 have HCG:=qh hcg
 have HL:=qh hl
 have iV:=qh hrow
 clear ht hs hok hcg hl hrow hi7 hz7 hs7 hb7
 go_enter_defers Tryz.func33,Tryz.ntmps33
 go_upto_region 2 with (fail)
 refine ah (P:=fun u=>Code.wp _ _ _ _ u) (R:=fun u=>Blk u w.heap.size 33 #[.slice A ts.length c,.slice o.vA 0 o.vc,.slice o.iA o.idx.length o.ic,.slice o.sA o.skt.length o.sc,.slice o.cA o.cch.length o.cc,.slice o.rA o.rel.length o.rc,.slice o.tA o.str.length o.tc,.slice o.bA o.bak.length o.bc]∧Below w.heap.size w u) ⟨?_,?_⟩ ?_
 ·exact Blk.new _ _ _
 ·exact ai
 rintro W ⟨hC,hbW⟩
 have hzC:=hC.lt
 have HC:=qh hC
 obtain⟨p0,p1,p2,p3,p4,p5,p6,p7⟩:=Cat.fU hC
 clear hC
 go_upto_region 7 with (first
  | (go_at_call 72;(with_reducible refine(HCG.out.prog _ hbW).mono ?_);rintro e w1 ⟨rfl,hb1⟩;have hz1:=hb1.size;have hx1:Below w.heap.size w w1:=aa hbW hb1 hbW.size;clear p0 p1 p2 p3 p4 p5 p6 p7;obtain⟨p0,p1,p2,p3,p4,p5,p6,p7⟩:=Cat.fU (HC.out.below hb1 hzC))
  | (go_at_call 75;(with_reducible refine(pg A c ts.length ts _ (HT.out.next hx1) rfl HS.out HOK.out).mono ?_);rintro e w2 ⟨⟨p,mb,fb,rfl,hS2⟩,hb2⟩;have hz2:=hb2.size;have hx2:Below w.heap.size w w2:=aa hx1 hb2 hx1.size;have HS2:=qh hS2;clear hS2 p0 p1 p2 p3 p4 p5 p6 p7;obtain⟨p0,_⟩:=Cat.fU (HC.out.below (aa hb1 hb2 hz1) hzC)))
 clear hmk p0
 have hpl:=HS2.out.sch.blk.lt
 have hml:=HS2.out.sch.nums.lt
 have hfl:=HS2.out.blk.lt
 have hzw:w.heap.size≤w1.heap.size:=by have:=hx1.size;omega
 refine ah (P:=fun u=>Code.wp _ _ _ _ u) (R:=fun u=>aj u w2.heap.size 46 RTab.cells 1 (.slice (some ⟨w2.heap.size,0,none⟩) ts.length ts.length) (List.replicate ts.length dY)∧jq u w1.heap.size p mb fb A c ts o (List.replicate ts.length ⟨none,0,[]⟩)∧Below w2.heap.size w2 u) ⟨?_,?_,?_⟩ ?_
 ·exact aj.made dH omA (by rw[Nat.mul_one];exact Blk.new' rfl) nlr mxA
 ·exact HS2.out.next ai
 ·exact ai
 rintro V ⟨hO,hSV,hbV⟩
 have HO:=qh hO
 have HSV:=qh hSV
 have XV:Below w.heap.size w V:=aa hx2 hbV hx2.size
 clear hO hSV HS2
 go_loopw [20] (fun vi wr =>∃(i:Nat) (rt:List RTab) (F:List Fx),i≤l.length∧vi=.int .i64 i∧rt.length=ts.length∧aj wr w2.heap.size 46 RTab.cells 1 (.slice (some ⟨w2.heap.size,0,none⟩) ts.length ts.length) rt∧dB wr w2.heap.size rt∧rt.map aD=bM ts (l.take i)∧jq wr w1.heap.size p mb fb A c ts o F∧vT F rt∧Below w.heap.size w wr∧w2.heap.size≤wr.heap.size) (fun vi _=>l.length-(intOf vi).toNat)
 case atStart=>exact⟨0,_,_,Nat.zero_le _,rfl,by simp,HO.out,dB.zero _ _ _,by rw[List.map_replicate];rfl,HSV.out,fun f hf t ht r hr=>by rw[(List.mem_replicate.1 ht).2]at hr;simp[dY]at hr,XV,hbV.size⟩
 case round =>
  obtain⟨i,rt,F,hi,rfl,hrl,hO,hT,hpu,hSF,hap,hbr,hzr⟩:=hrel
  have HRL:=qh hrl
  have HO:=qh hO
  have HTT:=qh hT
  have HPU:=qh hpu
  have HSF:=qh hSF
  have HAP:=qh hap
  have hwz:=hbr.size
  clear hrl hO hT hpu hSF hap
  by_cases hlt:i<l.length
  ·obtain⟨b5,o5,rfl,hb5,hc5⟩:=(HL.out.1.below hbr).get hlt
   obtain⟨⟨q0,q1,q2,q3⟩,q4,⟨q5,q6,q7⟩,q8,q9,q10,q11⟩:=Chg.mg hc5
   have hR:=HL.out.2 l[i] (lgm hlt)
   have hrl:=iV.out l[i] (lgm hlt)
   have hpk:iB ts (rt.map aD)∧mo (rt.map aD):=by rw[HPU.out];exact Cx HOK.out _
   have hnx:=tF ts hlt
   obtain⟨⟨kd,sq,dy,tb,A0,cp,row,key,cl,vl⟩,hx⟩:∃x,l[i]=x:=⟨_,rfl⟩
   rw[hx]at q0 q1 q2 q3 q4 q5 q6 q7 q8 q9 q10 q11 hR hrl hnx
   simp only at q0 q1 q2 q3 q4 q5 q6 q7 q8 q9 q10 q11 hR hrl
   obtain⟨z,hz⟩:∃z,aV ts ⟨kd,sq,dy,tb,A0,cp,row,key,cl,vl⟩=z:=⟨_,rfl⟩
   have HNX:=qh hnx
   have HZ:=qh hz
   have HR:=qh hR
   have HPK:=qh hpk
   clear hc5 hR hpk hnx hx hz
   go_upto_region 9 with (fail)
   refine ah (P:=fun u=>Code.wp _ _ _ _ u) (R:=fun u=>Blk u wr.heap.size 52 (Chg.cells ⟨kd,sq,dy,tb,A0,cp,row,key,cl,vl⟩).toArray∧Below wr.heap.size wr u) ⟨?_,?_⟩ ?_
   ·exact Blk.new' spA
   ·exact ai
   clear q0 q1 q2 q3 q4 q5 q6 q7 q8 q9 q10 q11
   rintro Y ⟨hX,hbY⟩
   have hzX:=hX.lt
   have hzY:=hbY.size
   have HX:=qh hX
   have lh:Below w.heap.size w Y:=aa hbr hbY hwz
   obtain⟨⟨q0,q1,q2,q3⟩,q4,⟨q5,q6,q7⟩,q8,q9,q10,q11⟩:=Chg.eF hX
   simp only at q0 q1 q2 q3 q4 q5 q6 q7 q8 q9 q10 q11
   have HSY:=qh (HSF.out.next hbY)
   have HOY:=qh (HO.out.below hbY nlr)
   have HTY:=qh (HTT.out.below hbY nlr)
   clear hX
   by_cases hz0:z=0
   rotate_left
   ·have hz0':(z == 0)=false:=by simpa using hz0
    have Nw:Hid (bM ts (l.take (i+1))=rt.map aD):=qh (by rw[HNX.out,HZ.out,if_neg hz0,HPU.out])
    clear hz0
    go_wp2_with (go_at_call 76;(with_reducible refine(sV w1.heap.size p mb fb A c ts F kd sq dy tb A0 cp row key cl vl _ HSY.out (HT.out.next lh) HS.out HOK.out (HCG.out.next lh) omA (HR.out.next lh) hrl HZ.out).mono ?_);rintro e w5 ⟨rfl,⟨F5,hS5,hn5⟩,hg5⟩)
    have hz5:=hg5.size
    have jl:Below w.heap.size w w5:=Below.grown lh hg5 omA (fun g e=>by injection e with e;have:=hS5.lf;omega)
    go_roundw
    case rel=>exact⟨i+1,rt,F5,by omega,by go_num,HRL.out,HOY.out.rJ hg5 hfl,HTY.out.rJ hg5 hfl,Nw.out.symm,hS5,HAP.out.new hn5 HTY.out,jl,by omega⟩
    case measure=>exact meA
   ·subst hz0
    obtain⟨k,hin⟩:=fF HZ.out
    have htb:tb=(k:Int):=hin.tab
    subst htb
    have hkt:=hin.lt
    have hkr:k<rt.length:=by rw[HRL.out];exact hkt
    have hkp:k<(rt.map aD).length:=by simpa using hkr
    have e0:pq (rt.map aD) (k:Int)=rt[k].recs.map aA:=by rw[jV hkp,List.getElem_map];rfl
    obtain⟨hkv,hkk⟩:=ll HZ.out HOK.out
    have htab:=HPK.out.1.tab k hkp hkt
    rw[List.getElem_map]at htab
    have hcs:=HOK.out.ae hkt
    have h64:rt[k].recs.length≤64:=by simpa[aD]using htab.1
    have OD:∀x∈rt[k].recs,x.row.length≤1000000:=fun x hx=>by
     have h1:=htab.2 (aA x) (List.mem_map_of_mem hx)
     have h2:x.row.length=ts[k].ae.length:=h1.1
     omega
    have hra:Gj rt[k].recs:=HPK.out.2 _ (List.mem_map.2 ⟨rt[k],lgm hkr,rfl⟩)
    have h1r:kd=1→0<row.length:=fun h=>by rw[pU hin hkt h];exact hcs.1
    obtain⟨ef,hef⟩:∃b,(dC (rt[k].recs.map aA) (keyOf ⟨kd,sq,dy,(k:Int),A0,cp,row,key,cl,vl⟩)||(kd == 1&&decide (rt[k].recs.length<64)))=b:=⟨_,rfl⟩
    have HIN:=qh hin
    have HEF:=qh hef
    have HRA:=qh hra
    have VP:=qh OD
    have HKV:=qh hkv
    have H1R:=qh h1r
    have Wm:Hid ((dC (pq (rt.map aD) (k:Int)) (keyOf ⟨kd,sq,dy,(k:Int),A0,cp,row,key,cl,vl⟩)||(kd == 1&&decide ((pq (rt.map aD) (k:Int)).length<64)))=ef):=qh (by rw[e0,List.length_map];exact hef)
    have UG:rt[k].recs.length≤1000000:=by omega
    clear hin hef hra OD hkv hkk htab e0 h1r
    cases ef
    ·have Nw:Hid (bM ts (l.take (i+1))=rt.map aD):=qh (by rw[HNX.out,HZ.out,if_pos rfl,←HPU.out];exact zy HPK.out.1 HPK.out.2 HOK.out HIN.out HZ.out Wm.out)
     go_wp2_with (first
      | (go_at_call 76;(with_reducible refine(sV w1.heap.size p mb fb A c ts F kd sq dy (k:Int) A0 cp row key cl vl _ HSY.out (HT.out.next lh) HS.out HOK.out (HCG.out.next lh) omA (HR.out.next lh) hrl HZ.out).mono ?_);rintro e w5 ⟨rfl,⟨F5,hS5,hn5⟩,hg5⟩;have hz5:=hg5.size;have jl:Below w.heap.size w w5:=Below.grown lh hg5 omA (fun g e=>by injection e with e;have:=hS5.lf;omega);have HS5:=qh hS5;have HN5:=qh (HAP.out.new hn5 HTY.out);have HO5:=qh (HOY.out.rJ hg5 hfl);have HT5:=qh (HTY.out.rJ hg5 hfl);have hX5:=HX.out.grown hg5 inA;have HX5:=qh hX5;clear q0 q1 q2 q3 q4 q5 q6 q7 q8 q9 q10 q11 hS5 hn5 hg5;obtain⟨⟨q0,q1,q2,q3⟩,q4,⟨q5,q6,q7⟩,q8,q9,q10,q11⟩:=Chg.eF hX5;simp only at q0 q1 q2 q3 q4 q5 q6 q7 q8 q9 q10 q11;clear hX5)
      | (go_at_call 77;(with_reducible refine(ry (some ⟨w2.heap.size,0,none⟩) ts.length ts.length rt kd sq dy k A0 cp row key cl vl _ (HT5.out.read HO5.out) HRL.out hkr UG VP.out HRA.out (HR.out.next jl) hrl H1R.out HKV.out HEF.out).mono ?_);rintro e w6 ⟨rfl,hb6⟩;have hz6:=hb6.size;clear q0 q1 q2 q3 q4 q5 q6 q7 q8 q9 q10 q11;obtain⟨⟨q0,q1,q2,q3⟩,q4,⟨q5,q6,q7⟩,q8,q9,q10,q11⟩:=Chg.eF (HX5.out.below hb6 HX5.out.lt);simp only at q0 q1 q2 q3 q4 q5 q6 q7 q8 q9 q10 q11))
     clear q0 q1 q2 q3 q4 q5 q6 q7 q8 q9 q10 q11
     go_roundw
     case rel=>exact⟨i+1,rt,F5,by omega,by go_num,HRL.out,HO5.out.below hb6 nlr,HT5.out.below hb6 nlr,Nw.out.symm,HS5.out.next hb6,HN5.out,aa jl hb6 omA,by omega⟩
     case measure=>exact meA
    ·have SG:Hid (bM ts (l.take (i+1))=aQ (rt.map aD) ⟨kd,sq,dy,(k:Int),A0,cp,row,key,cl,vl⟩):=qh (by rw[HNX.out,HZ.out,if_pos rfl,←HPU.out])
     go_upto_region 10 with (first
      | (go_at_call 76;(with_reducible refine(sV w1.heap.size p mb fb A c ts F kd sq dy (k:Int) A0 cp row key cl vl _ HSY.out (HT.out.next lh) HS.out HOK.out (HCG.out.next lh) omA (HR.out.next lh) hrl HZ.out).mono ?_);rintro e w5 ⟨rfl,⟨F5,hS5,hn5⟩,hg5⟩;have hz5:=hg5.size;have jl:Below w.heap.size w w5:=Below.grown lh hg5 omA (fun g e=>by injection e with e;have:=hS5.lf;omega);have HS5:=qh hS5;have HN5:=qh (HAP.out.new hn5 HTY.out);have HO5:=qh (HOY.out.rJ hg5 hfl);have HT5:=qh (HTY.out.rJ hg5 hfl);have hX5:=HX.out.grown hg5 inA;have HX5:=qh hX5;clear q0 q1 q2 q3 q4 q5 q6 q7 q8 q9 q10 q11 hS5 hn5 hg5;obtain⟨⟨q0,q1,q2,q3⟩,q4,⟨q5,q6,q7⟩,q8,q9,q10,q11⟩:=Chg.eF hX5;simp only at q0 q1 q2 q3 q4 q5 q6 q7 q8 q9 q10 q11;clear hX5)
      | (go_at_call 77;(with_reducible refine(ry (some ⟨w2.heap.size,0,none⟩) ts.length ts.length rt kd sq dy k A0 cp row key cl vl _ (HT5.out.read HO5.out) HRL.out hkr UG VP.out HRA.out (HR.out.next jl) hrl H1R.out HKV.out HEF.out).mono ?_);rintro e w6 ⟨rfl,hb6⟩;have hz6:=hb6.size;clear q0 q1 q2 q3 q4 q5 q6 q7 q8 q9 q10 q11;obtain⟨⟨q0,q1,q2,q3⟩,q4,⟨q5,q6,q7⟩,q8,q9,q10,q11⟩:=Chg.eF (HX5.out.below hb6 HX5.out.lt);simp only at q0 q1 q2 q3 q4 q5 q6 q7 q8 q9 q10 q11))
     have U8:Below w.heap.size w w6:=aa jl hb6 omA
     go_wp2_with (go_at_call 78;(with_reducible refine(AJ ts w2.heap.size w2.heap.size ts.length rt kd sq dy k A0 cp row key cl vl _ (HO5.out.below hb6 nlr) HRL.out.symm (HT5.out.below hb6 nlr) omA (HR.out.next U8) HOK.out HPK.out.1 HPK.out.2 HIN.out HZ.out Wm.out).mono ?_);rintro e w7 ⟨rfl,rt',hl7,hO7,hT7,hp7,hb7,hik⟩)
     obtain⟨hS7,hF7⟩:=(HS5.out.next hb6).sw HN5.out hb7 hpl hml hfl hik
     clear q0 q1 q2 q3 q4 q5 q6 q7 q8 q9 q10 q11
     have hz7:=hb7.size
     go_roundw
     case rel=>exact⟨i+1,rt',F5,by omega,by go_num,hl7,hO7,hT7,by rw[hp7,SG.out],hS7,hF7,U8.trans (hb7.mono omA),by omega⟩
     case measure=>exact meA
  ·have hlt':decide (i<l.length)=false:=by simpa using hlt
   have hie:i=l.length:=by omega
   have HRD:=qh (qj (c:=ts.length) (by rw[HRL.out];exact HO.out) (fun t ht=>(⟨HTT.out.tab t ht,HTT.out.row t ht⟩:iJ wr _ t.A t.cap t.recs)))
   have lN:Hid (rt.map aD=bM ts l):=qh (by rw[HPU.out,hie,List.take_length])
   clear hie
   go_wp2_with fail
   refine leaves_cons (f:= 74) (args:= #[]) spA (by simp[go_sem]) ?_
   refine(wK _).mono ?_
   rintro e u' w'' ⟨rfl,rfl,rfl⟩
   refine⟨_,results_tmp rfl _ _ _,?_⟩
   exact⟨⟨_,rt,rfl,HRL.out,HRD.out.1,HRD.out.2.mono (by have:=hx2.size;omega),lN.out⟩,hbr⟩
end Go.Proofs.YtjidligipoldeaaGreat
