/-
  Contracts and plain laws of this seat, part 46.
-/
import Derived.Test.YtebippoohpnjkaaGreatN45
import Derived.Test.YtebippoohpnjkaaGreatN30
set_option linter.unusedVariables false
set_option linter.unusedSimpArgs false
set_option maxRecDepth 100000
set_option maxHeartbeats 16000000
namespace Go.Proofs.YtebippoohpnjkaaGreat
open Go.RowKit Go
theorem zg(A B:Option Addr)(c d n:Nat)(l:List Src)(w:World)(ha:ah w w.heap.size Src.cells 2 A l)(hb:ah w w.heap.size Src.cells 2 B l)(hln:l.length=n)(hn:n≤1000000):
 Calls Tryz.prog 101 #[.slice A n c,.slice B n d] w fun e w'=>e=.returned (.int .i64 0)∧Below w.heap.size w w':=by
 subst hln
 have HA:=qh ha
 have HB:=qh hb
 clear ha hb
 go_enter Tryz.func101,Tryz.ntmps101
 go_wp2_with fail
 go_loopw [5] (fun vi wr =>∃i:Nat,i≤l.length∧vi=.int .i64 i∧Below w.heap.size w wr) (fun vi _=>l.length-(intOf vi).toNat)
 case atStart=>exact⟨0,Nat.zero_le _,rfl,Below.refl _ _⟩
 case round =>
  obtain⟨i,hi,rfl,hbr⟩:=hrel
  have hwz:=hbr.size
  by_cases hlt:i<l.length
  ·have hlt':decide (i<l.length)=true:=by simpa using hlt
   obtain⟨b5,o5,rfl,hb5,hc5⟩:=(HA.out.below hbr).get hlt
   obtain⟨b6,o6,rfl,hb6,hc6⟩:=(HB.out.below hbr).get hlt
   have x0:=hc5 0 _ rfl
   have x1:=hc5 1 _ rfl
   have y0:=hc6 0 _ rfl
   have y1:=hc6 1 _ rfl
   simp only[Nat.add_zero]at x0 x1 y0 y1
   have hk0:=aK (w:=wr) b5 omA
   have hk1:=aK (w:=wr) b6 omA
   obtain⟨y,hy⟩:∃y,l[i]=y:=⟨_,rfl⟩
   rw[hy]at x0 x1 y0 y1
   have heq:=IM (x:=y) (y:=y) (b:=true) spA
   clear hc5 hc6 hy
   go_upto_region 4 with (fail)
   refine ag krA krA ?_;(repeat(go_big_quiet_step (fail)));refine wpQuiet_nil ?_;intro wq hq
   clear hk0 hk1 x0 x1 y0 y1
   go_wp2_with fail
   go_roundw
   case rel=>exact⟨i+1,by omega,by go_num,ae hbr hq hwz⟩
   case measure=>exact meA
  ·have hlt':decide (i<l.length)=false:=by simpa using hlt
   obtain rfl:i=l.length:=by omega
   go_wp2_with fail
   go_ret
   exact⟨rfl,hbr⟩
theorem tF(A B:Option Addr)(c d n:Nat)(l:List Src)(w:World)(ha:ah w w.heap.size Src.cells 2 A l)(hb:ah w w.heap.size Src.cells 2 B l)(hln:l.length=n)(hn:n≤1000000):
 Calls Tryz.prog 57 #[.slice A n c,.slice B n d] w fun e w'=>e=.returned (.bool true)∧Below w.heap.size w w':=by
 have HC:=qh fun(u:World) (hu:Below w.heap.size w u)=>zg A B c d n l u (ha.next hu) (hb.next hu) hln hn
 clear ha hb
 go_enter Tryz.func57,Tryz.ntmps57
 go_wp2_with (go_at_call 101;(with_reducible refine(HC.out _ av).mono ?_);rintro e w1 ⟨rfl,hb1⟩;have hx1:Below w.heap.size w w1:=ae av hb1 leA)
 go_ret
 exact⟨rfl,hx1⟩
def nu(ts:List Tab)(x:aF)(s:Src)(day:Int):Bool:=(x.last&&dS (endE ts x) day)&&((x.table==s.tab)&&(x.record==s.seq))
theorem CZ(A:Option Addr)(c m:Nat)(ts:List Tab)(oo:Oth)(OA:Option Addr)(oc k:Nat)(o:List aF)(s:Src)(day:Int)(w:World)(ht:aM w w.heap.size A ts)(hm:ts.length=m)(hs:aL ts)(ho:bO w w.heap.size oo)(hso:cZ oo)(h16:fD oo)(hok:bT ts oo)
 (hO:ah w w.heap.size aF.cells 8 OA o) (hol:o.length=k) (hk:k≤1000000) {r:Bool}(hr:jq ts o day s=r):
 Calls Tryz.prog 105 #[.agg #[.slice A m c,.slice oo.vA 0 oo.vc,.slice oo.iA oo.idx.length oo.ic,.slice oo.sA oo.skt.length oo.sc,.slice oo.cA oo.cch.length oo.cc,.slice oo.rA oo.rel.length oo.rc,.slice oo.tA oo.str.length oo.tc,.slice oo.bA oo.bak.length oo.bc],.slice OA k oc,.agg #[.int .i64 s.tab,.int .i64 s.seq],.int .i64 day] w fun e w'=>e=.returned (.bool r)∧Below w.heap.size w w':=by
 subst hm hol hr
 have HKC:=qh fun(x:aF) (kk:Bool) (hkk:dS (endE ts x) day=kk) (u:World) (hu:Below w.heap.size w u)=>C8 A c ts.length ts oo x day u (ht.next hu) rfl hs (ho.next hu) hso h16 (r:=kk) (by rw[Av x hok];exact hkk)
 have HO:=qh hO
 clear ht hs ho hso h16 hok hO
 go_enter Tryz.func105,Tryz.ntmps105
 go_upto_region 2 with (fail)
 refine au (P:=fun u=>Code.wp _ _ _ _ u) (R:=fun u=>Blk u w.heap.size 39 #[.slice A ts.length c,.slice oo.vA 0 oo.vc,.slice oo.iA oo.idx.length oo.ic,.slice oo.sA oo.skt.length oo.sc,.slice oo.cA oo.cch.length oo.cc,.slice oo.rA oo.rel.length oo.rc,.slice oo.tA oo.str.length oo.tc,.slice oo.bA oo.bak.length oo.bc]∧Blk u (w.heap.size+1) 170 #[.int .i64 s.tab,.int .i64 s.seq]∧Below w.heap.size w u) ⟨?_,?_,?_⟩ ?_
 ·exact(Blk.new _ _ _).alloc _
 ·exact Blk.new' spA
 ·exact av
 rintro W ⟨hC,hS,hbW⟩
 have hzS:=hS.lt
 have HC:=qh hC
 have HS:=qh hS
 clear hC hS
 go_loopw [9] (fun vi wr =>∃i:Nat,i≤o.length∧vi=.int .i64 i∧Below W.heap.size W wr ∧ ∀j (h:j<o.length),j<i→nu ts o[j] s day=false) (fun vi _=>o.length-(intOf vi).toNat)
 case atStart=>exact⟨0,Nat.zero_le _,rfl,Below.refl _ _,fun j _ h=>by omega⟩
 case round =>
  obtain⟨i,hi,rfl,hbr,hno⟩:=hrel
  have HNO:=qh hno
  have hwz:=hbr.size
  have hxr:=ae hbW hbr hbW.size
  have hxz:=hxr.size
  clear hno
  by_cases hlt:i<o.length
  ·obtain⟨b5,o5,rfl,hb5,hc5⟩:=(HO.out.below hxr).get hlt
   obtain⟨y,hy⟩:∃y,o[i]=y:=⟨_,rfl⟩
   rw[hy]at hc5
   obtain⟨g0,g1,g2,g3,g4,g5,g6,g7⟩:=aF.iQ hc5
   obtain⟨p0,p1,p2,p3,p4,p5,p6,p7⟩:=Cat.bF (HC.out.below hbr omA)
   have hS:=HS.out.below hbr hzS
   have s0:=hS.cell 0
   have s1:=hS.cell 1
   simp only[gE3]at s0 s1
   have hkp:=aK (w:=wr) w.heap.size omA
   have hks:=aK (w:=wr) (w.heap.size+1) omA
   have hky:=aK (w:=wr) b5 omA
   have Re:(i:Int)<(o.length:Int):=by omega
   have HY:=qh hy
   clear hc5 hS hy
   cases e1:(y.table==s.tab)
   ·have HB0:Hid (nu ts y s day=false):=qh (by unfold nu;rw[e1];simp)
    go_upto_region 4 with (fail)
    refine ag krA krA ?_;(repeat(go_big_quiet_step (fail)));refine wpQuiet_nil ?_;intro wq hq
    clear hkp hks hky g0 g1 g2 g3 g4 g5 g6 g7 s0 s1 p0 p1 p2 p3 p4 p5 p6 p7
    go_wp2_with fail
    go_roundw
    case rel=>exact⟨i+1,by omega,by go_num,ae hbr hq hwz,fun j h hj=>by
     rcases Nat.lt_or_ge j i with h1|h1
     ·exact HNO.out j h h1
     ·obtain rfl:j=i:=by omega
      rw[HY.out]
      exact HB0.out⟩
    case measure=>exact meA
   cases e2:(y.record==s.seq)
   ·have HB0:Hid (nu ts y s day=false):=qh (by unfold nu;rw[e2];simp)
    go_upto_region 4 with (fail)
    refine ag krA krA ?_;(repeat(go_big_quiet_step (fail)));refine wpQuiet_nil ?_;intro wq hq
    clear hkp hks hky g0 g1 g2 g3 g4 g5 g6 g7 s0 s1 p0 p1 p2 p3 p4 p5 p6 p7
    go_wp2_with fail
    go_roundw
    case rel=>exact⟨i+1,by omega,by go_num,ae hbr hq hwz,fun j h hj=>by
     rcases Nat.lt_or_ge j i with h1|h1
     ·exact HNO.out j h h1
     ·obtain rfl:j=i:=by omega
      rw[HY.out]
      exact HB0.out⟩
    case measure=>exact meA
   cases e3:y.last
   ·have HB0:Hid (nu ts y s day=false):=qh (by unfold nu;rw[e3];simp)
    rw[e3]at g7
    go_upto_region 4 with (fail)
    refine ag krA krA ?_;(repeat(go_big_quiet_step (fail)));refine wpQuiet_nil ?_;intro wq hq
    clear hkp hks hky g0 g1 g2 g3 g4 g5 g6 g7 s0 s1 p0 p1 p2 p3 p4 p5 p6 p7
    go_wp2_with fail
    go_roundw
    case rel=>exact⟨i+1,by omega,by go_num,ae hbr hq hwz,fun j h hj=>by
     rcases Nat.lt_or_ge j i with h1|h1
     ·exact HNO.out j h h1
     ·obtain rfl:j=i:=by omega
      rw[HY.out]
      exact HB0.out⟩
    case measure=>exact meA
   rw[e3]at g7
   cases e4:dS (endE ts y) day
   ·have HB0:Hid (nu ts y s day=false):=qh (by unfold nu;rw[e4];simp)
    have hkc:=fun(u:World) (hu:Below wr.heap.size wr u)=>HKC.out y false e4 u (ae hxr hu hxz)
    rw[e3]at hkc
    have HKK:=qh hkc
    clear e4 hkc
    go_upto_region 4 with (fail)
    refine ag krA krA ?_;(repeat(go_big_quiet_step ((go_at_call 18;with_reducible exact bI (HKK.out _ (bG.h _))))));refine wpQuiet_nil ?_;intro wq hq
    clear hkp hks hky g0 g1 g2 g3 g4 g5 g6 g7 s0 s1 p0 p1 p2 p3 p4 p5 p6 p7
    go_wp2_with fail
    go_roundw
    case rel=>exact⟨i+1,by omega,by go_num,ae hbr hq hwz,fun j h hj=>by
     rcases Nat.lt_or_ge j i with h1|h1
     ·exact HNO.out j h h1
     ·obtain rfl:j=i:=by omega
      rw[HY.out]
      exact HB0.out⟩
    case measure=>exact meA
   ·have HIN:Hid (jq ts o day s=true):=qh (by
     unfold jq
     rw[List.any_eq_true]
     exact⟨y,by rw[←HY.out];exact lgm hlt,by rw[e1,e2,e3,e4];rfl⟩)
    have hkc:=fun(u:World) (hu:Below wr.heap.size wr u)=>HKC.out y true e4 u (ae hxr hu hxz)
    rw[e3]at hkc
    have HKK:=qh hkc
    clear e4 hkc
    go_upto_region 4 with (fail)
    refine ag krA krA ?_;(repeat(go_big_quiet_step ((go_at_call 18;with_reducible exact bI (HKK.out _ (bG.h _))))));refine wpQuiet_nil ?_;intro wq hq
    go_wp2_with fail
    go_ret
    exact⟨aC HIN.out.symm,ae hxr hq hxz⟩
  ·have hlt':decide (i<o.length)=false:=by simpa using hlt
   have HIN:Hid (jq ts o day s=false):=qh (by
    unfold jq
    rw[List.any_eq_false]
    intro x hx
    obtain⟨j,hj,rfl⟩:=List.getElem_of_mem hx
    have h:=HNO.out j hj omA
    unfold nu at h
    rw[h]
    simp)
   go_wp2_with fail
   go_ret
   exact⟨aC HIN.out.symm,hxr⟩
open Go.RowKit Go
def Ea(rt:List RTab)(s:Src):Int:=match (nJ rt s.tab.toNat).find? (fun r=>cB r==s.seq) with
 | some r=>r.day
 | none =>0
def oD(ts:List Tab)(rt:List RTab)(o:List aF)(day:Int)(s:Src):Bool:=decide (0<gU ts s.tab.toNat)&&(decide (Ea rt s+gU ts s.tab.toNat≤day) && !jq ts o day s)
theorem K3{ts:List Tab}{rt:List RTab}(hok:bX ts rt){i:Nat}(hi:i<rt.length){r:Rcd}(hr:r∈rt[i].recs):Ea rt (nX i r)=r.day:=by
 obtain⟨j,hj,rfl⟩:=List.getElem_of_mem hr
 have hits:i<ts.length:=by have:=hok.len;omega
 have hat:=((hok.tab i hi hits).at_ j hj).own
 have e:rt[i].recs.find? (fun r=>cB r==cB rt[i].recs[j])=some rt[i].recs[j]:=by
  rw[List.find?_eq_some_iff_getElem]
  exact⟨by simp,j,hj,rfl,fun m hm=>by simpa using hat m hm⟩
 unfold Ea nX
 simp only[Int.toNat_natCast]
 rw[qF hi,e]
theorem yH{ts:List Tab}{rt:List RTab}(o:List aF)(day:Int)(hok:bX ts rt):∀n,n≤rt.length→(ji rt n).filter (oD ts rt o day)=expE ts rt o day n
 | 0,_=>rfl
 | n + 1,hn=>by
   have hi:n<rt.length:=by omega
   have hits:n<ts.length:=by have:=hok.len;omega
   have hsh:=hok.cat.shape hits
   simp only[eD,aG,Bool.and_eq_true,decide_eq_true_eq]at hsh
   obtain⟨_,hr1,_⟩:=hsh
   rw[ji,List.filter_append,yH o day hok n omA,expE]
   congr 1
   have hret:gU ts n=ts[n].cK:=by unfold gU;rw[List.getElem?_eq_getElem hits]
   rw[List.filter_map]
   unfold Aj
   split
   ·rename_i h0
    rw[List.filter_eq_nil_iff.2,List.map_nil]
    intro r hr
    have e:(nX n r).tab.toNat=n:=by simp[nX]
    simp only[Function.comp,oD,e,h0]
    simp
   ·rename_i h0
    unfold sJ
    congr 1
    refine List.filter_congr fun r hr =>?_
    have e:(nX n r).tab.toNat=n:=by simp[nX]
    rw[qF hi]at hr
    have hp:decide (0<gU ts n)=true:=decide_eq_true (by rw[hret]at h0 ⊢;omega)
    simp only[Function.comp,oD,e,K3 hok hi hr,hp,Bool.true_and]
theorem D7{α:Type}(p:α→Bool){l:List α}{i:Nat}(hi:i<l.length):(l.take (i+1)).filter p=(l.take i).filter p++(if p l[i]=true then [l[i]] else []):=by
 rw[List.take_succ_eq_append_getElem hi,List.filter_append]
 congr 1
 by_cases h:p l[i]=true
 ·rw[if_pos h,List.filter_cons,if_pos h,List.filter_nil]
 ·rw[if_neg h,List.filter_cons,if_neg h,List.filter_nil]
theorem Pq {ts:List Tab} {rt:List RTab} (hok:bX ts rt) {s:Src} (h:s∈ji rt rt.length) :
 ∃ i r,∃ hi:i<rt.length,s.tab=(i:Int)∧r∈rt[i].recs∧s.seq=cB r∧rt[i].recs.find? (fun r=>cB r==s.seq)=some r∧VJ rt s=gu r ∧ 0<r.row.length:=by
 obtain ⟨i,r0,hi,hr,rfl⟩:=yN h
 rw [qF hi] at hr
 cases hf:rt[i].recs.find? (fun r=>cB r==cB r0) with
 | none =>
   rw [List.find?_eq_none] at hf
   exact absurd (by simp) (hf r0 hr)
 | some r =>
   have hm:=List.mem_of_find?_eq_some hf
   have hs:=List.find?_some hf
   have hits:i<ts.length:=by have:=hok.len;omega
   obtain ⟨j,hj,rfl⟩:=List.getElem_of_mem hm
   have hat:=((hok.tab i hi hits).at_ j hj).ok
   refine ⟨i,rt[i].recs[j],hi,rfl,hm,(by simpa using hs:cB rt[i].recs[j]=cB r0).symm,hf,?_,by rw [hat.len];exact (hok.cat.af hits).1⟩
   unfold VJ nX
   simp only [Int.toNat_natCast]
   rw [qF hi,hf]
theorem za(A:Option Addr)(c m:Nat)(ts:List Tab)(oo:Oth)(RA:Option Addr)(rc n:Nat)(rt:List RTab)(OA:Option Addr)(oc k:Nat)(o:List aF)(day:Int)(w:World)(ht:aM w w.heap.size A ts)(hm:ts.length=m)(hs:aL ts)(hok:bT ts oo)(ho:bO w w.heap.size oo)(hso:cZ oo)(h16:fD oo)(hR:aQ w w.heap.size RA rt)(hn:rt.length=n)(hsr:dQ rt)(hO:ah w w.heap.size aF.cells 8 OA o)(hol:o.length=k)(hk:k≤1000000):
 Calls Tryz.prog 58 #[.agg #[.slice A m c,.slice oo.vA 0 oo.vc,.slice oo.iA oo.idx.length oo.ic,.slice oo.sA oo.skt.length oo.sc,.slice oo.cA oo.cch.length oo.cc,.slice oo.rA oo.rel.length oo.rc,.slice oo.tA oo.str.length oo.tc,.slice oo.bA oo.bak.length oo.bc],.slice RA n rc,.slice OA k oc,.int .i64 day] w fun e w' =>
  (∃EA ec l,e=.returned (.slice EA l.length ec)∧ah w' w'.heap.size Src.cells 2 EA l∧l.Perm (iH ts rt o day)∧l.Pairwise (fun a b=>dK a b∨a=b))∧Below w.heap.size w w':=by
 subst hm hn hol
 obtain⟨i0,hi0,hy0,hy1,hy2⟩:=info_parts Bw
 have hcg:=fu.of (c:=c) ht hs ho hso h16 hok
 have h8:=hok.1.len
 obtain⟨rv,hrv⟩:∃b,pb (bX ts rt)=b:=⟨_,rfl⟩
 have yT:=qh fun(u:World) (hu:Below w.heap.size w u)=>vO A c ts.length ts RA rc rt.length rt u (ht.next hu) rfl hs hok.1 (hcg.next hu) (hR.next hu) rfl hsr hrv
 have Tm:=qh fun(s:Src) (kk:Bool) (hkk:jq ts o day s=kk) (u:World) (hu:Below w.heap.size w u)=>CZ A c ts.length ts oo OA oc o.length o s day u (ht.next hu) rfl hs (ho.next hu) hso h16 hok (hO.next hu) rfl hk hkk
 have HT:=qh ht.1
 have HR:=qh hR
 have HOK:=qh hok.1
 have HRV:=qh hrv
 clear ht hs hok ho hso h16 hR hsr hO hcg hrv
 go_enter Tryz.func58,Tryz.ntmps58
 go_upto_region 1 with (fail)
 refine au (P:=fun u=>Code.wp _ _ _ _ u) (R:=fun u=>Blk u w.heap.size 39 #[.slice A ts.length c,.slice oo.vA 0 oo.vc,.slice oo.iA oo.idx.length oo.ic,.slice oo.sA oo.skt.length oo.sc,.slice oo.cA oo.cch.length oo.cc,.slice oo.rA oo.rel.length oo.rc,.slice oo.tA oo.str.length oo.tc,.slice oo.bA oo.bak.length oo.bc]∧Below w.heap.size w u) ⟨?_,?_⟩ ?_
 ·exact Blk.new _ _ _
 ·exact av
 rintro W ⟨hB,hbW⟩
 have hzW:=hB.lt
 have HB:=qh hB
 obtain⟨p0,p1,p2,p3,p4,p5,p6,p7⟩:=Cat.bF hB
 clear hB
 cases rv
 ·go_wp2_with (go_at_call 102;(with_reducible refine(yT.out _ hbW).mono ?_);rintro e w1 ⟨rfl,hb1⟩)
  go_ret
  exact⟨⟨none,0,[],rfl,ah.nil,by unfold iH;rw[HRV.out];exact List.Perm.refl _,List.Pairwise.nil⟩,ae hbW hb1 hbW.size⟩
 ·have HVV:=qh (eF.1 HRV.out)
  go_wp2_with (first
   | (go_at_call 102;(with_reducible refine(yT.out _ hbW).mono ?_);rintro e w1 ⟨rfl,hb1⟩;have hx1:=ae hbW hb1 hbW.size;clear p0 p1 p2 p3 p4 p5 p6 p7)
   | (go_at_call 103;(with_reducible refine(yZ RA rc rt.length ts rt _ (HR.out.next hx1) rfl HVV.out).mono ?_);rintro e w2 ⟨⟨LA,lc,L,rfl,hLs,hLp,hLu⟩,hb2⟩))
  have hx2:=ae hx1 hb2 hx1.size
  have hz2':=hx2.size
  have hL6:L.length≤1000:=by
   rw[hLp.length_eq]
   have:=sS (rt:=rt) (fun i h=>(HVV.out.tab i h (by have:=HVV.out.len;omega)).len) rt.length
   have:rt.length≤8:=by rw[HVV.out.len];exact h8
   omega
  have HLS:=qh hLs
  have HLP:=qh hLp
  have HLU:=qh hLu
  have HB2:=qh (HB.out.below (ae hb1 hb2 hb1.size) hzW)
  have hzB:=HB2.out.lt
  clear hLs hLp hLu hb1
  go_loopw [9,11,12] (fun vo vi v12 wr =>∃i:Nat,i≤L.length∧vi=.int .i64 i∧aB wr w2.heap.size 170 Src.cells 2 vo ((L.take i).filter (oD ts rt o day))∧Below w2.heap.size w2 wr) (fun _ vi _ _=>L.length-(intOf vi).toNat)
  case atStart=>exact⟨0,Nat.zero_le _,rfl,aB.nil,Below.refl _ _⟩
  case round =>
   obtain⟨i,hi,rfl,hown,hbr⟩:=hrel
   have hwz:=hbr.size
   have hxr:=ae hx2 hbr hz2'
   have hxz:=hxr.size
   have hrow:=hown.row
   have HOWN:=qh hown
   clear hown
   by_cases hlt:i<L.length
   ·obtain⟨s,hs⟩:∃s,L[i]=s:=⟨_,rfl⟩
    have hmem:s∈ji rt rt.length:=by rw[←hs];exact HLP.out.mem_iff.1 (lgm hlt)
    obtain⟨kt,r,hkr,htab,hmr,hseq,hfind,_,_⟩:=Pq HVV.out hmem
    have Ky:kt<ts.length:=by have:=HVV.out.len;omega
    obtain⟨b5,o5,rfl,hb5,hc5⟩:=(HT.out.below hxr).get Ky
    obtain⟨_,_,_,t3⟩:=Tab.df hc5
    obtain⟨b6,o6,rfl,hb6,hc6⟩:=(HLS.out.below hbr).get hlt
    rw[hs]at hc6
    have s0:=hc6 0 _ rfl
    have s1:=hc6 1 _ rfl
    simp only[Nat.add_zero]at s0 s1
    rw[htab]at s0
    obtain⟨p0,p1,p2,p3,p4,p5,p6,p7⟩:=Cat.bF (HB2.out.below hbr hzB)
    have hsh:=HOK.out.shape Ky
    simp only[eD,aG,Bool.and_eq_true,decide_eq_true_eq]at hsh
    obtain⟨_,hr1,hr2⟩:=hsh
    obtain⟨ret,hret⟩:∃q,ts[kt].cK=q:=⟨_,rfl⟩
    rw[hret]at t3 hr1 hr2
    obtain⟨jr,hjr,hrj⟩:=List.getElem_of_mem hmr
    have DT:=((HVV.out.tab kt hkr Ky).at_ jr hjr).ok.day
    rw[hrj,aG,Bool.and_eq_true,decide_eq_true_iff,decide_eq_true_iff]at DT
    have hdo:Ea rt s=r.day:=by
     unfold Ea
     rw[htab,Int.toNat_natCast,qF hkr,hfind]
    have hra:gU ts s.tab.toNat=ret:=by
     rw[htab,Int.toNat_natCast,←hret]
     unfold gU
     rw[List.getElem?_eq_getElem Ky]
    have Ej:Hid (oD ts rt o day s=(decide (0<ret)&&(decide (r.day+ret≤day) && !jq ts o day s))):=qh (by unfold oD;rw[hdo,hra])
    have Li:=qh (D7 (oD ts rt o day) hlt)
    rw[hs]at Li
    obtain⟨rd,hrd⟩:∃q,r.day=q:=⟨_,rfl⟩
    rw[hrd]at Ej DT
    have HSE:=qh hs
    have oL:=qh fun(u:World) (hu:Below wr.heap.size wr u)=>AX RA rc rt.length ts rt kt s.seq r u (HR.out.next (ae hxr hu hxz)) rfl HVV.out hkr hfind
    rw[hrd]at oL
    have hfd:∀u,(Instr.field 126 (.agg #[.slice r.A r.row.length r.cap,.slice r.SA r.seq.length r.kg,.int .i64 rd]) 2).run Tryz.prog u=.ok (.int .i64 rd) u:=fun _=>by kernel_rfl
    have hkp:=aK (w:=wr) w.heap.size omA
    have hkl:=aK (w:=wr) b6 omA
    have hkt:=aK (w:=wr) b5 omA
    have Re:(i:Int)<(L.length:Int):=by omega
    have WE:(kt:Int)<(ts.length:Int):=by omega
    have QJ:((L.take i).filter (oD ts rt o day)).length≤1000:=Nat.le_trans (List.length_filter_le _ _) smA
    have HTB:=qh htab
    clear hc5 hc6 hs hmem htab hmr hseq hfind hret hrj hdo hra hrd
    go_upto_region 8 with (fail)
    refine ag krA krA ?_;(repeat(go_big_quiet_step (fail)));refine wpQuiet_nil ?_;intro wq hq
    have hbq:=ae hxr hq hxz
    have hqz:=hq.size
    replace s0:=(hq.cell (p:=⟨b6,_,none⟩) (show b6<wr.heap.size by omega)).trans s0
    replace s1:=(hq.cell (p:=⟨b6,_,none⟩) (show b6<wr.heap.size by omega)).trans s1
    clear hkp hkl hkt t3 p0 p1 p2 p3 p4 p5 p6 p7
    obtain⟨p0,p1,p2,p3,p4,p5,p6,p7⟩:=Cat.bF ((HB2.out.below hbr hzB).below hq omA)
    have hkp:=aK (w:=wq) w.heap.size omA
    have hkl:=aK (w:=wq) b6 omA
    have HRQ:=qh fun(u:World) (hu:Below wq.heap.size wq u)=>oL.out u (ae hq hu hqz)
    have hwr:IntKind.i64.wrap (rd+ret)=rd+ret:=IntWalk.i64_in _ omA
    cases e1:decide (0<ret)
    ·have HNO:Hid ((L.take (i+1)).filter (oD ts rt o day)=(L.take i).filter (oD ts rt o day)):=qh (by rw[Li.out,Ej.out,e1];simp)
     go_upto_region 9 with (fail)
     refine ag krA krA ?_;(repeat(go_big_quiet_step (fail)));refine wpQuiet_nil ?_;intro wq2 hq2
     have hq9:=ae hq hq2 hqz
     clear hkp hkl s0 s1 p0 p1 p2 p3 p4 p5 p6 p7
     go_wp2_with fail
     go_roundw
     case rel=>exact⟨i+1,by omega,by go_num,by rw[HNO.out];exact HOWN.out.below hq9 nlr,ae hbr hq9 hwz⟩
     case measure=>exact meA
    cases e2:decide (rd+ret≤day)
    ·have HNO:Hid ((L.take (i+1)).filter (oD ts rt o day)=(L.take i).filter (oD ts rt o day)):=qh (by rw[Li.out,Ej.out,e1,e2];simp)
     go_upto_region 9 with (fail)
     refine ag krA krA ?_;(repeat(go_big_quiet_step ((go_at_call 104;with_reducible exact bI (HRQ.out _ (bG.h _))))));refine wpQuiet_nil ?_;intro wq2 hq2
     have hq9:=ae hq hq2 hqz
     clear hkp hkl s0 s1 p0 p1 p2 p3 p4 p5 p6 p7
     go_wp2_with fail
     go_roundw
     case rel=>exact⟨i+1,by omega,by go_num,by rw[HNO.out];exact HOWN.out.below hq9 nlr,ae hbr hq9 hwz⟩
     case measure=>exact meA
    cases e3:jq ts o day s
    ·have iV:Hid ((L.take (i+1)).filter (oD ts rt o day)=(L.take i).filter (oD ts rt o day) ++ [s]):=qh (by rw[Li.out,Ej.out,e1,e2,e3];simp)
     have hbd:=fun(u:World) (hu:Below wq.heap.size wq u)=>Tm.out s false e3 u (ae hbq hu hbq.size)
     rw[HTB.out]at hbd
     have HBD:=qh hbd
     clear hbd e3
     go_upto_region 9 with (fail)
     refine ag krA krA ?_;(repeat(go_big_quiet_step ((first
      | (go_at_call 104;with_reducible exact bI (HRQ.out _ (bG.h _)))
      | (go_at_call 105;with_reducible exact bI (HBD.out _ (bG.h _)))))));refine wpQuiet_nil ?_;intro wq2 hq2
     have hq9:=ae hq hq2 hqz
     have hw9:=hq9.size
     have r0:=(hq2.cell (p:=⟨b6,_,none⟩) (show b6<wq.heap.size by omega)).trans s0
     have r1:=(hq2.cell (p:=⟨b6,_,none⟩) (show b6<wq.heap.size by omega)).trans s1
     have HO9:=qh (HOWN.out.below hq9 nlr)
     obtain⟨LL,hLL⟩:∃l,(L.take i).filter (oD ts rt o day)=l:=⟨_,rfl⟩
     have HLL:=qh hLL
     rw[hLL]at HO9 QJ
     have hsc:(⟨s.tab,s.seq⟩:Src)=s:=rfl
     have HSC:Hid ((Src.cells s).toArray=#[.int .i64 (kt:Int),.int .i64 s.seq]):=qh (by rw[←HTB.out];rfl)
     clear hkp hkl s0 s1 p0 p1 p2 p3 p4 p5 p6 p7 hLL hsc
     go_wp2_with (at_builtin;go_must (refine aJ _ rfl (.tmp 61) (.tmp 66) 129 rfl 170 i0 _ Src.cells 2 16 Tryz.underlying129 hi0 hy0 hy1 hy2 rfl omA dw fU w2.heap.size u9 LL rfl (HO9.out.alloc _) _ _ _ [s] rfl rfl (Blk.one (enc:=Src.cells) (x:=s) (by rw[HSC.out];exact Blk.new' rfl) spA) smA mxA smA ?_);intro v' w3 hown' hg' hat';have HOWN':=qh hown';clear hown';have hbel:Below w2.heap.size w2 w3:=Below.grown ((ae hbr hq9 hwz).alloc omA _) hg' smA hrow)
     go_roundw
     case rel=>exact⟨i+1,by omega,by go_num,by rw[iV.out,HLL.out];exact HOWN'.out,hbel⟩
     case measure=>exact meA
    ·have HNO:Hid ((L.take (i+1)).filter (oD ts rt o day)=(L.take i).filter (oD ts rt o day)):=qh (by rw[Li.out,Ej.out,e1,e2,e3];simp)
     have hbd:=fun(u:World) (hu:Below wq.heap.size wq u)=>Tm.out s true e3 u (ae hbq hu hbq.size)
     rw[HTB.out]at hbd
     have HBD:=qh hbd
     clear hbd e3
     go_upto_region 9 with (fail)
     refine ag krA krA ?_;(repeat(go_big_quiet_step ((first
      | (go_at_call 104;with_reducible exact bI (HRQ.out _ (bG.h _)))
      | (go_at_call 105;with_reducible exact bI (HBD.out _ (bG.h _)))))));refine wpQuiet_nil ?_;intro wq2 hq2
     have hq9:=ae hq hq2 hqz
     clear hkp hkl s0 s1 p0 p1 p2 p3 p4 p5 p6 p7
     go_wp2_with fail
     go_roundw
     case rel=>exact⟨i+1,by omega,by go_num,by rw[HNO.out];exact HOWN.out.below hq9 nlr,ae hbr hq9 hwz⟩
     case measure=>exact meA
   ·have hlt':decide (i<L.length)=false:=by simpa using hlt
    obtain rfl:i=L.length:=by omega
    have ho:=HOWN.out
    rw[List.take_length]at ho
    obtain⟨A9,c9,rfl,_,hs9,_⟩:=ho.slice dw
    have HS9:=qh hs9
    have HF:Hid ((L.filter (oD ts rt o day)).Perm (iH ts rt o day)):=qh (by
     unfold iH
     rw[HRV.out,if_pos rfl,←yH o day HVV.out rt.length nlr]
     exact HLP.out.filter _)
    obtain⟨LF,hLF⟩:∃l,L.filter (oD ts rt o day)=l:=⟨_,rfl⟩
    have HUF:Hid (LF.Pairwise (fun a b=>dK a b∨a=b)):=qh (by rw[←hLF];exact HLU.out.sublist List.filter_sublist)
    rw[hLF]at HS9 HF
    rw[hLF]
    clear hlt hs9 ho hLF
    go_wp2_with fail
    go_ret
    exact⟨⟨A9,c9,LF,rfl,HS9.out,HF.out,HUF.out⟩,hxr⟩
open Go.RowKit Go
structure zQ (w:World) (B:Nat) (A:Option Addr) (c n:Nat) (oo:Oth):Prop where
 prog:∀u,Below B w u→Calls Tryz.prog 48 #[.agg #[.slice A n c,.slice oo.vA 0 oo.vc,.slice oo.iA oo.idx.length oo.ic,.slice oo.sA oo.skt.length oo.sc,.slice oo.cA oo.cch.length oo.cc,.slice oo.rA oo.rel.length oo.rc,.slice oo.tA oo.str.length oo.tc,.slice oo.bA oo.bak.length oo.bc]] u fun e u'=>e=.returned (.bool false)∧Below u.heap.size u u'
 ref:∀u,Below B w u→Calls Tryz.prog 37 #[.agg #[.slice A n c,.slice oo.vA 0 oo.vc,.slice oo.iA oo.idx.length oo.ic,.slice oo.sA oo.skt.length oo.sc,.slice oo.cA oo.cch.length oo.cc,.slice oo.rA oo.rel.length oo.rc,.slice oo.tA oo.str.length oo.tc,.slice oo.bA oo.bak.length oo.bc]] u fun e u'=>e=.returned (.bool false)∧Below u.heap.size u u'
theorem zQ.next{w w':World}{A:Option Addr}{c n:Nat}{oo:Oth}(h:zQ w w.heap.size A c n oo)(hb:Below w.heap.size w w'):zQ w' w'.heap.size A c n oo:=
 ⟨fun u hu=>h.prog u (ae hb hu hb.size),fun u hu=>h.ref u (ae hb hu hb.size)⟩
theorem zQ.of{w:World}{A:Option Addr}{c:Nat}{ts:List Tab}{oo:Oth}(ht:aM w w.heap.size A ts)(hs:aL ts)(ho:bO w w.heap.size oo)(hso:cZ oo)(h16:fD oo)(hok:¬ bT ts oo):zQ w w.heap.size A c ts.length oo:=
 ⟨fun u hu=>(fu.no ht hs ho hso h16 hok u hu).1,fun u hu=>(fu.no ht hs ho hso h16 hok u hu).2⟩
theorem Ez(A:Option Addr)(c m:Nat)(oo:Oth)(RA:Option Addr)(rc n:Nat)(w:World)(hx:zQ w w.heap.size A c m oo):
 Calls Tryz.prog 92 #[.agg #[.slice A m c,.slice oo.vA 0 oo.vc,.slice oo.iA oo.idx.length oo.ic,.slice oo.sA oo.skt.length oo.sc,.slice oo.cA oo.cch.length oo.cc,.slice oo.rA oo.rel.length oo.rc,.slice oo.tA oo.str.length oo.tc,.slice oo.bA oo.bak.length oo.bc],.slice RA n rc] w fun e w'=>e=.returned (.bool false)∧Below w.heap.size w w':=by
 have HX:=qh hx
 clear hx
 go_enter_defers Tryz.func92,Tryz.ntmps92
 go_wp2_with (go_at_call 48;(with_reducible refine(HX.out.prog _ av).mono ?_);rintro e w1 ⟨rfl,hb1⟩;have hx1:Below w.heap.size w w1:=ae av hb1 leA)
 refine leaves_cons (f:= 145) (args:= #[]) spA (by simp[go_sem]) ?_;refine(rP _).mono ?_;rintro e u' w'' ⟨rfl,rfl,rfl⟩;refine⟨_,results_tmp rfl _ _ _,?_⟩
 exact⟨rfl,hx1⟩
theorem AZ(A:Option Addr)(c m:Nat)(oo:Oth)(RA:Option Addr)(rc n:Nat)(w:World)(hx:zQ w w.heap.size A c m oo):
 Calls Tryz.prog 102 #[.agg #[.slice A m c,.slice oo.vA 0 oo.vc,.slice oo.iA oo.idx.length oo.ic,.slice oo.sA oo.skt.length oo.sc,.slice oo.cA oo.cch.length oo.cc,.slice oo.rA oo.rel.length oo.rc,.slice oo.tA oo.str.length oo.tc,.slice oo.bA oo.bak.length oo.bc],.slice RA n rc] w fun e w'=>e=.returned (.bool false)∧Below w.heap.size w w':=by
 have HX:=qh hx
 clear hx
 go_enter Tryz.func102,Tryz.ntmps102
 go_wp2_with (go_at_call 37;(with_reducible refine(HX.out.ref _ av).mono ?_);rintro e w1 ⟨rfl,hb1⟩;have hx1:Below w.heap.size w w1:=ae av hb1 leA)
 go_ret
 exact⟨rfl,hx1⟩
theorem AU(A:Option Addr)(c m:Nat)(oo:Oth)(RA:Option Addr)(rc n:Nat)(OA:Option Addr)(oc k:Nat)(day:Int)(w:World)(hx:zQ w w.heap.size A c m oo):
 Calls Tryz.prog 54 #[.agg #[.slice A m c,.slice oo.vA 0 oo.vc,.slice oo.iA oo.idx.length oo.ic,.slice oo.sA oo.skt.length oo.sc,.slice oo.cA oo.cch.length oo.cc,.slice oo.rA oo.rel.length oo.rc,.slice oo.tA oo.str.length oo.tc,.slice oo.bA oo.bak.length oo.bc],.slice RA n rc,.slice OA k oc,.int .i64 day] w fun e w'=>e=.returned (.slice none 0 0)∧Below w.heap.size w w':=by
 have HV:=qh fun(u:World) (hu:Below w.heap.size w u)=>Ez A c m oo RA rc n u (hx.next hu)
 clear hx
 go_enter_defers Tryz.func54,Tryz.ntmps54
 go_wp2_with (go_at_call 92;(with_reducible refine(HV.out _ av).mono ?_);rintro e w1 ⟨rfl,hb1⟩;have hx1:Below w.heap.size w w1:=ae av hb1 leA)
 refine leaves_cons (f:= 91) (args:= #[]) spA (by simp[go_sem]) ?_;refine(ik _).mono ?_;rintro e u' w'' ⟨rfl,rfl,rfl⟩;refine⟨_,results_tmp rfl _ _ _,?_⟩
 exact⟨rfl,hx1⟩
theorem xq(A:Option Addr)(c m:Nat)(oo:Oth)(RA:Option Addr)(rc n:Nat)(OA:Option Addr)(oc k:Nat)(day:Int)(w:World)(hx:zQ w w.heap.size A c m oo):
 Calls Tryz.prog 58 #[.agg #[.slice A m c,.slice oo.vA 0 oo.vc,.slice oo.iA oo.idx.length oo.ic,.slice oo.sA oo.skt.length oo.sc,.slice oo.cA oo.cch.length oo.cc,.slice oo.rA oo.rel.length oo.rc,.slice oo.tA oo.str.length oo.tc,.slice oo.bA oo.bak.length oo.bc],.slice RA n rc,.slice OA k oc,.int .i64 day] w fun e w'=>e=.returned (.slice none 0 0)∧Below w.heap.size w w':=by
 have HV:=qh fun(u:World) (hu:Below w.heap.size w u)=>AZ A c m oo RA rc n u (hx.next hu)
 clear hx
 go_enter Tryz.func58,Tryz.ntmps58
 go_wp2_with (go_at_call 102;(with_reducible refine(HV.out _ av).mono ?_);rintro e w1 ⟨rfl,hb1⟩;have hx1:Below w.heap.size w w1:=ae av hb1 leA)
 go_ret
 exact⟨rfl,hx1⟩
theorem Hl(x:List Src):∃l:List Src,l.Perm x∧l.Pairwise (fun a b=>dK a b∨a=b):=by
 refine⟨x.mergeSort (fun a b=>pb (dK a b∨a=b)),List.mergeSort_perm _ _,?_⟩
 have h:=List.pairwise_mergeSort (le:=fun a b:Src=>pb (dK a b∨a=b)) (fun a b c h1 h2=>by
  rw[eF]at h1 h2 ⊢
  rcases h1 with h1|rfl
  ·rcases h2 with h2|rfl
   ·exact .inl (jo h1 h2)
   ·exact .inl h1
  ·exact h2) (fun a b=>by
  rw[Bool.or_eq_true,eF,eF]
  rcases uU a b with h|h|h
  ·exact .inl (.inl h)
  ·exact .inl (.inr h)
  ·exact .inr (.inl h)) x
 exact h.imp fun h=>eF.1 h
theorem IK{ts:List Tab}{rt:List RTab}(o:List aF)(day:Int):(iH ts rt o day).length≤1000000:=by
 unfold iH
 split
 ·rename_i h
  have hok:=eF.1 h
  have h1:=uy (ts:=ts) (rt:=rt) (o:=o) (day:=day) (fun i h=>(hok.tab i h (by have:=hok.len;omega)).len) rt.length
  have:=hok.len
  have:=hok.cat.len
  omega
 ·simp
theorem KX(A:Option Addr)(c:Nat)(ts:List Tab)(oo:Oth)(RA:Option Addr)(rc n:Nat)(rt:List RTab)(OA:Option Addr)(oc k:Nat)(o:List aF)(day:Int)(w:World)(ht:aM w w.heap.size A ts)(hs:aL ts)(ho:bO w w.heap.size oo)(hso:cZ oo)(h16:fD oo)(hR:aQ w w.heap.size RA rt)(hn:rt.length=n)(hsr:dQ rt)(hO:ah w w.heap.size aF.cells 8 OA o)(hol:o.length=k)(hk:k≤1000000)(hrec:∀x∈o,0≤x.record∧x.record≤1073741824):
 ∃l:List Src,l.length≤1000000∧(∀u,Below w.heap.size w u→Calls Tryz.prog 54 #[.agg #[.slice A ts.length c,.slice oo.vA 0 oo.vc,.slice oo.iA oo.idx.length oo.ic,.slice oo.sA oo.skt.length oo.sc,.slice oo.cA oo.cch.length oo.cc,.slice oo.rA oo.rel.length oo.rc,.slice oo.tA oo.str.length oo.tc,.slice oo.bA oo.bak.length oo.bc],.slice RA n rc,.slice OA k oc,.int .i64 day] u fun e u'=>(∃EA ec,e=.returned (.slice EA l.length ec)∧ah u' u'.heap.size Src.cells 2 EA l)∧Below u.heap.size u u') ∧
  (∀u,Below w.heap.size w u→Calls Tryz.prog 58 #[.agg #[.slice A ts.length c,.slice oo.vA 0 oo.vc,.slice oo.iA oo.idx.length oo.ic,.slice oo.sA oo.skt.length oo.sc,.slice oo.cA oo.cch.length oo.cc,.slice oo.rA oo.rel.length oo.rc,.slice oo.tA oo.str.length oo.tc,.slice oo.bA oo.bak.length oo.bc],.slice RA n rc,.slice OA k oc,.int .i64 day] u fun e u'=>(∃EA ec,e=.returned (.slice EA l.length ec)∧ah u' u'.heap.size Src.cells 2 EA l)∧Below u.heap.size u u'):=by
 by_cases hok:bT ts oo
 ·obtain⟨l,hl1,hl2⟩:=Hl (iH ts rt o day)
  have hcg:=fu.of (c:=c) ht hs ho hso h16 hok
  refine⟨l,by rw[hl1.length_eq];exact IK o day,fun u hu=>(vM A c ts.length ts RA rc n rt OA oc k o day u (ht.next hu) rfl hs hok.1 (hcg.next hu) (hR.next hu) hn hsr (hO.next hu) hol hk hrec).mono ?_,fun u hu=>(za A c ts.length ts oo RA rc n rt OA oc k o day u (ht.next hu) rfl hs hok (ho.next hu) hso h16 (hR.next hu) hn hsr (hO.next hu) hol hk).mono ?_⟩
  ·rintro e u' ⟨⟨EA,ec,l',rfl,hs',_,hp,hq⟩,hb⟩
   obtain rfl:=rY (hp.trans hl1.symm) hq hl2
   exact⟨⟨EA,ec,rfl,hs'⟩,hb⟩
  ·rintro e u' ⟨⟨EA,ec,l',rfl,hs',hp,hq⟩,hb⟩
   obtain rfl:=rY (hp.trans hl1.symm) hq hl2
   exact⟨⟨EA,ec,rfl,hs'⟩,hb⟩
 ·have hx:=zQ.of (c:=c) ht hs ho hso h16 hok
  refine⟨[],Nat.zero_le _,fun u hu=>(AU A c ts.length oo RA rc n OA oc k day u (hx.next hu)).mono ?_,fun u hu=>(xq A c ts.length oo RA rc n OA oc k day u (hx.next hu)).mono ?_⟩
  ·rintro e u' ⟨rfl,hb⟩
   exact⟨⟨none,0,rfl,ah.nil⟩,hb⟩
  ·rintro e u' ⟨rfl,hb⟩
   exact⟨⟨none,0,rfl,ah.nil⟩,hb⟩
theorem rO(A:Option Addr)(c m:Nat)(ts:List Tab)(oo:Oth)(RA:Option Addr)(rc n:Nat)(rt:List RTab)(OA:Option Addr)(oc k:Nat)(o:List aF)(day:Int)(w:World)(ht:aM w w.heap.size A ts)(hm:ts.length=m)(hs:aL ts)(ho:bO w w.heap.size oo)(hso:cZ oo)(h16:fD oo)(hR:aQ w w.heap.size RA rt)(hn:rt.length=n)(hsr:dQ rt)(hO:ah w w.heap.size aF.cells 8 OA o)(hol:o.length=k)(hk:k≤1000000)(hrec:∀x∈o,0≤x.record∧x.record≤1073741824):
 Calls Tryz.prog 21 #[.agg #[.slice A m c,.slice oo.vA 0 oo.vc,.slice oo.iA oo.idx.length oo.ic,.slice oo.sA oo.skt.length oo.sc,.slice oo.cA oo.cch.length oo.cc,.slice oo.rA oo.rel.length oo.rc,.slice oo.tA oo.str.length oo.tc,.slice oo.bA oo.bak.length oo.bc],.slice RA n rc,.slice OA k oc,.int .i64 day] w fun e w'=>e=.returned (.bool true)∧Below w.heap.size w w':=by
 subst hm
 obtain⟨l,hl6,hp,hq⟩:=KX A c ts oo RA rc n rt OA oc k o day w ht hs ho hso h16 hR hn hsr hO hol hk hrec
 have HP:=qh hp
 have HQ:=qh hq
 clear ht hs ho hso h16 hR hn hsr hO hol hk hrec hp hq
 go_enter Tryz.func21,Tryz.ntmps21
 go_upto_region 1 with (fail)
 refine au (P:=fun u=>Code.wp _ _ _ _ u) (R:=fun u=>Blk u w.heap.size 39 #[.slice A ts.length c,.slice oo.vA 0 oo.vc,.slice oo.iA oo.idx.length oo.ic,.slice oo.sA oo.skt.length oo.sc,.slice oo.cA oo.cch.length oo.cc,.slice oo.rA oo.rel.length oo.rc,.slice oo.tA oo.str.length oo.tc,.slice oo.bA oo.bak.length oo.bc]∧Below w.heap.size w u) ⟨?_,?_⟩ ?_
 ·exact Blk.new _ _ _
 ·exact av
 rintro W ⟨hB,hbW⟩
 have hzW:=hB.lt
 have HB:=qh hB
 have hdr:Below W.heap.size W W.drew:=brf.drew
 clear hB
 refine wp_region_held_drew (S:=fun u=>u.cell? ⟨w.heap.size,0,none⟩=some (.slice A ts.length c)∧u.cell? ⟨w.heap.size,1,none⟩=some (.slice oo.vA 0 oo.vc)∧u.cell? ⟨w.heap.size,2,none⟩=some (.slice oo.iA oo.idx.length oo.ic)∧u.cell? ⟨w.heap.size,3,none⟩=some (.slice oo.sA oo.skt.length oo.sc)∧u.cell? ⟨w.heap.size,4,none⟩=some (.slice oo.cA oo.cch.length oo.cc)∧u.cell? ⟨w.heap.size,5,none⟩=some (.slice oo.rA oo.rel.length oo.rc)∧u.cell? ⟨w.heap.size,6,none⟩=some (.slice oo.tA oo.str.length oo.tc)∧u.cell? ⟨w.heap.size,7,none⟩=some (.slice oo.bA oo.bak.length oo.bc)) krA (Cat.bF HB.out) (fun hHeld =>?_)
 refine tkH 0 hHeld ?_
 refine tkH 1 hHeld ?_
 refine tkH 2 hHeld ?_
 refine tkH 3 hHeld ?_
 refine tkH 5 hHeld ?_
 refine tkH 6 hHeld ?_
 refine tkH 7 hHeld ?_
 refine tkH 8 hHeld ?_
 refine wpAnyH_ready (rs:= [4]) krA spA ?_
 refine AllReadyH.cons rfl (fun K hK =>?_) AllReadyH.nil
 go_simp
 (go_at_call 54;(with_reducible refine(HP.out _ (ae hbW hdr hbW.size)).mono ?_))
 rintro e w1 ⟨⟨EA,ec,rfl,hs1⟩,hb1⟩
 have hx1:=ae hdr hb1 nlr
 have hC1:=HB.out.below hx1 hzW
 have hy1:=ae hbW hx1 hbW.size
 have HS1:=qh hs1
 clear hs1 hb1
 go_wp2_with fail
 refine hK.out _ _ (Cat.bF hC1) (fun hHeld =>?_)
 clear hK K
 (try simp only[Act.put,gP6])
 refine wpAnyH_ready (rs:= [9]) krA spA ?_
 refine AllReadyH.cons rfl (fun K hK =>?_) AllReadyH.nil
 go_simp
 (go_at_call 58;(with_reducible refine(HQ.out _ hy1).mono ?_))
 rintro e w2 ⟨⟨FA,fc,rfl,hs2⟩,hb2⟩
 have hx2:=ae hx1 hb2 hx1.size
 have hC2:=HB.out.below hx2 hzW
 have U9:=qh (HS1.out.next hb2)
 have HS2:=qh hs2
 clear hs2 hb2 hC1
 go_wp2_with fail
 refine hK.out _ _ (Cat.bF hC2) (fun hHeld =>?_)
 clear hK K
 (try simp only[Act.put,gP6])
 refine wpAnyH_ready (rs:= [10]) krA spA ?_
 refine AllReadyH.cons rfl (fun K hK =>?_) AllReadyH.nil
 go_simp
 (go_at_call 57;(with_reducible refine(tF EA FA ec fc l.length l _ U9.out HS2.out rfl hl6).mono ?_))
 rintro e w3 ⟨rfl,hb3⟩
 have hx3:=ae hx2 hb3 hx2.size
 have hC3:=HB.out.below hx3 hzW
 clear hb3 hC2
 go_wp2_with fail
 refine hK.out _ _ (Cat.bF hC3) (fun hHeld =>?_)
 clear hK K
 (try simp only[Act.put,gP6])
 refine tkH 11 hHeld ?_
 refine wpAnyH_done krA ?_ _
 clear hHeld hC3
 go_wp2_with fail
 go_ret
 exact⟨rfl,ae hbW hx3 hbW.size⟩
theorem iM(A:Option Addr)(c m:Nat)(ts:List Tab)(RA:Option Addr)(rc n:Nat)(rt:List RTab)(OA:Option Addr)(oc k:Nat)(o:List aF)(day:Int)(w:World)(ht:aM w w.heap.size A ts)(hm:ts.length=m)(hs:aL ts)(hR:aQ w w.heap.size RA rt)(hn:rt.length=n)(hsr:dQ rt)(hO:ah w w.heap.size aF.cells 8 OA o)(hol:o.length=k)(hk:k≤1000000)(hrec:∀x∈o,0≤x.record∧x.record≤1073741824):
 Calls Tryz.prog 21 #[.agg #[.slice A m c,.slice none 0 0,.slice none 0 0,.slice none 0 0,.slice none 0 0,.slice none 0 0,.slice none 0 0,.slice none 0 0],.slice RA n rc,.slice OA k oc,.int .i64 day] w fun e w'=>e=.returned (.bool true)∧Below w.heap.size w w':=
 rO A c m ts Oth.nil RA rc n rt OA oc k o day w ht hm hs (bO.nil _ _) cZ.nil fD.nil hR hn hsr hO hol hk hrec
end Go.Proofs.YtebippoohpnjkaaGreat
