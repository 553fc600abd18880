/-
  For every list of numbers the law RedactOthers returns true: records and cells that are not named do not change, and named ones are gone. No condition.
-/
import Derived.Test.YtjhnpnhpmdkpcaaGreatA68
import Derived.Test.YtjhnpnhpmdkpcaaGreatA58
import Derived.Test.YtjhnpnhpmdkpcaaGreatA61
import Derived.Test.YtjhnpnhpmdkpcaaGreatA67
import Derived.Test.YtjhnpnhpmdkpcaaGreatA29
import Derived.Test.YtjhnpnhpmdkpcaaGreatA52
import Derived.Test.YtjhnpnhpmdkpcaaGreatA16
import Derived.Test.YtjhnpnhpmdkpcaaGreatA2
import Derived.Test.YtjhnpnhpmdkpcaaGreatA55
import Derived.Test.YtjhnpnhpmdkpcaaGreatA27
import Derived.Test.YtjhnpnhpmdkpcaaGreatA65
import Derived.Test.YtjhnpnhpmdkpcaaGreatRows
import Derived.WalkKit
import Derived.ProofKit
import Derived.OpenShut
import Derived.ShutString
import Derived.ChangeOld
import Derived.Below
import Derived.SizedLaws
set_option linter.unusedVariables false
set_option linter.unusedSimpArgs false
set_option maxRecDepth 100000
set_option maxHeartbeats 16000000
namespace Go.Proofs.YtjhnpnhpmdkpcaaGreat
open Go.RowKit Go
theorem SrcsIn.keyK {l:List Src} (h:SrcsIn l) : ∀ s∈l,∃ kl,Go.keyOf Tryz.prog 51 (srcK s)=some kl:=fun s hs=>by
 have:=h s hs
 exact srcK_key (by omega) (by omega)
theorem VnsIn.keyV {l:List Vn} (h:VnsIn l) : ∀ s∈l,∃ kl,Go.keyOf Tryz.prog 56 (vnV s)=some kl:=fun s hs=>h.key hs
theorem hist_rok {ts:List Tab} {rt:List RTab} {l:List Chg} {n:Nat} (hok:CatOk ts) (hpu:rt.map pureT=replayE ts l) (hh:HistIs ts n l):RTabsOk ts rt:=by
 obtain ⟨⟨pl,hc⟩,_,_⟩:=hh
 refine POk.back hok ?_
 rw [hpu,hc.replay]
 exact hc.ok
theorem hist_ord {ts:List Tab} {l:List Chg} {n:Nat} (hok:CatOk ts) (hh:HistIs ts n l) (hl:l.length ≤ 1024):OrdOk ts l:=by
 obtain ⟨⟨pl,hc⟩,_,hp⟩:=hh
 exact chain_ord hok hc hp hl
theorem ord_cells {ts:List Tab} {l:List Chg} (h:OrdOk ts l) : ∀ x∈l,(-1≤x.table∧x.table ≤ 1000) ∧ 0≤x.seq∧x.seq ≤ 1073741824:=fun x hx=>by
 have h1:=h.fol x hx
 obtain ⟨k,hk,hkl⟩:=h1.tab
 have h8:=h.cat.len
 have h2:=h1.seq
 omega
theorem rok_small {ts:List Tab} {rt:List RTab} (h:RTabsOk ts rt):rt.length ≤ 8∧(∀ t∈rt,t.recs.length ≤ 64)∧(∀ t∈rt,∀ r∈t.recs,r.seq.length ≤ 8) ∧ ∀ t∈rt,∀ r∈t.recs,∀ s∈r.seq,(1:Int)≤s∧s ≤ 1073741824:=by
 have h8:=h.cat.len
 have hl:=h.len
 refine ⟨by omega,fun t ht => ?_,fun t ht r hr => ?_,fun t ht r hr=>(rok_cells h t ht r hr).2.2⟩
 all_goals
  obtain ⟨i,hi,rfl⟩:=List.getElem_of_mem ht
  have hi':i<ts.length:=by omega
  have hc:=h.cat.cols hi'
  have hp:=h.pure.tab i (by simpa using hi) hi'
  rw [List.getElem_map] at hp
 ·have h1:(pureT rt[i]).length ≤ 64:=hp.len
  have h2:(pureT rt[i]).length=rt[i].recs.length:=by simp [pureT]
  omega
 ·have h1:r.seq.length=ts[i].cols.length:=(hp.rcd (pureR r) (List.mem_map_of_mem hr)).slen
  omega
def cntP (s:List Src) (i:Nat) (recs:List Rcd) (j:Nat):Nat:=(((recs.map pureR).take j).filter (stays s i)).length
theorem red_at {v:List Vn} {s:List Src} {rt rt':List RTab} (hp:rt'.map pureT=redE v s (rt.map pureT)) {i:Nat} (hi:i<rt.length) (hi':i<rt'.length):rt'[i].recs.map pureR=redT v s i (rt[i].recs.map pureR):=by
 have h1:(rt'.map pureT)[i]'(by simpa using hi')=(redE v s (rt.map pureT))[i]'(by rw [redE_len];simpa using hi):=by simp only [hp]
 rw [redE_get v s _ (by simpa using hi),List.getElem_map,List.getElem_map] at h1
 exact h1
theorem red_rec {v:List Vn} {s:List Src} {i j:Nat} {recs yrecs:List Rcd} (h:yrecs.map pureR=redT v s i (recs.map pureR)) (hj:j<recs.length) (hst:stays s i (pureR recs[j])=true) : ∃ hn:cntP s i recs j<yrecs.length,pureR yrecs[cntP s i recs j]=redR v i (pureR recs[j]):=by
 have hj':j<(recs.map pureR).length:=by simpa using hj
 have hl:yrecs.length=((recs.map pureR).filter (stays s i)).length:=by
  have h1:=congrArg List.length h
  unfold redT at h1
  simpa using h1
 obtain ⟨h1,h2⟩:=filter_at (p:=stays s i) hj' (by rw [List.getElem_map];exact hst)
 have hn:cntP s i recs j<yrecs.length:=by rw [hl];exact h1
 refine ⟨hn,?_⟩
 have h3:(yrecs.map pureR)[cntP s i recs j]'(by simpa using hn)=(redT v s i (recs.map pureR))[cntP s i recs j]'(by unfold redT;rw [List.length_map];exact h1):=by simp only [h]
 rw [List.getElem_map] at h3
 rw [h3]
 unfold redT
 rw [List.getElem_map]
 show redR v i (((recs.map pureR).filter (stays s i))[cntP s i recs j]'h1)=_
 unfold cntP
 rw [h2,List.getElem_map]
theorem cnt_next {s:List Src} {i j:Nat} {recs:List Rcd} (hj:j<recs.length):cntP s i recs (j + 1)=cntP s i recs j+(if stays s i (pureR recs[j])=true then 1 else 0):=by
 have hj':j<(recs.map pureR).length:=by simpa using hj
 unfold cntP
 rw [filter_next hj',List.getElem_map]
theorem cnt_all {v:List Vn} {s:List Src} {i:Nat} {recs yrecs:List Rcd} (h:yrecs.map pureR=redT v s i (recs.map pureR)):cntP s i recs recs.length=yrecs.length:=by
 have h1:=congrArg List.length h
 unfold redT at h1
 unfold cntP
 rw [List.take_of_length_le (by simp)]
 simpa using h1.symm
theorem oth_walk (A:Option Addr) (c:Nat) (t:List Int) (w:World) (hl:SliceIs w w.heap.size intCells 1 A t) (hn:t.length * 8 ≤ 140737488351232) :
 Calls Tryz.prog 3 #[.slice A t.length c] w fun e w'=>e = .returned (.bool true)∧Below w.heap.size w w':=by
 go_enter Tryz.func3,Tryz.ntmps3
 have HL0:=qh hl
 clear hl
 go_wp2_with fail
 refine (tape_New A c t _ HL0.out hn).mono ?_
 rintro e w1 ⟨⟨g,b,rfl,hg1,hb1,hk1⟩,hx1⟩
 have HK1:=qh hk1
 have hgl1:=hk1.ltg
 clear hk1 HL0
 go_wp2_with fail
 refine (tape_Tables g b 3 _ HK1.out (by omega) (by omega)).mono ?_
 rintro e w2 ⟨CA,cc,ts,rfl,ht2,hu2,hbd2,hs2,hok2,h02,hl32,hk2,hg2⟩
 have HK2:=qh hk2
 have HT2:=qh ht2
 have HU:=qh hu2
 have HS:=qh hs2
 have HOK:=qh hok2
 have hx2:Below w.heap.size w w2:=Below.grown hx1 hg2 hx1.size (fun q e=>by injection e with e;omega)
 have hz2:=hg2.size
 clear hk2 ht2 hu2 hbd2 hs2 hok2 hg2 HK1
 go_upto_region 3 with (fail)
 refine abs_world (P:=fun u=>Code.wp _ _ _ _ u) (R:=fun u=>Blk u w2.heap.size 34 #[.slice CA ts.length cc, .slice none 0 0, .slice none 0 0, .slice none 0 0, .slice none 0 0, .slice none 0 0, .slice none 0 0, .slice none 0 0]∧Below w2.heap.size w2 u) ⟨?_,?_⟩ ?_
 ·exact Blk.new' rfl
 ·exact belA
 rintro W ⟨hC,hbW⟩
 have HC:=qh hC
 have hzC:=hC.lt
 have HKW:=qh (HK2.out.below hbW)
 have hxW:Below w.heap.size w W:=below_nextN hx2 hbW hx2.size
 have HTW:=qh (HT2.out.next hbW)
 have hgW:g<W.heap.size:=HKW.out.ltg
 obtain ⟨p0,p1,p2,p3,p4,p5,p6,p7⟩:=Cat.blk hC
 clear hC HK2 HT2
 go_upto_region 4 with (go_at_call 9;(refine (tape_HistoryC g b w1.heap.size 8 CA cc ts.length ts _ HKW.out hgl1 HTW.out HU.out rfl HS.out HOK.out h02 (by omega)).mono ?_);rintro e u1 ⟨LA,lc,l,rfl,hll,hoc,hk3,hg3,hhist⟩;have hzg4:=hg3.size;have HC1:=qh (HC.out.grown hg3 (fun e=>by injection e with e;omega));have HT1:=qh (HTW.out.grown HU.out hgl1 hg3);have hx4:Below w.heap.size w u1:=Below.grown hxW hg3 hxW.size (fun q e=>by injection e with e;omega);have HK3:=qh hk3;have HOC1:=qh hoc;have HHIST:=qh hhist;have HL8:Hid (∀ x∈l,x.row.length ≤ 1000000):=qh (fun x hx=>Nat.le_trans (hoc.len x hx) (by omega));clear hk3 hg3 hoc hhist p0 p1 p2 p3 p4 p5 p6 p7;obtain ⟨p0,p1,p2,p3,p4,p5,p6,p7⟩:=Cat.blk HC1.out)
 have HORD:=qh (hist_ord HOK.out HHIST.out (by omega))
 go_upto_region 5 with (go_at_call 10;(with_reducible refine (ref07_Replay0 CA cc ts.length ts LA lc l.length l _ HT1.out rfl HS.out HOK.out HOC1.out.read rfl (by omega) HL8.out).mono ?_);rintro e u2 ⟨⟨RA,rc,rt,rfl,hrl,hrt,hru,hsh,hpu⟩,hb2⟩)
 have hz2':=hb2.size
 have HC2:=qh (HC1.out.below hb2 HC1.out.lt)
 have HT2:=qh (HT1.out.next hb2)
 have HK4:=qh (HK3.out.below hb2)
 have HOC2:=qh (HOC1.out.below hb2)
 have HRT2:=qh hrt
 have HCH:Hid (SliceIs u2 u2.heap.size Chg.cells 12 LA l):=qh HOC2.out.read.1
 have HRU:Hid (RUp W.heap.size RA rt):=qh (hru.mono hzg4)
 have HRL:=qh hrl
 have HROK:=qh (hist_rok HOK.out hpu HHIST.out)
 have HSM:=qh (rok_small HROK.out)
 have hx5:Below w.heap.size w u2:=below_nextN hx4 hb2 hx4.size
 have HLU:Hid (∀ a,LA=some a→W.heap.size≤a.block):=qh (own_up HOC1.out.own)
 clear hrt hru hsh hpu hb2 hrl HT1 HK3 HOC1 HC1 HC HTW HKW p0 p1 p2 p3 p4 p5 p6 p7
 go_upto_region 6 with (first
  | (go_at_call 11;go_must ((with_reducible refine (tape_Cells g b W.heap.size RA rc ts.length rt LA lc l.length l _ HK4.out hgW HRT2.out HRU.out HRL.out HSM.out.1 HSM.out.2.1 HSM.out.2.2.1 HSM.out.2.2.2 HCH.out HLU.out rfl (by omega) (ord_cells HORD.out)).mono ?_);rintro e u3 ⟨vv,v,rfl,hvo,hvi,hvl,hk5,hg5⟩;obtain ⟨VA,vc,rfl,_,hvs,hva⟩:=hvo.slice vn_len;have HK5:=qh hk5;have HC3:=qh (HC2.out.grown hg5 (fun e=>by injection e with e;omega));have HT3:=qh (HT2.out.grown HU.out hgl1 hg5);have HRT3:=qh (HRT2.out.grown HRU.out hgW hg5);have hx6:Below w.heap.size w u3:=Below.grown hx5 hg5 hx5.size (fun q e=>by injection e with e;omega);have HVO:=qh hvo;have HVI:=qh hvi;clear hk5 hvi hvo))
  | (go_at_call 12;go_must ((with_reducible refine (tape_Sources g b W.heap.size RA rc ts.length rt _ HK5.out hgW HRT3.out HRU.out HRL.out HSM.out.1 HSM.out.2.1 HSM.out.2.2.2).mono ?_);rintro e u4 ⟨sv,s,rfl,hso,hsi,hsl,hk6,hg6⟩;obtain ⟨GA,gc,rfl,_,hss,hsa⟩:=hso.slice src_len;have HC4:=qh (HC3.out.grown hg6 (fun e=>by injection e with e;omega));have HT4:=qh (HT3.out.grown HU.out hgl1 hg6);have HRT4:=qh (HRT3.out.grown HRU.out hgW hg6);have hx7:Below w.heap.size w u4:=Below.grown hx6 hg6 hx6.size (fun q e=>by injection e with e;omega);have HV4:=qh (own_read vn_len (HVO.out.kept hg6 (fun q hq e=>by injection e with e;have:=HVO.out.row q hq;have:=hz2';omega)));have HSS:=qh hss;have HSI:=qh hsi;clear hk6 hsi hso hss)))
 obtain ⟨p0,p1,p2,p3,p4,p5,p6,p7⟩:=Cat.blk HC4.out
 go_upto_region 7 with (go_at_call 13;go_must ((with_reducible refine (red_TablesZ CA cc ts.length ts RA rc ts.length rt VA vc v.length v GA gc s.length s _ HT4.out rfl HS.out HRT4.out HRL.out HROK.out HV4.out rfl (by omega) HVI.out.keyV HSS.out rfl (by omega) HSI.out.keyK).mono ?_);rintro e w5 ⟨⟨q,rt',rfl,hq,hl5,hry,hok5,hp5⟩,hb5⟩))
 have hx8:Below w.heap.size w w5:=below_nextN hx7 hb5 hx7.size
 have hz8:=hx8.size
 have HRX:=qh (HRT4.out.next hb5)
 have HRY:=qh hry
 have HV5:=qh (HV4.out.next hb5)
 have HS5:=qh (HSS.out.next hb5)
 have HP5:=qh hp5
 have HL5:=qh hl5
 have HROK5:=qh hok5
 have hts:=HOK.out.len
 clear hry hp5 hl5 hok5 hq hb5 p0 p1 p2 p3 p4 p5 p6 p7 HC2 HC3 HC4 HT2 HT3 HT4 HRT2 HRT3 HRT4 HK4 HK5 HV4 HSS HVO HOC2 HCH
 go_upto_region 10 with (fail)
 go_loopw [10] (fun vi wr => ∃ i:Nat,i≤ts.length∧vi = .int .i64 i∧Below w5.heap.size w5 wr) (fun vi _=>ts.length - (intOf vi).toNat)
 case atStart=>exact ⟨0,Nat.zero_le _,rfl,Below.refl _ _⟩
 case round =>
  obtain ⟨i,hi,rfl,hbr⟩:=hrel
  have hzr:=hbr.size
  by_cases hlt:i<ts.length
  rotate_left
  ·have hlt':decide (i<ts.length)=false:=by simpa using hlt
   have hlti:decide ((i:Int)<(ts.length:Int))=false:=by simp;omega
   go_wp2_with (go_at_call 16;(with_reducible refine (law21_awake _).mono ?_);rintro e w9 ⟨rfl,hb9⟩)
   go_ret
   exact ⟨rfl,below_nextN (hx8.trans (hbr.mono hz8)) hb9 (by omega)⟩
  have hlt':decide (i<ts.length)=true:=by simpa using hlt
  have hlti:decide ((i:Int)<(ts.length:Int))=true:=by simp;omega
  have hltx:i<rt.length:=by rw [HRL.out];exact hlt
  have hlty:i<rt'.length:=by rw [HL5.out];exact hlt
  have HEQ:=qh (red_at HP5.out hltx hlty)
  have HCELL:=qh (rok_cells HROK.out rt[i] (lgm hltx))
  have h64:=HSM.out.2.1 rt[i] (lgm hltx)
  have HSL:=qh (HSM.out.2.2.1 rt[i] (lgm hltx))
  have h64y:=(rok_small HROK5.out).2.1 rt'[i] (lgm hlty)
  obtain ⟨bx,ox,rfl,hbx,hcx⟩:=HRX.out.1.get hltx
  obtain ⟨by_,oy,hAy,hby,hcy⟩:=HRY.out.1.get hlty
  injection hAy with hAy
  injection hAy with e1 e2
  subst e1 e2
  have cx:=hcx 0 _ rfl
  have cy:=hcy 0 _ rfl
  have hRi:=HRX.out.2 rt[i] (lgm hltx)
  have hYi:=HRY.out.2 rt'[i] (lgm hlty)
  obtain ⟨⟨TA,tc,recs⟩,hx⟩ : ∃ x:RTab,rt[i]=x:=⟨_,rfl⟩
  obtain ⟨⟨YA,yc,yrecs⟩,hy⟩ : ∃ x:RTab,rt'[i]=x:=⟨_,rfl⟩
  rw [hx] at cx hRi HEQ h64 HSL HCELL
  rw [hy] at cy hYi HEQ h64y
  simp only [Nat.mul_one,Nat.add_zero,Nat.zero_add] at cx cy hRi hYi HEQ h64 h64y HSL HCELL
  have HRi:=qh hRi
  have HYi:=qh hYi
  have HCX:=qh cx
  have HCY:=qh cy
  clear hx hy hcx hcy hRi hYi cx cy
  go_upto_region 14 with (fail)
  have hbr0:=hbr
  clear hbr hzr
  go_loopw [11,12] (fun vn vj wr => ∃ j:Nat,j≤recs.length∧vj = .int .i64 j∧vn = .int .i64 (cntP s i recs j)∧Below w5.heap.size w5 wr) (fun _ vj _=>recs.length - (intOf vj).toNat)
  case atStart=>exact ⟨0,Nat.zero_le _,rfl,rfl,hbr0⟩
  case round =>
   clear hbr0
   obtain ⟨j,hj,rfl,rfl,hbr⟩:=hrel
   have hzr:=hbr.size
   have cx:=(hbr.cell (p:=⟨bx,ox+i,none⟩) hbx).trans HCX.out
   have cy:=(hbr.cell (p:=⟨q,i,none⟩) hby).trans HCY.out
   by_cases hjl:j<recs.length
   rotate_left
   ·have hjl':decide (j<recs.length)=false:=by simpa using hjl
    have hjli:decide ((j:Int)<(recs.length:Int))=false:=by simp;omega
    obtain rfl:j=recs.length:=by omega
    have hcn:=cnt_all HEQ.out
    rw [hcn]
    go_wp2_with fail
    go_roundw
    case rel=>exact ⟨i + 1,by omega,by go_num,hbr⟩
    case measure=>exact meA
   have hjl':decide (j<recs.length)=true:=by simpa using hjl
   have hjli:decide ((j:Int)<(recs.length:Int))=true:=by simp;omega
   have HCN:=qh (cnt_next (s:=s) (i:=i) hjl)
   have HREC:=qh (fun h=>red_rec (i:=i) HEQ.out hjl h)
   obtain ⟨n,hnE⟩ : ∃ n,cntP s i recs j=n:=⟨_,rfl⟩
   rw [hnE] at HCN
   have HNE:=qh hnE
   rw [hnE]
   clear hnE
   obtain ⟨b3,o3,rfl,hb3,hc3⟩:=HRi.out.1.get hjl
   have d0:=(hbr.cell (p:=⟨b3,o3+j * 3,none⟩) hb3).trans (hc3 0 _ rfl)
   have d1:=(hbr.cell (p:=⟨b3,o3+j * 3 + 1,none⟩) hb3).trans (hc3 1 _ rfl)
   have d2:=(hbr.cell (p:=⟨b3,o3+j * 3 + 2,none⟩) hb3).trans (hc3 2 _ rfl)
   have hri:=HRi.out.2 recs[j] (lgm hjl)
   have hcl:=HCELL.out recs[j] (lgm hjl)
   have hsl8:=HSL.out recs[j] (lgm hjl)
   obtain ⟨⟨RA2,rc2,row,SA,sc,sq,dy⟩,hyE⟩ : ∃ x:Rcd,recs[j]=x:=⟨_,rfl⟩
   rw [hyE] at d0 d1 d2 hri hcl hsl8 HREC HCN
   simp only at d0 d1 d2 hri hcl hsl8
   obtain ⟨h0r,hrs,hsb⟩:=hcl
   have hs0 : 0<sq.length:=by omega
   have HRS:=qh hrs
   clear hrs
   have hs0':decide (0<sq.length)=true:=by simpa using hs0
   have hs0i:decide ((0:Int)<(sq.length:Int))=true:=by simp;omega
   have HRI:=qh hri
   obtain ⟨sb,so,rfl,hsbb,hsc⟩:=hri.2.get hs0
   have HSC:=qh (hsc 0 _ rfl)
   obtain ⟨z0,hz0⟩ : ∃ z,sq[0]=z:=⟨_,rfl⟩
   obtain ⟨st,hst⟩ : ∃ st,decide ((⟨(i:Int),z0⟩:Src)∈s)=st:=⟨_,rfl⟩
   have HST:Hid (stays s i (pureR ⟨RA2,rc2,row,some ⟨sb,so,none⟩,sc,sq,dy⟩) = !st):=qh (by
    have e1:sq.headD 0=z0:=by rw [← hz0];cases sq with
     | nil=>simp at hs0
     | cons a t=>rfl
    show (!decide ((⟨(i:Int),sq.headD 0⟩:Src)∈s))=_
    rw [e1,hst])
   have HDS:=qh hst
   rw [hz0] at HSC
   clear hc3 hyE hri hsc hz0 hst
   go_upto_region 17 with (fail)
   obtain ⟨X,hXe⟩ : ∃ X,wr.heap.size=X:=⟨_,rfl⟩
   have HXE:=qh hXe
   rw [hXe]
   refine abs_world (P:=fun u=>Code.wp _ _ _ _ u) (R:=fun u=>Blk u X 48 #[.slice RA2 row.length rc2, .slice (some ⟨sb,so,none⟩) sq.length sc, .int .i64 dy]∧Below wr.heap.size wr u) ⟨?_,?_⟩ ?_
   ·exact Blk.new' hXe
   ·exact belA
   have hXw:w5.heap.size≤X:=by omega
   clear hXe d0 d1 d2 cx
   rintro W9 ⟨hB9,hb9⟩
   have hx9:=below_nextN hbr hb9 hzr
   have hz9:=hx9.size
   have hXz:=hB9.lt
   have HB9:=qh hB9
   have e1:=hB9.cell 1
   simp only [gE3] at e1
   have s0:=(hx9.cell (p:=⟨sb,so,none⟩) hsbb).trans (by have h:=HSC.out;simp only [Nat.zero_mul,Nat.add_zero] at h;exact h)
   clear hB9 cy
   cases st with
   | true =>
     go_wp2_with (go_at_call 14;go_must ((with_reducible refine (ref15_Has GA gc s.length s ⟨i,z0⟩ _ (HS5.out.next hx9) rfl (by omega) HDS.out).mono ?_);rintro e u9 ⟨rfl,hb10⟩))
     go_roundw
     case rel=>exact ⟨j + 1,by omega,by go_num,by rw [HCN.out,HST.out];simp,below_nextN hx9 hb10 hz9⟩
     case measure=>exact meA
   | false =>
     go_upto_region 18 with (go_at_call 14;go_must ((with_reducible refine (ref15_Has GA gc s.length s ⟨i,z0⟩ _ (HS5.out.next hx9) rfl (by omega) HDS.out).mono ?_);rintro e u9 ⟨rfl,hb10⟩))
     obtain ⟨hn',hpr⟩:=HREC.out (by rw [HST.out];rfl)
     have hcE:=HNE.out
     obtain ⟨hnl,hpr2⟩ : ∃ hnl:n<yrecs.length,pureR yrecs[n]=redR v i (pureR ⟨RA2,rc2,row,some ⟨sb,so,none⟩,sc,sq,dy⟩):=by subst hcE;exact ⟨hn',hpr⟩
     clear hn' hpr hcE
     have hx10:=below_nextN hx9 hb10 hz9
     have hz10:=hx10.size
     obtain ⟨b4,o4,rfl,hb4,hc4⟩:=HYi.out.1.get hnl
     have e0:=(hx10.cell (p:=⟨b4,o4+n * 3,none⟩) hb4).trans (hc4 0 _ rfl)
     have hyi:=(HYi.out.2 yrecs[n] (lgm hnl)).1
     obtain ⟨⟨YR,yrc,yrow,YS,ysc,ysq,ydy⟩,hyE⟩ : ∃ x:Rcd,yrecs[n]=x:=⟨_,rfl⟩
     rw [hyE] at e0 hyi hpr2
     simp only at e0 hyi
     have hyr:yrow=redRow v i row sq:=congrArg Prod.fst hpr2
     have hyl:yrow.length=row.length:=by rw [hyr,redRow_len]
     rw [hyl] at e0
     have HYL:=qh hyl
     have HYR:=qh hyr
     have HYI:=qh hyi
     have HE0:=qh (hc4 0 _ rfl)
     rw [hyE] at HE0
     simp only at HE0
     rw [hyl] at HE0
     have cy:=(hx10.cell (p:=⟨q,i,none⟩) hby).trans HCY.out
     have hX10:X<u9.heap.size:=by have:=hb10.size;omega
     have r0:=(HB9.out.below hb10 hXz).cell 0
     simp only [gE3] at r0
     have hk0:=keepQ (w:=u9) q (by omega)
     have hk1:=keepQ (w:=u9) b4 (by omega)
     have hk2:=keepQ (w:=u9) X hX10
     have hnl':decide (n<yrecs.length)=true:=by simpa using hnl
     have hnli:decide ((n:Int)<(yrecs.length:Int))=true:=by simp;omega
     have hge:decide ((yrecs.length:Int)≤(n:Int))=false:=by simp;omega
     have hge':decide (yrecs.length≤n)=false:=by simp;omega
     have HB10:=qh (HB9.out.below hb10 hXz)
     clear hyE hyl hyr hyi hpr2 hc4 e1 s0 HB9 hb9 hb10
     refine wp_region_bel (by kernel_rfl) (by kernel_rfl) ?_;(repeat (go_big_quiet_step (fail)));refine wpQuiet_nil ?_;intro wq hq
     clear hk0 hk1 hk2 r0 e0 cy
     have hxq:=below_nextN hx10 hq hz10
     have HBQ:=qh (HB10.out.below hq hX10)
     have hzq:=hxq.size
     have hXq:X<wq.heap.size:=by have:=hq.size;omega
     have HCN2:Hid (cntP s i recs (j + 1)=n + 1):=qh (by rw [HCN.out,HST.out];rfl)
     clear HB10 hq hx10 hX10 hz10 hx9 hz9 hXz hbr hzr HCN hge hge'
     go_upto_region 21 with (fail)
     go_loopw [14] (fun vm wr => ∃ m:Nat,m≤row.length∧vm = .int .i64 m∧Below wq.heap.size wq wr) (fun vm _=>row.length - (intOf vm).toNat)
     case atStart=>exact ⟨0,Nat.zero_le _,rfl,Below.refl _ _⟩
     case round =>
      obtain ⟨m,hm,rfl,hbm⟩:=hrel
      have hzm:=hbm.size
      have hxm:=below_nextN hxq hbm hzq
      have r0:=(HBQ.out.below hbm hXq).cell 0
      simp only [gE3] at r0
      by_cases hml:m<row.length
      rotate_left
      ·have hml':decide (m<row.length)=false:=by simpa using hml
       have hmli:decide ((m:Int)<(row.length:Int))=false:=by simp;omega
       go_wp2_with fail
       go_roundw
       case rel=>exact ⟨j + 1,by omega,by go_num,by rw [HCN2.out];go_num,hxm⟩
       case measure=>exact meA
      have hml':decide (m<row.length)=true:=by simpa using hml
      have hmli:decide ((m:Int)<(row.length:Int))=true:=by simp;omega
      have hms:m<sq.length:=by rw [← HRS.out];exact hml
      obtain ⟨b5,o5,rfl,hb5,hc5⟩:=HRI.out.1.get hml
      obtain ⟨rv,hrv⟩ : ∃ x,row[m]=x:=⟨_,rfl⟩
      have v0:=(hxm.cell (p:=⟨b5,o5+m * 3,none⟩) hb5).trans (hc5 0 _ rfl)
      have v1:=(hxm.cell (p:=⟨b5,o5+m * 3 + 1,none⟩) hb5).trans (hc5 1 _ rfl)
      have v2:=(hxm.cell (p:=⟨b5,o5+m * 3 + 2,none⟩) hb5).trans (hc5 2 _ rfl)
      rw [hrv] at v0 v1 v2
      have HRV:=qh hrv
      clear hrv hc5
      go_upto_region 24 with (fail)
      obtain ⟨Y,hYe⟩ : ∃ Y,wr.heap.size=Y:=⟨_,rfl⟩
      have HYE:=qh hYe
      rw [hYe]
      refine abs_world (P:=fun u=>Code.wp _ _ _ _ u) (R:=fun u=>Blk u Y 53 #[.int .i64 rv.kind, .int .i64 rv.num, .string rv.text]∧Below wr.heap.size wr u) ⟨?_,?_⟩ ?_
      ·exact Blk.new' hYe
      ·exact belA
      have hYw:wq.heap.size≤Y:=by omega
      clear hYe v0 v1 v2 r0
      rintro V ⟨hY,hbV⟩
      have hYl:=hY.lt
      have hqV:=below_nextN hbm hbV hzm
      have hxV:=below_nextN hxm hbV hxm.size
      have hzV:=hxV.size
      have HYV:=qh hY
      have r1:=(HBQ.out.below hqV hXq).cell 1
      simp only [gE3] at r1
      clear hY
      by_cases hm0:m = 0
      ·subst hm0
       have HYM:Hid (∀ h : 0<yrow.length,yrow[0]=rv):=qh fun h=>by
        have h1:=HYR.out
        subst h1
        rw [redRow_at hml hms]
        exact HRV.out
       have hg0:decide ((0:Int)<(row.length:Int))=true:=by simp;omega
       go_upto_region 26 with (fail)
       have hmy : 0<yrow.length:=by rw [HYL.out];exact hml
       obtain ⟨b6,o6,rfl,hb6,hc6⟩:=HYI.out.get hmy
       have f0:=(hxV.cell (p:=⟨b6,o6 + 0 * 3,none⟩) hb6).trans (hc6 0 _ rfl)
       have f1:=(hxV.cell (p:=⟨b6,o6 + 0 * 3 + 1,none⟩) hb6).trans (hc6 1 _ rfl)
       have f2:=(hxV.cell (p:=⟨b6,o6 + 0 * 3 + 2,none⟩) hb6).trans (hc6 2 _ rfl)
       rw [HYM.out hmy] at f0 f1 f2
       have cy:=(hxV.cell (p:=⟨q,i,none⟩) hby).trans HCY.out
       have e0:=(hxV.cell (p:=⟨b4,o4+n * 3,none⟩) hb4).trans HE0.out
       have y0:=HYV.out.cell 0
       have y1:=HYV.out.cell 1
       have y2:=HYV.out.cell 2
       simp only [gE3] at y0 y1 y2
       have heq:=eqlVal_of (x:=rv) (y:=rv) (b:=true) (by simp)
       have hgt:Tryz.prog.eqGuardType Tryz.prog.depth 53=false:=by kernel_rfl
       have hk0:=keepQ (w:=V) q (by omega)
       have hk1:=keepQ (w:=V) b4 (by omega)
       have hk2:=keepQ (w:=V) b6 (by omega)
       have hk3:=keepQ (w:=V) Y hYl
       clear hc6
       (try simp only [Nat.zero_mul,Nat.add_zero,Nat.zero_add] at f0 f1 f2)
       refine wp_region_bel (by kernel_rfl) (by kernel_rfl) ?_;(repeat (go_big_quiet_step (fail)));refine wpQuiet_nil ?_;intro wq hq
       clear hk0 hk1 hk2 hk3 f0 f1 f2 cy e0 y0 y1 y2 heq
       go_wp2_with fail
       go_roundw
       case rel=>exact ⟨0 + 1,by omega,by go_num,below_nextN hqV hq (by have:=hqV.size;omega)⟩
       case measure=>exact meA
      ·have hma:decide ((0:Int)<(m:Int))=true:=by simp;omega
       have hmb:decide (0<m)=true:=by simp;omega
       have hmsi:decide (m<sq.length)=true:=by simpa using hms
       have hmsj:decide ((m:Int)<(sq.length:Int))=true:=by simp;omega
       obtain ⟨b7,o7,he7,hb7,hc7⟩:=HRI.out.2.get hms
       injection he7 with he7
       injection he7 with he8 he9
       subst he8 he9
       obtain ⟨zm,hzmE⟩ : ∃ z,sq[m]=z:=⟨_,rfl⟩
       have sm:=(hxV.cell (p:=⟨sb,so+m,none⟩) hb7).trans (by have h:=hc7 0 _ rfl;simp only [Nat.mul_one,Nat.add_zero] at h;exact h)
       rw [hzmE] at sm
       obtain ⟨r,hr⟩ : ∃ r,decide ((⟨(i:Int),(m:Int),zm⟩:Vn)∈v)=r:=⟨_,rfl⟩
       have HR:=qh hr
       have HYM:Hid (∀ h:m<yrow.length,yrow[m]=if r=true then ⟨0,0,⟨#[]⟩⟩ else rv):=qh fun h=>by
        have h1:=HYR.out
        subst h1
        rw [redRow_at hml hms,hzmE,hr,hmb,Bool.true_and,HRV.out]
       clear hr hzmE hc7
       cases r with
       | false =>
         replace HYM:Hid (∀ h:m<yrow.length,yrow[m]=rv):=qh fun h=>by rw [HYM.out h];rfl
         go_upto_region 26 with (go_at_call 15;go_must ((with_reducible refine (ref17_Has VA vc v.length v ⟨i,m,zm⟩ _ (HV5.out.next hxV) rfl (by omega) HR.out).mono ?_);rintro e U ⟨rfl,hbU⟩))
         have hqU:=below_nextN hqV hbU (by have:=hqV.size;omega)
         have hxU:=below_nextN hxV hbU hzV
         replace HYV:=qh (HYV.out.below hbU hYl)
         have hYl2:=HYV.out.lt
         clear hxV hqV hzV r1 sm hYl
         have hxV:=hxU
         have hqV:=hqU
         have hzV:=hxV.size
         have hYl:=hYl2
         have hmy:m<yrow.length:=by rw [HYL.out];exact hml
         obtain ⟨b6,o6,rfl,hb6,hc6⟩:=HYI.out.get hmy
         have f0:=(hxV.cell (p:=⟨b6,o6+m * 3,none⟩) hb6).trans (hc6 0 _ rfl)
         have f1:=(hxV.cell (p:=⟨b6,o6+m * 3 + 1,none⟩) hb6).trans (hc6 1 _ rfl)
         have f2:=(hxV.cell (p:=⟨b6,o6+m * 3 + 2,none⟩) hb6).trans (hc6 2 _ rfl)
         rw [HYM.out hmy] at f0 f1 f2
         have cy:=(hxV.cell (p:=⟨q,i,none⟩) hby).trans HCY.out
         have e0:=(hxV.cell (p:=⟨b4,o4+n * 3,none⟩) hb4).trans HE0.out
         have y0:=HYV.out.cell 0
         have y1:=HYV.out.cell 1
         have y2:=HYV.out.cell 2
         simp only [gE3] at y0 y1 y2
         have heq:=eqlVal_of (x:=rv) (y:=rv) (b:=true) (by simp)
         have hgt:Tryz.prog.eqGuardType Tryz.prog.depth 53=false:=by kernel_rfl
         have hk0:=keepQ (w:=U) q (by omega)
         have hk1:=keepQ (w:=U) b4 (by omega)
         have hk2:=keepQ (w:=U) b6 (by omega)
         have hk3:=keepQ (w:=U) Y hYl
         clear hc6
         (try simp only [Nat.zero_mul,Nat.add_zero,Nat.zero_add] at f0 f1 f2)
         refine wp_region_bel (by kernel_rfl) (by kernel_rfl) ?_;(repeat (go_big_quiet_step (fail)));refine wpQuiet_nil ?_;intro wq hq
         clear hk0 hk1 hk2 hk3 f0 f1 f2 cy e0 y0 y1 y2 heq
         go_wp2_with fail
         go_roundw
         case rel=>exact ⟨m + 1,by omega,by go_num,below_nextN hqV hq (by have:=hqV.size;omega)⟩
         case measure=>exact meA
       | true =>
         replace HYM:Hid (∀ h:m<yrow.length,yrow[m]=⟨0,0,⟨#[]⟩⟩):=qh fun h=>by rw [HYM.out h];rfl
         go_upto_region 25 with (go_at_call 15;go_must ((with_reducible refine (ref17_Has VA vc v.length v ⟨i,m,zm⟩ _ (HV5.out.next hxV) rfl (by omega) HR.out).mono ?_);rintro e U ⟨rfl,hbU⟩))
         have hqU:=below_nextN hqV hbU (by have:=hqV.size;omega)
         have HYU:=qh (HYV.out.below hbU hYl)
         have y0:=HYU.out.cell 0
         have y1:=HYU.out.cell 1
         have y2:=HYU.out.cell 2
         have yf:=fun j=>HYU.out.frozen j
         have hYU:=HYU.out.lt
         simp only [gE3] at y0 y1 y2
         go_upto_region 26 with (fail)
         refine abs_world (P:=fun u=>Code.wp _ _ _ _ u) (R:=fun u=>Blk u Y 53 #[.int .i64 0, .int .i64 0, .string ⟨#[]⟩]∧Below wq.heap.size wq u) ⟨blk_put3 HYU.out,((hqU.setCell hYw _).setCell hYw _).setCell hYw _⟩ ?_
         clear y0 y1 y2 yf hYU HYU hqU hbU HYV hYl hxV hqV hzV r1 sm hbV
         rintro Z ⟨hY,hqV⟩
         have hYl:=hY.lt
         have HYV:=qh hY
         have hxV:=below_nextN hxq hqV hzq
         have hzV:=hxV.size
         clear hY
         have hmy:m<yrow.length:=by rw [HYL.out];exact hml
         obtain ⟨b6,o6,rfl,hb6,hc6⟩:=HYI.out.get hmy
         have f0:=(hxV.cell (p:=⟨b6,o6+m * 3,none⟩) hb6).trans (hc6 0 _ rfl)
         have f1:=(hxV.cell (p:=⟨b6,o6+m * 3 + 1,none⟩) hb6).trans (hc6 1 _ rfl)
         have f2:=(hxV.cell (p:=⟨b6,o6+m * 3 + 2,none⟩) hb6).trans (hc6 2 _ rfl)
         rw [HYM.out hmy] at f0 f1 f2
         have cy:=(hxV.cell (p:=⟨q,i,none⟩) hby).trans HCY.out
         have e0:=(hxV.cell (p:=⟨b4,o4+n * 3,none⟩) hb4).trans HE0.out
         have y0:=HYV.out.cell 0
         have y1:=HYV.out.cell 1
         have y2:=HYV.out.cell 2
         simp only [gE3] at y0 y1 y2
         have heq:=eqlVal_of (x:=⟨0,0,⟨#[]⟩⟩) (y:=⟨0,0,⟨#[]⟩⟩) (b:=true) (by simp)
         have hgt:Tryz.prog.eqGuardType Tryz.prog.depth 53=false:=by kernel_rfl
         have hk0:=keepQ (w:=Z) q (by omega)
         have hk1:=keepQ (w:=Z) b4 (by omega)
         have hk2:=keepQ (w:=Z) b6 (by omega)
         have hk3:=keepQ (w:=Z) Y hYl
         clear hc6
         (try simp only [Nat.zero_mul,Nat.add_zero,Nat.zero_add] at f0 f1 f2)
         refine wp_region_bel (by kernel_rfl) (by kernel_rfl) ?_;(repeat (go_big_quiet_step (fail)));refine wpQuiet_nil ?_;intro wq hq
         clear hk0 hk1 hk2 hk3 f0 f1 f2 cy e0 y0 y1 y2 heq
         go_wp2_with fail
         go_roundw
         case rel=>exact ⟨m + 1,by omega,by go_num,below_nextN hqV hq (by have:=hqV.size;omega)⟩
         case measure=>exact meA
end Go.Proofs.YtjhnpnhpmdkpcaaGreat
namespace Go.Proofs.YtjhnpnhpmdkpcaaGreat.redactOthers
open Go.ChangeShapes Go.WideShapes Go.ChangeAt Go.RowKit
theorem own:ownKnob Tryz.prog.godebug=none:=by kernel_rfl
theorem laidOut:laidOutB Tryz.prog=true:=by kernel_rfl
theorem bytesInt:Tryz.prog.bytesOf 3 = 8:=by kernel_rfl
theorem lifted (os:Os) (started:os.Started) (H:Type) (enc:TypeId × Value→H) :
 ReturnsInHanded {} Tryz.checked os 3 .any (Rows.redactOthersSpec.pre6 enc Tryz.prog Tryz.f3 Rows.redactOthersRow.domain false) (Rows.redactOthersSpec.post enc Tryz.prog Tryz.f3 false true false false):=by
 refine returnsInHanded_of_change_sized (C:=Tryz.checked) own started (by kernel_rfl) Tryz.func3
  (ChangeSpec.witness6 (enc:=enc) (C:=Tryz.checked) false ⟨#[],#[.slice none 0 0],[]⟩ 8 (by kernel_rfl) (by kernel_rfl) (by kernel_rfl) (by kernel_rfl)) ?_
 intro W base args ds gs before hval0 hW hcnd hsz0 _
 have hval : ∀ (j:Nat) t v,Tryz.f3.params[j]? = some t→args[j]? = some v→Value.okWide Tryz.prog W .any base t v:=hval0
 have hsz:(DataW.weightsEach Tryz.prog (Tryz.f3.params.toList++Rows.redactOthersSpec.plain.varTypes Tryz.prog) (ds++gs)).all (· ≤ reachBytes)=true:=hsz0
 have hW':=hW
 obtain ⟨p,q,hA0,hV,rfl,hfz,hnd⟩:=hW
 have hA:DataW.TrodAll enc Tryz.prog W 0 (fun _=>true) true Tryz.f3.params.toList args.toList ds p:=hA0
 rw [Tryz.params3] at hA hval hsz
 obtain ⟨v0,vs0,d0,ds0,p0,q0,hargs,rfl,rfl,h0,r0⟩:=trodAll_cons hA
 obtain ⟨rfl,rfl,rfl⟩:=trodAll_nil r0
 obtain rfl:args = #[v0]:=by cases args;simp_all
 obtain ⟨rfl,rfl⟩:=trodVars_none hV
 obtain ⟨a0,len0,cap0,rfl⟩:=okWide_slice Tryz.underlying22 (hval 0 22 v0 rfl rfl)
 have k0:=h0
 have lt0 : ∀ x∈p0,x.block<W.heap.size:=by obtain ⟨m,hm⟩:=k0;exact DataW.trod_lt m _ _ _ hm
 obtain ⟨t,htl,hts,ht8⟩ : ∃ t:List Int,t.length=len0∧SliceIs W W.heap.size intCells 1 a0 t∧t.length * 8 ≤ 140737488351232:=by
  obtain ⟨fuel,hf⟩:=h0
  rcases open_ints Tryz.underlying22 Tryz.underlying3 (by kernel_rfl) hf with ⟨hcs,_⟩|⟨x,l,c,zs,hcs,_,hl,hm,hz,hx,hcell,hwz⟩
  ·simp [Value.cells] at hcs
   obtain ⟨rfl,rfl,rfl⟩:=hcs
   exact ⟨[],rfl,SliceIs.nil,by simp⟩
  ·simp [Value.cells] at hcs
   obtain ⟨rfl,rfl,rfl⟩:=hcs
   simp only [Prod.mk.injEq] at hx
   obtain ⟨rfl,_⟩:=hx
   have hs:=sized_slice hsz (j := 0) (t := 22) (e := 3) rfl rfl Tryz.underlying22
   rw [bytesInt] at hs
   simp only [lits,List.length_map,List.length_take,List.length_drop,reachBytes] at hs
   have hzl:zs.length=cap0:=by simpa using hz
   refine ⟨zs.take len0,by simp;omega,fun h => ?_,by simp;omega⟩
   have h1 : 0<zs.length:=by simp at h;omega
   obtain ⟨xb,xo,xs⟩:=x
   have hc0:=hcell 0 h1
   have hsp:xs=none:=by
    cases xs with
    | none=>rfl
    | some y =>
      simp only [Addr.add,World.cell?,Option.isSome_some,if_true] at hc0
      split at hc0 <;> simp at hc0
   subst hsp
   have hlt:xb<W.heap.size:=by
    rcases Nat.lt_or_ge xb W.heap.size with h|h
    ·exact h
    ·simp [Addr.add,World.cell?,Array.getElem?_eq_none h] at hc0
   refine ⟨xb,xo,rfl,hlt,fun i hi j u hu => ?_⟩
   have hj:j = 0:=by have:=(List.getElem?_eq_some_iff.1 hu).1;simp [intCells] at this;omega
   subst hj
   have hil:i<zs.length:=by simp at hi;omega
   have:=hcell i hil
   simp only [intCells,List.getElem?_cons_zero,Option.some.injEq] at hu
   subst hu
   rw [List.getElem_take]
   rw [List.getD_eq_getElem?_getD,List.getElem?_eq_getElem hil] at this
   unfold Addr.add at this
   split at this
   ·rename_i h0;subst h0;simpa using this
   ·simpa using this
 clear hA0 hval0
 subst htl
 refine (oth_walk a0 cap0 t W hts ht8).mono fun e W' ⟨he,bel⟩ => ?_
 subst he
 exact ⟨_,rfl,_,_,_,[],_,[],hW',trodAll_mk1 (shut_bool Tryz.underlying4 _),(trodAll_cons_mk (Below.trod laidOut (by kernel_rfl) (of_decide_eq_true (by kernel_rfl)) k0 bel lt0) trodAll_mk0),rfl,bel.frame _,fun h=>by cases h⟩
theorem facts:joinedFacts Tryz.pinned.checked.prog 3 Tryz.f3 Rows.redactOthersSpec Rows.redactOthersRow=true:=by
 unfold joinedFacts
 repeat' (with_reducible refine (Bool.and_eq_true _ _).mpr ⟨?_,?_⟩)
 all_goals (as_aux_lemma=>kernel_rfl)
theorem over:Rows.redactOthersRow.holds Tryz.pinned (OpenSpec.ofChange Rows.redactOthersSpec) :=
 OpenClaim.holds_of_wide 3 Tryz.f3 rfl rfl rfl rfl rfl rfl rfl ⟨rfl,rfl,rfl,rfl,rfl⟩ rfl rfl rfl rfl rfl (by kernel_rfl) Tryz.func3 facts
  (of_decide_eq_true (by kernel_rfl)) (by unfold Func.isWrapper;first|(rw [if_pos (by decide +kernel)];kernel_rfl)|(rw [if_neg (by decide +kernel)];exact ⟨rfl,rfl⟩))
  (fun os started H enc _=>lifted os started H enc)
theorem proved:Rows.RedactOthersSaid:=over
#print axioms proved
end Go.Proofs.YtjhnpnhpmdkpcaaGreat.redactOthers
