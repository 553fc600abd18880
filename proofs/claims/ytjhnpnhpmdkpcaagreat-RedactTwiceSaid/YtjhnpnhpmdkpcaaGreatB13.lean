/-
  Contracts and plain laws of this seat, part 13: OP4, OP5.
-/
import Derived.Test.YtjhnpnhpmdkpcaaGreatB12
import Derived.Test.YtjhnpnhpmdkpcaaGreatB9
set_option linter.unusedVariables false
set_option linter.unusedSimpArgs false
set_option maxRecDepth 100000
set_option maxHeartbeats 16000000
namespace Go.Proofs.YtjhnpnhpmdkpcaaGreat
open Go.RowKit Go
def namesT (ts:List Tab) (n:Nat):List ByteArray:=(ts.take n).map Tab.name
theorem namesT_len {ts:List Tab} {n:Nat} (h:n≤ts.length):(namesT ts n).length=n:=by
 unfold namesT
 rw [List.length_map,List.length_take]
 omega
theorem namesT_succ {ts:List Tab} {n:Nat} (h:n<ts.length):namesT ts (n + 1)=namesT ts n ++ [ts[n].name]:=by
 unfold namesT
 rw [List.take_succ_eq_append_getElem h,List.map_append]
 rfl
theorem mem_namesT {ts:List Tab} {n:Nat} {s:ByteArray}:s∈namesT ts n ↔ ∃ k,∃ h:k<ts.length,k<n∧ts[k].name=s:=by
 unfold namesT
 constructor
 ·intro h
  obtain ⟨t,ht,e⟩:=List.mem_map.1 h
  obtain ⟨k,hk,e2⟩:=List.mem_take_iff_getElem.1 ht
  exact ⟨k,by omega,by omega,by rw [e2,e]⟩
 ·rintro ⟨k,hk,hkn,e⟩
  exact List.mem_map.2 ⟨ts[k],List.mem_take_iff_getElem.2 ⟨k,by omega,rfl⟩,e⟩
noncomputable def tabQ (ts:List Tab) (n:Nat) (h:n<ts.length):Int:=if declErr (namesT ts n) ts[n].name = 0 then tabErr ts n ts[n] else declErr (namesT ts n) ts[n].name
theorem declErr_zero {L:List ByteArray} {s:ByteArray} (h:declErr L s = 0):nameB s=true∧s ∉ L:=by
 unfold declErr at h
 by_cases h1:nameB s=true
 ·rw [if_pos h1] at h
  by_cases h2:s∈L
  ·rw [pb_true h2,if_pos rfl] at h
   cases h
  ·exact ⟨h1,h2⟩
 ·rw [if_neg h1] at h
  cases h
theorem tabQ_ok {ts:List Tab} {n:Nat} {h:n<ts.length}:tabQ ts n h = 0↔TabOk ts n h:=by
 unfold tabQ
 constructor
 ·intro h0
  by_cases h1:declErr (namesT ts n) ts[n].name = 0
  ·rw [if_pos h1] at h0
   obtain ⟨h2,h3⟩:=declErr_zero h1
   exact ⟨h2,fun k hk e=>h3 (mem_namesT.2 ⟨k,by omega,hk,e⟩),h0⟩
  ·rw [if_neg h1] at h0
   exact absurd h0 h1
 ·intro h0
  have h1:declErr (namesT ts n) ts[n].name = 0:=by
   unfold declErr
   rw [if_pos h0.name,pb_false fun h=>by
    obtain ⟨k,hk,hkn,e⟩:=mem_namesT.1 h
    exact h0.fresh k hkn e,if_neg (by decide)]
  rw [if_pos h1]
  exact h0.form
theorem colAt_eq {ts:List Tab} {n:Nat} {t:Tab} {i:Nat} (h:i<t.cols.length):colErrAt ts n t i=colErr ts t.cols t.erase t.retain n i t.cols[i]:=by
 unfold colErrAt
 rw [List.getElem?_eq_getElem h]
theorem chk_tableO (B g dm nm:Nat) (A:Option Addr) (c:Nat) (ts:List Tab) (o:Oth) (n:Nat) (v:Value) (st:List Sto) (w:World) (hn:n<ts.length) (hI:ChkInO w B g dm nm A c ts o (namesT ts n) n v st) (ht:TabsIn w B A ts) (hs:SaneCat ts) (hpre:PreOk ts n) (h8:ts.length ≤ 8) (hB:B≤w.heap.size) {r:Int} (hr:tabQ ts n hn=r) :
 Calls Tryz.prog 108 #[.pointer (some ⟨g,0,none⟩), .int .i64 n] w fun e w' =>
  (e = .returned (.int .i64 r)∧(r = 0→(∃ v' st',ChkInO w' B g dm nm A c ts o (namesT ts (n + 1)) (n + 1) v' st') ∧ ∀ q t cs,217≠t→t ≠ 163→Blk w q t cs→Blk w' q t cs))∧Below B w w':=by
 have hsz:=(hs.tabs ts[n] (lgm hn)).name
 have hcsz:=(hs.tabs ts[n] (lgm hn)).len
 have hcs:SliceIs w B Col.cells 7 ts[n].A ts[n].cols:=(ht.2 ts[n] (lgm hn)).1
 obtain ⟨b5,o5,rfl,hb5,hc5⟩:=ht.1.get hn
 obtain ⟨t0,t1,t2,t3⟩:=Tab.cells4 hc5
 obtain ⟨d,hd⟩ : ∃ d,declErr (namesT ts n) ts[n].name=d:=⟨_,rfl⟩
 have HD:=qh hd
 have HR:=qh hr
 have HI:=qh hI
 have HT:=qh ht
 have HS:=qh hs
 have HPRE:=qh hpre
 have HCS:=qh hcs
 have hnl:(namesT ts n).length=n:=namesT_len (Nat.le_of_lt hn)
 have HNL:=qh hnl
 obtain ⟨p0,p8,p9,p10⟩:=Chk.blk hI.blk
 clear hI ht hs hpre hcs hc5 hd hr hnl
 go_enter Tryz.func108,Tryz.ntmps108
 go_upto_region 2 with (fail)
 refine abs_world (P:=fun u=>Code.wp _ _ _ _ u) (R:=fun u=>Blk u w.heap.size 71 #[.string ts[n].name, .slice ts[n].A ts[n].cols.length ts[n].cap, .int .i64 ts[n].erase, .int .i64 ts[n].retain]∧Below w.heap.size w u) ⟨?_,?_⟩ ?_
 ·exact Blk.new _ _ _
 ·exact belA
 clear t0 t1 t2 t3 p0 p8 p9 p10
 rintro W ⟨hBT,hbW⟩
 have hWz:=hBT.lt
 have HBT:=qh hBT
 have HIW:=qh (HI.out.next hbW)
 obtain ⟨q0,q1,q2,q3⟩:=Tab.blk hBT
 clear hBT
 go_cut [6] (fun x wc=>x = .int .i64 d∧(d = 0→ChkInO wc B g dm nm (some ⟨b5,o5,none⟩) c ts o (namesT ts (n + 1)) n v st)∧Blk wc w.heap.size 71 #[.string ts[n].name, .slice ts[n].A ts[n].cols.length ts[n].cap, .int .i64 ts[n].erase, .int .i64 ts[n].retain]∧Below B w wc ∧ ∀ q t cs,Blk w q t cs→Blk wc q t cs)
 case first =>
  go_wp2_with (go_at_call 149;(with_reducible refine (chk_declareO (some ⟨b5,o5,none⟩) c dm nm g v ts o (namesT ts n) ts[n].name _ HIW.out.blk HIW.out.decl (by have:=HNL.out;unfold maxLen;omega) hsz HD.out).mono ?_);rintro e w1 ⟨rfl,hM1,hg1⟩)
  go_meet
  refine ⟨rfl,fun h0=>HIW.out.declared (L':=namesT ts (n + 1)) (by rw [namesT_succ hn,List.length_append];exact hM1 h0) hg1,HBT.out.grown hg1 (fun e=>HIW.out.decl.neBlk HBT.out (Option.some.inj e).symm),Below.grown (hbW.mono hB) hg1 (by have:=hbW.size;omega) (fun q e => ?_),fun q t cs hq=>(hq.below hbW hq.lt).grown hg1 (fun e=>HIW.out.decl.neBlk (hq.below hbW hq.lt) (Option.some.inj e).symm)⟩
  injection e with e
  rw [← e]
  exact HIW.out.hd
 case rest =>
  obtain ⟨rfl,hI1,hB1,hb1,hk1⟩:=hcut
  have HK1:=qh hk1
  clear hk1
  obtain ⟨W1,rfl⟩ : ∃ W1:World,W1=wc:=⟨_,rfl⟩
  have hb1z:=hb1.size
  have hBz:B≤W1.heap.size:=by omega
  have hz1:=hB1.lt
  by_cases hd0:d = 0
  rotate_left
  ·have hd0':(d != 0)=true:=by simpa using hd0
   have HRD:Hid (r=d):=qh (by rw [← HR.out];unfold tabQ;rw [HD.out,if_neg hd0])
   have HNZ:=qh hd0
   clear hd0 hI1 q0 q1 q2 q3
   go_wp2_with fail
   go_ret
   exact ⟨⟨ret_int HRD.out.symm,fun h=>absurd (HRD.out.symm.trans h) HNZ.out⟩,hb1⟩
  subst hd0
  have HTQ:Hid (tabErr ts n ts[n]=r):=qh (by rw [← HR.out];unfold tabQ;rw [if_pos HD.out])
  have hfr:findT ts ts[n].name (n:Int) < 0:=by
   unfold findT
   rw [findI_none fun i hi hin e => ?_]
   ·decide
   ·have hi':i<ts.length:=by simpa using hi
    exact (declErr_zero HD.out).2 (mem_namesT.2 ⟨i,hi',by omega,by simpa using e⟩)
  have HFR:=qh hfr
  have HI1:=qh (hI1 rfl)
  have HB1:=qh hB1
  have HT1:=qh (HT.out.below hb1)
  have HCS1:=qh (HCS.out.below hb1)
  clear q0 q1 q2 q3 hI1 hfr
  obtain ⟨q0,q1,q2,q3⟩:=Tab.blk hB1
  clear hB1
  obtain ⟨e1,he1⟩ : ∃ b,withinB ts[n].cols.length 1 8=b:=⟨_,rfl⟩
  obtain ⟨e3,he3⟩ : ∃ b,withinB ts[n].retain 0 1048576=b:=⟨_,rfl⟩
  have HW1:=qh he1
  have HW3:=qh he3
  have hw2:withinB ts[n].erase 0 1=(!(ts[n].erase != 0) || !(ts[n].erase != 1)):=by
   unfold withinB
   rw [Bool.eq_iff_iff]
   simp
   omega
  have HW2:=qh hw2
  clear he1 he3 hw2
  go_upto_region 5 with (fail)
  go_cut [44] (fun x wc=>x = .bool (!shapeB ts[n])∧W1=wc)
  case first =>
   cases e1
   ·go_wp2_with (go_at_call 150;(first|(with_reducible refine (cat_within _ _ _ _ HW1.out).mono ?_)|(with_reducible refine (cat_within _ _ _ _ HW3.out).mono ?_));rintro e w1 ⟨rfl,rfl⟩)
    go_meet
    exact ⟨by unfold shapeB;rw [HW1.out];rfl,rfl⟩
   ·by_cases he:ts[n].erase = 0
    ·have e0:(ts[n].erase != 0)=false:=by simpa using he
     clear he
     cases e3
     ·go_wp2_with (go_at_call 150;(first|(with_reducible refine (cat_within _ _ _ _ HW1.out).mono ?_)|(with_reducible refine (cat_within _ _ _ _ HW3.out).mono ?_));rintro e w1 ⟨rfl,rfl⟩)
      go_meet
      exact ⟨by unfold shapeB;rw [HW1.out,HW2.out,HW3.out,e0];rfl,rfl⟩
     ·go_wp2_with (go_at_call 150;(first|(with_reducible refine (cat_within _ _ _ _ HW1.out).mono ?_)|(with_reducible refine (cat_within _ _ _ _ HW3.out).mono ?_));rintro e w1 ⟨rfl,rfl⟩)
      go_meet
      exact ⟨by unfold shapeB;rw [HW1.out,HW2.out,HW3.out,e0];rfl,rfl⟩
    ·have e0:(ts[n].erase != 0)=true:=by simpa using he
     clear he
     by_cases he:ts[n].erase = 1
     ·have e2:(ts[n].erase != 1)=false:=by simpa using he
      clear he
      cases e3
      ·go_wp2_with (go_at_call 150;(first|(with_reducible refine (cat_within _ _ _ _ HW1.out).mono ?_)|(with_reducible refine (cat_within _ _ _ _ HW3.out).mono ?_));rintro e w1 ⟨rfl,rfl⟩)
       go_meet
       exact ⟨by unfold shapeB;rw [HW1.out,HW2.out,HW3.out,e0,e2];rfl,rfl⟩
      ·go_wp2_with (go_at_call 150;(first|(with_reducible refine (cat_within _ _ _ _ HW1.out).mono ?_)|(with_reducible refine (cat_within _ _ _ _ HW3.out).mono ?_));rintro e w1 ⟨rfl,rfl⟩)
       go_meet
       exact ⟨by unfold shapeB;rw [HW1.out,HW2.out,HW3.out,e0,e2];rfl,rfl⟩
     ·have e2:(ts[n].erase != 1)=true:=by simpa using he
      clear he
      go_wp2_with (go_at_call 150;(first|(with_reducible refine (cat_within _ _ _ _ HW1.out).mono ?_)|(with_reducible refine (cat_within _ _ _ _ HW3.out).mono ?_));rintro e w1 ⟨rfl,rfl⟩)
      go_meet
      exact ⟨by unfold shapeB;rw [HW1.out,HW2.out,e0,e2];rfl,rfl⟩
  case rest =>
   obtain ⟨rfl,rfl⟩:=hcut
   cases hsb:shapeB ts[n]
   ·have HRD:Hid (r = 1):=qh (by rw [← HTQ.out];unfold tabErr;rw [hsb];rfl)
    clear hsb
    go_wp2_with fail
    go_ret
    exact ⟨⟨ret_int HRD.out.symm,fun h=>by have:=HRD.out;omega⟩,hb1⟩
   have hc18:=shape_cols hsb
   have HFE:Hid (firstErr (colErrAt ts n ts[n]) ts[n].cols.length=r):=qh (by rw [← HTQ.out];unfold tabErr;rw [if_pos hsb])
   clear hsb
   simp only [Bool.not_true]
   go_upto_region 8 with (fail)
   go_loopw [48] (fun vi wr => ∃ m:Nat,m≤ts[n].cols.length∧vi = .int .i64 m∧Below W1.heap.size W1 wr∧(∀ i,i<m→colErrAt ts n ts[n] i = 0)) (fun vi _=>ts[n].cols.length - (intOf vi).toNat)
   case atStart=>exact ⟨0,Nat.zero_le _,rfl,Below.refl _ _,fun i h=>by omega⟩
   case round =>
    obtain ⟨m,hm,rfl,hbr,hz⟩:=hrel
    have HZ:=qh hz
    have hwz:=hbr.size
    clear hz
    obtain ⟨q0,q1,q2,q3⟩:=Tab.blk (HB1.out.below hbr hz1)
    by_cases hlt:m<ts[n].cols.length
    ·obtain ⟨SA,sc,hv,hrd⟩:=(HI1.out.next hbr).rd
     have HRD:=qh hrd
     have HTR:=qh ((HT1.out.below (hbr.mono hBz)).mono (show B≤wr.heap.size by omega))
     obtain ⟨ce,hce⟩ : ∃ ce,qErr ts ts[n].cols ts[n].erase ts[n].retain n m ts[n].cols[m]=ce:=⟨_,rfl⟩
     have HCE:=qh hce
     have HCA:Hid (colErrAt ts n ts[n] m=ce):=qh (by rw [colAt_eq hlt,← hce,qErr_eq (HPRE.out.noname (Nat.le_of_lt hn))])
     clear hrd hce
     by_cases hc0:ce = 0
     ·subst hc0
      go_wp2_with (go_at_call 151;(with_reducible refine (chk_columnO g dm nm n _ c ts o n SA sc st m ts[n].name ts[n].A ts[n].cap ts[n].cols ts[n].erase ts[n].retain _ HRD.out HTR.out HS.out HPRE.out hn rfl hlt HCE.out).mono ?_);rintro e w2 ⟨rfl,hb2⟩;have HX2:=qh (below_nextN hbr hb2 hwz))
      go_roundw
      case rel=>exact ⟨m + 1,by omega,by go_num,HX2.out,fun i hi=>by
       rcases Nat.lt_or_ge i m with h1|h1
       ·exact HZ.out i h1
       ·obtain rfl:i=m:=by omega
        exact HCA.out⟩
      case measure=>exact meA
     ·have hc0':(ce != 0)=true:=by simpa using hc0
      have HRC:Hid (r=ce):=qh (by rw [← HFE.out,firstErr_at HZ.out (by rw [HCA.out];exact hc0) hlt,HCA.out])
      have HNZ:=qh hc0
      clear hc0
      go_wp2_with (go_at_call 151;(with_reducible refine (chk_columnO g dm nm n _ c ts o n SA sc st m ts[n].name ts[n].A ts[n].cap ts[n].cols ts[n].erase ts[n].retain _ HRD.out HTR.out HS.out HPRE.out hn rfl hlt HCE.out).mono ?_);rintro e w2 ⟨rfl,hb2⟩;have HX2:=qh (below_nextN hbr hb2 hwz))
      go_ret
      exact ⟨⟨ret_int HRC.out.symm,fun h=>absurd (HRC.out.symm.trans h) HNZ.out⟩,hb1.trans (HX2.out.mono hBz)⟩
    ·have hlt':decide (m<ts[n].cols.length)=false:=by simpa using hlt
     have HRZ:Hid (r = 0):=qh (by rw [← HFE.out];exact firstErr_none fun i hi=>HZ.out i omA)
     have HIR:=qh (HI1.out.next hbr)
     have HBR:=qh (HB1.out.below hbr hz1)
     have HCR:=qh (HCS1.out.below (hbr.mono hBz))
     have hxr:Below B w wr:=hb1.trans (hbr.mono hBz)
     have hzr:w.heap.size<wr.heap.size:=by omega
     have hBr:B≤wr.heap.size:=by omega
     clear hlt
     go_upto_region 14 with (fail)
     have hdr:Below wr.heap.size wr wr.drew:=brf.drew
     have HCD:=qh ((HCR.out.mono hBr).next hdr)
     refine wp_region_held_drew (S:=fun u=>u.cell? ⟨w.heap.size,0,none⟩=some (.string ts[n].name)∧u.cell? ⟨w.heap.size,1,none⟩=some (.slice ts[n].A ts[n].cols.length ts[n].cap)) krA ⟨q0,q1⟩ (fun hHeld => ?_)
     refine tkH 0 hHeld ?_
     refine tkH 1 hHeld ?_
     refine tkH 2 hHeld ?_
     refine tkH 3 hHeld ?_
     refine tkH 4 hHeld ?_
     refine tkH 6 hHeld ?_
     refine tkH 7 hHeld ?_
     refine wpAnyH_ready (rs := [5]) krA spA ?_
     refine AllReadyH.cons rfl (fun K hK => ?_) AllReadyH.nil
     go_simp
     (go_at_call 153;(with_reducible refine (collect_names ts[n].A ts[n].cap ts[n].cols.length ts[n].cols _ HCD.out rfl omA).mono ?_))
     rintro e w3 ⟨⟨nv,rfl,hno⟩,hb3⟩
     obtain ⟨NA,nc,rfl,_,_⟩:=hno.form
     have hx3:Below wr.heap.size wr w3:=hdr.trans hb3
     have hz3:=hx3.size
     have s0:=(hx3.cell (p:=⟨w.heap.size,0,none⟩) hzr).trans q0
     have s1:=(hx3.cell (p:=⟨w.heap.size,1,none⟩) hzr).trans q1
     have HC3:=qh ((HCR.out.mono hBr).next hx3)
     clear hno hb3
     go_wp2_with fail
     refine hK.out _ _ ⟨s0,s1⟩ (fun hHeld => ?_)
     clear hK K
     (try simp only [Act.put,gP6])
     refine wpAnyH_ready (rs := [8]) krA spA ?_
     refine AllReadyH.cons rfl (fun K hK => ?_) AllReadyH.nil
     go_simp
     (go_at_call 155;(with_reducible refine (collect_types ts[n].A ts[n].cap ts[n].cols.length ts[n].cols _ HC3.out rfl omA).mono ?_))
     rintro e w4 ⟨⟨tv,rfl,hto⟩,hb4⟩
     obtain ⟨TA,tc,rfl,_,_⟩:=hto.form
     have hx4:Below wr.heap.size wr w4:=below_nextN hx3 hb4 hz3
     have hz4:=hx4.size
     have r0:=(hx4.cell (p:=⟨w.heap.size,0,none⟩) hzr).trans q0
     have r1:=(hx4.cell (p:=⟨w.heap.size,1,none⟩) hzr).trans q1
     have HTO:=qh (hto.mono (show B≤w3.heap.size by omega))
     have HB4:=qh (HBR.out.below hx4 hzr)
     clear hto hb4
     go_wp2_with fail
     refine hK.out _ _ ⟨r0,r1⟩ (fun hHeld => ?_)
     clear hK K
     (try simp only [Act.put,gP6])
     refine tkH 9 hHeld ?_
     refine wpAnyH_ready (rs := [10]) krA spA ?_
     refine AllReadyH.cons rfl (fun K hK => ?_) AllReadyH.nil
     go_simp
     have hadd:=chk_addO B g dm nm _ c ts o (namesT ts (n + 1)) n v st ⟨NA,(ts[n].cols.map Col.name).length,nc,TA,tc,ts[n].cols.map Col.ty⟩ w4 (HIR.out.next hx4) hn h8 hsz HFR.out HTO.out rfl omA
     simp only [List.length_map] at hadd
     (go_at_call 152;(with_reducible refine hadd.mono ?_))
     clear hadd
     rintro e w5 ⟨⟨rfl,v',hI5⟩,hb5,hk5⟩
     have hB5:=hk5 _ _ _ (by decide) (by decide) HB4.out
     have HK5:=qh hk5
     have u0:=hB5.cell 0
     have u1:=hB5.cell 1
     simp only [gE3] at u0 u1
     have HI5:=qh hI5
     clear hI5 hk5 hB5
     go_wp2_with fail
     refine hK.out _ _ ⟨u0,u1⟩ (fun hHeld => ?_)
     clear hK K
     (try simp only [Act.put,gP6])
     refine wpAnyH_done krA ?_ _
     go_wp2_with fail
     go_ret
     exact ⟨⟨ret_int HRZ.out.symm,fun _=>⟨⟨v',_,HI5.out⟩,fun q t cs ht ht' hq=>HK5.out q t cs ht ht' (((HK1.out q t cs hq).below hbr (HK1.out q t cs hq).lt).below hx4 (Nat.lt_of_lt_of_le (HK1.out q t cs hq).lt hwz))⟩⟩,(hxr.trans (hx4.mono hBr)).trans hb5⟩
open Go.RowKit Go
theorem findT_eqI (ts:List Tab) (s:ByteArray):findT ts s (ts.length:Int)=findI (ts.map Tab.name) s ts.length:=by
 unfold findT
 rw [show min (ts.length:Int) (ts.length:Int)=(ts.length:Int) by omega]
theorem grown_dm {w w':World} {B dm:Nat} (hg:w.grownBy w' (some dm)) (hB:B≤w.heap.size) (hd:B≤dm):Below B w w':=brf.grown hg hB (fun q e=>by injection e with e;rw [← e];exact hd)
theorem chk_sourceO (g dm nm k:Nat) (A:Option Addr) (c:Nat) (ts:List Tab) (o:Oth) (SA:Option Addr) (sc:Nat) (st:List Sto) (s:ByteArray) (col:Int) (w:World) (hI:ChkRdO w g dm nm k A c ts o ts.length SA sc st) (hs:SaneCat ts) (hsz:s.size ≤ 1000000) {r1 r2:Int} (hr:srcE ts s col=(r1,r2)) :
 Calls Tryz.prog 162 #[.pointer (some ⟨g,0,none⟩), .string s, .int .i64 col] w fun e w'=>e = .returned (.tuple #[.int .i64 r1, .int .i64 r2])∧Below w.heap.size w w':=by
 obtain ⟨kk,hk⟩ : ∃ kk,findI (ts.map Tab.name) s ts.length=kk:=⟨_,rfl⟩
 unfold srcE at hr
 rw [hk] at hr
 have HK:=qh ((findT_eqI ts s).trans hk)
 have HK2:=qh hk
 have HR:=qh hr
 have HI:=qh hI
 have HS:=qh hs
 clear hI hs hk hr
 go_enter Tryz.func162,Tryz.ntmps162
 go_upto_region 2 with (go_at_call 157;(with_reducible refine (chk_findO A c dm nm g k (.slice SA ts.length sc) ts o ts.length s _ HI.out.blk HI.out.nums hsz HK.out).mono ?_);rintro e w1 ⟨rfl,hb1⟩)
 by_cases h0:kk < 0
 ·have h0':decide (kk < 0)=true:=by simpa using h0
  have HR0:Hid (r1 = 0∧r2 = 7):=qh (by
   have h:=HR.out
   rw [if_pos h0] at h
   injection h with h1 h2
   exact ⟨h1.symm,h2.symm⟩)
  clear h0
  go_wp2_with fail
  go_ret2
  obtain ⟨e1,e2⟩:=HR0.out
  subst e1 e2
  exact ⟨rfl,hb1⟩
 have h0':decide (kk < 0)=false:=by simpa using h0
 obtain ⟨n,hn⟩ : ∃ n:Nat,kk=(n:Int):=⟨kk.toNat,by omega⟩
 have hnt:n<ts.length:=by
  have h:=HK2.out
  obtain ⟨j,hj,e1,e2,_⟩:=findI_get (l:=ts.map Tab.name) (s:=s) (n:=(ts.length:Int)) omA
  omega
 have hcl:ts[n].cols.length ≤ 1000000:=(HS.out.tabs ts[n] (lgm hnt)).len
 subst hn
 have HCA:Hid (colsAt ts (n:Int)=ts[n].cols):=qh (by unfold colsAt;rw [Int.toNat_natCast,List.getElem?_eq_getElem hnt])
 have HI1:=qh (HI.out.next hb1)
 have hnl:n<st.length:=by rw [HI.out.len];exact hnt
 obtain ⟨b6,o6,rfl,hb6,hc6⟩:=HI1.out.sto.get hnl
 have hty:=HI1.out.at_ n hnl hnt
 have y1:=hc6 1 _ rfl
 obtain ⟨p0,p8,p9,p10⟩:=Chk.blk HI1.out.blk
 have HTI:=qh (HI1.out.ty n hnl)
 obtain ⟨⟨NA,nl,nc,TA,tc,ty⟩,hst⟩ : ∃ x:Sto,st[n]=x:=⟨_,rfl⟩
 rw [hst] at y1 HTI hty
 simp only at y1 HTI hty
 have htl:ty.length=ts[n].cols.length:=by rw [hty,List.length_map]
 have HTL:=qh htl
 have hwr:IntKind.i64.wrap ((ty.length:Int) - 1)=(ty.length:Int) - 1:=IntWalk.i64_in _ omA
 obtain ⟨bw,hbw⟩ : ∃ b,withinB col 0 ((ty.length:Int) - 1)=b:=⟨_,rfl⟩
 have HBW:=qh hbw
 have hr2:=HR.out
 rw [if_neg omA,HCA.out,← htl,hbw] at hr2
 have HR2:=qh hr2
 have HTY:=qh hty
 clear hc6 hst hr2 hbw HR h0 hty htl
 go_upto_region 5 with (fail)
 cases bw
 ·have HR0:Hid (r1 = 0∧r2 = 3):=qh (by
   have h:=HR2.out
   injection h with h1 h2
   exact ⟨h1.symm,h2.symm⟩)
  go_wp2_with (go_at_call 150;(with_reducible refine (cat_within _ _ _ _ HBW.out).mono ?_);rintro e w3 ⟨rfl,rfl⟩)
  go_ret2
  obtain ⟨e1,e2⟩:=HR0.out
  subst e1 e2
  exact ⟨rfl,hb1⟩
 ·obtain ⟨j,hj⟩ : ∃ j:Nat,col=(j:Int)∧j<ty.length:=by
   have h:=HBW.out
   unfold withinB at h
   rw [Bool.and_eq_true,decide_eq_true_eq,decide_eq_true_eq] at h
   exact ⟨col.toNat,by omega,by omega⟩
  obtain ⟨rfl,hjl⟩:=hj
  obtain ⟨b7,o7,rfl,hb7,hc7⟩:=HTI.out.get hjl
  have x0:=hc7 0 _ rfl
  simp only [Nat.mul_one,Nat.add_zero] at x0
  have HR0:Hid (r1=ty[j]∧r2 = 0):=qh (by
   have h:=HR2.out
   rw [if_pos rfl] at h
   unfold tyAt at h
   have hjc:j<ts[n].cols.length:=by have:=HTL.out;omega
   rw [Int.toNat_natCast,List.getElem?_eq_getElem hjc] at h
   injection h with h1 h2
   refine ⟨?_,h2.symm⟩
   rw [← h1]
   have e:=HTY.out
   subst e
   simp only [List.getElem_map])
  clear hc7
  go_wp2_with (go_at_call 150;(with_reducible refine (cat_within _ _ _ _ HBW.out).mono ?_);rintro e w3 ⟨rfl,rfl⟩)
  go_ret2
  obtain ⟨e1,e2⟩:=HR0.out
  subst e1 e2
  exact ⟨rfl,hb1⟩
noncomputable def declQ (L:List ByteArray) (s:ByteArray) (e:Int):Int:=if declErr L s = 0 then e else declErr L s
theorem ChkInO.named {w w1:World} {B g dm nm:Nat} {A:Option Addr} {c:Nat} {ts:List Tab} {o:Oth} {L:List ByteArray} {n:Nat} {v:Value} {st:List Sto} {s:ByteArray} (h:ChkInO w B g dm nm A c ts o L n v st) (hM:MapV Tryz.prog 9 4 w1 dm (L.length + 1) (declL (L ++ [s]))) (hg:w.grownBy w1 (some dm)):ChkInO w1 B g dm nm A c ts o (L ++ [s]) n v st :=
 h.declared (L':=L ++ [s]) (by rw [List.length_append];exact hM) hg
theorem chk_indexO (B g dm nm:Nat) (A:Option Addr) (c:Nat) (ts:List Tab) (o:Oth) (L:List ByteArray) (v:Value) (st:List Sto) (i:Nat) (w:World) (hI:ChkInO w B g dm nm A c ts o L ts.length v st) (ho:OthIn w B o) (hso:SaneO o) (hs:SaneCat ts) (hi:i<o.idx.length) (hL:L.length ≤ 1000) (hB:B≤w.heap.size) {r:Int} (hr:declQ L o.idx[i].name (idxErr ts o.idx[i])=r) :
 Calls Tryz.prog 110 #[.pointer (some ⟨g,0,none⟩), .int .i64 i] w fun e w' =>
  (e = .returned (.int .i64 r)∧(r = 0→ChkInO w' B g dm nm A c ts o (L ++ [o.idx[i].name]) ts.length v st ∧ ∀ q t cs,Blk w q t cs→Blk w' q t cs))∧Below B w w':=by
 have hsz:o.idx[i].name.size ≤ 1000000:=hso.names _ (by unfold Oth.names;simp only [List.mem_append,List.mem_map];exact .inl ⟨_,lgm hi,rfl⟩)
 have hssz:o.idx[i].src.size ≤ 1000000:=hso.isrc _ (lgm hi)
 obtain ⟨SA,sc,hv,_⟩:=hI.rd
 obtain ⟨b5,o5,he5,hb5,hc5⟩:=ho.idx.get hi
 have p2:=hI.blk.cell 2
 simp only [gE3] at p2
 rw [he5] at p2
 have x0:=hc5 0 _ rfl
 have x1:=hc5 1 _ rfl
 have x2:=hc5 2 _ rfl
 obtain ⟨x,hx⟩ : ∃ x,o.idx[i]=x:=⟨_,rfl⟩
 rw [hx] at hsz hr ⊢ hssz x0 x1 x2
 simp only [Nat.add_zero] at x0
 obtain ⟨d,hd⟩ : ∃ d,declErr L x.name=d:=⟨_,rfl⟩
 have HD:=qh hd
 have HR:=qh hr
 have HI:=qh hI
 have HS:=qh hs
 clear hI hs hd hr ho hso hc5 hx he5
 go_enter Tryz.func110,Tryz.ntmps110
 go_upto_region 2 with (fail)
 refine abs_world (P:=fun u=>Code.wp _ _ _ _ u) (R:=fun u=>Blk u w.heap.size 180 (Idx.cells x).toArray∧Below w.heap.size w u) ⟨?_,?_⟩ ?_
 ·exact Blk.new' spA
 ·exact belA
 rintro W ⟨hX,hbW⟩
 have hzX:=hX.lt
 have HX:=qh hX
 have HIW:=qh (HI.out.next hbW)
 have k0:=hX.cell 0
 simp only [Idx.cells,gE3] at k0
 have hbz:=hbW.size
 clear hX p2 x0 x1 x2
 go_upto_region 3 with (go_at_call 149;(with_reducible refine (chk_declareO A c dm nm g v ts o L x.name _ HIW.out.blk HIW.out.decl (by unfold maxLen;omega) hsz HD.out).mono ?_);rintro e w1 ⟨rfl,hM1,hg1⟩)
 have hz1:=hg1.size
 have hb1:Below B w w1:=(hbW.mono hB).trans (grown_dm hg1 omA HI.out.hd)
 clear k0
 by_cases hd0:d = 0
 rotate_left
 ·have hd0':(d != 0)=true:=by simpa using hd0
  have HRD:Hid (r=d):=qh (by rw [← HR.out];unfold declQ;rw [HD.out,if_neg hd0])
  have HNZ:=qh hd0
  clear hd0 hM1
  go_wp2_with fail
  go_ret
  exact ⟨⟨ret_int HRD.out.symm,fun h=>absurd (HRD.out.symm.trans h) HNZ.out⟩,hb1⟩
 subst hd0
 have hX1:=HX.out.grown hg1 (fun e=>HIW.out.decl.neBlk HX.out (Option.some.inj e).symm)
 have HX1:=qh hX1
 have hzX1:=hX1.lt
 have HKP:Hid (∀ q t cs,Blk w q t cs→Blk w1 q t cs):=qh fun q t cs hq=>(hq.below hbW hq.lt).grown hg1 (fun e=>HIW.out.decl.neBlk (hq.below hbW hq.lt) (Option.some.inj e).symm)
 have HI1:=qh (HIW.out.named (hM1 (by first|rfl|trivial)) hg1)
 have HRQ:=qh (show idxErr ts x=r by rw [← HR.out];unfold declQ;rw [if_pos HD.out])
 clear hM1 hX1
 obtain ⟨r1,r2,h12⟩ : ∃ r1 r2,srcE ts x.src x.col=(r1,r2):=⟨_,_,rfl⟩
 have H12:=qh h12
 obtain ⟨SA1,sc1,hv1,hrd1⟩:=HI1.out.rd
 have HRD:=qh hrd1
 have k1:=HX1.out.cell 1
 have k2:=HX1.out.cell 2
 simp only [Idx.cells,gE3] at k1 k2
 have hp12:(srcE ts x.src x.col).1=r1∧(srcE ts x.src x.col).2=r2:=by rw [h12];exact ⟨rfl,rfl⟩
 have HP:=qh hp12
 clear h12 hrd1 hp12
 go_upto_region 6 with (go_at_call 162;(with_reducible refine (chk_sourceO g dm nm ts.length A c ts o SA1 sc1 st x.src x.col _ HRD.out HS.out hssz H12.out).mono ?_);rintro e w2 ⟨rfl,hb2⟩)
 have hbx:Below B w w2:=hb1.trans (hb2.mono omA)
 have HI2:=qh (HI1.out.next hb2)
 have HKQ:Hid (∀ q t cs,Blk w q t cs→Blk w2 q t cs):=qh fun q t cs hq=>(HKP.out q t cs hq).below hb2 (HKP.out q t cs hq).lt
 have HX2:=qh (HX1.out.below hb2 hzX1)
 clear k1 k2
 by_cases h0:r2 = 0
 rotate_left
 ·have h0':(r2 != 0)=true:=by simpa using h0
  have HR0:Hid (r=r2):=qh (by rw [← HRQ.out];unfold idxErr;rw [HP.out.2,if_neg h0])
  have HNZ:=qh h0
  clear h0
  go_wp2_with fail
  go_ret
  exact ⟨⟨ret_int HR0.out.symm,fun h=>absurd (HR0.out.symm.trans h) HNZ.out⟩,hbx⟩
 subst h0
 by_cases h2:r1 = 2
 ·have h2':(r1 != 2)=false:=by simpa using h2
  have HR0:Hid (r = 0):=qh (by rw [← HRQ.out];unfold idxErr;rw [HP.out.2,if_pos rfl,HP.out.1,if_pos h2])
  clear h2
  go_wp2_with fail
  go_ret
  exact ⟨⟨ret_int HR0.out.symm,fun _=>⟨HI2.out,HKQ.out⟩⟩,hbx⟩
 ·have h2':(r1 != 2)=true:=by simpa using h2
  have HR0:Hid (r = 5):=qh (by rw [← HRQ.out];unfold idxErr;rw [HP.out.2,if_pos rfl,HP.out.1,if_neg h2])
  clear h2
  go_wp2_with fail
  go_ret
  exact ⟨⟨ret_int HR0.out.symm,fun h=>by have:=HR0.out;omega⟩,hbx⟩
theorem chk_cacheO (B g dm nm:Nat) (A:Option Addr) (c:Nat) (ts:List Tab) (o:Oth) (L:List ByteArray) (v:Value) (st:List Sto) (i:Nat) (w:World) (hI:ChkInO w B g dm nm A c ts o L ts.length v st) (ho:OthIn w B o) (hso:SaneO o) (hs:SaneCat ts) (hi:i<o.cch.length) (hL:L.length ≤ 1000) (hB:B≤w.heap.size) {r:Int} (hr:declQ L o.cch[i].name (cchErr ts o.cch[i])=r) :
 Calls Tryz.prog 112 #[.pointer (some ⟨g,0,none⟩), .int .i64 i] w fun e w' =>
  (e = .returned (.int .i64 r)∧(r = 0→ChkInO w' B g dm nm A c ts o (L ++ [o.cch[i].name]) ts.length v st ∧ ∀ q t cs,Blk w q t cs→Blk w' q t cs))∧Below B w w':=by
 have hsz:o.cch[i].name.size ≤ 1000000:=hso.names _ (by unfold Oth.names;simp only [List.mem_append,List.mem_map];exact .inr (.inr (.inl ⟨_,lgm hi,rfl⟩)))
 have hssz:o.cch[i].src.size ≤ 1000000:=hso.csrc _ (lgm hi)
 obtain ⟨SA,sc,hv,_⟩:=hI.rd
 obtain ⟨b5,o5,he5,hb5,hc5⟩:=ho.cch.get hi
 have p4:=hI.blk.cell 4
 simp only [gE3] at p4
 rw [he5] at p4
 have x0:=hc5 0 _ rfl
 have x1:=hc5 1 _ rfl
 have x2:=hc5 2 _ rfl
 have x3:=hc5 3 _ rfl
 obtain ⟨x,hx⟩ : ∃ x,o.cch[i]=x:=⟨_,rfl⟩
 rw [hx] at hsz hr ⊢ hssz x0 x1 x2 x3
 simp only [Nat.add_zero] at x0
 obtain ⟨d,hd⟩ : ∃ d,declErr L x.name=d:=⟨_,rfl⟩
 have HD:=qh hd
 have HR:=qh hr
 have HI:=qh hI
 have HS:=qh hs
 clear hI hs hd hr ho hso hc5 hx he5
 go_enter Tryz.func112,Tryz.ntmps112
 go_upto_region 2 with (fail)
 refine abs_world (P:=fun u=>Code.wp _ _ _ _ u) (R:=fun u=>Blk u w.heap.size 184 (Cch.cells x).toArray∧Below w.heap.size w u) ⟨?_,?_⟩ ?_
 ·exact Blk.new' spA
 ·exact belA
 rintro W ⟨hX,hbW⟩
 have hzX:=hX.lt
 have HX:=qh hX
 have HIW:=qh (HI.out.next hbW)
 have k0:=hX.cell 0
 simp only [Cch.cells,gE3] at k0
 have hbz:=hbW.size
 clear hX p4 x0 x1 x2 x3
 go_upto_region 3 with (go_at_call 149;(with_reducible refine (chk_declareO A c dm nm g v ts o L x.name _ HIW.out.blk HIW.out.decl (by unfold maxLen;omega) hsz HD.out).mono ?_);rintro e w1 ⟨rfl,hM1,hg1⟩)
 have hz1:=hg1.size
 have hb1:Below B w w1:=(hbW.mono hB).trans (grown_dm hg1 omA HI.out.hd)
 clear k0
 by_cases hd0:d = 0
 rotate_left
 ·have hd0':(d != 0)=true:=by simpa using hd0
  have HRD:Hid (r=d):=qh (by rw [← HR.out];unfold declQ;rw [HD.out,if_neg hd0])
  have HNZ:=qh hd0
  clear hd0 hM1
  go_wp2_with fail
  go_ret
  exact ⟨⟨ret_int HRD.out.symm,fun h=>absurd (HRD.out.symm.trans h) HNZ.out⟩,hb1⟩
 subst hd0
 have hX1:=HX.out.grown hg1 (fun e=>HIW.out.decl.neBlk HX.out (Option.some.inj e).symm)
 have HX1:=qh hX1
 have hzX1:=hX1.lt
 have HKP:Hid (∀ q t cs,Blk w q t cs→Blk w1 q t cs):=qh fun q t cs hq=>(hq.below hbW hq.lt).grown hg1 (fun e=>HIW.out.decl.neBlk (hq.below hbW hq.lt) (Option.some.inj e).symm)
 have HI1:=qh (HIW.out.named (hM1 (by first|rfl|trivial)) hg1)
 have HRQ:=qh (show cchErr ts x=r by rw [← HR.out];unfold declQ;rw [if_pos HD.out])
 clear hM1 hX1
 obtain ⟨r1,r2,h12⟩ : ∃ r1 r2,srcE ts x.src x.col=(r1,r2):=⟨_,_,rfl⟩
 have H12:=qh h12
 obtain ⟨SA1,sc1,hv1,hrd1⟩:=HI1.out.rd
 have HRD:=qh hrd1
 have k1:=HX1.out.cell 1
 have k2:=HX1.out.cell 2
 simp only [Cch.cells,gE3] at k1 k2
 have hp12:(srcE ts x.src x.col).1=r1∧(srcE ts x.src x.col).2=r2:=by rw [h12];exact ⟨rfl,rfl⟩
 have HP:=qh hp12
 clear h12 hrd1 hp12
 go_upto_region 6 with (go_at_call 162;(with_reducible refine (chk_sourceO g dm nm ts.length A c ts o SA1 sc1 st x.src x.col _ HRD.out HS.out hssz H12.out).mono ?_);rintro e w2 ⟨rfl,hb2⟩)
 have hbx:Below B w w2:=hb1.trans (hb2.mono omA)
 have HI2:=qh (HI1.out.next hb2)
 have HKQ:Hid (∀ q t cs,Blk w q t cs→Blk w2 q t cs):=qh fun q t cs hq=>(HKP.out q t cs hq).below hb2 (HKP.out q t cs hq).lt
 have HX2:=qh (HX1.out.below hb2 hzX1)
 clear k1 k2
 by_cases h0:r2 = 0
 rotate_left
 ·have h0':(r2 != 0)=true:=by simpa using h0
  have HR0:Hid (r=r2):=qh (by rw [← HRQ.out];unfold cchErr;rw [HP.out.2,if_neg h0])
  have HNZ:=qh h0
  clear h0
  go_wp2_with fail
  go_ret
  exact ⟨⟨ret_int HR0.out.symm,fun h=>absurd (HR0.out.symm.trans h) HNZ.out⟩,hbx⟩
 subst h0
 have k3:=HX2.out.cell 3
 simp only [Cch.cells,gE3] at k3
 obtain ⟨tt,htt⟩ : ∃ b,withinB x.ttl 1 1048576=b:=⟨_,rfl⟩
 have HTT:=qh htt
 clear htt
 cases tt
 ·have HR0:Hid (r = 1):=qh (by rw [← HRQ.out];unfold cchErr;rw [HP.out.2,if_pos rfl,HTT.out];rfl)
  go_wp2_with (go_at_call 150;(with_reducible refine (cat_within _ _ _ _ HTT.out).mono ?_);rintro e w3 ⟨rfl,rfl⟩)
  go_ret
  exact ⟨⟨ret_int HR0.out.symm,fun h=>by have:=HR0.out;omega⟩,hbx⟩
 ·have HR0:Hid (r = 0):=qh (by rw [← HRQ.out];unfold cchErr;rw [HP.out.2,if_pos rfl,HTT.out];rfl)
  go_wp2_with (go_at_call 150;(with_reducible refine (cat_within _ _ _ _ HTT.out).mono ?_);rintro e w3 ⟨rfl,rfl⟩)
  go_ret
  exact ⟨⟨ret_int HR0.out.symm,fun _=>⟨HI2.out,HKQ.out⟩⟩,hbx⟩
theorem chk_releaseO (B g dm nm:Nat) (A:Option Addr) (c:Nat) (ts:List Tab) (o:Oth) (L:List ByteArray) (v:Value) (st:List Sto) (i:Nat) (w:World) (hI:ChkInO w B g dm nm A c ts o L ts.length v st) (ho:OthIn w B o) (hso:SaneO o) (hs:SaneCat ts) (hi:i<o.rel.length) (hL:L.length ≤ 1000) (hB:B≤w.heap.size) {r:Int} (hr:declQ L o.rel[i].name ((7:Int))=r) :
 Calls Tryz.prog 113 #[.pointer (some ⟨g,0,none⟩), .int .i64 i] w fun e w' =>
  (e = .returned (.int .i64 r)∧(r = 0→ChkInO w' B g dm nm A c ts o (L ++ [o.rel[i].name]) ts.length v st ∧ ∀ q t cs,Blk w q t cs→Blk w' q t cs))∧Below B w w':=by
 have hsz:o.rel[i].name.size ≤ 1000000:=hso.names _ (by unfold Oth.names;simp only [List.mem_append,List.mem_map];exact .inr (.inr (.inr (.inl ⟨_,lgm hi,rfl⟩))))
 have hssz:o.rel[i].src.size ≤ 1000000:=hso.rsrc _ (lgm hi)
 obtain ⟨SA,sc,hv,_⟩:=hI.rd
 obtain ⟨b5,o5,he5,hb5,hc5⟩:=ho.rel.get hi
 have p5:=hI.blk.cell 5
 simp only [gE3] at p5
 rw [he5] at p5
 have x0:=hc5 0 _ rfl
 have x1:=hc5 1 _ rfl
 have x2:=hc5 2 _ rfl
 obtain ⟨x,hx⟩ : ∃ x,o.rel[i]=x:=⟨_,rfl⟩
 rw [hx] at hsz hr ⊢ hssz x0 x1 x2
 simp only [Nat.add_zero] at x0
 obtain ⟨d,hd⟩ : ∃ d,declErr L x.name=d:=⟨_,rfl⟩
 have HD:=qh hd
 have HR:=qh hr
 have HI:=qh hI
 have HS:=qh hs
 clear hI hs hd hr ho hso hc5 hx he5
 go_enter Tryz.func113,Tryz.ntmps113
 go_upto_region 2 with (fail)
 refine abs_world (P:=fun u=>Code.wp _ _ _ _ u) (R:=fun u=>Blk u w.heap.size 186 (Rel.cells x).toArray∧Below w.heap.size w u) ⟨?_,?_⟩ ?_
 ·exact Blk.new' spA
 ·exact belA
 rintro W ⟨hX,hbW⟩
 have hzX:=hX.lt
 have HX:=qh hX
 have HIW:=qh (HI.out.next hbW)
 have k0:=hX.cell 0
 simp only [Rel.cells,gE3] at k0
 have hbz:=hbW.size
 clear hX p5 x0 x1 x2
 go_upto_region 3 with (go_at_call 149;(with_reducible refine (chk_declareO A c dm nm g v ts o L x.name _ HIW.out.blk HIW.out.decl (by unfold maxLen;omega) hsz HD.out).mono ?_);rintro e w1 ⟨rfl,hM1,hg1⟩)
 have hz1:=hg1.size
 have hb1:Below B w w1:=(hbW.mono hB).trans (grown_dm hg1 omA HI.out.hd)
 clear k0
 by_cases hd0:d = 0
 rotate_left
 ·have hd0':(d != 0)=true:=by simpa using hd0
  have HRD:Hid (r=d):=qh (by rw [← HR.out];unfold declQ;rw [HD.out,if_neg hd0])
  have HNZ:=qh hd0
  clear hd0 hM1
  go_wp2_with fail
  go_ret
  exact ⟨⟨ret_int HRD.out.symm,fun h=>absurd (HRD.out.symm.trans h) HNZ.out⟩,hb1⟩
 subst hd0
 have hX1:=HX.out.grown hg1 (fun e=>HIW.out.decl.neBlk HX.out (Option.some.inj e).symm)
 have HX1:=qh hX1
 have hzX1:=hX1.lt
 have HKP:Hid (∀ q t cs,Blk w q t cs→Blk w1 q t cs):=qh fun q t cs hq=>(hq.below hbW hq.lt).grown hg1 (fun e=>HIW.out.decl.neBlk (hq.below hbW hq.lt) (Option.some.inj e).symm)
 have HI1:=qh (HIW.out.named (hM1 (by first|rfl|trivial)) hg1)
 have HRQ:=qh (show (7:Int)=r by rw [← HR.out];unfold declQ;rw [if_pos HD.out])
 clear hM1 hX1
 have HR0:Hid (r = 7):=qh HRQ.out.symm
 obtain ⟨kk,hk⟩ : ∃ kk,findI (ts.map Tab.name) x.src ts.length=kk:=⟨_,rfl⟩
 have hlen:=HS.out.len
 have hkl:kk<(ts.length:Int) ∧ -1≤kk:=by
  rcases Int.lt_or_le kk 0 with h|h
  ·have h1:=findT_neg (ts:=ts) (s:=x.src) (n:=(ts.length:Int)) (by rw [findT_eqI,hk];exact h)
   rw [findT_eqI,hk] at h1
   omega
  ·obtain ⟨j,hj,e1,e2,_⟩:=findI_get (l:=ts.map Tab.name) (s:=x.src) (n:=(ts.length:Int)) omA
   omega
 have HK:=qh ((findT_eqI ts x.src).trans hk)
 obtain ⟨SA1,sc1,hv1,hrd1⟩:=HI1.out.rd
 have HRD:=qh hrd1
 have k1:=HX1.out.cell 1
 simp only [Rel.cells,gE3] at k1
 obtain ⟨p0,p8,p9,p10⟩:=Chk.blk HRD.out.blk
 have hwr:IntKind.i64.wrap (kk - (ts.length:Int))=kk - (ts.length:Int):=IntWalk.i64_in _ omA
 have hlt:decide (kk - (ts.length:Int) < 0)=true:=by simp;omega
 have kq0:=keepQ (w:=w1) g HRD.out.blk.lt
 have kq1:=keepQ (w:=w1) w.heap.size hzX1
 have HFH:Hid (∀ y:BelOf w1,Calls Tryz.prog 157 #[.pointer (some ⟨g,0,none⟩), .string x.src] y.u fun e w'=>e = .returned (.int .i64 kk)∧Below y.u.heap.size y.u w'):=qh (fun y=>chk_findO A c dm nm g ts.length (.slice SA1 ts.length sc1) ts o ts.length x.src _ (HRD.out.next y.h).blk (HRD.out.next y.h).nums hssz HK.out)
 clear hk hrd1 hkl
 go_upto_region 5 with (fail)
 refine wp_region_bel krA krA ?_;(repeat (go_big_quiet_step ((go_at_call 157;with_reducible exact bel_of (HFH.out _)))));refine wpQuiet_nil ?_;intro wq hq
 go_wp2_with fail
 go_ret
 exact ⟨⟨ret_int HR0.out.symm,fun h=>by have:=HR0.out;omega⟩,hb1.trans (hq.mono omA)⟩
theorem chk_sketchO (B g dm nm:Nat) (A:Option Addr) (c:Nat) (ts:List Tab) (o:Oth) (L:List ByteArray) (v:Value) (st:List Sto) (i:Nat) (w:World) (hI:ChkInO w B g dm nm A c ts o L ts.length v st) (ho:OthIn w B o) (hso:SaneO o) (hs:SaneCat ts) (hi:i<o.skt.length) (hL:L.length ≤ 1000) (hB:B≤w.heap.size) {r:Int} (hr:declQ L o.skt[i].name (sktErr ts o.skt[i])=r) :
 Calls Tryz.prog 111 #[.pointer (some ⟨g,0,none⟩), .int .i64 i] w fun e w' =>
  (e = .returned (.int .i64 r)∧(r = 0→ChkInO w' B g dm nm A c ts o (L ++ [o.skt[i].name]) ts.length v st ∧ ∀ q t cs,Blk w q t cs→Blk w' q t cs))∧Below B w w':=by
 have hsz:o.skt[i].name.size ≤ 1000000:=hso.names _ (by unfold Oth.names;simp only [List.mem_append,List.mem_map];exact .inr (.inl ⟨_,lgm hi,rfl⟩))
 have hssz:o.skt[i].src.size ≤ 1000000:=hso.ssrc _ (lgm hi)
 obtain ⟨SA,sc,hv,_⟩:=hI.rd
 obtain ⟨b5,o5,he5,hb5,hc5⟩:=ho.skt.get hi
 have p3:=hI.blk.cell 3
 simp only [gE3] at p3
 rw [he5] at p3
 have x0:=hc5 0 _ rfl
 have x1:=hc5 1 _ rfl
 have x2:=hc5 2 _ rfl
 have x3:=hc5 3 _ rfl
 have x4:=hc5 4 _ rfl
 have x5:=hc5 5 _ rfl
 obtain ⟨x,hx⟩ : ∃ x,o.skt[i]=x:=⟨_,rfl⟩
 rw [hx] at hsz hr ⊢ hssz x0 x1 x2 x3 x4 x5
 simp only [Nat.add_zero] at x0
 obtain ⟨d,hd⟩ : ∃ d,declErr L x.name=d:=⟨_,rfl⟩
 have HD:=qh hd
 have HR:=qh hr
 have HI:=qh hI
 have HS:=qh hs
 clear hI hs hd hr ho hso hc5 hx he5
 go_enter Tryz.func111,Tryz.ntmps111
 go_upto_region 2 with (fail)
 refine abs_world (P:=fun u=>Code.wp _ _ _ _ u) (R:=fun u=>Blk u w.heap.size 182 (Skt.cells x).toArray∧Below w.heap.size w u) ⟨?_,?_⟩ ?_
 ·exact Blk.new' spA
 ·exact belA
 rintro W ⟨hX,hbW⟩
 have hzX:=hX.lt
 have HX:=qh hX
 have HIW:=qh (HI.out.next hbW)
 have k0:=hX.cell 0
 simp only [Skt.cells,gE3] at k0
 have hbz:=hbW.size
 clear hX p3 x0 x1 x2 x3 x4 x5
 go_upto_region 3 with (go_at_call 149;(with_reducible refine (chk_declareO A c dm nm g v ts o L x.name _ HIW.out.blk HIW.out.decl (by unfold maxLen;omega) hsz HD.out).mono ?_);rintro e w1 ⟨rfl,hM1,hg1⟩)
 have hz1:=hg1.size
 have hb1:Below B w w1:=(hbW.mono hB).trans (grown_dm hg1 omA HI.out.hd)
 clear k0
 by_cases hd0:d = 0
 rotate_left
 ·have hd0':(d != 0)=true:=by simpa using hd0
  have HRD:Hid (r=d):=qh (by rw [← HR.out];unfold declQ;rw [HD.out,if_neg hd0])
  have HNZ:=qh hd0
  clear hd0 hM1
  go_wp2_with fail
  go_ret
  exact ⟨⟨ret_int HRD.out.symm,fun h=>absurd (HRD.out.symm.trans h) HNZ.out⟩,hb1⟩
 subst hd0
 have hX1:=HX.out.grown hg1 (fun e=>HIW.out.decl.neBlk HX.out (Option.some.inj e).symm)
 have HX1:=qh hX1
 have hzX1:=hX1.lt
 have HKP:Hid (∀ q t cs,Blk w q t cs→Blk w1 q t cs):=qh fun q t cs hq=>(hq.below hbW hq.lt).grown hg1 (fun e=>HIW.out.decl.neBlk (hq.below hbW hq.lt) (Option.some.inj e).symm)
 have HI1:=qh (HIW.out.named (hM1 (by first|rfl|trivial)) hg1)
 have HRQ:=qh (show sktErr ts x=r by rw [← HR.out];unfold declQ;rw [if_pos HD.out])
 clear hM1 hX1
 obtain ⟨r1,r2,h12⟩ : ∃ r1 r2,srcE ts x.src x.col=(r1,r2):=⟨_,_,rfl⟩
 have H12:=qh h12
 obtain ⟨SA1,sc1,hv1,hrd1⟩:=HI1.out.rd
 have HRD:=qh hrd1
 have k1:=HX1.out.cell 1
 have k2:=HX1.out.cell 2
 simp only [Skt.cells,gE3] at k1 k2
 have hp12:(srcE ts x.src x.col).1=r1∧(srcE ts x.src x.col).2=r2:=by rw [h12];exact ⟨rfl,rfl⟩
 have HP:=qh hp12
 clear h12 hrd1 hp12
 go_upto_region 6 with (go_at_call 162;(with_reducible refine (chk_sourceO g dm nm ts.length A c ts o SA1 sc1 st x.src x.col _ HRD.out HS.out hssz H12.out).mono ?_);rintro e w2 ⟨rfl,hb2⟩)
 have hbx:Below B w w2:=hb1.trans (hb2.mono omA)
 have HI2:=qh (HI1.out.next hb2)
 have HKQ:Hid (∀ q t cs,Blk w q t cs→Blk w2 q t cs):=qh fun q t cs hq=>(HKP.out q t cs hq).below hb2 (HKP.out q t cs hq).lt
 have HX2:=qh (HX1.out.below hb2 hzX1)
 clear k1 k2
 by_cases h0:r2 = 0
 rotate_left
 ·have h0':(r2 != 0)=true:=by simpa using h0
  have HR0:Hid (r=r2):=qh (by rw [← HRQ.out];unfold sktErr;rw [HP.out.2,if_neg h0])
  have HNZ:=qh h0
  clear h0
  go_wp2_with fail
  go_ret
  exact ⟨⟨ret_int HR0.out.symm,fun h=>absurd (HR0.out.symm.trans h) HNZ.out⟩,hbx⟩
 subst h0
 have k3:=HX2.out.cell 3
 have k4:=HX2.out.cell 4
 have k5:=HX2.out.cell 5
 simp only [Skt.cells,gE3] at k3 k4 k5
 obtain ⟨a2,h2⟩ : ∃ b,withinB x.width 1 1024=b:=⟨_,rfl⟩
 obtain ⟨a3,h3⟩ : ∃ b,withinB x.depth 1 8=b:=⟨_,rfl⟩
 have ha:withinB x.kind 0 2=((!(x.kind != 0) || !(x.kind != 1)) || !(x.kind != 2)):=by
  unfold withinB
  rw [Bool.eq_iff_iff]
  simp
  omega
 have HA:=qh ha
 have H2:=qh h2
 have H3:=qh h3
 clear h2 h3 ha
 by_cases z0:x.kind = 0
 ·have e0:(x.kind != 0)=false:=by simpa using z0
  have e4:(x.kind == 2)=false:=by rw [beq_eq_false_iff_ne];omega
  clear z0
  cases a2
  ·have HRZ:Hid (r = 1):=qh (by rw [← HRQ.out];simp [sktErr,HP.out.2,sktB,HA.out,H2.out,H3.out, *])
   go_wp2_with (go_at_call 150;(first|(with_reducible refine (cat_within x.width 1 1024 _ H2.out).mono ?_)|(with_reducible refine (cat_within x.depth 1 8 _ H3.out).mono ?_));rintro e w3 ⟨rfl,rfl⟩)
   go_ret
   first
    | exact ⟨⟨ret_int HRZ.out.symm,fun _=>⟨HI2.out,HKQ.out⟩⟩,hbx⟩
    | exact ⟨⟨ret_int HRZ.out.symm,fun h=>by have:=HRZ.out;omega⟩,hbx⟩
  cases a3
  ·have HRZ:Hid (r = 1):=qh (by rw [← HRQ.out];simp [sktErr,HP.out.2,sktB,HA.out,H2.out,H3.out, *])
   go_wp2_with (go_at_call 150;(first|(with_reducible refine (cat_within x.width 1 1024 _ H2.out).mono ?_)|(with_reducible refine (cat_within x.depth 1 8 _ H3.out).mono ?_));rintro e w3 ⟨rfl,rfl⟩)
   go_ret
   first
    | exact ⟨⟨ret_int HRZ.out.symm,fun _=>⟨HI2.out,HKQ.out⟩⟩,hbx⟩
    | exact ⟨⟨ret_int HRZ.out.symm,fun h=>by have:=HRZ.out;omega⟩,hbx⟩
  have hmul : 0≤x.width*x.depth∧x.width*x.depth ≤ 1024 * 8:=by
   have h2:=H2.out
   have h3:=H3.out
   unfold withinB at h2 h3
   rw [Bool.and_eq_true,decide_eq_true_eq,decide_eq_true_eq] at h2 h3
   exact ⟨Int.mul_nonneg omA omA,Int.mul_le_mul h2.2 h3.2 omA omA⟩
  have hwr:IntKind.i64.wrap (x.width*x.depth)=x.width*x.depth:=IntWalk.i64_in _ omA
  clear hmul
  by_cases hdp:x.depth = 1
  ·have e5:(x.depth != 1)=false:=by simpa using hdp
   clear hdp
   cases e3:decide (1024<x.width*x.depth)
   ·have HRZ:Hid (r = 0):=qh (by rw [← HRQ.out];simp [sktErr,HP.out.2,sktB,HA.out,H2.out,H3.out, *])
    go_wp2_with (go_at_call 150;(first|(with_reducible refine (cat_within x.width 1 1024 _ H2.out).mono ?_)|(with_reducible refine (cat_within x.depth 1 8 _ H3.out).mono ?_));rintro e w3 ⟨rfl,rfl⟩)
    go_ret
    first
     | exact ⟨⟨ret_int HRZ.out.symm,fun _=>⟨HI2.out,HKQ.out⟩⟩,hbx⟩
     | exact ⟨⟨ret_int HRZ.out.symm,fun h=>by have:=HRZ.out;omega⟩,hbx⟩
   ·have HRZ:Hid (r = 1):=qh (by rw [← HRQ.out];simp [sktErr,HP.out.2,sktB,HA.out,H2.out,H3.out, *])
    go_wp2_with (go_at_call 150;(first|(with_reducible refine (cat_within x.width 1 1024 _ H2.out).mono ?_)|(with_reducible refine (cat_within x.depth 1 8 _ H3.out).mono ?_));rintro e w3 ⟨rfl,rfl⟩)
    go_ret
    first
     | exact ⟨⟨ret_int HRZ.out.symm,fun _=>⟨HI2.out,HKQ.out⟩⟩,hbx⟩
     | exact ⟨⟨ret_int HRZ.out.symm,fun h=>by have:=HRZ.out;omega⟩,hbx⟩
  ·have e5:(x.depth != 1)=true:=by simpa using hdp
   clear hdp
   cases e3:decide (1024<x.width*x.depth)
   ·have HRZ:Hid (r=if (x.kind == 2)=true then 1 else 0):=qh (by rw [← HRQ.out];simp [sktErr,HP.out.2,sktB,HA.out,H2.out,H3.out, *])
    rw [e4] at HRZ
    simp only [if_true,if_false,Bool.false_eq_true] at HRZ
    go_wp2_with (go_at_call 150;(first|(with_reducible refine (cat_within x.width 1 1024 _ H2.out).mono ?_)|(with_reducible refine (cat_within x.depth 1 8 _ H3.out).mono ?_));rintro e w3 ⟨rfl,rfl⟩)
    go_ret
    first
     | exact ⟨⟨ret_int HRZ.out.symm,fun _=>⟨HI2.out,HKQ.out⟩⟩,hbx⟩
     | exact ⟨⟨ret_int HRZ.out.symm,fun h=>by have:=HRZ.out;omega⟩,hbx⟩
   ·have HRZ:Hid (r = 1):=qh (by rw [← HRQ.out];simp [sktErr,HP.out.2,sktB,HA.out,H2.out,H3.out, *])
    go_wp2_with (go_at_call 150;(first|(with_reducible refine (cat_within x.width 1 1024 _ H2.out).mono ?_)|(with_reducible refine (cat_within x.depth 1 8 _ H3.out).mono ?_));rintro e w3 ⟨rfl,rfl⟩)
    go_ret
    first
     | exact ⟨⟨ret_int HRZ.out.symm,fun _=>⟨HI2.out,HKQ.out⟩⟩,hbx⟩
     | exact ⟨⟨ret_int HRZ.out.symm,fun h=>by have:=HRZ.out;omega⟩,hbx⟩
 have e0:(x.kind != 0)=true:=by simpa using z0
 by_cases z1:x.kind = 1
 ·have e1:(x.kind != 1)=false:=by simpa using z1
  have e4:(x.kind == 2)=false:=by rw [beq_eq_false_iff_ne];omega
  clear z0 z1
  cases a2
  ·have HRZ:Hid (r = 1):=qh (by rw [← HRQ.out];simp [sktErr,HP.out.2,sktB,HA.out,H2.out,H3.out, *])
   go_wp2_with (go_at_call 150;(first|(with_reducible refine (cat_within x.width 1 1024 _ H2.out).mono ?_)|(with_reducible refine (cat_within x.depth 1 8 _ H3.out).mono ?_));rintro e w3 ⟨rfl,rfl⟩)
   go_ret
   first
    | exact ⟨⟨ret_int HRZ.out.symm,fun _=>⟨HI2.out,HKQ.out⟩⟩,hbx⟩
    | exact ⟨⟨ret_int HRZ.out.symm,fun h=>by have:=HRZ.out;omega⟩,hbx⟩
  cases a3
  ·have HRZ:Hid (r = 1):=qh (by rw [← HRQ.out];simp [sktErr,HP.out.2,sktB,HA.out,H2.out,H3.out, *])
   go_wp2_with (go_at_call 150;(first|(with_reducible refine (cat_within x.width 1 1024 _ H2.out).mono ?_)|(with_reducible refine (cat_within x.depth 1 8 _ H3.out).mono ?_));rintro e w3 ⟨rfl,rfl⟩)
   go_ret
   first
    | exact ⟨⟨ret_int HRZ.out.symm,fun _=>⟨HI2.out,HKQ.out⟩⟩,hbx⟩
    | exact ⟨⟨ret_int HRZ.out.symm,fun h=>by have:=HRZ.out;omega⟩,hbx⟩
  have hmul : 0≤x.width*x.depth∧x.width*x.depth ≤ 1024 * 8:=by
   have h2:=H2.out
   have h3:=H3.out
   unfold withinB at h2 h3
   rw [Bool.and_eq_true,decide_eq_true_eq,decide_eq_true_eq] at h2 h3
   exact ⟨Int.mul_nonneg omA omA,Int.mul_le_mul h2.2 h3.2 omA omA⟩
  have hwr:IntKind.i64.wrap (x.width*x.depth)=x.width*x.depth:=IntWalk.i64_in _ omA
  clear hmul
  by_cases hdp:x.depth = 1
  ·have e5:(x.depth != 1)=false:=by simpa using hdp
   clear hdp
   cases e3:decide (1024<x.width*x.depth)
   ·have HRZ:Hid (r = 0):=qh (by rw [← HRQ.out];simp [sktErr,HP.out.2,sktB,HA.out,H2.out,H3.out, *])
    go_wp2_with (go_at_call 150;(first|(with_reducible refine (cat_within x.width 1 1024 _ H2.out).mono ?_)|(with_reducible refine (cat_within x.depth 1 8 _ H3.out).mono ?_));rintro e w3 ⟨rfl,rfl⟩)
    go_ret
    first
     | exact ⟨⟨ret_int HRZ.out.symm,fun _=>⟨HI2.out,HKQ.out⟩⟩,hbx⟩
     | exact ⟨⟨ret_int HRZ.out.symm,fun h=>by have:=HRZ.out;omega⟩,hbx⟩
   ·have HRZ:Hid (r = 1):=qh (by rw [← HRQ.out];simp [sktErr,HP.out.2,sktB,HA.out,H2.out,H3.out, *])
    go_wp2_with (go_at_call 150;(first|(with_reducible refine (cat_within x.width 1 1024 _ H2.out).mono ?_)|(with_reducible refine (cat_within x.depth 1 8 _ H3.out).mono ?_));rintro e w3 ⟨rfl,rfl⟩)
    go_ret
    first
     | exact ⟨⟨ret_int HRZ.out.symm,fun _=>⟨HI2.out,HKQ.out⟩⟩,hbx⟩
     | exact ⟨⟨ret_int HRZ.out.symm,fun h=>by have:=HRZ.out;omega⟩,hbx⟩
  ·have e5:(x.depth != 1)=true:=by simpa using hdp
   clear hdp
   cases e3:decide (1024<x.width*x.depth)
   ·have HRZ:Hid (r=if (x.kind == 2)=true then 1 else 0):=qh (by rw [← HRQ.out];simp [sktErr,HP.out.2,sktB,HA.out,H2.out,H3.out, *])
    rw [e4] at HRZ
    simp only [if_true,if_false,Bool.false_eq_true] at HRZ
    go_wp2_with (go_at_call 150;(first|(with_reducible refine (cat_within x.width 1 1024 _ H2.out).mono ?_)|(with_reducible refine (cat_within x.depth 1 8 _ H3.out).mono ?_));rintro e w3 ⟨rfl,rfl⟩)
    go_ret
    first
     | exact ⟨⟨ret_int HRZ.out.symm,fun _=>⟨HI2.out,HKQ.out⟩⟩,hbx⟩
     | exact ⟨⟨ret_int HRZ.out.symm,fun h=>by have:=HRZ.out;omega⟩,hbx⟩
   ·have HRZ:Hid (r = 1):=qh (by rw [← HRQ.out];simp [sktErr,HP.out.2,sktB,HA.out,H2.out,H3.out, *])
    go_wp2_with (go_at_call 150;(first|(with_reducible refine (cat_within x.width 1 1024 _ H2.out).mono ?_)|(with_reducible refine (cat_within x.depth 1 8 _ H3.out).mono ?_));rintro e w3 ⟨rfl,rfl⟩)
    go_ret
    first
     | exact ⟨⟨ret_int HRZ.out.symm,fun _=>⟨HI2.out,HKQ.out⟩⟩,hbx⟩
     | exact ⟨⟨ret_int HRZ.out.symm,fun h=>by have:=HRZ.out;omega⟩,hbx⟩
 have e1:(x.kind != 1)=true:=by simpa using z1
 by_cases z2:x.kind = 2
 ·have e2:(x.kind != 2)=false:=by simpa using z2
  have e4:(x.kind == 2)=true:=by simpa using z2
  clear z0 z1 z2
  cases a2
  ·have HRZ:Hid (r = 1):=qh (by rw [← HRQ.out];simp [sktErr,HP.out.2,sktB,HA.out,H2.out,H3.out, *])
   go_wp2_with (go_at_call 150;(first|(with_reducible refine (cat_within x.width 1 1024 _ H2.out).mono ?_)|(with_reducible refine (cat_within x.depth 1 8 _ H3.out).mono ?_));rintro e w3 ⟨rfl,rfl⟩)
   go_ret
   first
    | exact ⟨⟨ret_int HRZ.out.symm,fun _=>⟨HI2.out,HKQ.out⟩⟩,hbx⟩
    | exact ⟨⟨ret_int HRZ.out.symm,fun h=>by have:=HRZ.out;omega⟩,hbx⟩
  cases a3
  ·have HRZ:Hid (r = 1):=qh (by rw [← HRQ.out];simp [sktErr,HP.out.2,sktB,HA.out,H2.out,H3.out, *])
   go_wp2_with (go_at_call 150;(first|(with_reducible refine (cat_within x.width 1 1024 _ H2.out).mono ?_)|(with_reducible refine (cat_within x.depth 1 8 _ H3.out).mono ?_));rintro e w3 ⟨rfl,rfl⟩)
   go_ret
   first
    | exact ⟨⟨ret_int HRZ.out.symm,fun _=>⟨HI2.out,HKQ.out⟩⟩,hbx⟩
    | exact ⟨⟨ret_int HRZ.out.symm,fun h=>by have:=HRZ.out;omega⟩,hbx⟩
  have hmul : 0≤x.width*x.depth∧x.width*x.depth ≤ 1024 * 8:=by
   have h2:=H2.out
   have h3:=H3.out
   unfold withinB at h2 h3
   rw [Bool.and_eq_true,decide_eq_true_eq,decide_eq_true_eq] at h2 h3
   exact ⟨Int.mul_nonneg omA omA,Int.mul_le_mul h2.2 h3.2 omA omA⟩
  have hwr:IntKind.i64.wrap (x.width*x.depth)=x.width*x.depth:=IntWalk.i64_in _ omA
  clear hmul
  by_cases hdp:x.depth = 1
  ·have e5:(x.depth != 1)=false:=by simpa using hdp
   clear hdp
   cases e3:decide (1024<x.width*x.depth)
   ·have HRZ:Hid (r = 0):=qh (by rw [← HRQ.out];simp [sktErr,HP.out.2,sktB,HA.out,H2.out,H3.out, *])
    go_wp2_with (go_at_call 150;(first|(with_reducible refine (cat_within x.width 1 1024 _ H2.out).mono ?_)|(with_reducible refine (cat_within x.depth 1 8 _ H3.out).mono ?_));rintro e w3 ⟨rfl,rfl⟩)
    go_ret
    first
     | exact ⟨⟨ret_int HRZ.out.symm,fun _=>⟨HI2.out,HKQ.out⟩⟩,hbx⟩
     | exact ⟨⟨ret_int HRZ.out.symm,fun h=>by have:=HRZ.out;omega⟩,hbx⟩
   ·have HRZ:Hid (r = 1):=qh (by rw [← HRQ.out];simp [sktErr,HP.out.2,sktB,HA.out,H2.out,H3.out, *])
    go_wp2_with (go_at_call 150;(first|(with_reducible refine (cat_within x.width 1 1024 _ H2.out).mono ?_)|(with_reducible refine (cat_within x.depth 1 8 _ H3.out).mono ?_));rintro e w3 ⟨rfl,rfl⟩)
    go_ret
    first
     | exact ⟨⟨ret_int HRZ.out.symm,fun _=>⟨HI2.out,HKQ.out⟩⟩,hbx⟩
     | exact ⟨⟨ret_int HRZ.out.symm,fun h=>by have:=HRZ.out;omega⟩,hbx⟩
  ·have e5:(x.depth != 1)=true:=by simpa using hdp
   clear hdp
   cases e3:decide (1024<x.width*x.depth)
   ·have HRZ:Hid (r=if (x.kind == 2)=true then 1 else 0):=qh (by rw [← HRQ.out];simp [sktErr,HP.out.2,sktB,HA.out,H2.out,H3.out, *])
    rw [e4] at HRZ
    simp only [if_true,if_false,Bool.false_eq_true] at HRZ
    go_wp2_with (go_at_call 150;(first|(with_reducible refine (cat_within x.width 1 1024 _ H2.out).mono ?_)|(with_reducible refine (cat_within x.depth 1 8 _ H3.out).mono ?_));rintro e w3 ⟨rfl,rfl⟩)
    go_ret
    first
     | exact ⟨⟨ret_int HRZ.out.symm,fun _=>⟨HI2.out,HKQ.out⟩⟩,hbx⟩
     | exact ⟨⟨ret_int HRZ.out.symm,fun h=>by have:=HRZ.out;omega⟩,hbx⟩
   ·have HRZ:Hid (r = 1):=qh (by rw [← HRQ.out];simp [sktErr,HP.out.2,sktB,HA.out,H2.out,H3.out, *])
    go_wp2_with (go_at_call 150;(first|(with_reducible refine (cat_within x.width 1 1024 _ H2.out).mono ?_)|(with_reducible refine (cat_within x.depth 1 8 _ H3.out).mono ?_));rintro e w3 ⟨rfl,rfl⟩)
    go_ret
    first
     | exact ⟨⟨ret_int HRZ.out.symm,fun _=>⟨HI2.out,HKQ.out⟩⟩,hbx⟩
     | exact ⟨⟨ret_int HRZ.out.symm,fun h=>by have:=HRZ.out;omega⟩,hbx⟩
 have e2:(x.kind != 2)=true:=by simpa using z2
 clear z0 z1 z2
 have HRZ:Hid (r = 1):=qh (by rw [← HRQ.out];simp [sktErr,HP.out.2,sktB,HA.out,e0,e1,e2])
 go_wp2_with fail
 go_ret
 exact ⟨⟨ret_int HRZ.out.symm,fun h=>by have:=HRZ.out;omega⟩,hbx⟩
end Go.Proofs.YtjhnpnhpmdkpcaaGreat
