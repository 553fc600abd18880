/-
  Contracts and plain laws of this seat, part 17.
-/
import Derived.Test.YtjidligipoldeaaGreatT14
set_option linter.unusedVariables false
set_option linter.unusedSimpArgs false
set_option maxRecDepth 100000
set_option maxHeartbeats 16000000
namespace Go.Proofs.YtjidligipoldeaaGreat
open Go.RowKit
theorem bh{P:Prop}(h:P:=by rw[HU.out,HV.out];exact huv):P:=h
theorem bj{P:Prop}(h:P:=by rw[←hr];simp only[dD,ne_eq,decide_not,hk,hc',hv,hn',hrb];rfl):P:=h
theorem bk{P:Prop}(h:P:=by rw[←hr];simp only[eG,ne_eq,decide_not,hn',hc',hv,hk];rfl):P:=h
theorem bm{P:Prop}(h:P:=by rw[←hr];simp only[dJ,hn',hk,h5,hv];rfl):P:=h
theorem bq(x a b:Int)(w:World){r:Bool}(hr:aB x a b=r):Calls Tryz.prog 128 #[.int .i64 x,.int .i64 a,.int .i64 b] w fun e w'=>e=.returned (.bool r)∧w=w':=by
 subst hr
 by_cases h1:a≤x
 ·by_cases h2:x≤b
  ·have HE:Hid (aB x a b=true):=qh (by simp[aB,h1,h2])
   go_enter Tryz.func128,Tryz.ntmps128
   go_wp2_with fail
   go_ret
   exact⟨ax HE.out.symm,rfl⟩
  ·have HE:Hid (aB x a b=false):=qh (by simp[aB,h2])
   have h2':decide (x≤b)=false:=by simpa using h2
   go_enter Tryz.func128,Tryz.ntmps128
   go_wp2_with fail
   go_ret
   exact⟨ax HE.out.symm,rfl⟩
 ·have HE:Hid (aB x a b=false):=qh (by simp[aB,h1])
  have h1':decide (a≤x)=false:=by simpa using h1
  go_enter Tryz.func128,Tryz.ntmps128
  go_wp2_with fail
  go_ret
  exact⟨ax HE.out.symm,rfl⟩
structure Cf (ae:List Col) (row:List Val) (seq:List Int) (i:Nat):Prop where
 val:∀h:i<row.length,bT row[i]=true
 typ:∀(h:i<row.length) (k:i<ae.length),dz row[i] ae[i].ty=true
 pos:∀h:i<seq.length,aB seq[i] 1 1073741824=true
 asc:∀(h:i<seq.length) (h0:0<seq.length),seq[0]≤seq[i]
structure kM (ae:List Col) (row:List Val) (seq:List Int) (day:Int):Prop where
 len:row.length=ae.length
 oO:seq.length=ae.length
 day:aB day 0 1048576=true
 cell:∀i,i<ae.length→Cf ae row seq i
 key:∀h:0<row.length,row[0].kind≠0
theorem tK(nm:ByteArray)(TA:Option Addr)(tc cn:Nat)(ae:List Col)(er rt:Int)(RA:Option Addr)(rc rn:Nat)(row:List Val)(SA:Option Addr)(sc sn:Nat)(seq:List Int)(dy:Int)(w:World)(ht:ag w w.heap.size Col.cells 7 TA ae)(hcn:ae.length=cn)(hr:ag w w.heap.size Val.cells 3 RA row)(hrn:row.length=rn)(hs:ag w w.heap.size intCells 1 SA seq)(hsn:seq.length=sn)(hc0:0<cn)(hc1:cn≤1000000)(hr1:rn≤1000000)(hs1:sn≤1000000){r:Bool}(hres:pb (kM ae row seq dy)=r):
 Calls Tryz.prog 189 #[.agg #[.string nm,.slice TA cn tc,.int .i64 er,.int .i64 rt],.agg #[.slice RA rn rc,.slice SA sn sc,.int .i64 dy]] w fun e w'=>e=.returned (.bool r)∧Below w.heap.size w w':=by
 subst hres
 by_cases e1:rn=cn
 ·by_cases e2:sn=cn
  ·subst e1 e2
   cases hd:aB dy 0 1048576
   ·have HNO:Hid (¬ kM ae row seq dy):=qh fun h=>by have:=h.day;rw[hd]at this;cases this
    have HD:=qh hd
    have e1:((sn:Int) != (sn:Int))=false:=by simp
    clear hd hcn hrn hsn ht hr hs
    go_enter Tryz.func189,Tryz.ntmps189
    go_wp2_with (go_at_call 128;(with_reducible refine(bq dy 0 1048576 _ HD.out).mono ?_);rintro e w1 ⟨rfl,rfl⟩)
    go_ret
    (exact⟨ax (bg HNO.out).symm,by first|assumption|exact ai⟩)
   ·have HD:=qh hd
    have HT:=qh ht
    have HR:=qh hr
    have HS:=qh hs
    have HCN:=qh hcn
    have HRN:=qh hrn
    have HSN:=qh hsn
    have e1:((sn:Int) != (sn:Int))=false:=by simp
    clear hd hcn hrn hsn ht hr hs
    go_enter Tryz.func189,Tryz.ntmps189
    go_upto_region 1 with (fail)
    refine ah (P:=fun u=>Code.wp _ _ _ _ u) (R:=fun u=>Blk u w.heap.size 61 #[.string nm,.slice TA sn tc,.int .i64 er,.int .i64 rt]∧Blk u (w.heap.size+1) 66 #[.slice RA sn rc,.slice SA sn sc,.int .i64 dy]∧Below w.heap.size w u) ⟨?_,?_,?_⟩ ?_
    ·exact(Blk.new _ _ _).alloc _
    ·exact Blk.new' spA
    ·exact ai
    rintro W ⟨hB1,hB2,hbW⟩
    have hzW:=hB2.lt
    obtain⟨p0,p1,p2,p3⟩:=Tab.blk hB1
    have q0:=hB2.cell 0
    have q1:=hB2.cell 1
    have q2:=hB2.cell 2
    simp only[gE3]at q0 q1 q2
    have HB1:=qh hB1
    have HB2:=qh hB2
    clear hB1 hB2
    go_wp2_with (go_at_call 128;(with_reducible refine(bq dy 0 1048576 _ HD.out).mono ?_);rintro e w1 ⟨rfl,rfl⟩)
    clear p0 p1 p2 p3 q0 q1 q2
    go_loopw [5] (fun vi wr =>∃m:Nat,m≤sn∧vi=.int .i64 m∧Below W.heap.size W wr∧(∀i,i<m→Cf ae row seq i)) (fun vi _=>sn-(intOf vi).toNat)
    case atStart=>exact⟨0,Nat.zero_le _,rfl,Below.refl _ _,fun i h=>by omega⟩
    case round =>
     obtain⟨m,hm,rfl,hbr,hok⟩:=hrel
     have HOK:=qh hok
     have hxr:=aa hbW hbr hbW.size
     have hwz:=hbr.size
     obtain⟨p0,p1,p2,p3⟩:=Tab.blk (HB1.out.below hbr omA)
     have q0:=(HB2.out.below hbr hzW).cell 0
     have q1:=(HB2.out.below hbr hzW).cell 1
     simp only[gE3]at q0 q1
     clear hok
     by_cases hlt:m<sn
     ·have hlt':decide (m<sn)=true:=by simpa using hlt
      have hmc:m<ae.length:=by rw[HCN.out];exact hlt
      have hmr:m<row.length:=by rw[HRN.out];exact hlt
      have hms:m<seq.length:=by rw[HSN.out];exact hlt
      have hm0:0<seq.length:=by rw[HSN.out];omega
      obtain⟨cb,co,rfl,hcb,hcc⟩:=(HT.out.below hxr).get hmc
      obtain⟨rb,ro,rfl,hrb,hrc⟩:=(HR.out.below hxr).get hmr
      obtain⟨sb,so,rfl,hsb,hsc⟩:=(HS.out.below hxr).get hms
      obtain⟨sb',so',he',_,TQ⟩:=(HS.out.below hxr).get hm0
      injection he' with he'
      injection he' with he1 he2
      subst he1 he2
      have c1:=hcc 1 _ rfl
      obtain⟨y0,y1,y2⟩:=Val.cells3 hrc
      have s0:=hsc 0 _ rfl
      have s00:=TQ 0 _ rfl
      simp only[Nat.mul_one,Nat.add_zero,Nat.zero_add]at s0 s00
      have hk0:=az (w:=wr) w.heap.size omA
      have hk1:=az (w:=wr) (w.heap.size+1) omA
      have hk2:=az (w:=wr) cb omA
      have hk3:=az (w:=wr) rb omA
      have hk4:=az (w:=wr) sb omA
      have hd0:decide (0<sn)=true:=by simp;omega
      have HL:=qh (And.intro hmc (And.intro hmr (And.intro hms hm0)))
      clear hcc hrc hsc TQ
      cases hv1:bT row[m]
      ·have HNO:Hid (¬ kM ae row seq dy):=qh fun h=>by have:=(h.cell m hmc).val hmr;rw[hv1]at this;cases this
       have HV1:=qh hv1
       clear hv1
       go_upto_region 6 with (fail)
       refine af krA krA ?_;(repeat(go_big_quiet_step ((first
       | (go_at_call 45;with_reducible exact bn (bO row[m] _ HV1.out))
       | (go_at_call 86;with_reducible exact bn (cz row[m] ae[m].ty _ HV2.out))
       | (go_at_call 128;with_reducible exact cK (bq seq[m] 1 1073741824 _ HV3.out))))));refine wpQuiet_nil ?_;intro wq hq
       clear hk0 hk1 hk2 hk3 hk4 p0 p1 p2 p3 q0 q1 y0 y1 y2 s0 s00 c1
       go_wp2_with fail
       go_ret
       exact⟨ax (bg HNO.out).symm,aa hxr hq hxr.size⟩
      ·cases hv2:dz row[m] ae[m].ty
       ·have HNO:Hid (¬ kM ae row seq dy):=qh fun h=>by have:=(h.cell m hmc).typ hmr hmc;rw[hv2]at this;cases this
        have HV1:=qh hv1
        have HV2:=qh hv2
        clear hv1 hv2
        go_upto_region 6 with (fail)
        refine af krA krA ?_;(repeat(go_big_quiet_step ((first
        | (go_at_call 45;with_reducible exact bn (bO row[m] _ HV1.out))
        | (go_at_call 86;with_reducible exact bn (cz row[m] ae[m].ty _ HV2.out))
        | (go_at_call 128;with_reducible exact cK (bq seq[m] 1 1073741824 _ HV3.out))))));refine wpQuiet_nil ?_;intro wq hq
        clear hk0 hk1 hk2 hk3 hk4 p0 p1 p2 p3 q0 q1 y0 y1 y2 s0 s00 c1
        go_wp2_with fail
        go_ret
        exact⟨ax (bg HNO.out).symm,aa hxr hq hxr.size⟩
       ·cases hv3:aB seq[m] 1 1073741824
        ·have HNO:Hid (¬ kM ae row seq dy):=qh fun h=>by have:=(h.cell m hmc).pos hms;rw[hv3]at this;cases this
         have HV1:=qh hv1
         have HV2:=qh hv2
         have HV3:=qh hv3
         clear hv1 hv2 hv3
         go_upto_region 6 with (fail)
         refine af krA krA ?_;(repeat(go_big_quiet_step ((first
         | (go_at_call 45;with_reducible exact bn (bO row[m] _ HV1.out))
         | (go_at_call 86;with_reducible exact bn (cz row[m] ae[m].ty _ HV2.out))
         | (go_at_call 128;with_reducible exact cK (bq seq[m] 1 1073741824 _ HV3.out))))));refine wpQuiet_nil ?_;intro wq hq
         clear hk0 hk1 hk2 hk3 hk4 p0 p1 p2 p3 q0 q1 y0 y1 y2 s0 s00 c1
         go_wp2_with fail
         go_ret
         exact⟨ax (bg HNO.out).symm,aa hxr hq hxr.size⟩
        ·cases hv4:decide (seq[m]<seq[0])
         ·have HCO:Hid (Cf ae row seq m):=qh ⟨fun _=>hv1,fun _ _=>hv2,fun _=>hv3,fun _ _=>by have:=of_decide_eq_false hv4;omega⟩
          have HV1:=qh hv1
          have HV2:=qh hv2
          have HV3:=qh hv3
          clear hv1 hv2 hv3
          go_upto_region 6 with (fail)
          refine af krA krA ?_;(repeat(go_big_quiet_step ((first
          | (go_at_call 45;with_reducible exact bn (bO row[m] _ HV1.out))
          | (go_at_call 86;with_reducible exact bn (cz row[m] ae[m].ty _ HV2.out))
          | (go_at_call 128;with_reducible exact cK (bq seq[m] 1 1073741824 _ HV3.out))))));refine wpQuiet_nil ?_;intro wq hq
          clear hk0 hk1 hk2 hk3 hk4 p0 p1 p2 p3 q0 q1 y0 y1 y2 s0 s00 c1 hv4
          go_wp2_with fail
          go_roundw
          case rel=>exact⟨m+1,by omega,by go_num,aa hbr hq hwz,fun i hi=>by
           rcases Nat.lt_or_ge i m with h1|h1
           ·exact HOK.out i h1
           ·obtain rfl:i=m:=by omega
            exact HCO.out⟩
          case measure=>exact meA
         ·have HNO:Hid (¬ kM ae row seq dy):=qh fun h=>by have:=(h.cell m hmc).asc hms hm0;have:=of_decide_eq_true hv4;omega
          have HV1:=qh hv1
          have HV2:=qh hv2
          have HV3:=qh hv3
          clear hv1 hv2 hv3
          go_upto_region 6 with (fail)
          refine af krA krA ?_;(repeat(go_big_quiet_step ((first
          | (go_at_call 45;with_reducible exact bn (bO row[m] _ HV1.out))
          | (go_at_call 86;with_reducible exact bn (cz row[m] ae[m].ty _ HV2.out))
          | (go_at_call 128;with_reducible exact cK (bq seq[m] 1 1073741824 _ HV3.out))))));refine wpQuiet_nil ?_;intro wq hq
          clear hk0 hk1 hk2 hk3 hk4 p0 p1 p2 p3 q0 q1 y0 y1 y2 s0 s00 c1
          go_wp2_with fail
          go_ret
          exact⟨ax (bg HNO.out).symm,aa hxr hq hxr.size⟩
     ·have hlt':decide (m<sn)=false:=by simpa using hlt
      have hme:m=sn:=by omega
      have hmr:0<row.length:=by rw[HRN.out];omega
      obtain⟨rb,ro,rfl,hrb,hrc⟩:=(HR.out.below hxr).get hmr
      obtain⟨y0,y1,y2⟩:=Val.cells3 hrc
      simp only[Nat.zero_mul,Nat.add_zero]at y0 y1 y2
      have hd0:decide (0<sn)=true:=by simp;omega
      have Y3:Hid (∀i,i<ae.length→Cf ae row seq i):=qh fun i hi=>HOK.out i (by rw[hme,←HCN.out];exact hi)
      have dK:Hid (pb (kM ae row seq dy)=(row[0].kind != 0)):=qh (by
       by_cases hk:row[0].kind=0
       ·rw[bg (fun h=>h.key hmr hk),hk];rfl
       ·rw[bV ⟨by rw[HRN.out,HCN.out],by rw[HSN.out,HCN.out],HD.out,Y3.out,fun _=>hk⟩]
        exact(bne_iff_ne.2 hk).symm)
      obtain⟨kk,hkk⟩:∃k,row[0].kind=k:=⟨_,rfl⟩
      rw[hkk]at y0
      have HKK:=qh hkk
      clear hrc hme hkk
      go_wp2_with fail
      go_ret
      exact⟨ax (by rw[dK.out,HKK.out]),hxr⟩
  ·have HNO:Hid (¬ kM ae row seq dy):=qh fun h=>e2 (by rw[←hsn,←hcn];exact h.oO)
   have e1':((rn:Int) != (cn:Int))=false:=by simp[e1]
   have e2':((sn:Int) != (cn:Int))=true:=by simp;omega
   clear e1 e2 hcn hrn hsn ht hr hs
   go_enter Tryz.func189,Tryz.ntmps189
   go_wp2_with fail
   go_ret
   (exact⟨ax (bg HNO.out).symm,by first|assumption|exact ai⟩)
 ·have HNO:Hid (¬ kM ae row seq dy):=qh fun h=>e1 (by rw[←hrn,←hcn];exact h.len)
  have e1':((rn:Int) != (cn:Int))=true:=by simp;omega
  clear e1 hcn hrn hsn ht hr hs
  go_enter Tryz.func189,Tryz.ntmps189
  go_wp2_with fail
  go_ret
  (exact⟨ax (bg HNO.out).symm,by first|assumption|exact ai⟩)
variable {o:Oth}
def fZ(r:Rcd):Val:=r.row.headD ⟨0,0,⟨#[]⟩⟩
def ik(r:Rcd):Int:=r.seq.headD 0
structure uO (ae:List Col) (recs:List Rcd) (k:Nat) (h:k<recs.length):Prop where
 ok:kM ae recs[k].row recs[k].seq recs[k].day
 asc:∀(h0:0<k),aU (fZ recs[k-1]) (fZ recs[k])<0
 own:∀j (hj:j<k),ik recs[j]≠ik recs[k]
structure RTabOk (ae:List Col) (recs:List Rcd):Prop where
 len:recs.length≤64
 at_:∀k (h:k<recs.length),uO ae recs k h
structure gu (ts:List Tab) (rt:List RTab):Prop where
 cat:aN ts
 len:rt.length=ts.length
 tab:∀i (h:i<rt.length) (h':i<ts.length),RTabOk ts[i].ae rt[i].recs
theorem uF{r:Rcd}(h:0<r.row.length):r.row[0]=fZ r:=by
 obtain⟨A,c,row,SA,sc,sq,dy⟩:=r
 cases row with
 | nil=>simp at h
 | cons a t=>rfl
theorem uE{r:Rcd}(h:0<r.seq.length):r.seq[0]=ik r:=by
 obtain⟨A,c,row,SA,sc,sq,dy⟩:=r
 cases sq with
 | nil=>simp at h
 | cons a t=>rfl
theorem je(a b:Val)(w:World){r:Int}(hr:aU a b=r):
 Calls Tryz.prog 89 #[.agg #[.int .i64 a.kind,.int .i64 a.num,.string a.text],.agg #[.int .i64 b.kind,.int .i64 b.num,.string b.text]] w fun e w'=>e=.returned (.int .i64 r)∧Ext w w':=by
 subst hr
 exact rD _ _ _ _ _ _ _
theorem Cz(A:Option Addr)(c m:Nat)(ts:List Tab)(RA:Option Addr)(rc n:Nat)(rt:List RTab)(w:World)(ht:aF w w.heap.size A ts)(hm:ts.length=m)(hsn:aM ts)(il:aN ts)(hcg:gF w w.heap.size A c ts o)(hr:aR w w.heap.size RA rt)(hn:rt.length=n)(hsr:mi rt){r:Bool}(hres:pb (gu ts rt)=r):
 Calls Tryz.prog 143 #[.agg #[.slice A m c,.slice o.vA 0 o.vc,.slice o.iA o.idx.length o.ic,.slice o.sA o.skt.length o.sc,.slice o.cA o.cch.length o.cc,.slice o.rA o.rel.length o.rc,.slice o.tA o.str.length o.tc,.slice o.bA o.bak.length o.bc],.slice RA n rc] w fun e w'=>e=.returned (.bool r)∧Below w.heap.size w w':=by
 subst hm hn hres
 have hl1:=hsn.len
 have hl2:=hsr.len
 have HT:=qh ht
 have HS:=qh hsn
 have HR:=qh hr
 have HSR:=qh hsr
 clear ht hsn hr hsr
 have vS:=qh il
 have HCG:=qh hcg
 clear il hcg
 by_cases hlen:¬ rt.length=ts.length
 ·have HNO:Hid (¬ gu ts rt):=qh fun h=>hlen h.len
  have hlen':((rt.length:Int) != (ts.length:Int))=true:=by rw[bne_iff_ne];omega
  clear hlen
  go_enter Tryz.func143,Tryz.ntmps143
  go_wp2_with fail
  (with_reducible refine(HCG.out.ref _ ai).mono ?_)
  rintro e w1 ⟨rfl,hb1⟩
  have hx1:Below w.heap.size w w1:=aa ai hb1 leA
  obtain⟨k1,_,_⟩:=bN hb1 w.heap.size ltA
  go_wp2_with fail
  go_ret
  exact⟨ax (bg HNO.out).symm,hx1⟩
 have hlen':((rt.length:Int) != (ts.length:Int))=false:=by rw[Decidable.not_not.1 hlen];simp
 have hlen:=Decidable.not_not.1 hlen
 have HLEN:=qh hlen
 have hlm:ts.length≤8:=vS.out.len
 have Fs:rt.length≤8:=by omega
 clear hlen
 go_enter Tryz.func143,Tryz.ntmps143
 go_wp2_with fail
 (with_reducible refine(HCG.out.ref _ ai).mono ?_)
 rintro e W ⟨rfl,hb1⟩
 have hbW:Below w.heap.size w W:=aa ai hb1 leA
 have hB:Blk W w.heap.size 33 #[.slice A ts.length c,.slice o.vA 0 o.vc,.slice o.iA o.idx.length o.ic,.slice o.sA o.skt.length o.sc,.slice o.cA o.cch.length o.cc,.slice o.rA o.rel.length o.rc,.slice o.tA o.str.length o.tc,.slice o.bA o.bak.length o.bc]:=(Blk.new _ _ _).below hb1 spA
 obtain⟨a0,_⟩:=Cat.fU hB
 have hzW:=hB.lt
 have HB:=qh hB
 clear hB hb1
 go_wp2_with fail
 clear a0 hlen'
 go_loopw [5] (fun vi wr =>∃i:Nat,i≤rt.length∧vi=.int .i64 i∧Below W.heap.size W wr∧(∀q (h:q<rt.length) (h':q<ts.length),q<i→RTabOk ts[q].ae rt[q].recs)) (fun vi _=>rt.length-(intOf vi).toNat)
 case atStart=>exact⟨0,Nat.zero_le _,rfl,Below.refl _ _,fun q _ _ h=>by omega⟩
 case round =>
  obtain⟨i,hin,rfl,hbr,hpre⟩:=hrel
  have qW:=qh hpre
  have hxr:=aa hbW hbr hbW.size
  clear hpre
  by_cases hlt:i<rt.length
  ·have hit:i<ts.length:=by rw[←HLEN.out];exact hlt
   obtain⟨rb,ro,rfl,hrb,hrc⟩:=(HR.out.1).get hlt
   have c0:=hrc 0 _ rfl
   have dw:=HR.out.2 rt[i] (lgm hlt)
   have hrow:=HSR.out.row rt[i] (lgm hlt)
   have hseq:=HSR.out.seq rt[i] (lgm hlt)
   have nk:=HSR.out.recs rt[i] (lgm hlt)
   have hno:¬ RTabOk ts[i].ae rt[i].recs→¬ gu ts rt:=fun h k=>h (k.tab i hlt hit)
   have hstep:RTabOk ts[i].ae rt[i].recs→∀q (h:q<rt.length) (h':q<ts.length),q<i+1→RTabOk ts[q].ae rt[q].recs:=fun h q h1 h2 h3=>by
    rcases Nat.lt_or_ge q i with h4|h4
    ·exact qW.out q h1 h2 h4
    ·obtain rfl:q=i:=by omega
     exact h
   have hct:=vS.out.ae hit
   obtain⟨⟨TA,tc,recs⟩,hx⟩:∃x:RTab,rt[i]=x:=⟨_,rfl⟩
   rw[hx]at c0 dw hrow hseq nk hno hstep
   simp only[Nat.mul_one,Nat.add_zero]at c0 dw hrow hseq nk hno hstep
   obtain⟨tb,tbo,rfl,htb,htc⟩:=(HT.out.1).get hit
   obtain⟨t0,t1,t2,t3⟩:=Tab.fV htc
   have eP:=HT.out.2 ts[i] (lgm hit)
   obtain⟨⟨tn,CA,cc,ae,ter,trt⟩,hy⟩:∃x:Tab,ts[i]=x:=⟨_,rfl⟩
   rw[hy]at t0 t1 t2 t3 eP hno hstep hct
   simp only at t0 t1 t2 t3 eP hno hstep hct
   have rT:=qh dw
   have iV:=qh hrow
   have Yu:=qh hseq
   have Ce:=qh hno
   have Nu:=qh hstep
   have Eu:=qh eP
   have HC0:=qh c0
   have HT4:=qh (And.intro t0 (And.intro t1 (And.intro t2 t3)))
   have aab:=hct.1
   have aaa:=hct.2
   clear hrc dw hrow hseq hno hstep hx htc hy eP c0 t0 t1 t2 t3 hct
   have c0:=(hxr.cell (p:=⟨rb,ro+i,none⟩) hrb).trans HC0.out
   by_cases h64:64<recs.length
   ·have FH:decide (64<recs.length)=true:=by simpa using h64
    have HNO:Hid (¬ gu ts rt):=qh (Ce.out fun h=>by have:=h.len;omega)
    go_wp2_with fail
    go_ret
    exact⟨ax (bg HNO.out).symm,hxr⟩
   ·have FH:decide (64<recs.length)=false:=by simpa using h64
    go_wp2_with fail
    clear c0
    obtain⟨wo,rfl⟩:∃wo:World,wo=wr:=⟨_,rfl⟩
    go_loopw [6] (fun vk wi =>∃k:Nat,k≤recs.length∧vk=.int .i64 k∧Below W.heap.size W wi∧(∀q (h:q<recs.length),q<k→uO ae recs q h)) (fun vk _=>recs.length-(intOf vk).toNat)
    case atStart=>exact⟨0,Nat.zero_le _,rfl,hbr,fun q _ h=>by omega⟩
    case round =>
     clear hbr hxr
     obtain⟨k,hk,rfl,hbi,hpk⟩:=hrel
     have HPK:=qh hpk
     have hxi:=aa hbW hbi hbW.size
     have hwz:=hbi.size
     have c0:=(hxi.cell (p:=⟨rb,ro+i,none⟩) hrb).trans HC0.out
     clear hpk
     by_cases hkl:k<recs.length
     ·have hkl':decide (k<recs.length)=true:=by simpa using hkl
      obtain⟨tb0,tb1,tb2,tb3⟩:=HT4.out
      have hxw:=hxi
      obtain⟨b2,o2,rfl,hb2,hc2⟩:=(rT.out.1).get hkl
      obtain⟨d0,d1,d2⟩:=Rcd.cells3 hc2
      have Bq:=rT.out.2 recs[k] (lgm hkl)
      have hrl:=iV.out recs[k] (lgm hkl)
      have hsl:=Yu.out recs[k] (lgm hkl)
      have Mr:¬ uO ae recs k hkl→¬ gu ts rt:=fun h=>Ce.out fun h2=>h (h2.at_ k hkl)
      have hmk:∀(_:kM ae recs[k].row recs[k].seq recs[k].day) (_:∀(h0:0<k),aU (fZ recs[k-1]) (fZ recs[k])<0) (_:∀j (hj:j<k),ik recs[j]≠ik recs[k]),uO ae recs k hkl:=fun h1 h2 h3=>⟨h1,h2,h3⟩
      have Oz:uO ae recs k hkl→kM ae recs[k].row recs[k].seq recs[k].day:=fun h=>h.ok
      have Rf:uO ae recs k hkl→∀(h0:0<k),aU (fZ recs[k-1]) (fZ recs[k])<0:=fun h=>h.asc
      have Re:uO ae recs k hkl→∀j (hj:j<k),ik recs[j]≠ik recs[k]:=fun h=>h.own
      obtain⟨⟨QA,qc,row,SA,sc,sq,dy⟩,hy⟩:∃x:Rcd,recs[k]=x:=⟨_,rfl⟩
      rw[hy]at d0 d1 d2 Bq hrl hsl hmk Oz Rf Re
      simp only at d0 d1 d2 Bq hrl hsl hmk Oz
      have HRI:=qh Bq
      have HNR:=qh Mr
      have HMK:=qh hmk
      have HU1:=qh Oz
      have HU2:=qh Rf
      have HU3:=qh Re
      have HY:=qh hy
      have Nt:Hid (uO ae recs k hkl→∀q (h:q<recs.length),q<k+1→uO ae recs q h):=qh fun h q h1 h2=>by
       rcases Nat.lt_or_ge q k with h4|h4
       ·exact HPK.out q h1 h4
       ·obtain rfl:q=k:=by omega
        exact h
      clear hc2 Bq Mr hmk Oz Rf Re hy
      have p0:=(Cat.fU (HB.out.below hbi hzW)).1
      have t0:=(hxw.cell (p:=⟨tb,_,none⟩) htb).trans tb0
      have t1:=(hxw.cell (p:=⟨tb,_,none⟩) htb).trans tb1
      have t2:=(hxw.cell (p:=⟨tb,_,none⟩) htb).trans tb2
      have t3:=(hxw.cell (p:=⟨tb,_,none⟩) htb).trans tb3
      have d0:=(hxw.cell (p:=⟨b2,_,none⟩) hb2).trans d0
      have d1:=(hxw.cell (p:=⟨b2,_,none⟩) hb2).trans d1
      have d2:=(hxw.cell (p:=⟨b2,_,none⟩) hb2).trans d2
      have hxz:=hxw.size
      have hk0:=az (w:=wr) w.heap.size omA
      have hk1:=az (w:=wr) tb omA
      have hk2:=az (w:=wr) rb omA
      have hk3:=az (w:=wr) b2 omA
      clear tb0 tb1 tb2 tb3
      cases hro:pb (kM ae row sq dy)
      ·have HNO:Hid (¬ gu ts rt):=qh (HNR.out fun h=>by have:=bV (HU1.out h);rw[hro]at this;cases this)
       have HCR:Hid (∀x:cZ wr,Calls Tryz.prog 189 #[.agg #[.string tn,.slice CA ae.length cc,.int .i64 ter,.int .i64 trt],.agg #[.slice QA row.length qc,.slice SA sq.length sc,.int .i64 dy]] x.u fun e w''=>e=.returned (.bool false) ∧ ∃y:cZ wr,w''=y.u):=qh fun x=>dN (tK tn CA cc ae.length ae ter trt QA qc row.length row SA sc sq.length sq dy _ ((Eu.out.1.below (aa hxi x.h hxi.size)).mono (Nat.le_trans hxi.size x.h.size)) rfl ((HRI.out.1.below (aa hxi x.h hxi.size)).mono (Nat.le_trans hxi.size x.h.size)) rfl ((HRI.out.2.below (aa hxi x.h hxi.size)).mono (Nat.le_trans hxi.size x.h.size)) rfl omA omA hrl hsl hro)
       clear hro
       go_upto_region 11 with (fail)
       refine af krA krA ?_;(repeat(go_big_quiet_step ((first
        | (go_at_call 189;with_reducible exact HCR.out _)
        | (go_at_call 89;with_reducible exact bn (je pv qv _ HZ.out))))));refine wpQuiet_nil ?_;intro wq hq
       clear hk0 hk1 hk2 hk3 p0 t0 t1 t2 t3 d0 d1 d2 c0
       go_wp2_with fail
       go_ret
       exact⟨ax (bg HNO.out).symm,aa hxi hq hxi.size⟩
      ·have HCR:Hid (∀x:cZ wr,Calls Tryz.prog 189 #[.agg #[.string tn,.slice CA ae.length cc,.int .i64 ter,.int .i64 trt],.agg #[.slice QA row.length qc,.slice SA sq.length sc,.int .i64 dy]] x.u fun e w''=>e=.returned (.bool true) ∧ ∃y:cZ wr,w''=y.u):=qh fun x=>dN (tK tn CA cc ae.length ae ter trt QA qc row.length row SA sc sq.length sq dy _ ((Eu.out.1.below (aa hxi x.h hxi.size)).mono (Nat.le_trans hxi.size x.h.size)) rfl ((HRI.out.1.below (aa hxi x.h hxi.size)).mono (Nat.le_trans hxi.size x.h.size)) rfl ((HRI.out.2.below (aa hxi x.h hxi.size)).mono (Nat.le_trans hxi.size x.h.size)) rfl omA omA hrl hsl hro)
       have OE:=nY.1 hro
       have hr0:0<row.length:=by have:=OE.len;omega
       have hs0:0<sq.length:=by have:=OE.oO;omega
       have VR:=qh OE
       clear hro OE
       by_cases hk0':0<k
       ·have hkz:decide ((0:Int)<(k:Int))=true:=by simp;omega
        have kZ:decide (0<k)=true:=by simpa using hk0'
        have oP:k-1<recs.length:=by omega
        have nu:decide (k-1<recs.length)=true:=by simpa using oP
        have hcast:(k:Int)-1=((k-1:Nat):Int):=by omega
        have hwrap:IntKind.i64.wrap ((k:Int)-1)=((k-1:Nat):Int):=by rw[hcast];exact IntWalk.i64_in _ omA
        obtain⟨b3,o3,he3,_,hc3⟩:=(rT.out.1).get oP
        injection he3 with he3
        injection he3 with he4 he5
        subst he4 he5
        obtain⟨f0,_,_⟩:=Rcd.cells3 hc3
        have Uj:=(HPK.out (k-1) oP omA).ok
        have Rq:=(rT.out.2 recs[k-1] (lgm oP)).1
        have hp0:0<recs[k-1].row.length:=by have:=Uj.len;omega
        have hph:=uF hp0
        have hkh:=uF (r:=⟨QA,qc,row,SA,sc,sq,dy⟩) hr0
        obtain⟨P,hP⟩:∃P:Rcd,recs[k-1]=P:=⟨_,rfl⟩
        rw[hP]at f0 Rq
        have Rt:0<P.row.length:=by rw[←hP];exact hp0
        have Ul:=uF Rt
        have HPH:Hid (fZ recs[k-1]=P.row[0]):=qh (by rw[hP];exact Ul.symm)
        have HKH:Hid (fZ ⟨QA,qc,row,SA,sc,sq,dy⟩=row[0]):=qh hkh.symm
        obtain⟨pb4,po4,hpA,Rs,Um⟩:=Rq.get Rt
        obtain⟨g0,g1,g2⟩:=Val.cells3 Um
        obtain⟨qb4,qo4,hqA,Rp,Uh⟩:=HRI.out.1.get hr0
        obtain⟨y0,y1,y2⟩:=Val.cells3 Uh
        subst hqA
        rw[hpA]at f0
        simp only[Nat.zero_mul,Nat.add_zero]at g0 g1 g2 y0 y1 y2
        obtain⟨pl,hpl⟩:∃n:Nat,P.row.length=n:=⟨_,rfl⟩
        rw[hpl]at f0
        have Xb:0<pl:=by omega
        have Uk:decide (0<pl)=true:=by simpa using Xb
        have mM:decide (0<row.length)=true:=by simpa using hr0
        obtain⟨pv,hpv⟩:∃v:Val,P.row[0]=v:=⟨_,rfl⟩
        obtain⟨qv,hqv⟩:∃v:Val,row[0]=v:=⟨_,rfl⟩
        rw[hpv]at g0 g1 g2
        rw[hqv]at y0 y1 y2
        have HPV:Hid (fZ recs[k-1]=pv):=qh (by rw[HPH.out,hpv])
        have HQV:Hid (fZ ⟨some ⟨qb4,qo4,none⟩,qc,row,SA,sc,sq,dy⟩=qv):=qh (by rw[←hqv];exact hkh.symm)
        have f0:=(hxw.cell (p:=⟨b2,_,none⟩) hb2).trans f0
        have g0:=(hxw.cell (p:=⟨pb4,_,none⟩) Rs).trans g0
        have g1:=(hxw.cell (p:=⟨pb4,_,none⟩) Rs).trans g1
        have g2:=(hxw.cell (p:=⟨pb4,_,none⟩) Rs).trans g2
        have y0:=(hxw.cell (p:=⟨qb4,_,none⟩) Rp).trans y0
        have y1:=(hxw.cell (p:=⟨qb4,_,none⟩) Rp).trans y1
        have y2:=(hxw.cell (p:=⟨qb4,_,none⟩) Rp).trans y2
        have hk4:=az (w:=wr) pb4 omA
        have hk5:=az (w:=wr) qb4 omA
        obtain⟨z,hz⟩:∃z,aU pv qv=z:=⟨_,rfl⟩
        have HZ:=qh hz
        clear hc3 Uj Rq hp0 hph hkh hP Ul Rt hpA Um Uh hpl hpv hqv hz HPH HKH
        cases hzz:decide (0≤z)
        ·have sS:Hid (∀(h0:0<k),aU (fZ recs[k-1]) (fZ ⟨some ⟨qb4,qo4,none⟩,qc,row,SA,sc,sq,dy⟩)<0):=qh fun h0=>by
          have e1:=HPV.out
          have e2:=HQV.out
          have e3:=of_decide_eq_false hzz
          rw[e1,show fZ ⟨some ⟨qb4,qo4,none⟩,qc,row,SA,sc,sq,dy⟩=qv from e2,HZ.out]
          omega
         clear hk0'
         go_upto_region 11 with (fail)
         refine af krA krA ?_;(repeat(go_big_quiet_step ((first
          | (go_at_call 189;with_reducible exact HCR.out _)
          | (go_at_call 89;with_reducible exact bn (je pv qv _ HZ.out))))));refine wpQuiet_nil ?_;intro wq hq
         clear hk0 hk1 hk2 hk3 hk4 hk5 p0 t0 t1 t2 t3 d0 d1 d2 c0 hkz kZ f0 g0 g1 g2 y0 y1 y2 hcast hwrap hzz nu Uk mM
         have MN:=aa hbi hq hbi.size
         (
         go_wp2_with fail
         go_loopw [7] (fun vj wj =>∃j:Nat,j≤k∧vj=.int .i64 j∧Below W.heap.size W wj∧(∀i' (hi:i'<j) (hl:i'<recs.length),ik recs[i']≠ik ⟨some ⟨qb4,qo4,none⟩,qc,row,SA,sc,sq,dy⟩)) (fun vj _=>k-(intOf vj).toNat)
         case atStart=>exact⟨0,Nat.zero_le _,rfl,MN,fun i' hi _=>by omega⟩
         case round =>
          clear MN hq hbi hxi hxw hxz hwz
          obtain⟨j,hj,rfl,hbj,hpj⟩:=hrel
          have HPJ:=qh hpj
          clear hpj
          have hxj:=aa hbW hbj hbW.size
          have hjz:=hxj.size
          by_cases hjk:j<k
          ·have Ry:decide (j<k)=true:=by simpa using hjk
           have hjl:j<recs.length:=by omega
           have uD:decide (j<recs.length)=true:=by simpa using hjl
           obtain⟨b3,o3,he3,_,hc3⟩:=(rT.out.1).get hjl
           injection he3 with he3
           injection he3 with he4 he5
           subst he4 he5
           obtain⟨_,f1,_⟩:=Rcd.cells3 hc3
           obtain⟨b4,o4,he6,_,hc4⟩:=(rT.out.1).get hkl
           injection he6 with he6
           injection he6 with he7 he8
           subst he7 he8
           rw[HY.out]at hc4
           obtain⟨_,d1,_⟩:=Rcd.cells3 hc4
           dsimp only at d1
           have Mw:=(HPK.out j hjl omA).ok
           have Mx:=(rT.out.2 recs[j] (lgm hjl)).2
           have hjh:=uE (r:=recs[j])
           have hj0:0<recs[j].seq.length:=by have:=Mw.oO;omega
           have hkh:=uE (r:=⟨some ⟨qb4,qo4,none⟩,qc,row,SA,sc,sq,dy⟩) hs0
           have hjh:=hjh hj0
           obtain⟨⟨JA,jc,Wz,JS,jsc,jsq,jd⟩,hyj⟩:∃x:Rcd,recs[j]=x:=⟨_,rfl⟩
           have HYJ:=qh hyj
           obtain⟨s5,o5,he9,hb5,hc5⟩:=Mx.get hj0
           have u0:=hc5 0 _ rfl
           have hjs:recs[j].seq[0]=ik recs[j]:=hjh
           rw[hjs]at u0
           rw[hyj]at f1 he9 hj0
           simp only at f1 he9 hj0
           subst he9
           obtain⟨s6,o6,RG,hb6,hc6⟩:=HRI.out.2.get hs0
           have v0:=hc6 0 _ rfl
           have hks:sq[0]=ik ⟨some ⟨qb4,qo4,none⟩,qc,row,SA,sc,sq,dy⟩:=hkh
           rw[hks]at v0
           subst RG
           simp only[Nat.zero_mul,Nat.add_zero]at u0 v0
           obtain⟨hu,hhu⟩:∃h,ik recs[j]=h:=⟨_,rfl⟩
           obtain⟨hv,hhv⟩:∃h,ik ⟨some ⟨qb4,qo4,none⟩,qc,row,some ⟨s6,o6,none⟩,sc,sq,dy⟩=h:=⟨_,rfl⟩
           rw[hhu]at u0
           rw[hhv]at v0
           have HU:=qh hhu
           have HV:=qh hhv
           have c0:=(hxj.cell (p:=⟨rb,ro+i,none⟩) hrb).trans HC0.out
           have f1:=(hxj.cell (p:=⟨b2,_,none⟩) hb2).trans f1
           have d1:=(hxj.cell (p:=⟨b2,_,none⟩) hb2).trans d1
           have u0:=(hxj.cell (p:=⟨s5,_,none⟩) hb5).trans u0
           have v0:=(hxj.cell (p:=⟨s6,_,none⟩) hb6).trans v0
           have hm0:=az (w:=wr) rb omA
           have hm1:=az (w:=wr) b2 omA
           have hm2:=az (w:=wr) s5 omA
           have hm3:=az (w:=wr) s6 omA
           have Xv:decide (0<jsq.length)=true:=by simpa using hj0
           have TS:decide (0<sq.length)=true:=by simpa using hs0
           clear hc3 hc4 hc5 hc6 Mw Mx hjh hkh hjs hks hhu hhv hyj
           by_cases huv:hu=hv
           ·have Ra:(hu==hv)=true:=by simpa using huv
            have HNO:Hid (¬ gu ts rt):=qh (HNR.out fun h=>HU3.out h j hjk bh)
            clear huv
            go_upto_region 16 with (fail)
            refine af krA krA ?_;(repeat(go_big_quiet_step (fail)));refine wpQuiet_nil ?_;intro wq2 hq2
            clear hm0 hm1 hm2 hm3 c0 f1 d1 u0 v0
            go_wp2_with fail
            go_ret
            exact⟨ax (bg HNO.out).symm,aa hxj hq2 hxj.size⟩
           ·have Ra:(hu==hv)=false:=by simpa using huv
            have HNE:Hid (ik recs[j]≠ik ⟨some ⟨qb4,qo4,none⟩,qc,row,some ⟨s6,o6,none⟩,sc,sq,dy⟩):=qh bh
            clear huv
            go_upto_region 16 with (fail)
            refine af krA krA ?_;(repeat(go_big_quiet_step (fail)));refine wpQuiet_nil ?_;intro wq2 hq2
            clear hm0 hm1 hm2 hm3 c0 f1 d1 u0 v0
            go_wp2_with fail
            go_roundw
            case rel=>exact⟨j+1,by omega,by go_num,aa hbj hq2 hbj.size,fun i' hi hl=>by
             rcases Nat.lt_or_ge i' j with h1|h1
             ·exact HPJ.out i' h1 hl
             ·obtain rfl:i'=j:=by omega
              exact HNE.out⟩
            case measure=>exact meA
          ·have Ry:decide (j<k)=false:=by simpa using hjk
           have HDN:=qh (Nt.out (HMK.out VR.out sS.out fun j' hj'=>HPJ.out j' omA omA))
           go_wp2_with fail
           go_roundw
           case rel=>exact⟨k+1,by omega,by go_num,hbj,HDN.out⟩
           case measure=>exact meA)
        ·have HNO:Hid (¬ gu ts rt):=qh (HNR.out fun h=>by
          have h1:=HU2.out h omA
          have e1:=HPV.out
          have e2:=HQV.out
          have e3:=of_decide_eq_true hzz
          rw[e1,show fZ ⟨some ⟨qb4,qo4,none⟩,qc,row,SA,sc,sq,dy⟩=qv from e2,HZ.out]at h1
          omega)
         clear hk0'
         go_upto_region 11 with (fail)
         refine af krA krA ?_;(repeat(go_big_quiet_step ((first
          | (go_at_call 189;with_reducible exact HCR.out _)
          | (go_at_call 89;with_reducible exact bn (je pv qv _ HZ.out))))));refine wpQuiet_nil ?_;intro wq hq
         clear hk0 hk1 hk2 hk3 hk4 hk5 p0 t0 t1 t2 t3 d0 d1 d2 c0 hkz kZ f0 g0 g1 g2 y0 y1 y2 hcast hwrap hzz nu Uk mM
         go_wp2_with fail
         go_ret
         exact⟨ax (bg HNO.out).symm,aa hxi hq hxi.size⟩
       ·have hkz:decide ((0:Int)<(k:Int))=false:=by simp;omega
        have kZ:decide (0<k)=false:=by simpa using hk0'
        have oP:k-1<recs.length:=Nat.lt_of_le_of_lt (Nat.sub_le k 1) hkl
        have hasc:∀(h0:0<k),aU (fZ (recs[k-1]'oP)) (fZ ⟨QA,qc,row,SA,sc,sq,dy⟩)<0:=fun h0=>absurd h0 hk0'
        have sS:=qh hasc
        clear hasc hk0'
        go_upto_region 11 with (fail)
        refine af krA krA ?_;(repeat(go_big_quiet_step ((first
         | (go_at_call 189;with_reducible exact HCR.out _)
         | (go_at_call 89;with_reducible exact bn (je pv qv _ HZ.out))))));refine wpQuiet_nil ?_;intro wq hq
        clear hk0 hk1 hk2 hk3 p0 t0 t1 t2 t3 d0 d1 d2 c0 hkz kZ
        have MN:=aa hbi hq hbi.size
        (
        go_wp2_with fail
        go_loopw [7] (fun vj wj =>∃j:Nat,j≤k∧vj=.int .i64 j∧Below W.heap.size W wj∧(∀i' (hi:i'<j) (hl:i'<recs.length),ik recs[i']≠ik ⟨QA,qc,row,SA,sc,sq,dy⟩)) (fun vj _=>k-(intOf vj).toNat)
        case atStart=>exact⟨0,Nat.zero_le _,rfl,MN,fun i' hi _=>by omega⟩
        case round =>
         clear MN hq hbi hxi hxw hxz hwz
         obtain⟨j,hj,rfl,hbj,hpj⟩:=hrel
         have HPJ:=qh hpj
         clear hpj
         have hxj:=aa hbW hbj hbW.size
         have hjz:=hxj.size
         by_cases hjk:j<k
         ·have Ry:decide (j<k)=true:=by simpa using hjk
          have hjl:j<recs.length:=by omega
          have uD:decide (j<recs.length)=true:=by simpa using hjl
          obtain⟨b3,o3,he3,_,hc3⟩:=(rT.out.1).get hjl
          injection he3 with he3
          injection he3 with he4 he5
          subst he4 he5
          obtain⟨_,f1,_⟩:=Rcd.cells3 hc3
          obtain⟨b4,o4,he6,_,hc4⟩:=(rT.out.1).get hkl
          injection he6 with he6
          injection he6 with he7 he8
          subst he7 he8
          rw[HY.out]at hc4
          obtain⟨_,d1,_⟩:=Rcd.cells3 hc4
          dsimp only at d1
          have Mw:=(HPK.out j hjl omA).ok
          have Mx:=(rT.out.2 recs[j] (lgm hjl)).2
          have hjh:=uE (r:=recs[j])
          have hj0:0<recs[j].seq.length:=by have:=Mw.oO;omega
          have hkh:=uE (r:=⟨QA,qc,row,SA,sc,sq,dy⟩) hs0
          have hjh:=hjh hj0
          obtain⟨⟨JA,jc,Wz,JS,jsc,jsq,jd⟩,hyj⟩:∃x:Rcd,recs[j]=x:=⟨_,rfl⟩
          have HYJ:=qh hyj
          obtain⟨s5,o5,he9,hb5,hc5⟩:=Mx.get hj0
          have u0:=hc5 0 _ rfl
          have hjs:recs[j].seq[0]=ik recs[j]:=hjh
          rw[hjs]at u0
          rw[hyj]at f1 he9 hj0
          simp only at f1 he9 hj0
          subst he9
          obtain⟨s6,o6,RG,hb6,hc6⟩:=HRI.out.2.get hs0
          have v0:=hc6 0 _ rfl
          have hks:sq[0]=ik ⟨QA,qc,row,SA,sc,sq,dy⟩:=hkh
          rw[hks]at v0
          subst RG
          simp only[Nat.zero_mul,Nat.add_zero]at u0 v0
          obtain⟨hu,hhu⟩:∃h,ik recs[j]=h:=⟨_,rfl⟩
          obtain⟨hv,hhv⟩:∃h,ik ⟨QA,qc,row,some ⟨s6,o6,none⟩,sc,sq,dy⟩=h:=⟨_,rfl⟩
          rw[hhu]at u0
          rw[hhv]at v0
          have HU:=qh hhu
          have HV:=qh hhv
          have c0:=(hxj.cell (p:=⟨rb,ro+i,none⟩) hrb).trans HC0.out
          have f1:=(hxj.cell (p:=⟨b2,_,none⟩) hb2).trans f1
          have d1:=(hxj.cell (p:=⟨b2,_,none⟩) hb2).trans d1
          have u0:=(hxj.cell (p:=⟨s5,_,none⟩) hb5).trans u0
          have v0:=(hxj.cell (p:=⟨s6,_,none⟩) hb6).trans v0
          have hm0:=az (w:=wr) rb omA
          have hm1:=az (w:=wr) b2 omA
          have hm2:=az (w:=wr) s5 omA
          have hm3:=az (w:=wr) s6 omA
          have Xv:decide (0<jsq.length)=true:=by simpa using hj0
          have TS:decide (0<sq.length)=true:=by simpa using hs0
          clear hc3 hc4 hc5 hc6 Mw Mx hjh hkh hjs hks hhu hhv hyj
          by_cases huv:hu=hv
          ·have Ra:(hu==hv)=true:=by simpa using huv
           have HNO:Hid (¬ gu ts rt):=qh (HNR.out fun h=>HU3.out h j hjk bh)
           clear huv
           go_upto_region 16 with (fail)
           refine af krA krA ?_;(repeat(go_big_quiet_step (fail)));refine wpQuiet_nil ?_;intro wq2 hq2
           clear hm0 hm1 hm2 hm3 c0 f1 d1 u0 v0
           go_wp2_with fail
           go_ret
           exact⟨ax (bg HNO.out).symm,aa hxj hq2 hxj.size⟩
          ·have Ra:(hu==hv)=false:=by simpa using huv
           have HNE:Hid (ik recs[j]≠ik ⟨QA,qc,row,some ⟨s6,o6,none⟩,sc,sq,dy⟩):=qh bh
           clear huv
           go_upto_region 16 with (fail)
           refine af krA krA ?_;(repeat(go_big_quiet_step (fail)));refine wpQuiet_nil ?_;intro wq2 hq2
           clear hm0 hm1 hm2 hm3 c0 f1 d1 u0 v0
           go_wp2_with fail
           go_roundw
           case rel=>exact⟨j+1,by omega,by go_num,aa hbj hq2 hbj.size,fun i' hi hl=>by
            rcases Nat.lt_or_ge i' j with h1|h1
            ·exact HPJ.out i' h1 hl
            ·obtain rfl:i'=j:=by omega
             exact HNE.out⟩
           case measure=>exact meA
         ·have Ry:decide (j<k)=false:=by simpa using hjk
          have HDN:=qh (Nt.out (HMK.out VR.out sS.out fun j' hj'=>HPJ.out j' omA omA))
          go_wp2_with fail
          go_roundw
          case rel=>exact⟨k+1,by omega,by go_num,hbj,HDN.out⟩
          case measure=>exact meA)
     ·have hkl':decide (k<recs.length)=false:=by simpa using hkl
      have hke:k=recs.length:=by omega
      have uP:=qh (Nu.out ⟨by omega,fun q h=>HPK.out q h omA⟩)
      clear hke
      go_wp2_with fail
      go_roundw
      case rel=>exact⟨i+1,by omega,by go_num,hbi,uP.out⟩
      case measure=>exact meA
  ·have hlt':decide (i<rt.length)=false:=by simpa using hlt
   have hie:i=rt.length:=by omega
   have lH:Hid (gu ts rt):=qh ⟨vS.out,HLEN.out,fun q h h'=>qW.out q h h' omA⟩
   clear hie
   go_wp2_with fail
   go_ret
   exact⟨ax (bV lH.out).symm,hxr⟩
variable {o:Oth}
theorem EW{P:Prop}(h:P:=by
 go_enter Tryz.func84,Tryz.ntmps84
 go_upto_region 4 with (first
  | (go_at_call 128;(first|(with_reducible refine(bq kd 1 3 _ H1.out).mono ?_)|(with_reducible refine(bq sq 1 1073741824 _ H2.out).mono ?_)|(with_reducible refine(bq dy 0 1048576 _ H3.out).mono ?_)|(with_reducible refine(bq tn 0 ((ts.length:Int)-1) _ H4.out).mono ?_)|(with_reducible refine(bq cl 0 ((cn:Int)-1) _ H5.out).mono ?_));rintro e w1 ⟨rfl,rfl⟩)
  | (go_at_call 129;(with_reducible refine(pJ A0 cp row.length row _ (HR.out.next ai) rfl omA HRB.out).mono ?_);rintro e w2 ⟨rfl,hb2⟩;have hx2:=aa Ox hb2 Ox.size)
  | (go_at_call 45;(first|(with_reducible refine(bO key _ HVK.out).mono ?_)|(with_reducible refine(bO vl _ HVV.out).mono ?_));rintro e w3 ⟨rfl,hb3⟩;have IQ:=hb3.1;have U6:=IQ.size;obtain⟨kx3,_,_⟩:=ni hb3 (w.heap.size+1) omA))
 refine ah (P:=fun u=>Code.wp _ _ _ _ u) (R:=fun u=>Blk u w.heap.size 33 #[.slice (some ⟨tb5,to5,none⟩) ts.length c,.slice o.vA 0 o.vc,.slice o.iA o.idx.length o.ic,.slice o.sA o.skt.length o.sc,.slice o.cA o.cch.length o.cc,.slice o.rA o.rel.length o.rc,.slice o.tA o.str.length o.tc,.slice o.bA o.bak.length o.bc]∧Blk u (w.heap.size+1) 52 (Chg.cells ⟨kd,sq,dy,tn,A0,cp,row,key,cl,vl⟩).toArray∧Blk u (w.heap.size+2) 50 #[.int .i64 0,.int .i64 0,.string ⟨#[]⟩]∧Below w.heap.size w u) ⟨?_,?_,?_,?_⟩ ?_
 ·exact((Blk.new _ _ _).alloc _).alloc _
 ·exact(Blk.new' spA).alloc _
 ·exact Blk.new' spA
 ·exact ai
 rintro W ⟨hC,hX,hN,hbW⟩
 have Ox:Below w.heap.size w W:=hbW
 obtain⟨p0,_⟩:=Cat.fU hC
 obtain⟨⟨q0,q1,q2,q3⟩,q4,⟨q5,q6,q7⟩,q8,q9,q10,q11⟩:=Chg.blk hX
 have n0:=hN.cell 0
 have n1:=hN.cell 1
 have n2:=hN.cell 2
 simp only[gE3]at n0 n1 n2
 have t1:=(hbW.cell (p:=⟨tb5,_,none⟩) yz).trans T1.out
 have hWz:=hN.lt
 clear hC hX hN
 go_wp2_with (first
  | (go_at_call 128;(first|(with_reducible refine(bq kd 1 3 _ H1.out).mono ?_)|(with_reducible refine(bq sq 1 1073741824 _ H2.out).mono ?_)|(with_reducible refine(bq dy 0 1048576 _ H3.out).mono ?_)|(with_reducible refine(bq tn 0 ((ts.length:Int)-1) _ H4.out).mono ?_)|(with_reducible refine(bq cl 0 ((cn:Int)-1) _ H5.out).mono ?_));rintro e w1 ⟨rfl,rfl⟩)
  | (go_at_call 129;(with_reducible refine(pJ A0 cp row.length row _ (HR.out.next ai) rfl omA HRB.out).mono ?_);rintro e w2 ⟨rfl,hb2⟩;have hx2:=aa Ox hb2 Ox.size)
  | (go_at_call 45;(first|(with_reducible refine(bO key _ HVK.out).mono ?_)|(with_reducible refine(bO vl _ HVV.out).mono ?_));rintro e w3 ⟨rfl,hb3⟩;have IQ:=hb3.1;have U6:=IQ.size;obtain⟨kx3,_,_⟩:=ni hb3 (w.heap.size+1) omA))
 go_ret
 refine⟨ax HB.out.symm,?_⟩
 first|exact hbW|exact hx2|exact ai):P:=h
theorem zX(A:Option Addr)(c m:Nat)(ts:List Tab)(w:World)(ht:aF w w.heap.size A ts)(hm:ts.length=m)(hs:aM ts)(hok:aN ts)(hcg:gF w w.heap.size A c ts o):
 Calls Tryz.prog 40 #[.agg #[.slice A m c,.slice o.vA 0 o.vc,.slice o.iA o.idx.length o.ic,.slice o.sA o.skt.length o.sc,.slice o.cA o.cch.length o.cc,.slice o.rA o.rel.length o.rc,.slice o.tA o.str.length o.tc,.slice o.bA o.bak.length o.bc]] w fun e w'=>(∃q,e=.returned (.slice (some ⟨q,0,none⟩) m m)∧w.heap.size≤q∧aR w' w'.heap.size (some ⟨q,0,none⟩) (List.replicate m dY))∧Below w.heap.size w w':=by
 subst hm
 obtain⟨i7,hi7,hz7,hs7,hb7⟩:=info_parts ym
 have hlen:ts.length≤8:=hok.len
 have hmk:∀u:World,(Instr.makeSlice 57 (.int .i64 (ts.length:Int)) (.int .i64 (ts.length:Int))).run Tryz.prog u=.ok (.slice (some ⟨u.heap.size,0,none⟩) ts.length ts.length) (u.alloc (.cells (madeCells (RTab.cells dY).toArray (ts.length*1)) 46)):=fun u=>by
  have:=iN (P:=Tryz.prog) 57 46 i7 (.slice none 0 0) Tryz.underlying57 hi7 hz7 .i64 .i64 ts.length ts.length nlr (by rw[hb7];omega) omA u
  rw[hs7]at this
  exact this
 have HT:=qh ht
 have HS:=qh hs
 have HOK:=qh (bV hok)
 have HCG:=qh hcg
 clear ht hs hok hcg hi7 hz7 hs7 hb7
 go_enter Tryz.func40,Tryz.ntmps40
 go_wp2_with fail
 (with_reducible refine(HCG.out.ref _ ai).mono ?_)
 rintro e w1 ⟨rfl,hb1⟩
 have hx1:Below w.heap.size w w1:=aa ai hb1 leA
 have hB:Blk w1 w.heap.size 33 #[.slice A ts.length c,.slice o.vA 0 o.vc,.slice o.iA o.idx.length o.ic,.slice o.sA o.skt.length o.sc,.slice o.cA o.cch.length o.cc,.slice o.rA o.rel.length o.rc,.slice o.tA o.str.length o.tc,.slice o.bA o.bak.length o.bc]:=(Blk.new _ _ _).below hb1 spA
 obtain⟨a0,_⟩:=Cat.fU hB
 have hz1:=hx1.size
 clear hB hb1
 go_wp2_with fail
 go_ret
 have hO:aj (w1.alloc (.cells (madeCells (RTab.cells dY).toArray ts.length) 46)) w1.heap.size 46 RTab.cells 1 (.slice (some ⟨w1.heap.size,0,none⟩) ts.length ts.length) (List.replicate ts.length dY):=aj.made dH omA (by rw[Nat.mul_one];exact Blk.new' rfl) nlr mxA
 refine⟨⟨w1.heap.size,by simp,hz1,?_⟩,?_⟩
 ·have h:=dB.read (dB.zero _ _ ts.length) hO
  simpa using h
 ·simpa using hx1.alloc hx1.size (.cells (madeCells (RTab.cells dY).toArray ts.length) 46)
theorem Np{l:List Int}(h:l.Pairwise (fun a b:Int=>a<b))(h0:∀x∈l,0≤x):∀i (hi:i<l.length),(i:Int)≤l[i]
 | 0,hi=>h0 _ (lgm hi)
 | i + 1,hi=>by
   have h1:=Np h h0 i omA
   have h2:=List.pairwise_iff_getElem.1 h i (i+1) omA hi omA
   omega
theorem vK{ts:List Tab}{n:Nat}{out:List Int}(hok:aN ts)(hn:n<ts.length)(h:jB [0] ts[n].ae [] out):out.length≤8:=by
 have hc:=hok.ae hn
 have hb:∀x∈out,0≤x∧x<8:=by
  intro x hx
  rcases(h.2 x).1 hx with h1|⟨q,hq,h1⟩|h1
  ·simp at h1
   omega
  ·obtain⟨i,hi,rfl⟩:=List.getElem_of_mem h1
   have ho:=hok.K8 hn hq i hi
   have:=ho.lo
   have:=ho.hi
   omega
  ·cases h1
 rcases Nat.eq_zero_or_pos out.length with h0|h0
 ·omega
 ·have h1:=Np h.1 (fun x hx=>(hb x hx).1) (out.length-1) omA
  have h2:=(hb _ (lgm (show out.length-1<out.length by omega))).2
  omega
def dn(ae:List Col)(k:Int):Prop:=k=0 ∨ ∃q∈ae,k∈q.own
theorem vY(A:Option Addr)(c m:Nat)(ts:List Tab)(n:Nat)(k:Int)(ae:List Col)(w:World)(ht:aF w w.heap.size A ts)(hm:ts.length=m)(hs:aM ts)(hok:aN ts)(hcg:gF w w.heap.size A c ts o)(hn:n<ts.length)(hcs:ts[n].ae=ae){r:Bool}(hr:pb (dn ae k)=r):
 Calls Tryz.prog 87 #[.agg #[.slice A m c,.slice o.vA 0 o.vc,.slice o.iA o.idx.length o.ic,.slice o.sA o.skt.length o.sc,.slice o.cA o.cch.length o.cc,.slice o.rA o.rel.length o.rc,.slice o.tA o.str.length o.tc,.slice o.bA o.bak.length o.bc],.int .i64 n,.int .i64 k] w fun e w'=>e=.returned (.bool r)∧Below w.heap.size w w':=by
 subst hm hr
 have HT:=qh ht
 have HS:=qh hs
 have HOK:=qh hok
 have HCG:=qh hcg
 have HCS:=qh hcs
 clear ht hs hok hcg hcs
 go_enter Tryz.func87,Tryz.ntmps87
 go_wp2_with fail
 (with_reducible refine(AX A c ts.length ts n ae _ (HT.out.next ai) rfl HS.out HOK.out (HCG.out.next ai) hn HCS.out).mono ?_)
 rintro e w1 ⟨⟨A1,c1,out,rfl,hc1,hs1,hto⟩,hb1⟩
 have hx1:Below w.heap.size w w1:=aa ai hb1 leA
 have HS1:=qh hs1
 have hol:out.length≤8:=vK HOK.out hn (by rw[HCS.out];exact hto)
 have V9:Hid (dn ae k↔k∈out):=qh (by rw[hto.2];simp[dn])
 clear hs1 hto hb1
 go_wp2_with fail
 go_loopw [8] (fun vi wr =>∃i:Nat,i≤out.length∧vi=.int .i64 i∧w1=wr∧(∀q (h:q<out.length),q<i→out[q]≠k)) (fun vi _=>out.length-(intOf vi).toNat)
 case atStart=>exact⟨0,Nat.zero_le _,rfl,rfl,fun q _ h=>by omega⟩
 case round =>
  obtain⟨i,hi,rfl,rfl,hno⟩:=hrel
  have HNO:=qh hno
  clear hno
  by_cases hlt:i<out.length
  ·obtain⟨b5,o5,rfl,hb5,hc5⟩:=HS1.out.get hlt
   have x0:=hc5 0 _ rfl
   simp only[Nat.mul_one,Nat.add_zero]at x0
   clear hc5
   by_cases he:out[i]=k
   ·have he':(out[i]==k)=true:=by simpa using he
    have HY:Hid (dn ae k):=qh (V9.out.2 (he▸lgm hlt))
    clear he
    go_wp2_with fail
    go_ret
    exact⟨ax (bV HY.out).symm,hx1⟩
   ·have he':(out[i]==k)=false:=by simpa using he
    have HE:=qh he
    clear he
    go_wp2_with fail
    go_roundw
    case rel=>exact⟨i+1,by omega,by go_num,by first|rfl|trivial,fun q h hq=>by
     rcases Nat.lt_or_ge q i with h1|h1
     ·exact HNO.out q h h1
     ·obtain rfl:q=i:=by omega
      exact HE.out⟩
    case measure=>exact meA
  ·have hlt':decide (i<out.length)=false:=by simpa using hlt
   have HN:Hid (¬ dn ae k):=qh (by
    rw[V9.out]
    intro hm
    obtain⟨q,hq,he⟩:=List.getElem_of_mem hm
    exact HNO.out q hq omA he)
   go_wp2_with fail
   go_ret
   exact⟨ax (bg HN.out).symm,hx1⟩
def dU:Val:=⟨0,0,⟨#[]⟩⟩
def eB(m:Nat)(x:Chg):Bool:=((!aB x.kind 1 3 || !aB x.seq 1 1073741824) || !aB x.day 0 1048576) || !aB x.table 0 ((m:Int)-1)
def dD(n:Nat)(x:Chg):Bool:=(((decide (x.key≠dU)||x.column != 0)||decide (x.val≠dU))||(x.row.length:Int) != (n:Int)) || !qN x.row
def dJ(n:Nat)(x:Chg):Bool:=((decide (0<x.row.length) || !bT x.key) || !aB x.column 0 ((n:Int)-1)) || !bT x.val
def eG(x:Chg):Bool:=((decide (0<x.row.length)||x.column != 0)||decide (x.val≠dU)) || !bT x.key
def bB(ts:List Tab)(x:Chg):Bool:=eB ts.length x||(if x.kind == 1 then dD (bW ts x.table).length x else if x.kind == 2 then dJ (bW ts x.table).length x else eG x)
theorem rZ(A:Option Addr)(c m:Nat)(ts:List Tab)(x:Chg)(w:World)(hm:ts.length=m)(hl:m≤1000000)(hb:eB ts.length x=true):
 Calls Tryz.prog 84 #[.agg #[.slice A m c,.slice o.vA 0 o.vc,.slice o.iA o.idx.length o.ic,.slice o.sA o.skt.length o.sc,.slice o.cA o.cch.length o.cc,.slice o.rA o.rel.length o.rc,.slice o.tA o.str.length o.tc,.slice o.bA o.bak.length o.bc],.agg #[.int .i64 x.kind,.int .i64 x.seq,.int .i64 x.day,.int .i64 x.table,.slice x.A x.row.length x.cap,.int .i64 x.key.kind,.int .i64 x.key.num,.string x.key.text,.int .i64 x.column,.int .i64 x.val.kind,.int .i64 x.val.num,.string x.val.text]] w fun e w'=>e=.returned (.bool true)∧Below w.heap.size w w':=by
 subst hm
 obtain⟨kd,sq,dy,tb,A0,cp,row,key,cl,vl⟩:=x
 unfold eB at hb
 simp only at hb
 cases h1:aB kd 1 3
 have H1:=qh h1
 clear h1 hb
 rotate_left
 cases h2:aB sq 1 1073741824
 have H1:=qh h1
 have H2:=qh h2
 clear h1 h2 hb
 rotate_left
 cases h3:aB dy 0 1048576
 have H1:=qh h1
 have H2:=qh h2
 have H3:=qh h3
 clear h1 h2 h3 hb
 rotate_left
 cases h4:aB tb 0 ((ts.length:Int)-1)
 have H1:=qh h1
 have H2:=qh h2
 have H3:=qh h3
 have H4:=qh h4
 clear h1 h2 h3 h4 hb
 rotate_left
 rw[h1,h2,h3,h4]at hb
 cases hb
 all_goals(
  go_enter Tryz.func84,Tryz.ntmps84
  go_wp2_with (go_at_call 128;(first|(with_reducible refine(bq kd 1 3 _ H1.out).mono ?_)|(with_reducible refine(bq sq 1 1073741824 _ H2.out).mono ?_)|(with_reducible refine(bq dy 0 1048576 _ H3.out).mono ?_)|(with_reducible refine(bq tb 0 ((ts.length:Int)-1) _ H4.out).mono ?_));rintro e w1 ⟨rfl,rfl⟩)
  go_ret
  exact⟨ax rfl,by exact ai⟩)
theorem Chg.blk{w:World}{g:Nat}{x:Chg}(h:Blk w g 52 x.cells.toArray):
 (w.cell? ⟨g,0,none⟩=some (.int .i64 x.kind)∧w.cell? ⟨g,1,none⟩=some (.int .i64 x.seq)∧w.cell? ⟨g,2,none⟩=some (.int .i64 x.day)∧w.cell? ⟨g,3,none⟩=some (.int .i64 x.table))∧w.cell? ⟨g,4,none⟩=some (.slice x.A x.row.length x.cap) ∧
 (w.cell? ⟨g,5,none⟩=some (.int .i64 x.key.kind)∧w.cell? ⟨g,6,none⟩=some (.int .i64 x.key.num)∧w.cell? ⟨g,7,none⟩=some (.string x.key.text))∧w.cell? ⟨g,8,none⟩=some (.int .i64 x.column) ∧
 w.cell? ⟨g,9,none⟩=some (.int .i64 x.val.kind)∧w.cell? ⟨g,10,none⟩=some (.int .i64 x.val.num)∧w.cell? ⟨g,11,none⟩=some (.string x.val.text):=
 ⟨⟨h.cell 0,h.cell 1,h.cell 2,h.cell 3⟩,h.cell 4,⟨h.cell 5,h.cell 6,h.cell 7⟩,h.cell 8,h.cell 9,h.cell 10,h.cell 11⟩
theorem tN(A:Option Addr)(c m:Nat)(ts:List Tab)(sq dy:Int)(tn:Nat)(A0:Option Addr)(cp:Nat)(row:List Val)(key:Val)(cl:Int)(vl:Val)(w:World)(ht:aF w w.heap.size A ts)(hm:ts.length=m)(hl:m≤1000000)(htn:tn<ts.length)(hR:ag w w.heap.size Val.cells 3 A0 row)(hrl:row.length≤1000000)(cn:Nat)(hcn:ts[tn].ae.length=cn)(hcl:cn≤1000000)(hh:eB ts.length ⟨1,sq,dy,tn,A0,cp,row,key,cl,vl⟩=false){r:Bool}(hr:dD cn ⟨1,sq,dy,tn,A0,cp,row,key,cl,vl⟩=r):
 Calls Tryz.prog 84 #[.agg #[.slice A m c,.slice o.vA 0 o.vc,.slice o.iA o.idx.length o.ic,.slice o.sA o.skt.length o.sc,.slice o.cA o.cch.length o.cc,.slice o.rA o.rel.length o.rc,.slice o.tA o.str.length o.tc,.slice o.bA o.bak.length o.bc],.agg #[.int .i64 1,.int .i64 sq,.int .i64 dy,.int .i64 tn,.slice A0 row.length cp,.int .i64 key.kind,.int .i64 key.num,.string key.text,.int .i64 cl,.int .i64 vl.kind,.int .i64 vl.num,.string vl.text]] w fun e w'=>e=.returned (.bool r)∧Below w.heap.size w w':=by
 subst hm
 have hg:Tryz.prog.eqGuardType Tryz.prog.depth 50=false:=by kernel_rfl
 obtain⟨kd,hkd⟩:∃kd:Int,kd=1:=⟨_,rfl⟩
 unfold eB at hh
 simp only[Bool.or_eq_false_iff,Bool.not_eq_false']at hh
 obtain⟨⟨⟨h1,h2⟩,h3⟩,h4⟩:=hh
 have h1:aB kd 1 3=true:=by rw[hkd];rfl
 have H1:=qh h1
 have H2:=qh h2
 have H3:=qh h3
 have H4:=qh h4
 have HR:=qh hR
 obtain⟨tb5,to5,rfl,yz,htc⟩:=ht.1.get htn
 obtain⟨_,t1,_,_⟩:=Tab.fV htc
 rw[hcn]at t1
 have T1:=qh t1
 have TH:decide (tn<ts.length)=true:=by simpa using htn
 have UF:(kd == 1)=true:=by simpa using hkd
 rw[←hkd]at hr ⊢
 clear h1 h2 h3 h4 hR ht htc t1 hkd hcn
 cases hk:decide (key=dU)
 have heq:=bu (x:=key) (y:=dU) hk
 have HB:Hid (r=true):=qh (by rw[←hr];simp only[dD,ne_eq,decide_not,hk];rfl)
 clear hk hr
 simp only[dU]at heq
 rotate_left
 have heq:=bu (x:=key) (y:=dU) hk
 simp only[dU]at heq
 by_cases hc:cl≠0
 have hc':(cl != 0)=true:=by simpa using hc
 have HB:Hid (r=true):=qh (by rw[←hr];simp only[dD,ne_eq,decide_not,hk,hc'];rfl)
 clear hk hr hc
 rotate_left
 have hc:=Decidable.not_not.1 hc
 have hc':(cl != 0)=false:=by simp[hc]
 cases hv:decide (vl=dU)
 have heq2:=bu (x:=vl) (y:=dU) hv
 have HB:Hid (r=true):=qh (by rw[←hr];simp only[dD,ne_eq,decide_not,hk,hc',hv];rfl)
 clear hk hr hc hv
 simp only[dU]at heq2
 rotate_left
 have heq2:=bu (x:=vl) (y:=dU) hv
 simp only[dU]at heq2
 by_cases hn:(row.length:Int)≠(cn:Int)
 have hn':((row.length:Int) != (cn:Int))=true:=bne_iff_ne.2 hn
 have HB:Hid (r=true):=qh (by rw[←hr];simp only[dD,ne_eq,decide_not,hk,hc',hv,hn'];rfl)
 clear hk hr hc hv hn
 rotate_left
 have hn:=Decidable.not_not.1 hn
 have hn':((row.length:Int) != (cn:Int))=false:=by rw[hn];simp
 cases hrb:qN row
 have HB:Hid (r=true):=qh bj
 have HRB:=qh hrb
 clear hk hr hc hv hn hrb
 rotate_left
 have HB:Hid (r=false):=qh bj
 have HRB:=qh hrb
 clear hk hr hc hv hn hrb
 rotate_left
 all_goals(
  exact EW)
theorem tL(A:Option Addr)(c m:Nat)(ts:List Tab)(sq dy:Int)(tn:Nat)(A0:Option Addr)(cp:Nat)(row:List Val)(key:Val)(cl:Int)(vl:Val)(w:World)(ht:aF w w.heap.size A ts)(hm:ts.length=m)(hl:m≤1000000)(htn:tn<ts.length)(hR:ag w w.heap.size Val.cells 3 A0 row)(hrl:row.length≤1000000)(cn:Nat)(hcn:ts[tn].ae.length=cn)(hcl:cn≤1000000)(hh:eB ts.length ⟨2,sq,dy,tn,A0,cp,row,key,cl,vl⟩=false){r:Bool}(hr:dJ cn ⟨2,sq,dy,tn,A0,cp,row,key,cl,vl⟩=r):
 Calls Tryz.prog 84 #[.agg #[.slice A m c,.slice o.vA 0 o.vc,.slice o.iA o.idx.length o.ic,.slice o.sA o.skt.length o.sc,.slice o.cA o.cch.length o.cc,.slice o.rA o.rel.length o.rc,.slice o.tA o.str.length o.tc,.slice o.bA o.bak.length o.bc],.agg #[.int .i64 2,.int .i64 sq,.int .i64 dy,.int .i64 tn,.slice A0 row.length cp,.int .i64 key.kind,.int .i64 key.num,.string key.text,.int .i64 cl,.int .i64 vl.kind,.int .i64 vl.num,.string vl.text]] w fun e w'=>e=.returned (.bool r)∧Below w.heap.size w w':=by
 subst hm
 have hg:Tryz.prog.eqGuardType Tryz.prog.depth 50=false:=by kernel_rfl
 obtain⟨kd,hkd⟩:∃kd:Int,kd=2:=⟨_,rfl⟩
 unfold eB at hh
 simp only[Bool.or_eq_false_iff,Bool.not_eq_false']at hh
 obtain⟨⟨⟨h1,h2⟩,h3⟩,h4⟩:=hh
 have h1:aB kd 1 3=true:=by rw[hkd];rfl
 have H1:=qh h1
 have H2:=qh h2
 have H3:=qh h3
 have H4:=qh h4
 have HR:=qh hR
 obtain⟨tb5,to5,rfl,yz,htc⟩:=ht.1.get htn
 obtain⟨_,t1,_,_⟩:=Tab.fV htc
 rw[hcn]at t1
 have T1:=qh t1
 have TH:decide (tn<ts.length)=true:=by simpa using htn
 have UF:(kd == 1)=false:=by rw[hkd];rfl
 have Rw:(kd == 2)=true:=by rw[hkd];rfl
 rw[←hkd]at hr ⊢
 clear h1 h2 h3 h4 hR ht htc t1 hkd hcn
 by_cases hn:0<row.length
 have hn':decide (0<row.length)=true:=by simpa using hn
 have HB:Hid (r=true):=qh (by rw[←hr];simp only[dJ,hn'];rfl)
 clear hr hn
 rotate_left
 have hn':decide (0<row.length)=false:=by simpa using hn
 cases hk:bT key
 have HB:Hid (r=true):=qh (by rw[←hr];simp only[dJ,hn',hk];rfl)
 have HVK:=qh hk
 clear hr hn hk
 rotate_left
 have HVK:=qh hk
 cases h5:aB cl 0 ((cn:Int)-1)
 have HB:Hid (r=true):=qh (by rw[←hr];simp only[dJ,hn',hk,h5];rfl)
 have H5:=qh h5
 clear hr hn hk h5
 rotate_left
 have H5:=qh h5
 cases hv:bT vl
 have HB:Hid (r=true):=qh bm
 have HVV:=qh hv
 clear hr hn hk h5 hv
 rotate_left
 have HB:Hid (r=false):=qh bm
 have HVV:=qh hv
 clear hr hn hk h5 hv
 rotate_left
 all_goals(
  exact EW)
theorem tQ(A:Option Addr)(c m:Nat)(ts:List Tab)(sq dy:Int)(tn:Nat)(A0:Option Addr)(cp:Nat)(row:List Val)(key:Val)(cl:Int)(vl:Val)(kz:Int)(hkz:kz≠1∧kz≠2)(w:World)(ht:aF w w.heap.size A ts)(hm:ts.length=m)(hl:m≤1000000)(htn:tn<ts.length)(hR:ag w w.heap.size Val.cells 3 A0 row)(hrl:row.length≤1000000)(cn:Nat)(hcn:ts[tn].ae.length=cn)(hcl:cn≤1000000)(hh:eB ts.length ⟨kz,sq,dy,tn,A0,cp,row,key,cl,vl⟩=false){r:Bool}(hr:eG ⟨kz,sq,dy,tn,A0,cp,row,key,cl,vl⟩=r):
 Calls Tryz.prog 84 #[.agg #[.slice A m c,.slice o.vA 0 o.vc,.slice o.iA o.idx.length o.ic,.slice o.sA o.skt.length o.sc,.slice o.cA o.cch.length o.cc,.slice o.rA o.rel.length o.rc,.slice o.tA o.str.length o.tc,.slice o.bA o.bak.length o.bc],.agg #[.int .i64 kz,.int .i64 sq,.int .i64 dy,.int .i64 tn,.slice A0 row.length cp,.int .i64 key.kind,.int .i64 key.num,.string key.text,.int .i64 cl,.int .i64 vl.kind,.int .i64 vl.num,.string vl.text]] w fun e w'=>e=.returned (.bool r)∧Below w.heap.size w w':=by
 subst hm
 have hg:Tryz.prog.eqGuardType Tryz.prog.depth 50=false:=by kernel_rfl
 obtain⟨kd,hkd⟩:∃kd:Int,kd=kz:=⟨_,rfl⟩
 unfold eB at hh
 simp only[Bool.or_eq_false_iff,Bool.not_eq_false']at hh
 obtain⟨⟨⟨h1,h2⟩,h3⟩,h4⟩:=hh
 rw[←hkd]at h1 hkz
 have H1:=qh h1
 have H2:=qh h2
 have H3:=qh h3
 have H4:=qh h4
 have HR:=qh hR
 obtain⟨tb5,to5,rfl,yz,htc⟩:=ht.1.get htn
 obtain⟨_,t1,_,_⟩:=Tab.fV htc
 rw[hcn]at t1
 have T1:=qh t1
 have TH:decide (tn<ts.length)=true:=by simpa using htn
 have UF:(kd == 1)=false:=by rw[beq_eq_false_iff_ne];exact hkz.1
 have Rw:(kd == 2)=false:=by rw[beq_eq_false_iff_ne];exact hkz.2
 rw[←hkd]at hr ⊢
 clear h1 h2 h3 h4 hR ht htc t1 hkd hcn
 by_cases hn:0<row.length
 have hn':decide (0<row.length)=true:=by simpa using hn
 have HB:Hid (r=true):=qh (by rw[←hr];simp only[eG,hn'];rfl)
 clear hr hn
 rotate_left
 have hn':decide (0<row.length)=false:=by simpa using hn
 by_cases hc:cl≠0
 have hc':(cl != 0)=true:=by simpa using hc
 have HB:Hid (r=true):=qh (by rw[←hr];simp only[eG,hn',hc'];rfl)
 clear hr hn hc
 rotate_left
 have hc:=Decidable.not_not.1 hc
 have hc':(cl != 0)=false:=by simp[hc]
 cases hv:decide (vl=dU)
 have heq2:=bu (x:=vl) (y:=dU) hv
 have HB:Hid (r=true):=qh (by rw[←hr];simp only[eG,ne_eq,decide_not,hn',hc',hv];rfl)
 clear hr hn hc hv
 simp only[dU]at heq2
 rotate_left
 have heq2:=bu (x:=vl) (y:=dU) hv
 simp only[dU]at heq2
 cases hk:bT key
 have HB:Hid (r=true):=qh bk
 have HVK:=qh hk
 clear hr hn hc hv hk
 rotate_left
 have HB:Hid (r=false):=qh bk
 have HVK:=qh hk
 clear hr hn hc hv hk
 rotate_left
 all_goals(
  exact EW)
theorem nM{x:Int}{n:Nat}(h:aB x 0 ((n:Int)-1)=true):∃k:Nat,x=(k:Int)∧k<n:=by
 simp only[aB,Bool.and_eq_true,decide_eq_true_eq]at h
 exact⟨x.toNat,by omega,by omega⟩
theorem zq(A:Option Addr)(c m:Nat)(ts:List Tab)(x:Chg)(w:World)(ht:aF w w.heap.size A ts)(hm:ts.length=m)(hl:aM ts)(hR:ag w w.heap.size Val.cells 3 x.A x.row)(hrl:x.row.length≤1000000){r:Bool}(hr:bB ts x=r):
 Calls Tryz.prog 84 #[.agg #[.slice A m c,.slice o.vA 0 o.vc,.slice o.iA o.idx.length o.ic,.slice o.sA o.skt.length o.sc,.slice o.cA o.cch.length o.cc,.slice o.rA o.rel.length o.rc,.slice o.tA o.str.length o.tc,.slice o.bA o.bak.length o.bc],.agg #[.int .i64 x.kind,.int .i64 x.seq,.int .i64 x.day,.int .i64 x.table,.slice x.A x.row.length x.cap,.int .i64 x.key.kind,.int .i64 x.key.num,.string x.key.text,.int .i64 x.column,.int .i64 x.val.kind,.int .i64 x.val.num,.string x.val.text]] w fun e w'=>e=.returned (.bool r)∧Below w.heap.size w w':=by
 subst hr
 cases hh:eB ts.length x
 ·have hw:aB x.table 0 ((ts.length:Int)-1)=true:=by
   unfold eB at hh
   simp only[Bool.or_eq_false_iff,Bool.not_eq_false']at hh
   exact hh.2
  obtain⟨k,hk,hkl⟩:=nM hw
  obtain⟨kd,sq,dy,tb,A0,cp,row,key,cl,vl⟩:=x
  simp only at hk hR hrl
  subst hk
  have hcl:=(hl.tabs ts[k] (lgm hkl)).len
  have hce:(bW ts (k:Int))=ts[k].ae:=by
   unfold bW
   rw[Int.toNat_natCast,List.getElem?_eq_getElem hkl]
  have hml:=hl.len
  by_cases h1:kd=1
  ·subst h1
   have he:bB ts ⟨1,sq,dy,k,A0,cp,row,key,cl,vl⟩=dD ts[k].ae.length ⟨1,sq,dy,k,A0,cp,row,key,cl,vl⟩:=by
    unfold bB
    rw[hh,hce]
    rfl
   rw[he]
   exact tN A c m ts sq dy k A0 cp row key cl vl w ht hm omA hkl hR hrl _ rfl hcl hh rfl
  ·by_cases h2:kd=2
   ·subst h2
    have he:bB ts ⟨2,sq,dy,k,A0,cp,row,key,cl,vl⟩=dJ ts[k].ae.length ⟨2,sq,dy,k,A0,cp,row,key,cl,vl⟩:=by
     unfold bB
     rw[hh,hce]
     rfl
    rw[he]
    exact tL A c m ts sq dy k A0 cp row key cl vl w ht hm omA hkl hR hrl _ rfl hcl hh rfl
   ·have he:bB ts ⟨kd,sq,dy,k,A0,cp,row,key,cl,vl⟩=eG ⟨kd,sq,dy,k,A0,cp,row,key,cl,vl⟩:=by
     have e1:(kd == 1)=false:=by rw[beq_eq_false_iff_ne];exact h1
     have e2:(kd == 2)=false:=by rw[beq_eq_false_iff_ne];exact h2
     unfold bB
     simp only[hh,e1,e2]
     rfl
    rw[he]
    exact tQ A c m ts sq dy k A0 cp row key cl vl kd ⟨h1,h2⟩ w ht hm omA hkl hR hrl _ rfl hcl hh rfl
 ·have he:bB ts x=true:=by unfold bB;rw[hh];rfl
  rw[he]
  have hml:=hl.len
  exact rZ A c m ts x w hm omA hh
theorem xP(A:Option Addr)(c m:Nat)(ts:List Tab)(w:World)(ht:aF w w.heap.size A ts)(hm:ts.length=m)(hs:aM ts)(hok:aN ts):
 Calls Tryz.prog 40 #[.agg #[.slice A m c,.slice none 0 0,.slice none 0 0,.slice none 0 0,.slice none 0 0,.slice none 0 0,.slice none 0 0,.slice none 0 0]] w fun e w'=>(∃q,e=.returned (.slice (some ⟨q,0,none⟩) m m)∧w.heap.size≤q∧aR w' w'.heap.size (some ⟨q,0,none⟩) (List.replicate m dY))∧Below w.heap.size w w':=
 zX (o:=Oth.nil) A c m ts w ht hm hs hok (gF.nil ht hs hok)
variable {o:Oth}
def kE(rt:List RTab)(k:Int):List Rcd:=match rt[k.toNat]? with
 | some t=>t.recs
 | none =>[]
def jk(ts:List Tab)(rt:List RTab)(x:Col)(v:Val):Bool:=(x.refs.toList.isEmpty||v.kind == 0)||decide (0≤gm (kE rt (kK (ts.map Tab.name) x.refs ts.length)) v)
theorem lW(A:Option Addr)(c m:Nat)(ts:List Tab)(RA:Option Addr)(rc n:Nat)(rt:List RTab)(i:Nat)(xn:ByteArray)(xt:Int)(xs xr:ByteArray)(xA:Option Addr)(xc:Nat)(xo:List Int)(xj xd:Int)(v:Val)(w:World)
 (ht:aF w w.heap.size A ts) (hm:ts.length=m) (hs:aM ts) (hok:aN ts) (hcg:gF w w.heap.size A c ts o) (hr:aR w w.heap.size RA rt) (hn:rt.length=n) (hsr:mi rt) (hlen:rt.length=ts.length) (hi:i<ts.length) (hx:(⟨xn,xt,xs,xr,xA,xc,xo,xj,xd⟩:Col)∈ts[i].ae) {r:Bool}(hres:jk ts rt ⟨xn,xt,xs,xr,xA,xc,xo,xj,xd⟩ v=r):
 Calls Tryz.prog 190 #[.agg #[.slice A m c,.slice o.vA 0 o.vc,.slice o.iA o.idx.length o.ic,.slice o.sA o.skt.length o.sc,.slice o.cA o.cch.length o.cc,.slice o.rA o.rel.length o.rc,.slice o.tA o.str.length o.tc,.slice o.bA o.bak.length o.bc],.slice RA n rc,.agg #[.string xn,.int .i64 xt,.string xs,.string xr,.slice xA xo.length xc,.int .i64 xj,.int .i64 xd],.agg #[.int .i64 v.kind,.int .i64 v.num,.string v.text]] w fun e w'=>e=.returned (.bool r)∧Below w.heap.size w w':=by
 subst hm hn
 by_cases he:xr=⟨#[]⟩
 ·have he':=wP he
  have HB:Hid (r=true):=qh (by rw[←hres];simp only[jk,he'];rfl)
  clear hx hres he ht hr
  go_enter Tryz.func190,Tryz.ntmps190
  go_upto_region 1 with (fail)
  refine ah (P:=fun u=>Code.wp _ _ _ _ u) (R:=fun u=>Blk u w.heap.size 33 #[.slice A ts.length c,.slice o.vA 0 o.vc,.slice o.iA o.idx.length o.ic,.slice o.sA o.skt.length o.sc,.slice o.cA o.cch.length o.cc,.slice o.rA o.rel.length o.rc,.slice o.tA o.str.length o.tc,.slice o.bA o.bak.length o.bc]∧Blk u (w.heap.size+1) 109 #[.string xn,.int .i64 xt,.string xs,.string xr,.slice xA xo.length xc,.int .i64 xj,.int .i64 xd]∧Blk u (w.heap.size+2) 50 #[.int .i64 v.kind,.int .i64 v.num,.string v.text]∧Below w.heap.size w u) ⟨?_,?_,?_,?_⟩ ?_
  ·exact((Blk.new _ _ _).alloc _).alloc _
  ·exact(Blk.new' spA).alloc _
  ·exact Blk.new' spA
  ·exact ai
  rintro W ⟨hC,hX,hV,hbW⟩
  obtain⟨p0,p1,p2,p3,p4,p5,p6,p7⟩:=Cat.fU hC
  obtain⟨x0,x1,x2,x3,x4,x5,x6⟩:=Col.blk hX
  have v0:=hV.cell 0
  have v1:=hV.cell 1
  have v2:=hV.cell 2
  simp only[gE3]at v0 v1 v2
  have hzW:=hV.lt
  have hk0:=az (w:=W) w.heap.size omA
  have hk1:=az (w:=W) (w.heap.size+1) omA
  have hk2:=az (w:=W) (w.heap.size+2) omA
  clear hC hX hV
  refine af krA krA ?_;(repeat(go_big_quiet_step (fail)));refine wpQuiet_nil ?_;intro wq hq
  clear hk0 hk1 hk2 p0 p1 p2 p3 p4 p5 p6 p7 x0 x1 x2 x3 x4 x5 x6 v0 v1 v2
  go_wp2_with fail
  go_ret
  exact⟨ax HB.out.symm,aa hbW hq hbW.size⟩
 have he':=oD he
 by_cases hv:v.kind=0
 ·have hv':(v.kind == 0)=true:=by simpa using hv
  have HB:Hid (r=true):=qh (by rw[←hres];simp only[jk,he',hv'];rfl)
  clear hx hres he ht hr hv
  go_enter Tryz.func190,Tryz.ntmps190
  go_upto_region 1 with (fail)
  refine ah (P:=fun u=>Code.wp _ _ _ _ u) (R:=fun u=>Blk u w.heap.size 33 #[.slice A ts.length c,.slice o.vA 0 o.vc,.slice o.iA o.idx.length o.ic,.slice o.sA o.skt.length o.sc,.slice o.cA o.cch.length o.cc,.slice o.rA o.rel.length o.rc,.slice o.tA o.str.length o.tc,.slice o.bA o.bak.length o.bc]∧Blk u (w.heap.size+1) 109 #[.string xn,.int .i64 xt,.string xs,.string xr,.slice xA xo.length xc,.int .i64 xj,.int .i64 xd]∧Blk u (w.heap.size+2) 50 #[.int .i64 v.kind,.int .i64 v.num,.string v.text]∧Below w.heap.size w u) ⟨?_,?_,?_,?_⟩ ?_
  ·exact((Blk.new _ _ _).alloc _).alloc _
  ·exact(Blk.new' spA).alloc _
  ·exact Blk.new' spA
  ·exact ai
  rintro W ⟨hC,hX,hV,hbW⟩
  obtain⟨p0,p1,p2,p3,p4,p5,p6,p7⟩:=Cat.fU hC
  obtain⟨x0,x1,x2,x3,x4,x5,x6⟩:=Col.blk hX
  have v0:=hV.cell 0
  have v1:=hV.cell 1
  have v2:=hV.cell 2
  simp only[gE3]at v0 v1 v2
  have hzW:=hV.lt
  have hk0:=az (w:=W) w.heap.size omA
  have hk1:=az (w:=W) (w.heap.size+1) omA
  have hk2:=az (w:=W) (w.heap.size+2) omA
  clear hC hX hV
  refine af krA krA ?_;(repeat(go_big_quiet_step (fail)));refine wpQuiet_nil ?_;intro wq hq
  clear hk0 hk1 hk2 p0 p1 p2 p3 p4 p5 p6 p7 x0 x1 x2 x3 x4 x5 x6 v0 v1 v2
  go_wp2_with fail
  go_ret
  exact⟨ax HB.out.symm,aa hbW hq hbW.size⟩
 have hv':(v.kind == 0)=false:=by simpa using hv
 obtain⟨k,hk,hki,hname,_⟩:=hok.ref hi hx he
 have hfi:kK (ts.map Tab.name) xr ts.length=(k:Int):=by
  have h:=hok.find hk
  have hname:ts[k].name=xr:=hname
  rwa [hname]at h
 have hkr:k<rt.length:=by omega
 obtain⟨rb,ro,rfl,hrb,hrc⟩:=hr.1.get hkr
 have c0:=hrc 0 _ rfl
 have dw:=hr.2 rt[k] (lgm hkr)
 have hrow:=hsr.row rt[k] (lgm hkr)
 have nk:=hsr.recs rt[k] (lgm hkr)
 have hra:kE rt (k:Int)=rt[k].recs:=by
  unfold kE
  rw[Int.toNat_natCast,List.getElem?_eq_getElem hkr]
 obtain⟨z,hz⟩:∃z,gm rt[k].recs v=z:=⟨_,rfl⟩
 have HB:Hid (r=decide (0≤z)):=qh (by
  rw[←hres,←hz,←hra,←hfi]
  simp only[jk,he',hv',Bool.false_or])
 have hln:=hsr.len
 obtain⟨⟨TA,tc,recs⟩,hy⟩:∃x:RTab,rt[k]=x:=⟨_,rfl⟩
 rw[hy]at c0 dw hrow nk hz
 simp only[Nat.mul_one,Nat.add_zero]at c0 dw hrow nk hz
 have HT:=qh ht
 have HS:=qh hs
 have HOK:=qh hok
 have HCG:=qh hcg
 have HFI:=qh hfi
 have HRE:=qh dw
 have HRO:=qh hrow
 have HZ:=qh hz
 have OL:decide (k<rt.length)=true:=by simpa using hkr
 clear hx hres he ht hr hv hs hok hcg hfi dw hrow hz hra hrc hname hy hlen hsr
 cases hzz:decide (0≤z)
 ·have HZZ:=qh hzz
  go_enter Tryz.func190,Tryz.ntmps190
  go_upto_region 1 with (fail)
  refine ah (P:=fun u=>Code.wp _ _ _ _ u) (R:=fun u=>Blk u w.heap.size 33 #[.slice A ts.length c,.slice o.vA 0 o.vc,.slice o.iA o.idx.length o.ic,.slice o.sA o.skt.length o.sc,.slice o.cA o.cch.length o.cc,.slice o.rA o.rel.length o.rc,.slice o.tA o.str.length o.tc,.slice o.bA o.bak.length o.bc]∧Blk u (w.heap.size+1) 109 #[.string xn,.int .i64 xt,.string xs,.string xr,.slice xA xo.length xc,.int .i64 xj,.int .i64 xd]∧Blk u (w.heap.size+2) 50 #[.int .i64 v.kind,.int .i64 v.num,.string v.text]∧Below w.heap.size w u) ⟨?_,?_,?_,?_⟩ ?_
  ·exact((Blk.new _ _ _).alloc _).alloc _
  ·exact(Blk.new' spA).alloc _
  ·exact Blk.new' spA
  ·exact ai
  rintro W ⟨hC,hX,hV,hbW⟩
  obtain⟨p0,p1,p2,p3,p4,p5,p6,p7⟩:=Cat.fU hC
  obtain⟨x0,x1,x2,x3,x4,x5,x6⟩:=Col.blk hX
  have v0:=hV.cell 0
  have v1:=hV.cell 1
  have v2:=hV.cell 2
  simp only[gE3]at v0 v1 v2
  have hzW:=hV.lt
  have hk0:=az (w:=W) w.heap.size omA
  have hk1:=az (w:=W) (w.heap.size+1) omA
  have hk2:=az (w:=W) (w.heap.size+2) omA
  clear hC hX hV
  have c0:=(hbW.cell (p:=⟨rb,_,none⟩) hrb).trans c0
  have hk3:=az (w:=W) rb omA
  refine af krA krA ?_;(repeat(go_big_quiet_step ((first
   | (go_at_call 141;with_reducible exact dN (wm A c ts.length ts xr _ (HT.out.next (aa hbW (cZ.h _) hbW.size)) rfl HS.out (HCG.out.next (aa hbW (cZ.h _) hbW.size)) HFI.out))
   | (go_at_call 15;with_reducible exact dN (gJ TA tc recs.length recs v _ (HRE.out.next (aa hbW (cZ.h _) hbW.size)) rfl nk HRO.out HZ.out))))));refine wpQuiet_nil ?_;intro wq hq
  clear hk0 hk1 hk2 hk3 p0 p1 p2 p3 p4 p5 p6 p7 x0 x1 x2 x3 x4 x5 x6 v0 v1 v2 c0
  go_wp2_with fail
  go_ret
  exact⟨ax (by rw[HB.out,HZZ.out]),aa hbW hq hbW.size⟩
 ·have HZZ:=qh hzz
  go_enter Tryz.func190,Tryz.ntmps190
  go_upto_region 1 with (fail)
  refine ah (P:=fun u=>Code.wp _ _ _ _ u) (R:=fun u=>Blk u w.heap.size 33 #[.slice A ts.length c,.slice o.vA 0 o.vc,.slice o.iA o.idx.length o.ic,.slice o.sA o.skt.length o.sc,.slice o.cA o.cch.length o.cc,.slice o.rA o.rel.length o.rc,.slice o.tA o.str.length o.tc,.slice o.bA o.bak.length o.bc]∧Blk u (w.heap.size+1) 109 #[.string xn,.int .i64 xt,.string xs,.string xr,.slice xA xo.length xc,.int .i64 xj,.int .i64 xd]∧Blk u (w.heap.size+2) 50 #[.int .i64 v.kind,.int .i64 v.num,.string v.text]∧Below w.heap.size w u) ⟨?_,?_,?_,?_⟩ ?_
  ·exact((Blk.new _ _ _).alloc _).alloc _
  ·exact(Blk.new' spA).alloc _
  ·exact Blk.new' spA
  ·exact ai
  rintro W ⟨hC,hX,hV,hbW⟩
  obtain⟨p0,p1,p2,p3,p4,p5,p6,p7⟩:=Cat.fU hC
  obtain⟨x0,x1,x2,x3,x4,x5,x6⟩:=Col.blk hX
  have v0:=hV.cell 0
  have v1:=hV.cell 1
  have v2:=hV.cell 2
  simp only[gE3]at v0 v1 v2
  have hzW:=hV.lt
  have hk0:=az (w:=W) w.heap.size omA
  have hk1:=az (w:=W) (w.heap.size+1) omA
  have hk2:=az (w:=W) (w.heap.size+2) omA
  clear hC hX hV
  have c0:=(hbW.cell (p:=⟨rb,_,none⟩) hrb).trans c0
  have hk3:=az (w:=W) rb omA
  refine af krA krA ?_;(repeat(go_big_quiet_step ((first
   | (go_at_call 141;with_reducible exact dN (wm A c ts.length ts xr _ (HT.out.next (aa hbW (cZ.h _) hbW.size)) rfl HS.out (HCG.out.next (aa hbW (cZ.h _) hbW.size)) HFI.out))
   | (go_at_call 15;with_reducible exact dN (gJ TA tc recs.length recs v _ (HRE.out.next (aa hbW (cZ.h _) hbW.size)) rfl nk HRO.out HZ.out))))));refine wpQuiet_nil ?_;intro wq hq
  clear hk0 hk1 hk2 hk3 p0 p1 p2 p3 p4 p5 p6 p7 x0 x1 x2 x3 x4 x5 x6 v0 v1 v2 c0
  go_wp2_with fail
  go_ret
  exact⟨ax (by rw[HB.out,HZZ.out]),aa hbW hq hbW.size⟩
variable {o:Oth}
def fH(ae:List Col)(row:List Val):Prop:= ∀i (h:i<row.length) (k:i<ae.length),dz row[i] ae[i].ty=true
def iw(ae:List Col)(x:Chg):Bool:= !dz (keyOf x) (oN ae 0)||(x.kind == 2 && !dz x.val (oN ae x.column))
noncomputable def aV(ts:List Tab)(x:Chg):Int:=
 if bB ts x=true then 1 else if ((keyOf x).kind == 0)=true then 6 else if pb (fH (bW ts x.table) x.row)=false then 5
 else if iw (bW ts x.table) x=true then 5 else if (x.kind == 2&&pb (dn (bW ts x.table) x.column))=true then 11 else 0
structure jN (ts:List Tab) (x:Chg) (k:Nat):Prop where
 tab:x.table=(k:Int)
 lt:k<ts.length
 kind:x.kind=1∨x.kind=2∨x.kind=3
 ins:x.kind=1→x.row.length=(bW ts (k:Int)).length
 rest:x.kind≠1→x.row.length=0
 upd:x.kind=2→∃j:Nat,x.column=(j:Int)∧j<(bW ts (k:Int)).length
 seq:aB x.seq 1 1073741824=true
theorem LW{ts:List Tab}{x:Chg}(h:bB ts x=false):∃k,jN ts x k:=by
 unfold bB at h
 rw[Bool.or_eq_false_iff]at h
 obtain⟨hh,hb⟩:=h
 unfold eB at hh
 simp only[Bool.or_eq_false_iff,Bool.not_eq_false']at hh
 obtain⟨⟨⟨h1,hsq⟩,_⟩,h4⟩:=hh
 obtain⟨k,hk,hkl⟩:=nM h4
 have hkd:x.kind=1∨x.kind=2∨x.kind=3:=by
  simp only[aB,Bool.and_eq_true,decide_eq_true_eq]at h1
  omega
 rw[hk]at hb
 refine⟨k,hk,hkl,hkd,fun h =>?_,fun h =>?_,fun h =>?_,hsq⟩
 ·have e1:(x.kind == 1)=true:=by simpa using h
  rw[e1,if_pos rfl]at hb
  unfold dD at hb
  simp only[Bool.or_eq_false_iff]at hb
  have:=hb.1.2
  have:((x.row.length:Int)=((bW ts (k:Int)).length:Int)):=by simpa using this
  omega
 ·have e1:(x.kind == 1)=false:=by simpa using h
  rw[e1,if_neg (by decide)]at hb
  have:decide (0<x.row.length)=false:=by
   split at hb
   ·unfold dJ at hb
    simp only[Bool.or_eq_false_iff]at hb
    exact hb.1.1.1
   ·unfold eG at hb
    simp only[Bool.or_eq_false_iff]at hb
    exact hb.1.1.1
  have:=of_decide_eq_false this
  omega
 ·have e1:(x.kind == 1)=false:=by rw[h];rfl
  have e2:(x.kind == 2)=true:=by rw[h];rfl
  rw[e1,if_neg (by decide),e2,if_pos rfl]at hb
  unfold dJ at hb
  simp only[Bool.or_eq_false_iff,Bool.not_eq_false']at hb
  exact nM hb.1.2
theorem cB{ts:List Tab}{k:Nat}(h:k<ts.length):bW ts (k:Int)=ts[k].ae:=by
 unfold bW
 rw[Int.toNat_natCast,List.getElem?_eq_getElem h]
theorem kW{ae:List Col}{k:Nat}(h:k<ae.length):oN ae (k:Int)=ae[k].ty:=by
 unfold oN
 rw[Int.toNat_natCast,List.getElem?_eq_getElem h]
theorem nT(A:Option Addr)(c m:Nat)(ts:List Tab)(kd sq dy tb:Int)(A0:Option Addr)(cp:Nat)(row:List Val)(key:Val)(cl:Int)(vl:Val)(w:World)(ht:aF w w.heap.size A ts)(hm:ts.length=m)(hs:aM ts)(hok:aN ts)(hcg:gF w w.heap.size A c ts o)(hR:ag w w.heap.size Val.cells 3 A0 row)(hrl:row.length≤1000000){r:Int}(hr:aV ts ⟨kd,sq,dy,tb,A0,cp,row,key,cl,vl⟩=r):
 Calls Tryz.prog 41 #[.agg #[.slice A m c,.slice o.vA 0 o.vc,.slice o.iA o.idx.length o.ic,.slice o.sA o.skt.length o.sc,.slice o.cA o.cch.length o.cc,.slice o.rA o.rel.length o.rc,.slice o.tA o.str.length o.tc,.slice o.bA o.bak.length o.bc],.agg #[.int .i64 kd,.int .i64 sq,.int .i64 dy,.int .i64 tb,.slice A0 row.length cp,.int .i64 key.kind,.int .i64 key.num,.string key.text,.int .i64 cl,.int .i64 vl.kind,.int .i64 vl.num,.string vl.text]] w fun e w'=>e=.returned (.int .i64 r)∧Below w.heap.size w w':=by
 subst hm
 have HT:=qh ht
 have HS:=qh hs
 have HOK:=qh hok
 have HCG:=qh hcg
 have HR:=qh hR
 clear ht hs hok hcg hR
 have hstart:(∀u:World,Blk u w.heap.size 33 #[.slice A ts.length c,.slice o.vA 0 o.vc,.slice o.iA o.idx.length o.ic,.slice o.sA o.skt.length o.sc,.slice o.cA o.cch.length o.cc,.slice o.rA o.rel.length o.rc,.slice o.tA o.str.length o.tc,.slice o.bA o.bak.length o.bc]∧Blk u (w.heap.size+1) 52 (Chg.cells ⟨kd,sq,dy,tb,A0,cp,row,key,cl,vl⟩).toArray∧Below w.heap.size w u→True):=fun _ _=>trivial
 clear hstart
 obtain⟨ri,hri⟩:∃ri,bB ts ⟨kd,sq,dy,tb,A0,cp,row,key,cl,vl⟩=ri:=⟨_,rfl⟩
 have HI:=qh hri
 go_enter Tryz.func41,Tryz.ntmps41
 go_upto_region 1 with (fail)
 refine ah (P:=fun u=>Code.wp _ _ _ _ u) (R:=fun u=>Blk u w.heap.size 33 #[.slice A ts.length c,.slice o.vA 0 o.vc,.slice o.iA o.idx.length o.ic,.slice o.sA o.skt.length o.sc,.slice o.cA o.cch.length o.cc,.slice o.rA o.rel.length o.rc,.slice o.tA o.str.length o.tc,.slice o.bA o.bak.length o.bc]∧Blk u (w.heap.size+1) 52 (Chg.cells ⟨kd,sq,dy,tb,A0,cp,row,key,cl,vl⟩).toArray∧Below w.heap.size w u) ⟨?_,?_,?_⟩ ?_
 ·exact(Blk.new _ _ _).alloc _
 ·exact Blk.new' spA
 ·exact ai
 rintro W ⟨hC,hX,hbW⟩
 have hzW:=hX.lt
 have HC:=qh hC
 have HX:=qh hX
 obtain⟨p0,p1,p2,p3,p4,p5,p6,p7⟩:=Cat.fU hC
 obtain⟨⟨q0,q1,q2,q3⟩,q4,⟨q5,q6,q7⟩,q8,q9,q10,q11⟩:=Chg.blk hX
 simp only at q0 q1 q2 q3 q4 q5 q6 q7 q8 q9 q10 q11
 clear hC hX hri
 go_wp2_with fail
 (with_reducible refine(zq A c ts.length ts ⟨kd,sq,dy,tb,A0,cp,row,key,cl,vl⟩ _ (HT.out.next hbW) rfl HS.out (HR.out.next hbW) hrl HI.out).mono ?_)
 rintro e w1 ⟨rfl,hb1⟩
 have hx1:=aa hbW hb1 hbW.size
 have hz1:=hb1.size
 have hC1:=HC.out.below hb1 omA
 have hX1:=HX.out.below hb1 hzW
 clear p0 p1 p2 p3 p4 p5 p6 p7 q0 q1 q2 q3 q4 q5 q6 q7 q8 q9 q10 q11
 cases ri
 ·obtain⟨k,hin⟩:=LW HI.out
  obtain⟨hk1,hk2,hk3,hk4,hk5,hk6⟩:=hin
  simp only at hk1 hk3 hk4 hk5 hk6
  subst hk1
  have lg:=HOK.out.ae hk2
  rw[cB hk2]at hk4 hk6
  have Mv:0<row.length→kd=1:=fun h=>by
   rcases Decidable.em (kd=1) with h1|h1
   ·exact h1
   ·have:=hk5 h1
    omega
  have Dh:kd=1→0<row.length:=fun h=>by have:=hk4 h;omega
  have HC1:=qh hC1
  have HX1:=qh hX1
  obtain⟨p0,p1,p2,p3,p4,p5,p6,p7⟩:=Cat.fU hC1
  obtain⟨⟨q0,q1,q2,q3⟩,q4,⟨q5,q6,q7⟩,q8,q9,q10,q11⟩:=Chg.blk hX1
  simp only at q0 q1 q2 q3 q4 q5 q6 q7 q8 q9 q10 q11
  clear hC1 hX1
  obtain⟨kv,hkv⟩:∃kv,keyOf ⟨kd,sq,dy,(k:Int),A0,cp,row,key,cl,vl⟩=kv:=⟨_,rfl⟩
  have HKV:=qh hkv
  clear hkv
  have H4:=qh hk4
  have H5:=qh Mv
  have H6:=qh hk6
  have HP:=qh Dh
  have HR1:=qh (HR.out.next hx1)
  clear hk4 hk5 hk6 Mv Dh
  go_wp2_with fail
  (with_reducible refine(gT ⟨kd,sq,dy,(k:Int),A0,cp,row,key,cl,vl⟩ _ HR1.out hrl HP.out HKV.out).mono ?_)
  rintro e w2 ⟨rfl,hb2⟩
  have hx2:=aa hx1 hb2 hx1.size
  have hz2:=hb2.size
  have hC2:=HC1.out.below hb2 omA
  have hX2:=HX1.out.below hb2 omA
  have HC2:=qh hC2
  have HX2:=qh hX2
  clear p0 p1 p2 p3 p4 p5 p6 p7 q0 q1 q2 q3 q4 q5 q6 q7 q8 q9 q10 q11
  obtain⟨p0,p1,p2,p3,p4,p5,p6,p7⟩:=Cat.fU hC2
  obtain⟨⟨q0,q1,q2,q3⟩,q4,⟨q5,q6,q7⟩,q8,q9,q10,q11⟩:=Chg.blk hX2
  simp only at q0 q1 q2 q3 q4 q5 q6 q7 q8 q9 q10 q11
  clear hC2 hX2
  have hfd:∀u:World,(Instr.field 50 (.agg #[.int .i64 kv.kind,.int .i64 kv.num,.string kv.text]) 0).run Tryz.prog u=.ok (.int .i64 kv.kind) u:=fun _=>by kernel_rfl
  by_cases h0:kv.kind=0
  ·have h0':(kv.kind == 0)=true:=by simpa using h0
   have dK:Hid (r=6):=qh (by rw[←hr,aV,if_neg (by rw[HI.out];decide),if_pos (by rw[HKV.out];exact h0')])
   clear h0
   go_wp2_with fail
   go_ret
   exact⟨aS (a:= 6) dK.out.symm,hx2⟩
  ·have h0':(kv.kind == 0)=false:=by simpa using h0
   have hrest:r=(if pb (fH ts[k].ae row)=false then 5 else if iw ts[k].ae ⟨kd,sq,dy,(k:Int),A0,cp,row,key,cl,vl⟩=true then 5 else if (kd == 2&&pb (dn ts[k].ae cl))=true then 11 else 0):=by
    rw[←hr,aV,if_neg (by rw[HI.out];decide),if_neg (by rw[HKV.out,h0'];decide),cB hk2]
   have Ep:=qh hrest
   clear h0 hrest hr
   obtain⟨tb5,to5,rfl,yz,htc⟩:=(HT.out.1).get hk2
   obtain⟨t0,t1,t2,t3⟩:=Tab.fV htc
   have eP:=HT.out.2 ts[k] (lgm hk2)
   obtain⟨ae,hcs⟩:∃l,ts[k].ae=l:=⟨_,rfl⟩
   have HCS:=qh hcs
   obtain⟨CA,hCA⟩:∃a,ts[k].A=a:=⟨_,rfl⟩
   obtain⟨cc,hcc⟩:∃a,ts[k].cap=a:=⟨_,rfl⟩
   obtain⟨tnm,TG⟩:∃a,ts[k].name=a:=⟨_,rfl⟩
   obtain⟨ter,TI⟩:∃a,ts[k].erase=a:=⟨_,rfl⟩
   obtain⟨trt,TF⟩:∃a,ts[k].mG=a:=⟨_,rfl⟩
   rw[hcs]at lg eP t1
   rw[hCA]at eP t1
   rw[hcc]at t1
   rw[TG]at t0
   rw[TI]at t2
   rw[TF]at t3
   have h4:=H4.out
   have h6:=H6.out
   have hrest:=Ep.out
   rw[hcs]at h4 h6 hrest
   clear H4 H6 Ep
   have H4:=qh h4
   have H6:=qh h6
   have Ep:=qh hrest
   clear h4 h6 hrest
   have t0:=(hx2.cell (p:=⟨tb5,_,none⟩) yz).trans t0
   have t1:=(hx2.cell (p:=⟨tb5,_,none⟩) yz).trans t1
   have t2:=(hx2.cell (p:=⟨tb5,_,none⟩) yz).trans t2
   have t3:=(hx2.cell (p:=⟨tb5,_,none⟩) yz).trans t3
   have HCO:=qh (eP.1.below hx2)
   have Xq:decide (k<ts.length)=true:=by simpa using hk2
   clear htc eP hcs hCA hcc TG TI TF
   go_upto_region 6 with (fail)
   refine ah (P:=fun u=>Code.wp _ _ _ _ u) (R:=fun u=>Blk u w2.heap.size 61 #[.string tnm,.slice CA ae.length cc,.int .i64 ter,.int .i64 trt]∧Below w2.heap.size w2 u) ⟨?_,?_⟩ ?_
   ·exact Blk.new' rfl
   ·exact ai
   rintro V ⟨hTB,hbV⟩
   have hxV:=aa hx2 hbV hx2.size
   have hzV:=hTB.lt
   have HTB:=qh hTB
   have HCV:=qh (HC2.out.below hbV omA)
   have HXV:=qh (HX2.out.below hbV omA)
   clear p0 p1 p2 p3 p4 p5 p6 p7 q0 q1 q2 q3 q4 q5 q6 q7 q8 q9 q10 q11
   clear t0 t1 t2 t3 hTB hfd
   go_wp2_with fail
   go_loopw [6] (fun vi wr =>∃i:Nat,i≤row.length∧vi=.int .i64 i∧Below V.heap.size V wr∧(∀q (h:q<row.length) (h':q<ae.length),q<i→dz row[q] ae[q].ty=true)) (fun vi _=>row.length-(intOf vi).toNat)
   case atStart=>exact⟨0,Nat.zero_le _,rfl,Below.refl _ _,fun q _ _ h=>by omega⟩
   case round =>
    obtain⟨i,hir,rfl,hbr,hpre⟩:=hrel
    have qW:=qh hpre
    have hxr:=aa hxV hbr hxV.size
    have hwz:=hbr.size
    have hCr:=HCV.out.below hbr omA
    have hXr:=HXV.out.below hbr omA
    obtain⟨u0,u1,u2,u3⟩:=Tab.blk (HTB.out.below hbr hzV)
    obtain⟨p0,p1,p2,p3,p4,p5,p6,p7⟩:=Cat.fU hCr
    obtain⟨⟨q0,q1,q2,q3⟩,q4,⟨q5,q6,q7⟩,q8,q9,q10,q11⟩:=Chg.blk hXr
    simp only at q0 q1 q2 q3 q4 q5 q6 q7 q8 q9 q10 q11
    have HCr:=qh hCr
    have HXr:=qh hXr
    clear hpre hCr hXr
    have hk0:=az (w:=wr) w.heap.size omA
    have hk1:=az (w:=wr) (w.heap.size+1) omA
    have hk7:=az (w:=wr) w2.heap.size omA
    by_cases hlt:i<row.length
    ·have hkd:kd=1:=H5.out omA
     have hic:i<ae.length:=by have:=H4.out hkd;omega
     obtain⟨rb,ro,rfl,hrb,hrc⟩:=(HR.out.below hxr).get hlt
     obtain⟨y0,y1,y2⟩:=Val.cells3 hrc
     obtain⟨cb,co,rfl,hcb,hcc⟩:=(HCO.out.below (aa hbV hbr hbV.size |>.mono omA)).get hic
     have c1:=hcc 1 _ rfl
     have hk3:=az (w:=wr) rb omA
     have hk4:=az (w:=wr) cb omA
     have hlt':decide (i<row.length)=true:=by simpa using hlt
     have Xz:decide (i<ae.length)=true:=by simpa using hic
     clear hrc hcc
     cases hty:dz row[i] ae[i].ty
     ·have dK:Hid (r=5):=qh (by rw[Ep.out,if_pos (bg fun h=>by have:=h i hlt hic;rw[hty]at this;cases this)])
      have HTY:=qh hty
      clear hty
      go_upto_region 9 with (fail)
      refine af krA krA ?_;(repeat(go_big_quiet_step ((go_at_call 86;with_reducible exact bn (cz row[i] ae[i].ty _ HTY.out)))));refine wpQuiet_nil ?_;intro wq hq
      clear p0 p1 p2 p3 p4 p5 p6 p7 q0 q1 q2 q3 q4 q5 q6 q7 q8 q9 q10 q11
      clear hk0 hk1 hk7 hk3 hk4 u0 u1 u2 u3 y0 y1 y2 c1
      go_wp2_with fail
      go_ret
      exact⟨aS (a:= 5) dK.out.symm,aa hxr hq hxr.size⟩
     ·have HTY:=qh hty
      clear hty
      go_upto_region 9 with (fail)
      refine af krA krA ?_;(repeat(go_big_quiet_step ((go_at_call 86;with_reducible exact bn (cz row[i] ae[i].ty _ HTY.out)))));refine wpQuiet_nil ?_;intro wq hq
      clear p0 p1 p2 p3 p4 p5 p6 p7 q0 q1 q2 q3 q4 q5 q6 q7 q8 q9 q10 q11
      clear hk0 hk1 hk7 hk3 hk4 u0 u1 u2 u3 y0 y1 y2 c1
      go_wp2_with fail
      go_roundw
      case rel=>exact⟨i+1,by omega,by go_num,aa hbr hq hwz,fun q h h' hq'=>by
       rcases Nat.lt_or_ge q i with h1|h1
       ·exact qW.out q h h' h1
       ·obtain rfl:q=i:=by omega
        exact HTY.out⟩
      case measure=>exact meA
    ·have hlt':decide (i<row.length)=false:=by simpa using hlt
     have HRT:Hid (fH ae row):=qh fun q h h'=>qW.out q h h' omA
     have Cb:Hid (r=if iw ae ⟨kd,sq,dy,(k:Int),A0,cp,row,key,cl,vl⟩=true then 5 else if (kd == 2&&pb (dn ae cl))=true then 11 else 0):=qh (by
      have:=Ep.out
      rw[if_neg (by rw[bV HRT.out];decide)]at this
      exact this)
     have hc0:0<ae.length:=lg.1
     have hc0':decide (0<ae.length)=true:=by simpa using hc0
     obtain⟨cb,co,rfl,hcb,hcc⟩:=(HCO.out.below (aa hbV hbr hbV.size |>.mono omA)).get hc0
     have c1:=hcc 1 _ rfl
     simp only[Nat.zero_mul,Nat.add_zero]at c1
     have hk4:=az (w:=wr) cb omA
     have HTA:Hid (oN ae 0=ae[0].ty):=qh (kW (k:= 0) hc0)
     obtain⟨ty0,Ri⟩:∃t,ae[0].ty=t:=⟨_,rfl⟩
     rw[Ri]at c1
     have HT0:=qh Ri
     clear hcc Ri
     cases h1:dz kv ty0
     ·have dK:Hid (r=5):=qh (by rw[Cb.out,if_pos (by unfold iw;rw[HKV.out,HTA.out,HT0.out,h1];rfl)])
      have H1:=qh h1
      clear h1
      go_upto_region 11 with (fail)
      refine af krA krA ?_;(repeat(go_big_quiet_step ((first
       | (go_at_call 85;with_reducible exact dN (gT ⟨kd,sq,dy,(k:Int),A0,cp,row,key,_,vl⟩ _ (HR1.out.next (aa (aa hb2 hbV hb2.size) (aa hbr (cZ.h _) hbr.size) leA)) hrl HP.out HKV.out))
       | (go_at_call 86;(first|with_reducible exact bn (cz kv ty0 _ H1.out)|with_reducible exact bn (cz vl tyj _ H2.out)))))));refine wpQuiet_nil ?_;intro wq hq
      clear p0 p1 p2 p3 p4 p5 p6 p7 q0 q1 q2 q3 q4 q5 q6 q7 q8 q9 q10 q11
      (try clear c2)
      clear hk0 hk1 hk7 hk4 u0 u1 u2 u3 c1
      go_wp2_with fail
      go_ret
      exact⟨aS (a:= 5) dK.out.symm,aa hxr hq hxr.size⟩
     ·by_cases hd2:kd=2
      ·have IK:(kd == 2)=true:=by simpa using hd2
       obtain⟨j,hj,hjc⟩:=H6.out hd2
       subst hj
       have Xu:decide (j<ae.length)=true:=by simpa using hjc
       obtain⟨cb',co',he',_,U5⟩:=(HCO.out.below (aa hbV hbr hbV.size |>.mono omA)).get hjc
       injection he' with he'
       injection he' with he1 he2
       subst he1 he2
       have c2:=U5 1 _ rfl
       have HTJ:Hid (oN ae (j:Int)=ae[j].ty):=qh (kW hjc)
       obtain⟨tyj,Rh⟩:∃t,ae[j].ty=t:=⟨_,rfl⟩
       rw[Rh]at c2
       have HT2:=qh Rh
       clear U5 Rh hd2
       cases h2:dz vl tyj
       ·have dK:Hid (r=5):=qh (by rw[Cb.out,if_pos (by unfold iw;rw[HKV.out,HTA.out,HT0.out,h1,IK,HTJ.out,HT2.out,h2];rfl)])
        have H1:=qh h1
        have H2:=qh h2
        clear h1 h2
        go_upto_region 11 with (fail)
        refine af krA krA ?_;(repeat(go_big_quiet_step ((first
         | (go_at_call 85;with_reducible exact dN (gT ⟨kd,sq,dy,(k:Int),A0,cp,row,key,_,vl⟩ _ (HR1.out.next (aa (aa hb2 hbV hb2.size) (aa hbr (cZ.h _) hbr.size) leA)) hrl HP.out HKV.out))
         | (go_at_call 86;(first|with_reducible exact bn (cz kv ty0 _ H1.out)|with_reducible exact bn (cz vl tyj _ H2.out)))))));refine wpQuiet_nil ?_;intro wq hq
        clear p0 p1 p2 p3 p4 p5 p6 p7 q0 q1 q2 q3 q4 q5 q6 q7 q8 q9 q10 q11
        (try clear c2)
        clear hk0 hk1 hk7 hk4 u0 u1 u2 u3 c1
        go_wp2_with fail
        go_ret
        exact⟨aS (a:= 5) dK.out.symm,aa hxr hq hxr.size⟩
       ·have dK:Hid (r=if pb (dn ae (j:Int))=true then 11 else 0):=qh (by rw[Cb.out,if_neg (by unfold iw;rw[HKV.out,HTA.out,HT0.out,h1,IK,HTJ.out,HT2.out,h2];decide),IK,Bool.true_and])
        have H1:=qh h1
        have H2:=qh h2
        clear h1 h2
        go_upto_region 11 with (fail)
        refine af krA krA ?_;(repeat(go_big_quiet_step ((first
         | (go_at_call 85;with_reducible exact dN (gT ⟨kd,sq,dy,(k:Int),A0,cp,row,key,_,vl⟩ _ (HR1.out.next (aa (aa hb2 hbV hb2.size) (aa hbr (cZ.h _) hbr.size) leA)) hrl HP.out HKV.out))
         | (go_at_call 86;(first|with_reducible exact bn (cz kv ty0 _ H1.out)|with_reducible exact bn (cz vl tyj _ H2.out)))))));refine wpQuiet_nil ?_;intro wq hq
        clear p0 p1 p2 p3 p4 p5 p6 p7 q0 q1 q2 q3 q4 q5 q6 q7 q8 q9 q10 q11
        (try clear c2)
        clear hk0 hk1 hk7 hk4 u0 u1 u2 u3 c1
        have hxq:=aa hxr hq hxr.size
        have hCq:=HCr.out.below hq omA
        have hXq:=HXr.out.below hq omA
        obtain⟨p0,p1,p2,p3,p4,p5,p6,p7⟩:=Cat.fU hCq
        obtain⟨⟨q0,q1,q2,q3⟩,q4,⟨q5,q6,q7⟩,q8,q9,q10,q11⟩:=Chg.blk hXq
        simp only at q0 q1 q2 q3 q4 q5 q6 q7 q8 q9 q10 q11
        clear hCq hXq
        cases h3:pb (dn ae (j:Int))
        ·have ND:Hid (r=0):=qh (by rw[dK.out,h3];rfl)
         have H3:=qh h3
         clear h3
         go_wp2_with (go_at_call 87;(with_reducible refine(vY _ c ts.length ts k (j:Int) ae _ (HT.out.next hxq) rfl HS.out HOK.out (HCG.out.next hxq) hk2 HCS.out H3.out).mono ?_);rintro e w9 ⟨rfl,hb9⟩)
         go_ret
         exact⟨aS (a:= 0) ND.out.symm,aa hxq hb9 hxq.size⟩
        ·have ND:Hid (r=11):=qh (by rw[dK.out,h3];rfl)
         have H3:=qh h3
         clear h3
         go_wp2_with (go_at_call 87;(with_reducible refine(vY _ c ts.length ts k (j:Int) ae _ (HT.out.next hxq) rfl HS.out HOK.out (HCG.out.next hxq) hk2 HCS.out H3.out).mono ?_);rintro e w9 ⟨rfl,hb9⟩)
         go_ret
         exact⟨aS (a:= 11) ND.out.symm,aa hxq hb9 hxq.size⟩
      ·have IK:(kd == 2)=false:=by simpa using hd2
       have dK:Hid (r=0):=qh (by rw[Cb.out,if_neg (by unfold iw;rw[HKV.out,HTA.out,HT0.out,h1,IK];simp),IK];rfl)
       have H1:=qh h1
       clear h1 hd2
       go_upto_region 11 with (fail)
       refine af krA krA ?_;(repeat(go_big_quiet_step ((first
        | (go_at_call 85;with_reducible exact dN (gT ⟨kd,sq,dy,(k:Int),A0,cp,row,key,_,vl⟩ _ (HR1.out.next (aa (aa hb2 hbV hb2.size) (aa hbr (cZ.h _) hbr.size) leA)) hrl HP.out HKV.out))
        | (go_at_call 86;(first|with_reducible exact bn (cz kv ty0 _ H1.out)|with_reducible exact bn (cz vl tyj _ H2.out)))))));refine wpQuiet_nil ?_;intro wq hq
       clear p0 p1 p2 p3 p4 p5 p6 p7 q0 q1 q2 q3 q4 q5 q6 q7 q8 q9 q10 q11
       (try clear c2)
       clear hk0 hk1 hk7 hk4 u0 u1 u2 u3 c1
       have hXq:=HXr.out.below hq omA
       obtain⟨⟨q0,q1,q2,q3⟩,q4,⟨q5,q6,q7⟩,q8,q9,q10,q11⟩:=Chg.blk hXq
       simp only at q0
       clear hXq q1 q2 q3 q4 q5 q6 q7 q8 q9 q10 q11
       go_wp2_with fail
       go_ret
       exact⟨aS (a:= 0) dK.out.symm,aa hxr hq hxr.size⟩
 ·have dK:Hid (r=1):=qh (by rw[←hr,aV,if_pos HI.out])
  clear hr
  go_wp2_with fail
  go_ret
  exact⟨aS (a:= 1) dK.out.symm,hx1⟩
variable {o:Oth}
def mq(ts:List Tab)(rt:List RTab)(ae:List Col)(row:List Val):Prop:= ∀i (h:i<row.length) (k:i<ae.length),jk ts rt ae[i] row[i]=true
def l5(ts:List Tab)(rt:List RTab)(ae:List Col)(k:Int)(v:Val):Bool:=match ae[k.toNat]? with
 | some x=>jk ts rt x v
 | none=>true
noncomputable def mF(ts:List Tab)(rt:List RTab)(x:Chg):Int:=
 if (x.kind == 1&&decide (0≤gm (kE rt x.table) (keyOf x)))=true then 4 else if (x.kind != 1&&decide (gm (kE rt x.table) (keyOf x)<0))=true then 10
 else if pb (mq ts rt (bW ts x.table) x.row)=false then 7 else if (x.kind == 2 && !l5 ts rt (bW ts x.table) x.column x.val)=true then 7
 else if (x.kind == 1&&decide (64≤(kE rt x.table).length))=true then 8 else 0
theorem CW{ts:List Tab}{rt:List RTab}{ae:List Col}{k:Nat}{v:Val}(h:k<ae.length):l5 ts rt ae (k:Int) v=jk ts rt ae[k] v:=by
 unfold l5
 rw[Int.toNat_natCast,List.getElem?_eq_getElem h]
theorem EO{rt:List RTab}{k:Nat}(h:k<rt.length):kE rt (k:Int)=rt[k].recs:=by
 unfold kE
 rw[Int.toNat_natCast,List.getElem?_eq_getElem h]
theorem CB(A:Option Addr)(c m:Nat)(ts:List Tab)(RA:Option Addr)(rc n:Nat)(rt:List RTab)(k:Nat)(kd sq dy:Int)(A0:Option Addr)(cp:Nat)(row:List Val)(key:Val)(cl:Int)(vl:Val)(w:World)(ht:aF w w.heap.size A ts)(hm:ts.length=m)(hs:aM ts)(hok:aN ts)(hcg:gF w w.heap.size A c ts o)(hrt:aR w w.heap.size RA rt)(hn:rt.length=n)(hsr:mi rt)(hlen:rt.length=ts.length)(hR:ag w w.heap.size Val.cells 3 A0 row)(hrl:row.length≤1000000)(hin:jN ts ⟨kd,sq,dy,(k:Int),A0,cp,row,key,cl,vl⟩ k){r:Int}(hr:mF ts rt ⟨kd,sq,dy,(k:Int),A0,cp,row,key,cl,vl⟩=r):
 Calls Tryz.prog 145 #[.agg #[.slice A m c,.slice o.vA 0 o.vc,.slice o.iA o.idx.length o.ic,.slice o.sA o.skt.length o.sc,.slice o.cA o.cch.length o.cc,.slice o.rA o.rel.length o.rc,.slice o.tA o.str.length o.tc,.slice o.bA o.bak.length o.bc],.slice RA n rc,.agg #[.int .i64 kd,.int .i64 sq,.int .i64 dy,.int .i64 k,.slice A0 row.length cp,.int .i64 key.kind,.int .i64 key.num,.string key.text,.int .i64 cl,.int .i64 vl.kind,.int .i64 vl.num,.string vl.text]] w fun e w'=>e=.returned (.int .i64 r)∧Below w.heap.size w w':=by
 subst hm hn
 obtain⟨_,hk2,hk3,hk4,hk5,hk6⟩:=hin
 simp only at hk3 hk4 hk5 hk6
 rw[cB hk2]at hk4 hk6
 have hkr:k<rt.length:=by omega
 obtain⟨tb5,to5,rfl,yz,htc⟩:=ht.1.get hk2
 obtain⟨_,t1,_,_⟩:=Tab.fV htc
 have eP:=ht.2 ts[k] (lgm hk2)
 obtain⟨rb,ro,rfl,hrb,hrc⟩:=hrt.1.get hkr
 have c0:=hrc 0 _ rfl
 have dw:=hrt.2 rt[k] (lgm hkr)
 have hrow:=hsr.row rt[k] (lgm hkr)
 have nk:=hsr.recs rt[k] (lgm hkr)
 have hst:r=(if (kd == 1&&decide (0≤gm rt[k].recs (keyOf ⟨kd,sq,dy,(k:Int),A0,cp,row,key,cl,vl⟩)))=true then 4 else if (kd != 1&&decide (gm rt[k].recs (keyOf ⟨kd,sq,dy,(k:Int),A0,cp,row,key,cl,vl⟩)<0))=true then 10
  else if pb (mq ts rt ts[k].ae row)=false then 7 else if (kd == 2 && !l5 ts rt ts[k].ae cl vl)=true then 7
  else if (kd == 1&&decide (64≤rt[k].recs.length))=true then 8 else 0):=by
  rw[←hr,mF,EO hkr,cB hk2]
 have hmem:∀i (h:i<ts[k].ae.length),ts[k].ae[i]∈ts[k].ae:=fun i h=>lgm h
 obtain⟨ae,hcs⟩:∃l,ts[k].ae=l:=⟨_,rfl⟩
 obtain⟨CA,hCA⟩:∃a,ts[k].A=a:=⟨_,rfl⟩
 obtain⟨cc,hcc⟩:∃a,ts[k].cap=a:=⟨_,rfl⟩
 obtain⟨⟨TA,tc,recs⟩,hy⟩:∃x:RTab,rt[k]=x:=⟨_,rfl⟩
 rw[hy]at c0 dw hrow nk hst
 have hmem':∀i (h:i<ae.length),ae[i]∈ts[k].ae:=fun i h=>by subst hcs;exact lgm h
 rw[hcs]at eP t1 hst hk4 hk6
 rw[hCA]at eP t1
 rw[hcc]at t1
 simp only[Nat.mul_one,Nat.add_zero]at c0 dw hrow nk hst
 have hln:=hsr.len
 have hcm:=(hs.tabs ts[k] (lgm hk2)).len
 rw[hcs]at hcm
 obtain⟨kv,hkv⟩:∃kv,keyOf ⟨kd,sq,dy,(k:Int),A0,cp,row,key,cl,vl⟩=kv:=⟨_,rfl⟩
 obtain⟨z,hz⟩:∃z,gm recs kv=z:=⟨_,rfl⟩
 rw[hkv,hz]at hst
 have Dh:kd=1→0<row.length:=fun h=>by have:=hk4 h;have:=(hok.ae hk2).1;rw[hcs]at this;omega
 have HKV:=qh hkv
 have HZ:=qh hz
 have HST:=qh hst
 have zP:=qh hmem'
 have HT:=qh ht
 have HS:=qh hs
 have HOK:=qh hok
 have HCG:=qh hcg
 have HRT:=qh hrt
 have HSR:=qh hsr
 have HLEN:=qh hlen
 have HR:=qh hR
 have HRE:=qh dw
 have HRO:=qh hrow
 have HCO:=qh eP.1
 have HC0:=qh c0
 have HT1:=qh t1
 have H4:=qh hk4
 have H5:=qh hk5
 have H6:=qh hk6
 have HP:=qh Dh
 have OL:decide (k<rt.length)=true:=by simpa using hkr
 have Xq:decide (k<ts.length)=true:=by simpa using hk2
 clear ht hs hok hcg hrt hsr hlen hR dw hrow eP c0 t1 hk4 hk5 hk6 Dh hkv hz hst hmem hmem' hr htc hrc hcs hCA hcc hy
 go_enter Tryz.func145,Tryz.ntmps145
 go_upto_region 1 with (fail)
 refine ah (P:=fun u=>Code.wp _ _ _ _ u) (R:=fun u=>Blk u w.heap.size 33 #[.slice (some ⟨tb5,to5,none⟩) ts.length c,.slice o.vA 0 o.vc,.slice o.iA o.idx.length o.ic,.slice o.sA o.skt.length o.sc,.slice o.cA o.cch.length o.cc,.slice o.rA o.rel.length o.rc,.slice o.tA o.str.length o.tc,.slice o.bA o.bak.length o.bc]∧Blk u (w.heap.size+1) 52 (Chg.cells ⟨kd,sq,dy,(k:Int),A0,cp,row,key,cl,vl⟩).toArray∧Below w.heap.size w u) ⟨?_,?_,?_⟩ ?_
 ·exact(Blk.new _ _ _).alloc _
 ·exact Blk.new' spA
 ·exact ai
 rintro W ⟨hC,hX,hbW⟩
 have hzW:=hX.lt
 have HC:=qh hC
 have HX:=qh hX
 obtain⟨p0,p1,p2,p3,p4,p5,p6,p7⟩:=Cat.fU hC
 obtain⟨⟨q0,q1,q2,q3⟩,q4,⟨q5,q6,q7⟩,q8,q9,q10,q11⟩:=Chg.blk hX
 simp only at q0 q1 q2 q3 q4 q5 q6 q7 q8 q9 q10 q11
 clear hC hX
 have c0:=(hbW.cell (p:=⟨rb,_,none⟩) hrb).trans HC0.out
 have hk0:=az (w:=W) w.heap.size omA
 have hk1:=az (w:=W) (w.heap.size+1) omA
 have Bz:=az (w:=W) rb omA
 refine af krA krA ?_;(repeat(go_big_quiet_step ((first
  | (go_at_call 85;with_reducible exact dN (gT ⟨kd,sq,dy,(k:Int),A0,cp,row,key,cl,vl⟩ _ (HR.out.next (aa hbW (cZ.h _) hbW.size)) hrl HP.out HKV.out))
  | (go_at_call 15;with_reducible exact dN (gJ TA tc recs.length recs kv _ (HRE.out.next (aa hbW (cZ.h _) hbW.size)) rfl nk HRO.out HZ.out))))));refine wpQuiet_nil ?_;intro wq hq
 clear p0 p1 p2 p3 p4 p5 p6 p7 q0 q1 q2 q3 q4 q5 q6 q7 q8 q9 q10 q11
 clear c0 hk0 hk1 Bz
 have hxq:=aa hbW hq hbW.size
 have HCQ:=qh (HC.out.below hq omA)
 have HXQ:=qh (HX.out.below hq hzW)
 have hqz:=hq.size
 have hCq:=HCQ.out
 have hXq:=HXQ.out
 obtain⟨p0,p1,p2,p3,p4,p5,p6,p7⟩:=Cat.fU hCq
 obtain⟨⟨q0,q1,q2,q3⟩,q4,⟨q5,q6,q7⟩,q8,q9,q10,q11⟩:=Chg.blk hXq
 simp only at q0 q1 q2 q3 q4 q5 q6 q7 q8 q9 q10 q11
 clear hCq hXq
 by_cases hd1:kd=1
 ·have e1:(kd == 1)=true:=by simpa using hd1
  have e1':(kd != 1)=false:=by simp[hd1]
  have e2:(kd == 2)=false:=by rw[hd1];rfl
  have Zu:=H4.out hd1
  clear hd1
  cases hzz:decide (0≤z)
  ·have Mf:r=(if pb (mq ts rt ae row)=false then 7 else if decide (64≤recs.length)=true then 8 else 0):=by
    have h:=HST.out
    rw[e1,e1',e2,hzz]at h
    simpa using h
   have JW:=qh Mf
   have HZZ:=qh hzz
   clear Mf
   clear hzz
   have WA:decide (z<0)=true:=by
    have:=HZZ.out
    simp at this ⊢
    omega
   have hzz:=HZZ.out
   have t1:=(hxq.cell (p:=⟨tb5,_,none⟩) yz).trans HT1.out
   go_wp2_with fail
   clear p0 p1 p2 p3 p4 p5 p6 p7 q0 q1 q2 q3 q4 q5 q6 q7 q8 q9 q10 q11
   clear t1 hzz WA
   go_loopw [9] (fun vi wr =>∃i:Nat,i≤row.length∧vi=.int .i64 i∧Below wq.heap.size wq wr∧(∀q (h:q<row.length) (h':q<ae.length),q<i→jk ts rt ae[q] row[q]=true)) (fun vi _=>row.length-(intOf vi).toNat)
   case atStart=>exact⟨0,Nat.zero_le _,rfl,Below.refl _ _,fun q _ _ h=>by omega⟩
   case round =>
    obtain⟨i,hir,rfl,hbr,hpre⟩:=hrel
    have qW:=qh hpre
    clear hpre
    have hxr:=aa hxq hbr hxq.size
    have hwz:=hbr.size
    have HCR:=qh (HCQ.out.below hbr omA)
    have HXR:=qh (HXQ.out.below hbr omA)
    have hCr:=HCR.out
    have hXr:=HXR.out
    obtain⟨p0,p1,p2,p3,p4,p5,p6,p7⟩:=Cat.fU hCr
    obtain⟨⟨q0,q1,q2,q3⟩,q4,⟨q5,q6,q7⟩,q8,q9,q10,q11⟩:=Chg.blk hXr
    simp only at q0 q1 q2 q3 q4 q5 q6 q7 q8 q9 q10 q11
    clear hCr hXr
    have hk0:=az (w:=wr) w.heap.size omA
    have hk1:=az (w:=wr) (w.heap.size+1) omA
    have Bz:=az (w:=wr) rb omA
    by_cases hlt:i<row.length
    ·have hic:i<ae.length:=by omega
     obtain⟨vb,vo,rfl,hvb,hvc⟩:=(HR.out.below hxr).get hlt
     obtain⟨y0,y1,y2⟩:=Val.cells3 hvc
     obtain⟨cb,co,rfl,hcb,hcc⟩:=(HCO.out.below hxr).get hic
     obtain⟨z0,z1,z2,z3,z4,z5,z6⟩:=Col.dW hcc
     have hmx:=zP.out i hic
     obtain⟨v,hv⟩:∃v,row[i]=v:=⟨_,rfl⟩
     obtain⟨⟨xn,xt,xs,xr,xA,xc,xo,xj,xd⟩,hx⟩:∃x:Col,ae[i]=x:=⟨_,rfl⟩
     rw[hx]at hmx z0 z1 z2 z3 z4 z5 z6
     rw[hv]at y0 y1 y2
     simp only at z0 z1 z2 z3 z4 z5 z6
     have HV:=qh hv
     have HX':=qh hx
     have Mv:=az (w:=wr) vb omA
     have Mt:=az (w:=wr) cb omA
     have hlt':decide (i<row.length)=true:=by simpa using hlt
     have Xz:decide (i<ae.length)=true:=by simpa using hic
     clear hvc hcc hv hx
     cases hlb:jk ts rt ⟨xn,xt,xs,xr,xA,xc,xo,xj,xd⟩ v
     ·have dK:Hid (r=7):=qh (by rw[JW.out,if_pos (bg fun h=>by have:=h i hlt hic;rw[HV.out,HX'.out,hlb]at this;cases this)])
      have HLC:Hid (∀x:cZ wr,Calls Tryz.prog 190 #[.agg #[.slice (some ⟨tb5,to5,none⟩) ts.length c,.slice o.vA 0 o.vc,.slice o.iA o.idx.length o.ic,.slice o.sA o.skt.length o.sc,.slice o.cA o.cch.length o.cc,.slice o.rA o.rel.length o.rc,.slice o.tA o.str.length o.tc,.slice o.bA o.bak.length o.bc],.slice (some ⟨rb,ro,none⟩) rt.length rc,.agg #[.string xn,.int .i64 xt,.string xs,.string xr,.slice xA xo.length xc,.int .i64 xj,.int .i64 xd],.agg #[.int .i64 v.kind,.int .i64 v.num,.string v.text]] x.u fun e w''=>e=.returned (.bool false) ∧ ∃y:cZ wr,w''=y.u):=qh fun x=>dN (lW _ c ts.length ts _ rc rt.length rt k xn xt xs xr xA xc xo xj xd v _ (HT.out.next (aa hxr x.h hxr.size)) rfl HS.out HOK.out (HCG.out.next (aa hxr x.h hxr.size)) (HRT.out.next (aa hxr x.h hxr.size)) rfl HSR.out HLEN.out hk2 hmx hlb)
      clear hlb hmx
      go_upto_region 10 with (fail)
      refine af krA krA ?_;(repeat(go_big_quiet_step ((go_at_call 190;with_reducible exact HLC.out _))));refine wpQuiet_nil ?_;intro wq2 hq2
      clear p0 p1 p2 p3 p4 p5 p6 p7 q0 q1 q2 q3 q4 q5 q6 q7 q8 q9 q10 q11
      clear hk0 hk1 Bz Mv Mt y0 y1 y2 z0 z1 z2 z3 z4 z5 z6
      go_wp2_with fail
      go_ret
      exact⟨aS (a:= 7) dK.out.symm,aa hxr hq2 hxr.size⟩
     ·have HLB:Hid (jk ts rt ae[i] row[i]=true):=qh (by rw[HV.out,HX'.out];exact hlb)
      have HLC:Hid (∀x:cZ wr,Calls Tryz.prog 190 #[.agg #[.slice (some ⟨tb5,to5,none⟩) ts.length c,.slice o.vA 0 o.vc,.slice o.iA o.idx.length o.ic,.slice o.sA o.skt.length o.sc,.slice o.cA o.cch.length o.cc,.slice o.rA o.rel.length o.rc,.slice o.tA o.str.length o.tc,.slice o.bA o.bak.length o.bc],.slice (some ⟨rb,ro,none⟩) rt.length rc,.agg #[.string xn,.int .i64 xt,.string xs,.string xr,.slice xA xo.length xc,.int .i64 xj,.int .i64 xd],.agg #[.int .i64 v.kind,.int .i64 v.num,.string v.text]] x.u fun e w''=>e=.returned (.bool true) ∧ ∃y:cZ wr,w''=y.u):=qh fun x=>dN (lW _ c ts.length ts _ rc rt.length rt k xn xt xs xr xA xc xo xj xd v _ (HT.out.next (aa hxr x.h hxr.size)) rfl HS.out HOK.out (HCG.out.next (aa hxr x.h hxr.size)) (HRT.out.next (aa hxr x.h hxr.size)) rfl HSR.out HLEN.out hk2 hmx hlb)
      clear hlb hmx
      go_upto_region 10 with (fail)
      refine af krA krA ?_;(repeat(go_big_quiet_step ((go_at_call 190;with_reducible exact HLC.out _))));refine wpQuiet_nil ?_;intro wq2 hq2
      clear p0 p1 p2 p3 p4 p5 p6 p7 q0 q1 q2 q3 q4 q5 q6 q7 q8 q9 q10 q11
      clear hk0 hk1 Bz Mv Mt y0 y1 y2 z0 z1 z2 z3 z4 z5 z6
      go_wp2_with fail
      go_roundw
      case rel=>exact⟨i+1,by omega,by go_num,aa hbr hq2 hwz,fun q h h' hq'=>by
       rcases Nat.lt_or_ge q i with h1|h1
       ·exact qW.out q h h' h1
       ·obtain rfl:q=i:=by omega
        exact HLB.out⟩
      case measure=>exact meA
    ·have hlt':decide (i<row.length)=false:=by simpa using hlt
     have HAL:Hid (mq ts rt ae row):=qh fun q h h'=>qW.out q h h' omA
     have Nv:Hid (r=if decide (64≤recs.length)=true then 8 else 0):=qh (by rw[JW.out,if_neg (by rw[bV HAL.out];decide)])
     go_upto_region 12 with (fail)
     refine af krA krA ?_;(repeat(go_big_quiet_step (fail)));refine wpQuiet_nil ?_;intro wq2 hq2
     have Q6:=aa hxr hq2 hxr.size
     have hXz:=HXR.out.below hq2 omA
     have hCz:=HCR.out.below hq2 omA
     clear p0 p1 p2 p3 p4 p5 p6 p7 q0 q1 q2 q3 q4 q5 q6 q7 q8 q9 q10 q11
     clear hk0 hk1 Bz
     obtain⟨p0,p1,p2,p3,p4,p5,p6,p7⟩:=Cat.fU hCz
     obtain⟨⟨q0,q1,q2,q3⟩,q4,⟨q5,q6,q7⟩,q8,q9,q10,q11⟩:=Chg.blk hXz
     simp only at q0 q1 q2 q3 q4 q5 q6 q7 q8 q9 q10 q11
     have c0:=(Q6.cell (p:=⟨rb,_,none⟩) hrb).trans HC0.out
     clear hCz hXz
     by_cases h64:64≤recs.length
     ·have FH:decide (64≤recs.length)=true:=by simpa using h64
      have dK:Hid (r=8):=qh (by rw[Nv.out,FH];rfl)
      go_wp2_with fail
      go_ret
      exact⟨aS (a:= 8) dK.out.symm,Q6⟩
     ·have FH:decide (64≤recs.length)=false:=by simpa using h64
      have dK:Hid (r=0):=qh (by rw[Nv.out,FH];rfl)
      go_wp2_with fail
      go_ret
      exact⟨aS (a:= 0) dK.out.symm,Q6⟩
  ·have dK:Hid (r=4):=qh (by rw[HST.out,e1,hzz];rfl)
   go_wp2_with fail
   go_ret
   exact⟨aS (a:= 4) dK.out.symm,hxq⟩
 ·have e1:(kd == 1)=false:=by simpa using hd1
  have e1':(kd != 1)=true:=by simp[hd1]
  have eO:=H5.out hd1
  clear hd1
  cases hzz:decide (z<0)
  ·have Mf:r=(if (kd == 2 && !l5 ts rt ae cl vl)=true then 7 else 0):=by
    have h:=HST.out
    have hall:pb (mq ts rt ae row)=true:=bV fun i h _=>by omega
    rw[e1,e1',hzz,hall]at h
    simpa using h
   have JW:=qh Mf
   clear Mf
   have t1:=(hxq.cell (p:=⟨tb5,_,none⟩) yz).trans HT1.out
   have mM:decide (0<row.length)=false:=decide_eq_false omA
   have hr0:¬ (0<row.length):=by omega
   go_wp2_with fail
   clear p0 p1 p2 p3 p4 p5 p6 p7 q0 q1 q2 q3 q4 q5 q6 q7 q8 q9 q10 q11
   clear t1 hzz
   go_loopw [9] (fun vi wr=>vi=.int .i64 0∧Below wq.heap.size wq wr) (fun vi _ =>0)
   case atStart=>exact⟨rfl,Below.refl _ _⟩
   case round =>
    obtain⟨rfl,hbr⟩:=hrel
    have hxr:=aa hxq hbr hxq.size
    have hwz:=hbr.size
    have HCR:=qh (HCQ.out.below hbr omA)
    have HXR:=qh (HXQ.out.below hbr omA)
    have hCr:=HCR.out
    have hXr:=HXR.out
    obtain⟨p0,p1,p2,p3,p4,p5,p6,p7⟩:=Cat.fU hCr
    obtain⟨⟨q0,q1,q2,q3⟩,q4,⟨q5,q6,q7⟩,q8,q9,q10,q11⟩:=Chg.blk hXr
    simp only at q0 q1 q2 q3 q4 q5 q6 q7 q8 q9 q10 q11
    clear hCr hXr
    have hk0:=az (w:=wr) w.heap.size omA
    have hk1:=az (w:=wr) (w.heap.size+1) omA
    have Bz:=az (w:=wr) rb omA
    by_cases hd2:kd=2
    ·have e2:(kd == 2)=true:=by simpa using hd2
     obtain⟨j,hj,hjc⟩:=H6.out hd2
     subst hj
     obtain⟨cb,co,rfl,hcb,hcc⟩:=(HCO.out.below hxr).get hjc
     obtain⟨z0,z1,z2,z3,z4,z5,z6⟩:=Col.dW hcc
     have hmx:=zP.out j hjc
     have hla:=CW (ts:=ts) (rt:=rt) (v:=vl) hjc
     obtain⟨⟨xn,xt,xs,xr,xA,xc,xo,xj,xd⟩,hx⟩:∃x:Col,ae[j]=x:=⟨_,rfl⟩
     rw[hx]at hmx z0 z1 z2 z3 z4 z5 z6 hla
     simp only at z0 z1 z2 z3 z4 z5 z6
     have Mt:=az (w:=wr) cb omA
     have Xu:decide (j<ae.length)=true:=by simpa using hjc
     obtain⟨v,hv⟩:∃v,vl=v:=⟨_,rfl⟩
     subst hv
     have HLA:=qh hla
     clear hcc hx hla hd2
     cases hlb:jk ts rt ⟨xn,xt,xs,xr,xA,xc,xo,xj,xd⟩ vl
     ·have dK:Hid (r=7):=qh (by rw[JW.out,e2,HLA.out,hlb];rfl)
      have HLC:Hid (∀x:cZ wr,Calls Tryz.prog 190 #[.agg #[.slice (some ⟨tb5,to5,none⟩) ts.length c,.slice o.vA 0 o.vc,.slice o.iA o.idx.length o.ic,.slice o.sA o.skt.length o.sc,.slice o.cA o.cch.length o.cc,.slice o.rA o.rel.length o.rc,.slice o.tA o.str.length o.tc,.slice o.bA o.bak.length o.bc],.slice (some ⟨rb,ro,none⟩) rt.length rc,.agg #[.string xn,.int .i64 xt,.string xs,.string xr,.slice xA xo.length xc,.int .i64 xj,.int .i64 xd],.agg #[.int .i64 vl.kind,.int .i64 vl.num,.string vl.text]] x.u fun e w''=>e=.returned (.bool false) ∧ ∃y:cZ wr,w''=y.u):=qh fun x=>dN (lW _ c ts.length ts _ rc rt.length rt k xn xt xs xr xA xc xo xj xd vl _ (HT.out.next (aa hxr x.h hxr.size)) rfl HS.out HOK.out (HCG.out.next (aa hxr x.h hxr.size)) (HRT.out.next (aa hxr x.h hxr.size)) rfl HSR.out HLEN.out hk2 hmx hlb)
      clear hlb hmx
      go_upto_region 12 with (fail)
      refine af krA krA ?_;(repeat(go_big_quiet_step ((go_at_call 190;with_reducible exact HLC.out _))));refine wpQuiet_nil ?_;intro wq2 hq2
      clear p0 p1 p2 p3 p4 p5 p6 p7 q0 q1 q2 q3 q4 q5 q6 q7 q8 q9 q10 q11
      clear hk0 hk1 Bz Mt z0 z1 z2 z3 z4 z5 z6
      go_wp2_with fail
      go_ret
      exact⟨aS (a:= 7) dK.out.symm,aa hxr hq2 hxr.size⟩
     ·have dK:Hid (r=0):=qh (by rw[JW.out,e2,HLA.out,hlb];rfl)
      have HLC:Hid (∀x:cZ wr,Calls Tryz.prog 190 #[.agg #[.slice (some ⟨tb5,to5,none⟩) ts.length c,.slice o.vA 0 o.vc,.slice o.iA o.idx.length o.ic,.slice o.sA o.skt.length o.sc,.slice o.cA o.cch.length o.cc,.slice o.rA o.rel.length o.rc,.slice o.tA o.str.length o.tc,.slice o.bA o.bak.length o.bc],.slice (some ⟨rb,ro,none⟩) rt.length rc,.agg #[.string xn,.int .i64 xt,.string xs,.string xr,.slice xA xo.length xc,.int .i64 xj,.int .i64 xd],.agg #[.int .i64 vl.kind,.int .i64 vl.num,.string vl.text]] x.u fun e w''=>e=.returned (.bool true) ∧ ∃y:cZ wr,w''=y.u):=qh fun x=>dN (lW _ c ts.length ts _ rc rt.length rt k xn xt xs xr xA xc xo xj xd vl _ (HT.out.next (aa hxr x.h hxr.size)) rfl HS.out HOK.out (HCG.out.next (aa hxr x.h hxr.size)) (HRT.out.next (aa hxr x.h hxr.size)) rfl HSR.out HLEN.out hk2 hmx hlb)
      clear hlb hmx
      go_upto_region 12 with (fail)
      refine af krA krA ?_;(repeat(go_big_quiet_step ((go_at_call 190;with_reducible exact HLC.out _))));refine wpQuiet_nil ?_;intro wq2 hq2
      clear p0 p1 p2 p3 p4 p5 p6 p7 q0 q1 q2 q3 q4 q5 q6 q7 q8 q9 q10 q11
      clear hk0 hk1 Bz Mt z0 z1 z2 z3 z4 z5 z6
      have hXz:=HXR.out.below hq2 omA
      obtain⟨⟨q0,_⟩,_⟩:=Chg.blk hXz
      simp only at q0
      clear hXz
      go_wp2_with fail
      go_ret
      exact⟨aS (a:= 0) dK.out.symm,aa hxr hq2 hxr.size⟩
    ·have e2:(kd == 2)=false:=by simpa using hd2
     have dK:Hid (r=0):=qh (by rw[JW.out,e2];rfl)
     clear hd2
     go_upto_region 12 with (fail)
     refine af krA krA ?_;(repeat(go_big_quiet_step (fail)));refine wpQuiet_nil ?_;intro wq2 hq2
     clear p0 p1 p2 p3 p4 p5 p6 p7 q0 q1 q2 q3 q4 q5 q6 q7 q8 q9 q10 q11
     clear hk0 hk1 Bz
     have hXz:=HXR.out.below hq2 omA
     obtain⟨⟨q0,_⟩,_⟩:=Chg.blk hXz
     simp only at q0
     clear hXz
     go_wp2_with fail
     go_ret
     exact⟨aS (a:= 0) dK.out.symm,aa hxr hq2 hxr.size⟩
  ·have dK:Hid (r=10):=qh (by rw[HST.out,e1,e1',hzz];rfl)
   go_wp2_with fail
   go_ret
   exact⟨aS (a:= 10) dK.out.symm,hxq⟩
variable {o:Oth}
noncomputable def lv(ts:List Tab)(rt:List RTab)(x:Chg):Int:=
 if pb (gu ts rt)=false then 1 else if (aV ts x != 0)=true then aV ts x else if decide (x.seq≤uj rt)=true then 12 else mF ts rt x
theorem fF{ts:List Tab}{x:Chg}(h:aV ts x=0):∃k,jN ts x k:=by
 refine LW ?_
 cases hb:bB ts x
 ·rfl
 ·rw[aV,hb]at h
  simp at h
theorem CF(A:Option Addr)(c m:Nat)(ts:List Tab)(RA:Option Addr)(rc n:Nat)(rt:List RTab)(kd sq dy tb:Int)(A0:Option Addr)(cp:Nat)(row:List Val)(key:Val)(cl:Int)(vl:Val)(w:World)(ht:aF w w.heap.size A ts)(hm:ts.length=m)(hs:aM ts)(il:aN ts)(hcg:gF w w.heap.size A c ts o)(hrt:aR w w.heap.size RA rt)(hn:rt.length=n)(hsr:mi rt)(hR:ag w w.heap.size Val.cells 3 A0 row)(hrl:row.length≤1000000){r:Int}(hr:lv ts rt ⟨kd,sq,dy,tb,A0,cp,row,key,cl,vl⟩=r):
 Calls Tryz.prog 113 #[.agg #[.slice A m c,.slice o.vA 0 o.vc,.slice o.iA o.idx.length o.ic,.slice o.sA o.skt.length o.sc,.slice o.cA o.cch.length o.cc,.slice o.rA o.rel.length o.rc,.slice o.tA o.str.length o.tc,.slice o.bA o.bak.length o.bc],.slice RA n rc,.agg #[.int .i64 kd,.int .i64 sq,.int .i64 dy,.int .i64 tb,.slice A0 row.length cp,.int .i64 key.kind,.int .i64 key.num,.string key.text,.int .i64 cl,.int .i64 vl.kind,.int .i64 vl.num,.string vl.text]] w fun e w'=>e=.returned (.int .i64 r)∧Below w.heap.size w w':=by
 subst hm hn
 obtain⟨z,hz⟩:∃z,aV ts ⟨kd,sq,dy,tb,A0,cp,row,key,cl,vl⟩=z:=⟨_,rfl⟩
 obtain⟨b,hb⟩:∃b,pb (gu ts rt)=b:=⟨_,rfl⟩
 obtain⟨l,hl⟩:∃l,uj rt=l:=⟨_,rfl⟩
 have hst:r=if b=false then 1 else if (z != 0)=true then z else if decide (sq≤l)=true then 12 else mF ts rt ⟨kd,sq,dy,tb,A0,cp,row,key,cl,vl⟩:=by rw[←hr,lv,hz,hb,hl]
 have hok:b=true→gu ts rt:=fun h=>nY.1 (by rw[hb,h])
 have HZ:=qh hz
 have HB:=qh hb
 have HL:=qh hl
 have HST:=qh hst
 have HK:=qh hok
 have HT:=qh ht
 have vS:=qh il
 have HCG:=qh hcg
 have HS:=qh hs
 have HRT:=qh hrt
 have HSR:=qh hsr
 have HR:=qh hR
 clear hz hb hl hst hok ht hs il hcg hrt hsr hR hr
 go_enter Tryz.func113,Tryz.ntmps113
 go_upto_region 1 with (fail)
 refine ah (P:=fun u=>Code.wp _ _ _ _ u) (R:=fun u=>Blk u w.heap.size 33 #[.slice A ts.length c,.slice o.vA 0 o.vc,.slice o.iA o.idx.length o.ic,.slice o.sA o.skt.length o.sc,.slice o.cA o.cch.length o.cc,.slice o.rA o.rel.length o.rc,.slice o.tA o.str.length o.tc,.slice o.bA o.bak.length o.bc]∧Blk u (w.heap.size+1) 52 (Chg.cells ⟨kd,sq,dy,tb,A0,cp,row,key,cl,vl⟩).toArray∧Below w.heap.size w u) ⟨?_,?_,?_⟩ ?_
 ·exact(Blk.new _ _ _).alloc _
 ·exact Blk.new' spA
 ·exact ai
 rintro W ⟨hC,hX,hbW⟩
 have hzW:=hX.lt
 have HC:=qh hC
 have HX:=qh hX
 obtain⟨p0,p1,p2,p3,p4,p5,p6,p7⟩:=Cat.fU hC
 obtain⟨⟨q0,q1,q2,q3⟩,q4,⟨q5,q6,q7⟩,q8,q9,q10,q11⟩:=Chg.blk hX
 simp only at q0 q1 q2 q3 q4 q5 q6 q7 q8 q9 q10 q11
 clear hC hX
 go_wp2_with fail
 (with_reducible refine(Cz A c ts.length ts RA rc rt.length rt _ (HT.out.next (aa hbW brf hbW.size)) rfl HS.out vS.out (HCG.out.next (aa hbW brf hbW.size)) (HRT.out.next (aa hbW brf hbW.size)) rfl HSR.out HB.out).mono ?_)
 rintro e w1 ⟨rfl,hb1⟩
 clear p0 p1 p2 p3 p4 p5 p6 p7 q0 q1 q2 q3 q4 q5 q6 q7 q8 q9 q10 q11
 have hx1:=aa hbW hb1 hbW.size
 have hz1:=hb1.size
 have HC1:=qh (HC.out.below hb1 omA)
 have HX1:=qh (HX.out.below hb1 hzW)
 have hC1:=HC1.out
 have hX1:=HX1.out
 cases b
 ·have dK:Hid (r=1):=qh HST.out
  clear hC1 hX1
  go_wp2_with fail
  go_ret
  exact⟨aS (a:= 1) dK.out.symm,hx1⟩
 have HOK:Hid (aN ts):=qh (HK.out rfl).cat
 have HLN:Hid (rt.length=ts.length):=qh (HK.out rfl).len
 obtain⟨p0,p1,p2,p3,p4,p5,p6,p7⟩:=Cat.fU hC1
 obtain⟨⟨q0,q1,q2,q3⟩,q4,⟨q5,q6,q7⟩,q8,q9,q10,q11⟩:=Chg.blk hX1
 simp only at q0 q1 q2 q3 q4 q5 q6 q7 q8 q9 q10 q11
 clear hC1 hX1
 go_wp2_with fail
 (with_reducible refine(nT A c ts.length ts kd sq dy tb A0 cp row key cl vl _ (HT.out.next (aa hx1 brf hx1.size)) rfl HS.out HOK.out (HCG.out.next (aa hx1 brf hx1.size)) (HR.out.next (aa hx1 brf hx1.size)) hrl HZ.out).mono ?_)
 rintro e w2 ⟨rfl,hb2⟩
 clear p0 p1 p2 p3 p4 p5 p6 p7 q0 q1 q2 q3 q4 q5 q6 q7 q8 q9 q10 q11
 have hx2:=aa hx1 hb2 hx1.size
 have hz2:=hb2.size
 have HC2:=qh (HC1.out.below hb2 omA)
 have HX2:=qh (HX1.out.below hb2 omA)
 by_cases hz0:z=0
 rotate_left
 ·have hz0':(z != 0)=true:=by simpa using hz0
  have dK:Hid (r=z):=qh (by rw[HST.out,hz0'];rfl)
  clear hz0
  go_wp2_with fail
  go_ret
  exact⟨aS (a:=z) dK.out.symm,hx2⟩
 have HIN:Hid (∃k,jN ts ⟨kd,sq,dy,tb,A0,cp,row,key,cl,vl⟩ k):=qh (fF (HZ.out.trans hz0))
 have Nv:Hid (r=if decide (sq≤l)=true then 12 else mF ts rt ⟨kd,sq,dy,tb,A0,cp,row,key,cl,vl⟩):=qh (by rw[HST.out,hz0];rfl)
 clear HZ HST
 subst hz0
 have hC2:=HC2.out
 have hX2:=HX2.out
 obtain⟨p0,p1,p2,p3,p4,p5,p6,p7⟩:=Cat.fU hC2
 obtain⟨⟨q0,q1,q2,q3⟩,q4,⟨q5,q6,q7⟩,q8,q9,q10,q11⟩:=Chg.blk hX2
 simp only at q0 q1 q2 q3 q4 q5 q6 q7 q8 q9 q10 q11
 clear hC2 hX2
 go_upto_region 6 with (fail)
 have hk1:=az (w:=w2) (w.heap.size+1) omA
 refine af krA krA ?_;(repeat(go_big_quiet_step (((go_at_call 144;with_reducible exact dN ((EK RA rc rt.length rt _ (HRT.out.next (aa hx2 (cZ.h _) hx2.size)) rfl HSR.out HL.out).mono fun e w' h=>⟨h.1,h.2▸Below.refl _ _⟩))))));refine wpQuiet_nil ?_;intro wq hq
 clear p0 p1 p2 p3 p4 p5 p6 p7 q0 q1 q2 q3 q4 q5 q6 q7 q8 q9 q10 q11
 clear hk1
 have hxq:=aa hx2 hq hx2.size
 have hzq:=hq.size
 cases hd:decide (sq≤l)
 rotate_left
 ·have dK:Hid (r=12):=qh (by rw[Nv.out,hd];rfl)
  go_wp2_with fail
  go_ret
  exact⟨aS (a:= 12) dK.out.symm,hxq⟩
 have dK:Hid (mF ts rt ⟨kd,sq,dy,tb,A0,cp,row,key,cl,vl⟩=r):=qh (by rw[Nv.out,hd];rfl)
 obtain⟨k,hin⟩:=HIN.out
 have hC3:=HC2.out.below hq omA
 have hX3:=HX2.out.below hq omA
 have htk:tb=(k:Int):=hin.tab
 have YP:=qh hin
 subst htk
 obtain⟨p0,p1,p2,p3,p4,p5,p6,p7⟩:=Cat.fU hC3
 obtain⟨⟨q0,q1,q2,q3⟩,q4,⟨q5,q6,q7⟩,q8,q9,q10,q11⟩:=Chg.blk hX3
 simp only at q0 q1 q2 q3 q4 q5 q6 q7 q8 q9 q10 q11
 clear hC3 hX3 hin
 go_wp2_with fail
 (with_reducible refine(CB A c ts.length ts RA rc rt.length rt k kd sq dy A0 cp row key cl vl _ (HT.out.next (aa hxq brf hxq.size)) rfl HS.out HOK.out (HCG.out.next (aa hxq brf hxq.size)) (HRT.out.next (aa hxq brf hxq.size)) rfl HSR.out HLN.out (HR.out.next (aa hxq brf hxq.size)) hrl YP.out dK.out).mono ?_)
 rintro e w4 ⟨rfl,hb4⟩
 clear p0 p1 p2 p3 p4 p5 p6 p7 q0 q1 q2 q3 q4 q5 q6 q7 q8 q9 q10 q11
 have hx4:=aa hxq hb4 hxq.size
 clear hd
 go_wp2_with fail
 go_ret
 exact⟨aS (a:=r) rfl,hx4⟩
def vP(n:Nat)(l:List aG):Prop:=l.length≤64 ∧ ∀r∈l,r.1.length=n∧r.2.1.length=n
structure iB (ts:List Tab) (pl:List (List aG)):Prop where
 len:pl.length=ts.length
 tab:∀i (h:i<pl.length) (h':i<ts.length),vP ts[i].ae.length pl[i]
theorem vP.cut{n:Nat}{l:List aG}(h:vP n l)(j:Nat):vP n (iL l j):=by
 refine⟨?_,fun r hr =>?_⟩
 ·have:=h.1
  simp[iL]
  omega
 ·rcases List.mem_append.1 hr with h1|h1
  ·exact h.2 r (List.mem_of_mem_take h1)
  ·exact h.2 r (List.mem_of_mem_drop h1)
theorem vP.ins{n:Nat}{l:List aG}(h:vP n l)(hl:l.length<64){r:aG}(hr:r.1.length=n∧r.2.1.length=n):vP n (mK l r):=by
 refine⟨?_,fun y hy =>?_⟩
 ·simp[mK]
  omega
 ·rcases List.mem_append.1 hy with h1|h1
  ·rcases List.mem_append.1 h1 with h2|h2
   ·exact h.2 y (List.mem_of_mem_take h2)
   ·rw[List.mem_singleton.1 h2]
    exact hr
  ·exact h.2 y (List.mem_of_mem_drop h1)
theorem vP.upd{n:Nat}{l:List aG}(h:vP n l)(j:Nat)(x:Chg):vP n (rU l j x):=by
 unfold rU
 split
 ·rename_i r hr
  have hm:=List.mem_of_getElem? hr
  have hh:=h.2 r hm
  refine⟨by simpa using h.1,fun y hy =>?_⟩
  rcases List.mem_or_eq_of_mem_set hy with h1|rfl
  ·exact h.2 y h1
  ·simpa using hh
 ·exact h
theorem vP.sw{n:Nat}{l:List aG}(h:vP n l){x:Chg}(hx:x.kind=1→x.row.length=n):vP n (aW l x):=by
 unfold aW
 split
 ·rename_i hk
  have hn:(dX x).1.length=n∧(dX x).2.1.length=n:=by simp[dX,hx hk]
  split
  ·rename_i hz
   obtain⟨j,hj,hje⟩:=kg hz
   refine(h.cut _).ins ?_ hn
   have:=h.1
   rw[hje]
   simp[iL]
   omega
  ·split
   ·exact h
   ·exact h.ins omA hn
 ·split
  ·exact h
  ·split
   ·exact h.upd _ _
   ·exact h.cut _
theorem iB.sw{ts:List Tab}{pl:List (List aG)}(h:iB ts pl){x:Chg}{k:Nat}(hin:jN ts x k):iB ts (aQ pl x):=by
 have hk:=hin.lt
 have hkl:k<pl.length:=by rw[h.len];exact hk
 refine⟨by simp[aQ,h.len],fun i hi hi' =>?_⟩
 unfold aQ at hi ⊢
 rw[List.getElem_set]
 have ht:x.table.toNat=k:=by rw[hin.tab];simp
 by_cases he:x.table.toNat=i
 ·rw[if_pos he]
  have hik:i=k:=by omega
  subst hik
  rw[hin.tab,jV hkl]
  refine(h.tab i hkl hi').sw fun h1 =>?_
  have:=hin.ins h1
  rw[cB hk]at this
  exact this
 ·rw[if_neg he]
  exact h.tab i (by simpa using hi) hi'
def eU(ts:List Tab)(rt:List RTab):Prop:=iB ts (rt.map aD)
theorem eU.len{ts:List Tab}{rt:List RTab}(h:eU ts rt):rt.length=ts.length:=by simpa using iB.len h
theorem eU.tab{ts:List Tab}{rt:List RTab}(h:eU ts rt){i:Nat}(hi:i<rt.length)(hi':i<ts.length):rt[i].recs.length≤64 ∧ ∀r∈rt[i].recs,r.row.length=ts[i].ae.length∧r.seq.length=ts[i].ae.length:=by
 have h1:=iB.tab h i (by simpa using hi) hi'
 rw[List.getElem_map]at h1
 refine⟨by simpa[aD]using h1.1,fun r hr =>?_⟩
 exact h1.2 (aA r) (List.mem_map_of_mem hr)
theorem eU.wJ{ts:List Tab}{rt:List RTab}(h:eU ts rt)(hok:aN ts):mi rt:=by
 have hl:=h.len
 have hl8:=hok.len
 refine⟨by omega,fun t ht =>?_,fun t ht r hr =>?_,fun t ht r hr =>?_⟩
 all_goals
  obtain⟨i,hi,rfl⟩:=List.getElem_of_mem ht
  have hi':i<ts.length:=by omega
  have h1:=h.tab hi hi'
  have h2:=(hok.ae hi').2
 ·omega
 ·have:=(h1.2 r hr).1;omega
 ·have:=(h1.2 r hr).2;omega
theorem eU.row{ts:List Tab}{rt:List RTab}(h:eU ts rt)(hok:aN ts):∀t∈rt,∀r∈t.recs,0<r.row.length:=by
 intro t ht r hr
 have hl:=h.len
 obtain⟨i,hi,rfl⟩:=List.getElem_of_mem ht
 have hi':i<ts.length:=by omega
 have h1:=(h.tab hi hi').2 r hr
 have h2:=(hok.ae hi').1
 omega
end Go.Proofs.YtjidligipoldeaaGreat
