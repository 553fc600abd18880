/-
  Contracts and plain laws of this seat, part 17: Tbl6, Tbl7, Tbl8, Tbl9, Tbl10, Tbl11, Tbl12, PerfD.
-/
import Derived.Test.YtjhnpnhpmdkpcaaGreatB7
import Derived.Test.YtjhnpnhpmdkpcaaGreatB6
import Derived.Test.YtjhnpnhpmdkpcaaGreatB14
import Derived.IntWalk
import Derived.Test.YtjhnpnhpmdkpcaaGreatB10
set_option linter.unusedVariables false
set_option linter.unusedSimpArgs false
set_option maxRecDepth 100000
set_option maxHeartbeats 16000000
namespace Go.Proofs.YtjhnpnhpmdkpcaaGreat
open Go.RowKit
theorem ref07_within (x a b:Int) (w:World) {r:Bool} (hr:withinB x a b=r):Calls Tryz.prog 102 #[.int .i64 x, .int .i64 a, .int .i64 b] w fun e w'=>e = .returned (.bool r)∧w=w':=by
 subst hr
 by_cases h1:a≤x
 ·by_cases h2:x≤b
  ·have HE:Hid (withinB x a b=true):=qh (by simp [withinB,h1,h2])
   go_enter Tryz.func102,Tryz.ntmps102
   go_wp2_with fail
   go_ret
   exact ⟨ret_bool HE.out.symm,rfl⟩
  ·have HE:Hid (withinB x a b=false):=qh (by simp [withinB,h2])
   have h2':decide (x≤b)=false:=by simpa using h2
   go_enter Tryz.func102,Tryz.ntmps102
   go_wp2_with fail
   go_ret
   exact ⟨ret_bool HE.out.symm,rfl⟩
 ·have HE:Hid (withinB x a b=false):=qh (by simp [withinB,h1])
  have h1':decide (a≤x)=false:=by simpa using h1
  go_enter Tryz.func102,Tryz.ntmps102
  go_wp2_with fail
  go_ret
  exact ⟨ret_bool HE.out.symm,rfl⟩
structure CellOk (cols:List Col) (row:List Val) (seq:List Int) (i:Nat):Prop where
 val : ∀ h:i<row.length,valB row[i]=true
 typ : ∀ (h:i<row.length) (k:i<cols.length),typedB row[i] cols[i].ty=true
 pos : ∀ h:i<seq.length,withinB seq[i] 1 1073741824=true
 asc : ∀ (h:i<seq.length) (h0 : 0<seq.length),seq[0]≤seq[i]
structure RcdOk (cols:List Col) (row:List Val) (seq:List Int) (day:Int):Prop where
 len:row.length=cols.length
 slen:seq.length=cols.length
 day:withinB day 0 1048576=true
 cell : ∀ i,i<cols.length→CellOk cols row seq i
 key : ∀ h : 0<row.length,row[0].kind ≠ 0
theorem ref07_record (nm:ByteArray) (TA:Option Addr) (tc cn:Nat) (cols:List Col) (er rt:Int) (RA:Option Addr) (rc rn:Nat) (row:List Val) (SA:Option Addr) (sc sn:Nat) (seq:List Int) (dy:Int) (w:World) (ht:SliceIs w w.heap.size Col.cells 7 TA cols) (hcn:cols.length=cn) (hr:SliceIs w w.heap.size Val.cells 3 RA row) (hrn:row.length=rn) (hs:SliceIs w w.heap.size intCells 1 SA seq) (hsn:seq.length=sn) (hc0 : 0<cn) (hc1:cn ≤ 1000000) (hr1:rn ≤ 1000000) (hs1:sn ≤ 1000000) {r:Bool} (hres:pb (RcdOk cols row seq dy)=r) :
 Calls Tryz.prog 144 #[.agg #[.string nm, .slice TA cn tc, .int .i64 er, .int .i64 rt], .agg #[.slice RA rn rc, .slice SA sn sc, .int .i64 dy]] w fun e w'=>e = .returned (.bool r)∧Below w.heap.size w w':=by
 subst hres
 by_cases e1:rn=cn
 ·by_cases e2:sn=cn
  ·subst e1 e2
   cases hd:withinB dy 0 1048576
   ·have HNO:Hid (¬ RcdOk cols row seq dy):=qh fun h=>by have:=h.day;rw [hd] at this;cases this
    have HD:=qh hd
    have e1:((sn:Int) != (sn:Int))=false:=by simp
    clear hd hcn hrn hsn ht hr hs
    go_enter Tryz.func144,Tryz.ntmps144
    go_wp2_with (go_at_call 102;(with_reducible refine (ref07_within dy 0 1048576 _ HD.out).mono ?_);rintro e w1 ⟨rfl,rfl⟩)
    go_ret
    (exact ⟨ret_bool (pb_false HNO.out).symm,by first|assumption|exact belA⟩)
   ·have HD:=qh hd
    have HT:=qh ht
    have HR:=qh hr
    have HS:=qh hs
    have HCN:=qh hcn
    have HRN:=qh hrn
    have HSN:=qh hsn
    have e1:((sn:Int) != (sn:Int))=false:=by simp
    clear hd hcn hrn hsn ht hr hs
    go_enter Tryz.func144,Tryz.ntmps144
    go_upto_region 1 with (fail)
    refine abs_world (P:=fun u=>Code.wp _ _ _ _ u) (R:=fun u=>Blk u w.heap.size 71 #[.string nm, .slice TA sn tc, .int .i64 er, .int .i64 rt]∧Blk u (w.heap.size + 1) 48 #[.slice RA sn rc, .slice SA sn sc, .int .i64 dy]∧Below w.heap.size w u) ⟨?_,?_,?_⟩ ?_
    ·exact (Blk.new _ _ _).alloc _
    ·exact Blk.new' spA
    ·exact belA
    rintro W ⟨hB1,hB2,hbW⟩
    have hzW:=hB2.lt
    obtain ⟨p0,p1,p2,p3⟩:=Tab.blk hB1
    have q0:=hB2.cell 0
    have q1:=hB2.cell 1
    have q2:=hB2.cell 2
    simp only [gE3] at q0 q1 q2
    have HB1:=qh hB1
    have HB2:=qh hB2
    clear hB1 hB2
    go_wp2_with (go_at_call 102;(with_reducible refine (ref07_within dy 0 1048576 _ HD.out).mono ?_);rintro e w1 ⟨rfl,rfl⟩)
    clear p0 p1 p2 p3 q0 q1 q2
    go_loopw [5] (fun vi wr => ∃ m:Nat,m≤sn∧vi = .int .i64 m∧Below W.heap.size W wr∧(∀ i,i<m→CellOk cols row seq i)) (fun vi _=>sn - (intOf vi).toNat)
    case atStart=>exact ⟨0,Nat.zero_le _,rfl,Below.refl _ _,fun i h=>by omega⟩
    case round =>
     obtain ⟨m,hm,rfl,hbr,hok⟩:=hrel
     have HOK:=qh hok
     have hxr:=below_nextN hbW hbr hbW.size
     have hwz:=hbr.size
     obtain ⟨p0,p1,p2,p3⟩:=Tab.blk (HB1.out.below hbr omA)
     have q0:=(HB2.out.below hbr hzW).cell 0
     have q1:=(HB2.out.below hbr hzW).cell 1
     simp only [gE3] at q0 q1
     clear hok
     by_cases hlt:m<sn
     ·have hlt':decide (m<sn)=true:=by simpa using hlt
      have hmc:m<cols.length:=by rw [HCN.out];exact hlt
      have hmr:m<row.length:=by rw [HRN.out];exact hlt
      have hms:m<seq.length:=by rw [HSN.out];exact hlt
      have hm0 : 0<seq.length:=by rw [HSN.out];omega
      obtain ⟨cb,co,rfl,hcb,hcc⟩:=(HT.out.below hxr).get hmc
      obtain ⟨rb,ro,rfl,hrb,hrc⟩:=(HR.out.below hxr).get hmr
      obtain ⟨sb,so,rfl,hsb,hsc⟩:=(HS.out.below hxr).get hms
      obtain ⟨sb',so',he',_,hsc0⟩:=(HS.out.below hxr).get hm0
      injection he' with he'
      injection he' with he1 he2
      subst he1 he2
      have c1:=hcc 1 _ rfl
      obtain ⟨y0,y1,y2⟩:=Val.cells3 hrc
      have s0:=hsc 0 _ rfl
      have s00:=hsc0 0 _ rfl
      simp only [Nat.mul_one,Nat.add_zero,Nat.zero_add] at s0 s00
      have hk0:=keepQ (w:=wr) w.heap.size omA
      have hk1:=keepQ (w:=wr) (w.heap.size + 1) omA
      have hk2:=keepQ (w:=wr) cb omA
      have hk3:=keepQ (w:=wr) rb omA
      have hk4:=keepQ (w:=wr) sb omA
      have hd0:decide (0<sn)=true:=by simp;omega
      have HL:=qh (And.intro hmc (And.intro hmr (And.intro hms hm0)))
      clear hcc hrc hsc hsc0
      cases hv1:valB row[m]
      ·have HNO:Hid (¬ RcdOk cols row seq dy):=qh fun h=>by have:=(h.cell m hmc).val hmr;rw [hv1] at this;cases this
       have HV1:=qh hv1
       clear hv1
       go_upto_region 6 with (fail)
       refine wp_region_bel krA krA ?_;(repeat (go_big_quiet_step ((first
       | (go_at_call 104;with_reducible exact bel_of_ext (ref01_ValidR row[m] _ HV1.out))
       | (go_at_call 69;with_reducible exact bel_of_ext (ref07_typed row[m] cols[m].ty _ HV2.out))
       | (go_at_call 102;with_reducible exact bel_of_same (ref07_within seq[m] 1 1073741824 _ HV3.out))))));refine wpQuiet_nil ?_;intro wq hq
       clear hk0 hk1 hk2 hk3 hk4 p0 p1 p2 p3 q0 q1 y0 y1 y2 s0 s00 c1
       go_wp2_with fail
       go_ret
       exact ⟨ret_bool (pb_false HNO.out).symm,below_nextN hxr hq hxr.size⟩
      ·cases hv2:typedB row[m] cols[m].ty
       ·have HNO:Hid (¬ RcdOk cols row seq dy):=qh fun h=>by have:=(h.cell m hmc).typ hmr hmc;rw [hv2] at this;cases this
        have HV1:=qh hv1
        have HV2:=qh hv2
        clear hv1 hv2
        go_upto_region 6 with (fail)
        refine wp_region_bel krA krA ?_;(repeat (go_big_quiet_step ((first
        | (go_at_call 104;with_reducible exact bel_of_ext (ref01_ValidR row[m] _ HV1.out))
        | (go_at_call 69;with_reducible exact bel_of_ext (ref07_typed row[m] cols[m].ty _ HV2.out))
        | (go_at_call 102;with_reducible exact bel_of_same (ref07_within seq[m] 1 1073741824 _ HV3.out))))));refine wpQuiet_nil ?_;intro wq hq
        clear hk0 hk1 hk2 hk3 hk4 p0 p1 p2 p3 q0 q1 y0 y1 y2 s0 s00 c1
        go_wp2_with fail
        go_ret
        exact ⟨ret_bool (pb_false HNO.out).symm,below_nextN hxr hq hxr.size⟩
       ·cases hv3:withinB seq[m] 1 1073741824
        ·have HNO:Hid (¬ RcdOk cols row seq dy):=qh fun h=>by have:=(h.cell m hmc).pos hms;rw [hv3] at this;cases this
         have HV1:=qh hv1
         have HV2:=qh hv2
         have HV3:=qh hv3
         clear hv1 hv2 hv3
         go_upto_region 6 with (fail)
         refine wp_region_bel krA krA ?_;(repeat (go_big_quiet_step ((first
         | (go_at_call 104;with_reducible exact bel_of_ext (ref01_ValidR row[m] _ HV1.out))
         | (go_at_call 69;with_reducible exact bel_of_ext (ref07_typed row[m] cols[m].ty _ HV2.out))
         | (go_at_call 102;with_reducible exact bel_of_same (ref07_within seq[m] 1 1073741824 _ HV3.out))))));refine wpQuiet_nil ?_;intro wq hq
         clear hk0 hk1 hk2 hk3 hk4 p0 p1 p2 p3 q0 q1 y0 y1 y2 s0 s00 c1
         go_wp2_with fail
         go_ret
         exact ⟨ret_bool (pb_false HNO.out).symm,below_nextN hxr hq hxr.size⟩
        ·cases hv4:decide (seq[m]<seq[0])
         ·have HCO:Hid (CellOk cols row seq m):=qh ⟨fun _=>hv1,fun _ _=>hv2,fun _=>hv3,fun _ _=>by have:=of_decide_eq_false hv4;omega⟩
          have HV1:=qh hv1
          have HV2:=qh hv2
          have HV3:=qh hv3
          clear hv1 hv2 hv3
          go_upto_region 6 with (fail)
          refine wp_region_bel krA krA ?_;(repeat (go_big_quiet_step ((first
          | (go_at_call 104;with_reducible exact bel_of_ext (ref01_ValidR row[m] _ HV1.out))
          | (go_at_call 69;with_reducible exact bel_of_ext (ref07_typed row[m] cols[m].ty _ HV2.out))
          | (go_at_call 102;with_reducible exact bel_of_same (ref07_within seq[m] 1 1073741824 _ HV3.out))))));refine wpQuiet_nil ?_;intro wq hq
          clear hk0 hk1 hk2 hk3 hk4 p0 p1 p2 p3 q0 q1 y0 y1 y2 s0 s00 c1 hv4
          go_wp2_with fail
          go_roundw
          case rel=>exact ⟨m + 1,by omega,by go_num,below_nextN hbr hq hwz,fun i hi=>by
           rcases Nat.lt_or_ge i m with h1|h1
           ·exact HOK.out i h1
           ·obtain rfl:i=m:=by omega
            exact HCO.out⟩
          case measure=>exact meA
         ·have HNO:Hid (¬ RcdOk cols row seq dy):=qh fun h=>by have:=(h.cell m hmc).asc hms hm0;have:=of_decide_eq_true hv4;omega
          have HV1:=qh hv1
          have HV2:=qh hv2
          have HV3:=qh hv3
          clear hv1 hv2 hv3
          go_upto_region 6 with (fail)
          refine wp_region_bel krA krA ?_;(repeat (go_big_quiet_step ((first
          | (go_at_call 104;with_reducible exact bel_of_ext (ref01_ValidR row[m] _ HV1.out))
          | (go_at_call 69;with_reducible exact bel_of_ext (ref07_typed row[m] cols[m].ty _ HV2.out))
          | (go_at_call 102;with_reducible exact bel_of_same (ref07_within seq[m] 1 1073741824 _ HV3.out))))));refine wpQuiet_nil ?_;intro wq hq
          clear hk0 hk1 hk2 hk3 hk4 p0 p1 p2 p3 q0 q1 y0 y1 y2 s0 s00 c1
          go_wp2_with fail
          go_ret
          exact ⟨ret_bool (pb_false HNO.out).symm,below_nextN hxr hq hxr.size⟩
     ·have hlt':decide (m<sn)=false:=by simpa using hlt
      have hme:m=sn:=by omega
      have hmr : 0<row.length:=by rw [HRN.out];omega
      obtain ⟨rb,ro,rfl,hrb,hrc⟩:=(HR.out.below hxr).get hmr
      obtain ⟨y0,y1,y2⟩:=Val.cells3 hrc
      simp only [Nat.zero_mul,Nat.add_zero] at y0 y1 y2
      have hd0:decide (0<sn)=true:=by simp;omega
      have HALL:Hid (∀ i,i<cols.length→CellOk cols row seq i):=qh fun i hi=>HOK.out i (by rw [hme,← HCN.out];exact hi)
      have HRES:Hid (pb (RcdOk cols row seq dy)=(row[0].kind != 0)):=qh (by
       by_cases hk:row[0].kind = 0
       ·rw [pb_false (fun h=>h.key hmr hk),hk];rfl
       ·rw [pb_true ⟨by rw [HRN.out,HCN.out],by rw [HSN.out,HCN.out],HD.out,HALL.out,fun _=>hk⟩]
        exact (bne_iff_ne.2 hk).symm)
      obtain ⟨kk,hkk⟩ : ∃ k,row[0].kind=k:=⟨_,rfl⟩
      rw [hkk] at y0
      have HKK:=qh hkk
      clear hrc hme hkk
      go_wp2_with fail
      go_ret
      exact ⟨ret_bool (by rw [HRES.out,HKK.out]),hxr⟩
  ·have HNO:Hid (¬ RcdOk cols row seq dy):=qh fun h=>e2 (by rw [← hsn,← hcn];exact h.slen)
   have e1':((rn:Int) != (cn:Int))=false:=by simp [e1]
   have e2':((sn:Int) != (cn:Int))=true:=by simp;omega
   clear e1 e2 hcn hrn hsn ht hr hs
   go_enter Tryz.func144,Tryz.ntmps144
   go_wp2_with fail
   go_ret
   (exact ⟨ret_bool (pb_false HNO.out).symm,by first|assumption|exact belA⟩)
 ·have HNO:Hid (¬ RcdOk cols row seq dy):=qh fun h=>e1 (by rw [← hrn,← hcn];exact h.len)
  have e1':((rn:Int) != (cn:Int))=true:=by simp;omega
  clear e1 hcn hrn hsn ht hr hs
  go_enter Tryz.func144,Tryz.ntmps144
  go_wp2_with fail
  go_ret
  (exact ⟨ret_bool (pb_false HNO.out).symm,by first|assumption|exact belA⟩)
variable {o:Oth}
def headV (r:Rcd):Val:=r.row.headD ⟨0,0,⟨#[]⟩⟩
def headS (r:Rcd):Int:=r.seq.headD 0
structure RecAt (cols:List Col) (recs:List Rcd) (k:Nat) (h:k<recs.length):Prop where
 ok:RcdOk cols recs[k].row recs[k].seq recs[k].day
 asc : ∀ (h0 : 0<k),cmpVal (headV recs[k - 1]) (headV recs[k]) < 0
 own : ∀ j (hj:j<k),headS recs[j]≠headS recs[k]
structure RTabOk (cols:List Col) (recs:List Rcd):Prop where
 len:recs.length ≤ 64
 at_ : ∀ k (h:k<recs.length),RecAt cols recs k h
structure RTabsOk (ts:List Tab) (rt:List RTab):Prop where
 cat:CatOk ts
 len:rt.length=ts.length
 tab : ∀ i (h:i<rt.length) (h':i<ts.length),RTabOk ts[i].cols rt[i].recs
theorem head_row {r:Rcd} (h : 0<r.row.length):r.row[0]=headV r:=by
 obtain ⟨A,c,row,SA,sc,sq,dy⟩:=r
 cases row with
 | nil=>simp at h
 | cons a t=>rfl
theorem head_seq {r:Rcd} (h : 0<r.seq.length):r.seq[0]=headS r:=by
 obtain ⟨A,c,row,SA,sc,sq,dy⟩:=r
 cases sq with
 | nil=>simp at h
 | cons a t=>rfl
theorem ref01_CompareV (a b:Val) (w:World) {r:Int} (hr:cmpVal a b=r) :
 Calls Tryz.prog 73 #[.agg #[.int .i64 a.kind, .int .i64 a.num, .string a.text], .agg #[.int .i64 b.kind, .int .i64 b.num, .string b.text]] w fun e w'=>e = .returned (.int .i64 r)∧Ext w w':=by
 subst hr
 exact ref01_Compare _ _ _ _ _ _ _
theorem ref07_Valid (A:Option Addr) (c m:Nat) (ts:List Tab) (RA:Option Addr) (rc n:Nat) (rt:List RTab) (w:World) (ht:TabsIn w w.heap.size A ts) (hm:ts.length=m) (hsn:SaneCat ts) (hcat:CatOk ts) (hcg:CatG w w.heap.size A c ts o) (hr:RTabsIn w w.heap.size RA rt) (hn:rt.length=n) (hsr:SaneR rt) {r:Bool} (hres:pb (RTabsOk ts rt)=r) :
 Calls Tryz.prog 99 #[.agg #[.slice A m c, .slice o.vA 0 o.vc, .slice o.iA o.idx.length o.ic, .slice o.sA o.skt.length o.sc, .slice o.cA o.cch.length o.cc, .slice o.rA o.rel.length o.rc, .slice o.tA o.str.length o.tc, .slice o.bA o.bak.length o.bc], .slice RA n rc] w fun e w'=>e = .returned (.bool r)∧Below w.heap.size w w':=by
 subst hm hn hres
 have hl1:=hsn.len
 have hl2:=hsr.len
 have HT:=qh ht
 have HS:=qh hsn
 have HR:=qh hr
 have HSR:=qh hsr
 clear ht hsn hr hsr
 have HCAT:=qh hcat
 have HCG:=qh hcg
 clear hcat hcg
 by_cases hlen : ¬ rt.length=ts.length
 ·have HNO:Hid (¬ RTabsOk ts rt):=qh fun h=>hlen h.len
  have hlen':((rt.length:Int) != (ts.length:Int))=true:=by rw [bne_iff_ne];omega
  clear hlen
  go_enter Tryz.func99,Tryz.ntmps99
  go_wp2_with fail
  (with_reducible refine (HCG.out.ref _ belA).mono ?_)
  rintro e w1 ⟨rfl,hb1⟩
  have hx1:Below w.heap.size w w1:=below_nextN belA hb1 leA
  obtain ⟨k1,_,_⟩:=keepB hb1 w.heap.size ltA
  go_wp2_with fail
  go_ret
  exact ⟨ret_bool (pb_false HNO.out).symm,hx1⟩
 have hlen':((rt.length:Int) != (ts.length:Int))=false:=by rw [Decidable.not_not.1 hlen];simp
 have hlen:=Decidable.not_not.1 hlen
 have HLEN:=qh hlen
 have hlm:ts.length ≤ 8:=HCAT.out.len
 have hrl8:rt.length ≤ 8:=by omega
 clear hlen
 go_enter Tryz.func99,Tryz.ntmps99
 go_wp2_with fail
 (with_reducible refine (HCG.out.ref _ belA).mono ?_)
 rintro e W ⟨rfl,hb1⟩
 have hbW:Below w.heap.size w W:=below_nextN belA hb1 leA
 have hB:Blk W w.heap.size 34 #[.slice A ts.length c, .slice o.vA 0 o.vc, .slice o.iA o.idx.length o.ic, .slice o.sA o.skt.length o.sc, .slice o.cA o.cch.length o.cc, .slice o.rA o.rel.length o.rc, .slice o.tA o.str.length o.tc, .slice o.bA o.bak.length o.bc]:=(Blk.new _ _ _).below hb1 spA
 obtain ⟨a0,_⟩:=Cat.blkO hB
 have hzW:=hB.lt
 have HB:=qh hB
 clear hB hb1
 go_wp2_with fail
 clear a0 hlen'
 go_loopw [5] (fun vi wr => ∃ i:Nat,i≤rt.length∧vi = .int .i64 i∧Below W.heap.size W wr∧(∀ q (h:q<rt.length) (h':q<ts.length),q<i→RTabOk ts[q].cols rt[q].recs)) (fun vi _=>rt.length - (intOf vi).toNat)
 case atStart=>exact ⟨0,Nat.zero_le _,rfl,Below.refl _ _,fun q _ _ h=>by omega⟩
 case round =>
  obtain ⟨i,hin,rfl,hbr,hpre⟩:=hrel
  have HPRE:=qh hpre
  have hxr:=below_nextN hbW hbr hbW.size
  clear hpre
  by_cases hlt:i<rt.length
  ·have hit:i<ts.length:=by rw [← HLEN.out];exact hlt
   obtain ⟨rb,ro,rfl,hrb,hrc⟩:=(HR.out.1).get hlt
   have c0:=hrc 0 _ rfl
   have hrecs:=HR.out.2 rt[i] (lgm hlt)
   have hrow:=HSR.out.row rt[i] (lgm hlt)
   have hseq:=HSR.out.seq rt[i] (lgm hlt)
   have hrln:=HSR.out.recs rt[i] (lgm hlt)
   have hno : ¬ RTabOk ts[i].cols rt[i].recs → ¬ RTabsOk ts rt:=fun h k=>h (k.tab i hlt hit)
   have hstep:RTabOk ts[i].cols rt[i].recs → ∀ q (h:q<rt.length) (h':q<ts.length),q<i + 1→RTabOk ts[q].cols rt[q].recs:=fun h q h1 h2 h3=>by
    rcases Nat.lt_or_ge q i with h4|h4
    ·exact HPRE.out q h1 h2 h4
    ·obtain rfl:q=i:=by omega
     exact h
   have hct:=HCAT.out.cols hit
   obtain ⟨⟨TA,tc,recs⟩,hx⟩ : ∃ x:RTab,rt[i]=x:=⟨_,rfl⟩
   rw [hx] at c0 hrecs hrow hseq hrln hno hstep
   simp only [Nat.mul_one,Nat.add_zero] at c0 hrecs hrow hseq hrln hno hstep
   obtain ⟨tb,tbo,rfl,htb,htc⟩:=(HT.out.1).get hit
   obtain ⟨t0,t1,t2,t3⟩:=Tab.cells4 htc
   have hcols:=HT.out.2 ts[i] (lgm hit)
   obtain ⟨⟨tn,CA,cc,cols,ter,trt⟩,hy⟩ : ∃ x:Tab,ts[i]=x:=⟨_,rfl⟩
   rw [hy] at t0 t1 t2 t3 hcols hno hstep hct
   simp only at t0 t1 t2 t3 hcols hno hstep hct
   have HRECS:=qh hrecs
   have HROW:=qh hrow
   have HSEQ:=qh hseq
   have HNOT:=qh hno
   have HSTEP:=qh hstep
   have HCOLS:=qh hcols
   have HC0:=qh c0
   have HT4:=qh (And.intro t0 (And.intro t1 (And.intro t2 t3)))
   have hct0:=hct.1
   have hct1:=hct.2
   clear hrc hrecs hrow hseq hno hstep hx htc hy hcols c0 t0 t1 t2 t3 hct
   have c0:=(hxr.cell (p:=⟨rb,ro+i,none⟩) hrb).trans HC0.out
   by_cases h64 : 64<recs.length
   ·have h64':decide (64<recs.length)=true:=by simpa using h64
    have HNO:Hid (¬ RTabsOk ts rt):=qh (HNOT.out fun h=>by have:=h.len;omega)
    go_wp2_with fail
    go_ret
    exact ⟨ret_bool (pb_false HNO.out).symm,hxr⟩
   ·have h64':decide (64<recs.length)=false:=by simpa using h64
    go_wp2_with fail
    clear c0
    obtain ⟨wo,rfl⟩ : ∃ wo:World,wo=wr:=⟨_,rfl⟩
    go_loopw [6] (fun vk wi => ∃ k:Nat,k≤recs.length∧vk = .int .i64 k∧Below W.heap.size W wi∧(∀ q (h:q<recs.length),q<k→RecAt cols recs q h)) (fun vk _=>recs.length - (intOf vk).toNat)
    case atStart=>exact ⟨0,Nat.zero_le _,rfl,hbr,fun q _ h=>by omega⟩
    case round =>
     clear hbr hxr
     obtain ⟨k,hk,rfl,hbi,hpk⟩:=hrel
     have HPK:=qh hpk
     have hxi:=below_nextN hbW hbi hbW.size
     have hwz:=hbi.size
     have c0:=(hxi.cell (p:=⟨rb,ro+i,none⟩) hrb).trans HC0.out
     clear hpk
     by_cases hkl:k<recs.length
     ·have hkl':decide (k<recs.length)=true:=by simpa using hkl
      obtain ⟨tb0,tb1,tb2,tb3⟩:=HT4.out
      have hxw:=hxi
      obtain ⟨b2,o2,rfl,hb2,hc2⟩:=(HRECS.out.1).get hkl
      obtain ⟨d0,d1,d2⟩:=Rcd.cells3 hc2
      have hrowin:=HRECS.out.2 recs[k] (lgm hkl)
      have hrl:=HROW.out recs[k] (lgm hkl)
      have hsl:=HSEQ.out recs[k] (lgm hkl)
      have hnorec : ¬ RecAt cols recs k hkl → ¬ RTabsOk ts rt:=fun h=>HNOT.out fun h2=>h (h2.at_ k hkl)
      have hmk : ∀ (_:RcdOk cols recs[k].row recs[k].seq recs[k].day) (_ : ∀ (h0 : 0<k),cmpVal (headV recs[k - 1]) (headV recs[k]) < 0) (_ : ∀ j (hj:j<k),headS recs[j]≠headS recs[k]),RecAt cols recs k hkl:=fun h1 h2 h3=>⟨h1,h2,h3⟩
      have hun1:RecAt cols recs k hkl→RcdOk cols recs[k].row recs[k].seq recs[k].day:=fun h=>h.ok
      have hun2:RecAt cols recs k hkl → ∀ (h0 : 0<k),cmpVal (headV recs[k - 1]) (headV recs[k]) < 0:=fun h=>h.asc
      have hun3:RecAt cols recs k hkl → ∀ j (hj:j<k),headS recs[j]≠headS recs[k]:=fun h=>h.own
      obtain ⟨⟨QA,qc,row,SA,sc,sq,dy⟩,hy⟩ : ∃ x:Rcd,recs[k]=x:=⟨_,rfl⟩
      rw [hy] at d0 d1 d2 hrowin hrl hsl hmk hun1 hun2 hun3
      simp only at d0 d1 d2 hrowin hrl hsl hmk hun1
      have HRI:=qh hrowin
      have HNR:=qh hnorec
      have HMK:=qh hmk
      have HU1:=qh hun1
      have HU2:=qh hun2
      have HU3:=qh hun3
      have HY:=qh hy
      have HSTEPK:Hid (RecAt cols recs k hkl → ∀ q (h:q<recs.length),q<k + 1→RecAt cols recs q h):=qh fun h q h1 h2=>by
       rcases Nat.lt_or_ge q k with h4|h4
       ·exact HPK.out q h1 h4
       ·obtain rfl:q=k:=by omega
        exact h
      clear hc2 hrowin hnorec hmk hun1 hun2 hun3 hy
      have p0:=(Cat.blkO (HB.out.below hbi hzW)).1
      have t0:=(hxw.cell (p:=⟨tb,_,none⟩) htb).trans tb0
      have t1:=(hxw.cell (p:=⟨tb,_,none⟩) htb).trans tb1
      have t2:=(hxw.cell (p:=⟨tb,_,none⟩) htb).trans tb2
      have t3:=(hxw.cell (p:=⟨tb,_,none⟩) htb).trans tb3
      have d0:=(hxw.cell (p:=⟨b2,_,none⟩) hb2).trans d0
      have d1:=(hxw.cell (p:=⟨b2,_,none⟩) hb2).trans d1
      have d2:=(hxw.cell (p:=⟨b2,_,none⟩) hb2).trans d2
      have hxz:=hxw.size
      have hk0:=keepQ (w:=wr) w.heap.size omA
      have hk1:=keepQ (w:=wr) tb omA
      have hk2:=keepQ (w:=wr) rb omA
      have hk3:=keepQ (w:=wr) b2 omA
      clear tb0 tb1 tb2 tb3
      cases hro:pb (RcdOk cols row sq dy)
      ·have HNO:Hid (¬ RTabsOk ts rt):=qh (HNR.out fun h=>by have:=pb_true (HU1.out h);rw [hro] at this;cases this)
       have HCR:Hid (∀ x:BelOf wr,Calls Tryz.prog 144 #[.agg #[.string tn, .slice CA cols.length cc, .int .i64 ter, .int .i64 trt], .agg #[.slice QA row.length qc, .slice SA sq.length sc, .int .i64 dy]] x.u fun e w''=>e = .returned (.bool false) ∧ ∃ y:BelOf wr,w''=y.u):=qh fun x=>bel_of (ref07_record tn CA cc cols.length cols ter trt QA qc row.length row SA sc sq.length sq dy _ ((HCOLS.out.1.below (below_nextN hxi x.h hxi.size)).mono (Nat.le_trans hxi.size x.h.size)) rfl ((HRI.out.1.below (below_nextN hxi x.h hxi.size)).mono (Nat.le_trans hxi.size x.h.size)) rfl ((HRI.out.2.below (below_nextN hxi x.h hxi.size)).mono (Nat.le_trans hxi.size x.h.size)) rfl omA omA hrl hsl hro)
       clear hro
       go_upto_region 11 with (fail)
       refine wp_region_bel krA krA ?_;(repeat (go_big_quiet_step ((first
        | (go_at_call 144;with_reducible exact HCR.out _)
        | (go_at_call 73;with_reducible exact bel_of_ext (ref01_CompareV pv qv _ HZ.out))))));refine wpQuiet_nil ?_;intro wq hq
       clear hk0 hk1 hk2 hk3 p0 t0 t1 t2 t3 d0 d1 d2 c0
       go_wp2_with fail
       go_ret
       exact ⟨ret_bool (pb_false HNO.out).symm,below_nextN hxi hq hxi.size⟩
      ·have HCR:Hid (∀ x:BelOf wr,Calls Tryz.prog 144 #[.agg #[.string tn, .slice CA cols.length cc, .int .i64 ter, .int .i64 trt], .agg #[.slice QA row.length qc, .slice SA sq.length sc, .int .i64 dy]] x.u fun e w''=>e = .returned (.bool true) ∧ ∃ y:BelOf wr,w''=y.u):=qh fun x=>bel_of (ref07_record tn CA cc cols.length cols ter trt QA qc row.length row SA sc sq.length sq dy _ ((HCOLS.out.1.below (below_nextN hxi x.h hxi.size)).mono (Nat.le_trans hxi.size x.h.size)) rfl ((HRI.out.1.below (below_nextN hxi x.h hxi.size)).mono (Nat.le_trans hxi.size x.h.size)) rfl ((HRI.out.2.below (below_nextN hxi x.h hxi.size)).mono (Nat.le_trans hxi.size x.h.size)) rfl omA omA hrl hsl hro)
       have hrok:=pb_iff.1 hro
       have hr0 : 0<row.length:=by have:=hrok.len;omega
       have hs0 : 0<sq.length:=by have:=hrok.slen;omega
       have HROK:=qh hrok
       clear hro hrok
       by_cases hk0' : 0<k
       ·have hkz:decide ((0:Int)<(k:Int))=true:=by simp;omega
        have hkz2:decide (0<k)=true:=by simpa using hk0'
        have hk1l:k - 1<recs.length:=by omega
        have hk1l':decide (k - 1<recs.length)=true:=by simpa using hk1l
        have hcast:(k:Int) - 1=((k - 1:Nat):Int):=by omega
        have hwrap:IntKind.i64.wrap ((k:Int) - 1)=((k - 1:Nat):Int):=by rw [hcast];exact IntWalk.i64_in _ omA
        obtain ⟨b3,o3,he3,_,hc3⟩:=(HRECS.out.1).get hk1l
        injection he3 with he3
        injection he3 with he4 he5
        subst he4 he5
        obtain ⟨f0,_,_⟩:=Rcd.cells3 hc3
        have hpok:=(HPK.out (k - 1) hk1l omA).ok
        have hpin:=(HRECS.out.2 recs[k - 1] (lgm hk1l)).1
        have hp0 : 0<recs[k - 1].row.length:=by have:=hpok.len;omega
        have hph:=head_row hp0
        have hkh:=head_row (r:=⟨QA,qc,row,SA,sc,sq,dy⟩) hr0
        obtain ⟨P,hP⟩ : ∃ P:Rcd,recs[k - 1]=P:=⟨_,rfl⟩
        rw [hP] at f0 hpin
        have hp0' : 0<P.row.length:=by rw [← hP];exact hp0
        have hph':=head_row hp0'
        have HPH:Hid (headV recs[k - 1]=P.row[0]):=qh (by rw [hP];exact hph'.symm)
        have HKH:Hid (headV ⟨QA,qc,row,SA,sc,sq,dy⟩=row[0]):=qh hkh.symm
        obtain ⟨pb4,po4,hpA,hpb4,hpc4⟩:=hpin.get hp0'
        obtain ⟨g0,g1,g2⟩:=Val.cells3 hpc4
        obtain ⟨qb4,qo4,hqA,hqb4,hqc4⟩:=HRI.out.1.get hr0
        obtain ⟨y0,y1,y2⟩:=Val.cells3 hqc4
        subst hqA
        rw [hpA] at f0
        simp only [Nat.zero_mul,Nat.add_zero] at g0 g1 g2 y0 y1 y2
        obtain ⟨pl,hpl⟩ : ∃ n:Nat,P.row.length=n:=⟨_,rfl⟩
        rw [hpl] at f0
        have hpl1 : 0<pl:=by omega
        have hpl0:decide (0<pl)=true:=by simpa using hpl1
        have hr0':decide (0<row.length)=true:=by simpa using hr0
        obtain ⟨pv,hpv⟩ : ∃ v:Val,P.row[0]=v:=⟨_,rfl⟩
        obtain ⟨qv,hqv⟩ : ∃ v:Val,row[0]=v:=⟨_,rfl⟩
        rw [hpv] at g0 g1 g2
        rw [hqv] at y0 y1 y2
        have HPV:Hid (headV recs[k - 1]=pv):=qh (by rw [HPH.out,hpv])
        have HQV:Hid (headV ⟨some ⟨qb4,qo4,none⟩,qc,row,SA,sc,sq,dy⟩=qv):=qh (by rw [← hqv];exact hkh.symm)
        have f0:=(hxw.cell (p:=⟨b2,_,none⟩) hb2).trans f0
        have g0:=(hxw.cell (p:=⟨pb4,_,none⟩) hpb4).trans g0
        have g1:=(hxw.cell (p:=⟨pb4,_,none⟩) hpb4).trans g1
        have g2:=(hxw.cell (p:=⟨pb4,_,none⟩) hpb4).trans g2
        have y0:=(hxw.cell (p:=⟨qb4,_,none⟩) hqb4).trans y0
        have y1:=(hxw.cell (p:=⟨qb4,_,none⟩) hqb4).trans y1
        have y2:=(hxw.cell (p:=⟨qb4,_,none⟩) hqb4).trans y2
        have hk4:=keepQ (w:=wr) pb4 omA
        have hk5:=keepQ (w:=wr) qb4 omA
        obtain ⟨z,hz⟩ : ∃ z,cmpVal pv qv=z:=⟨_,rfl⟩
        have HZ:=qh hz
        clear hc3 hpok hpin hp0 hph hkh hP hph' hp0' hpA hpc4 hqc4 hpl hpv hqv hz HPH HKH
        cases hzz:decide (0≤z)
        ·have HASC:Hid (∀ (h0 : 0<k),cmpVal (headV recs[k - 1]) (headV ⟨some ⟨qb4,qo4,none⟩,qc,row,SA,sc,sq,dy⟩) < 0):=qh fun h0=>by
          have e1:=HPV.out
          have e2:=HQV.out
          have e3:=of_decide_eq_false hzz
          rw [e1,show headV ⟨some ⟨qb4,qo4,none⟩,qc,row,SA,sc,sq,dy⟩=qv from e2,HZ.out]
          omega
         clear hk0'
         go_upto_region 11 with (fail)
         refine wp_region_bel krA krA ?_;(repeat (go_big_quiet_step ((first
          | (go_at_call 144;with_reducible exact HCR.out _)
          | (go_at_call 73;with_reducible exact bel_of_ext (ref01_CompareV pv qv _ HZ.out))))));refine wpQuiet_nil ?_;intro wq hq
         clear hk0 hk1 hk2 hk3 hk4 hk5 p0 t0 t1 t2 t3 d0 d1 d2 c0 hkz hkz2 f0 g0 g1 g2 y0 y1 y2 hcast hwrap hzz hk1l' hpl0 hr0'
         have hbj0:=below_nextN hbi hq hbi.size
         (
         go_wp2_with fail
         go_loopw [7] (fun vj wj => ∃ j:Nat,j≤k∧vj = .int .i64 j∧Below W.heap.size W wj∧(∀ i' (hi:i'<j) (hl:i'<recs.length),headS recs[i']≠headS ⟨some ⟨qb4,qo4,none⟩,qc,row,SA,sc,sq,dy⟩)) (fun vj _=>k - (intOf vj).toNat)
         case atStart=>exact ⟨0,Nat.zero_le _,rfl,hbj0,fun i' hi _=>by omega⟩
         case round =>
          clear hbj0 hq hbi hxi hxw hxz hwz
          obtain ⟨j,hj,rfl,hbj,hpj⟩:=hrel
          have HPJ:=qh hpj
          clear hpj
          have hxj:=below_nextN hbW hbj hbW.size
          have hjz:=hxj.size
          by_cases hjk:j<k
          ·have hjk':decide (j<k)=true:=by simpa using hjk
           have hjl:j<recs.length:=by omega
           have hjl':decide (j<recs.length)=true:=by simpa using hjl
           obtain ⟨b3,o3,he3,_,hc3⟩:=(HRECS.out.1).get hjl
           injection he3 with he3
           injection he3 with he4 he5
           subst he4 he5
           obtain ⟨_,f1,_⟩:=Rcd.cells3 hc3
           obtain ⟨b4,o4,he6,_,hc4⟩:=(HRECS.out.1).get hkl
           injection he6 with he6
           injection he6 with he7 he8
           subst he7 he8
           rw [HY.out] at hc4
           obtain ⟨_,d1,_⟩:=Rcd.cells3 hc4
           dsimp only at d1
           have hjok:=(HPK.out j hjl omA).ok
           have hjin:=(HRECS.out.2 recs[j] (lgm hjl)).2
           have hjh:=head_seq (r:=recs[j])
           have hj0 : 0<recs[j].seq.length:=by have:=hjok.slen;omega
           have hkh:=head_seq (r:=⟨some ⟨qb4,qo4,none⟩,qc,row,SA,sc,sq,dy⟩) hs0
           have hjh:=hjh hj0
           obtain ⟨⟨JA,jc,jrow,JS,jsc,jsq,jd⟩,hyj⟩ : ∃ x:Rcd,recs[j]=x:=⟨_,rfl⟩
           have HYJ:=qh hyj
           obtain ⟨s5,o5,he9,hb5,hc5⟩:=hjin.get hj0
           have u0:=hc5 0 _ rfl
           have hjs:recs[j].seq[0]=headS recs[j]:=hjh
           rw [hjs] at u0
           rw [hyj] at f1 he9 hj0
           simp only at f1 he9 hj0
           subst he9
           obtain ⟨s6,o6,he10,hb6,hc6⟩:=HRI.out.2.get hs0
           have v0:=hc6 0 _ rfl
           have hks:sq[0]=headS ⟨some ⟨qb4,qo4,none⟩,qc,row,SA,sc,sq,dy⟩:=hkh
           rw [hks] at v0
           subst he10
           simp only [Nat.zero_mul,Nat.add_zero] at u0 v0
           obtain ⟨hu,hhu⟩ : ∃ h,headS recs[j]=h:=⟨_,rfl⟩
           obtain ⟨hv,hhv⟩ : ∃ h,headS ⟨some ⟨qb4,qo4,none⟩,qc,row,some ⟨s6,o6,none⟩,sc,sq,dy⟩=h:=⟨_,rfl⟩
           rw [hhu] at u0
           rw [hhv] at v0
           have HU:=qh hhu
           have HV:=qh hhv
           have c0:=(hxj.cell (p:=⟨rb,ro+i,none⟩) hrb).trans HC0.out
           have f1:=(hxj.cell (p:=⟨b2,_,none⟩) hb2).trans f1
           have d1:=(hxj.cell (p:=⟨b2,_,none⟩) hb2).trans d1
           have u0:=(hxj.cell (p:=⟨s5,_,none⟩) hb5).trans u0
           have v0:=(hxj.cell (p:=⟨s6,_,none⟩) hb6).trans v0
           have hm0:=keepQ (w:=wr) rb omA
           have hm1:=keepQ (w:=wr) b2 omA
           have hm2:=keepQ (w:=wr) s5 omA
           have hm3:=keepQ (w:=wr) s6 omA
           have hj0':decide (0<jsq.length)=true:=by simpa using hj0
           have hs0':decide (0<sq.length)=true:=by simpa using hs0
           clear hc3 hc4 hc5 hc6 hjok hjin hjh hkh hjs hks hhu hhv hyj
           by_cases huv:hu=hv
           ·have huv':(hu==hv)=true:=by simpa using huv
            have HNO:Hid (¬ RTabsOk ts rt):=qh (HNR.out fun h=>HU3.out h j hjk (by rw [HU.out,HV.out];exact huv))
            clear huv
            go_upto_region 16 with (fail)
            refine wp_region_bel krA krA ?_;(repeat (go_big_quiet_step (fail)));refine wpQuiet_nil ?_;intro wq2 hq2
            clear hm0 hm1 hm2 hm3 c0 f1 d1 u0 v0
            go_wp2_with fail
            go_ret
            exact ⟨ret_bool (pb_false HNO.out).symm,below_nextN hxj hq2 hxj.size⟩
           ·have huv':(hu==hv)=false:=by simpa using huv
            have HNE:Hid (headS recs[j]≠headS ⟨some ⟨qb4,qo4,none⟩,qc,row,some ⟨s6,o6,none⟩,sc,sq,dy⟩):=qh (by rw [HU.out,HV.out];exact huv)
            clear huv
            go_upto_region 16 with (fail)
            refine wp_region_bel krA krA ?_;(repeat (go_big_quiet_step (fail)));refine wpQuiet_nil ?_;intro wq2 hq2
            clear hm0 hm1 hm2 hm3 c0 f1 d1 u0 v0
            go_wp2_with fail
            go_roundw
            case rel=>exact ⟨j + 1,by omega,by go_num,below_nextN hbj hq2 hbj.size,fun i' hi hl=>by
             rcases Nat.lt_or_ge i' j with h1|h1
             ·exact HPJ.out i' h1 hl
             ·obtain rfl:i'=j:=by omega
              exact HNE.out⟩
            case measure=>exact meA
          ·have hjk':decide (j<k)=false:=by simpa using hjk
           have HDN:=qh (HSTEPK.out (HMK.out HROK.out HASC.out fun j' hj'=>HPJ.out j' omA omA))
           go_wp2_with fail
           go_roundw
           case rel=>exact ⟨k + 1,by omega,by go_num,hbj,HDN.out⟩
           case measure=>exact meA)
        ·have HNO:Hid (¬ RTabsOk ts rt):=qh (HNR.out fun h=>by
          have h1:=HU2.out h omA
          have e1:=HPV.out
          have e2:=HQV.out
          have e3:=of_decide_eq_true hzz
          rw [e1,show headV ⟨some ⟨qb4,qo4,none⟩,qc,row,SA,sc,sq,dy⟩=qv from e2,HZ.out] at h1
          omega)
         clear hk0'
         go_upto_region 11 with (fail)
         refine wp_region_bel krA krA ?_;(repeat (go_big_quiet_step ((first
          | (go_at_call 144;with_reducible exact HCR.out _)
          | (go_at_call 73;with_reducible exact bel_of_ext (ref01_CompareV pv qv _ HZ.out))))));refine wpQuiet_nil ?_;intro wq hq
         clear hk0 hk1 hk2 hk3 hk4 hk5 p0 t0 t1 t2 t3 d0 d1 d2 c0 hkz hkz2 f0 g0 g1 g2 y0 y1 y2 hcast hwrap hzz hk1l' hpl0 hr0'
         go_wp2_with fail
         go_ret
         exact ⟨ret_bool (pb_false HNO.out).symm,below_nextN hxi hq hxi.size⟩
       ·have hkz:decide ((0:Int)<(k:Int))=false:=by simp;omega
        have hkz2:decide (0<k)=false:=by simpa using hk0'
        have hk1l:k - 1<recs.length:=Nat.lt_of_le_of_lt (Nat.sub_le k 1) hkl
        have hasc : ∀ (h0 : 0<k),cmpVal (headV (recs[k - 1]'hk1l)) (headV ⟨QA,qc,row,SA,sc,sq,dy⟩) < 0:=fun h0=>absurd h0 hk0'
        have HASC:=qh hasc
        clear hasc hk0'
        go_upto_region 11 with (fail)
        refine wp_region_bel krA krA ?_;(repeat (go_big_quiet_step ((first
         | (go_at_call 144;with_reducible exact HCR.out _)
         | (go_at_call 73;with_reducible exact bel_of_ext (ref01_CompareV pv qv _ HZ.out))))));refine wpQuiet_nil ?_;intro wq hq
        clear hk0 hk1 hk2 hk3 p0 t0 t1 t2 t3 d0 d1 d2 c0 hkz hkz2
        have hbj0:=below_nextN hbi hq hbi.size
        (
        go_wp2_with fail
        go_loopw [7] (fun vj wj => ∃ j:Nat,j≤k∧vj = .int .i64 j∧Below W.heap.size W wj∧(∀ i' (hi:i'<j) (hl:i'<recs.length),headS recs[i']≠headS ⟨QA,qc,row,SA,sc,sq,dy⟩)) (fun vj _=>k - (intOf vj).toNat)
        case atStart=>exact ⟨0,Nat.zero_le _,rfl,hbj0,fun i' hi _=>by omega⟩
        case round =>
         clear hbj0 hq hbi hxi hxw hxz hwz
         obtain ⟨j,hj,rfl,hbj,hpj⟩:=hrel
         have HPJ:=qh hpj
         clear hpj
         have hxj:=below_nextN hbW hbj hbW.size
         have hjz:=hxj.size
         by_cases hjk:j<k
         ·have hjk':decide (j<k)=true:=by simpa using hjk
          have hjl:j<recs.length:=by omega
          have hjl':decide (j<recs.length)=true:=by simpa using hjl
          obtain ⟨b3,o3,he3,_,hc3⟩:=(HRECS.out.1).get hjl
          injection he3 with he3
          injection he3 with he4 he5
          subst he4 he5
          obtain ⟨_,f1,_⟩:=Rcd.cells3 hc3
          obtain ⟨b4,o4,he6,_,hc4⟩:=(HRECS.out.1).get hkl
          injection he6 with he6
          injection he6 with he7 he8
          subst he7 he8
          rw [HY.out] at hc4
          obtain ⟨_,d1,_⟩:=Rcd.cells3 hc4
          dsimp only at d1
          have hjok:=(HPK.out j hjl omA).ok
          have hjin:=(HRECS.out.2 recs[j] (lgm hjl)).2
          have hjh:=head_seq (r:=recs[j])
          have hj0 : 0<recs[j].seq.length:=by have:=hjok.slen;omega
          have hkh:=head_seq (r:=⟨QA,qc,row,SA,sc,sq,dy⟩) hs0
          have hjh:=hjh hj0
          obtain ⟨⟨JA,jc,jrow,JS,jsc,jsq,jd⟩,hyj⟩ : ∃ x:Rcd,recs[j]=x:=⟨_,rfl⟩
          have HYJ:=qh hyj
          obtain ⟨s5,o5,he9,hb5,hc5⟩:=hjin.get hj0
          have u0:=hc5 0 _ rfl
          have hjs:recs[j].seq[0]=headS recs[j]:=hjh
          rw [hjs] at u0
          rw [hyj] at f1 he9 hj0
          simp only at f1 he9 hj0
          subst he9
          obtain ⟨s6,o6,he10,hb6,hc6⟩:=HRI.out.2.get hs0
          have v0:=hc6 0 _ rfl
          have hks:sq[0]=headS ⟨QA,qc,row,SA,sc,sq,dy⟩:=hkh
          rw [hks] at v0
          subst he10
          simp only [Nat.zero_mul,Nat.add_zero] at u0 v0
          obtain ⟨hu,hhu⟩ : ∃ h,headS recs[j]=h:=⟨_,rfl⟩
          obtain ⟨hv,hhv⟩ : ∃ h,headS ⟨QA,qc,row,some ⟨s6,o6,none⟩,sc,sq,dy⟩=h:=⟨_,rfl⟩
          rw [hhu] at u0
          rw [hhv] at v0
          have HU:=qh hhu
          have HV:=qh hhv
          have c0:=(hxj.cell (p:=⟨rb,ro+i,none⟩) hrb).trans HC0.out
          have f1:=(hxj.cell (p:=⟨b2,_,none⟩) hb2).trans f1
          have d1:=(hxj.cell (p:=⟨b2,_,none⟩) hb2).trans d1
          have u0:=(hxj.cell (p:=⟨s5,_,none⟩) hb5).trans u0
          have v0:=(hxj.cell (p:=⟨s6,_,none⟩) hb6).trans v0
          have hm0:=keepQ (w:=wr) rb omA
          have hm1:=keepQ (w:=wr) b2 omA
          have hm2:=keepQ (w:=wr) s5 omA
          have hm3:=keepQ (w:=wr) s6 omA
          have hj0':decide (0<jsq.length)=true:=by simpa using hj0
          have hs0':decide (0<sq.length)=true:=by simpa using hs0
          clear hc3 hc4 hc5 hc6 hjok hjin hjh hkh hjs hks hhu hhv hyj
          by_cases huv:hu=hv
          ·have huv':(hu==hv)=true:=by simpa using huv
           have HNO:Hid (¬ RTabsOk ts rt):=qh (HNR.out fun h=>HU3.out h j hjk (by rw [HU.out,HV.out];exact huv))
           clear huv
           go_upto_region 16 with (fail)
           refine wp_region_bel krA krA ?_;(repeat (go_big_quiet_step (fail)));refine wpQuiet_nil ?_;intro wq2 hq2
           clear hm0 hm1 hm2 hm3 c0 f1 d1 u0 v0
           go_wp2_with fail
           go_ret
           exact ⟨ret_bool (pb_false HNO.out).symm,below_nextN hxj hq2 hxj.size⟩
          ·have huv':(hu==hv)=false:=by simpa using huv
           have HNE:Hid (headS recs[j]≠headS ⟨QA,qc,row,some ⟨s6,o6,none⟩,sc,sq,dy⟩):=qh (by rw [HU.out,HV.out];exact huv)
           clear huv
           go_upto_region 16 with (fail)
           refine wp_region_bel krA krA ?_;(repeat (go_big_quiet_step (fail)));refine wpQuiet_nil ?_;intro wq2 hq2
           clear hm0 hm1 hm2 hm3 c0 f1 d1 u0 v0
           go_wp2_with fail
           go_roundw
           case rel=>exact ⟨j + 1,by omega,by go_num,below_nextN hbj hq2 hbj.size,fun i' hi hl=>by
            rcases Nat.lt_or_ge i' j with h1|h1
            ·exact HPJ.out i' h1 hl
            ·obtain rfl:i'=j:=by omega
             exact HNE.out⟩
           case measure=>exact meA
         ·have hjk':decide (j<k)=false:=by simpa using hjk
          have HDN:=qh (HSTEPK.out (HMK.out HROK.out HASC.out fun j' hj'=>HPJ.out j' omA omA))
          go_wp2_with fail
          go_roundw
          case rel=>exact ⟨k + 1,by omega,by go_num,hbj,HDN.out⟩
          case measure=>exact meA)
     ·have hkl':decide (k<recs.length)=false:=by simpa using hkl
      have hke:k=recs.length:=by omega
      have HDONE:=qh (HSTEP.out ⟨by omega,fun q h=>HPK.out q h omA⟩)
      clear hke
      go_wp2_with fail
      go_roundw
      case rel=>exact ⟨i + 1,by omega,by go_num,hbi,HDONE.out⟩
      case measure=>exact meA
  ·have hlt':decide (i<rt.length)=false:=by simpa using hlt
   have hie:i=rt.length:=by omega
   have HYES:Hid (RTabsOk ts rt):=qh ⟨HCAT.out,HLEN.out,fun q h h'=>HPRE.out q h h' omA⟩
   clear hie
   go_wp2_with fail
   go_ret
   exact ⟨ret_bool (pb_true HYES.out).symm,hxr⟩
variable {o:Oth}
theorem lTbl81 {P:Prop} (h:P:=by
 go_enter Tryz.func67,Tryz.ntmps67
 go_upto_region 4 with (first
  | (go_at_call 102;(first|(with_reducible refine (ref07_within kd 1 3 _ H1.out).mono ?_)|(with_reducible refine (ref07_within sq 1 1073741824 _ H2.out).mono ?_)|(with_reducible refine (ref07_within dy 0 1048576 _ H3.out).mono ?_)|(with_reducible refine (ref07_within tn 0 ((ts.length:Int) - 1) _ H4.out).mono ?_)|(with_reducible refine (ref07_within cl 0 ((cn:Int) - 1) _ H5.out).mono ?_));rintro e w1 ⟨rfl,rfl⟩)
  | (go_at_call 103;(with_reducible refine (ref01_ValidRow A0 cp row.length row _ (HR.out.next belA) rfl omA HRB.out).mono ?_);rintro e w2 ⟨rfl,hb2⟩;have hx2:=below_nextN hx2' hb2 hx2'.size)
  | (go_at_call 104;(first|(with_reducible refine (ref01_ValidR key _ HVK.out).mono ?_)|(with_reducible refine (ref01_ValidR vl _ HVV.out).mono ?_));rintro e w3 ⟨rfl,hb3⟩;have hbb3:=hb3.1;have hbs3:=hbb3.size;obtain ⟨kx3,_,_⟩:=keepE hb3 (w.heap.size + 1) omA))
 refine abs_world (P:=fun u=>Code.wp _ _ _ _ u) (R:=fun u=>Blk u w.heap.size 34 #[.slice (some ⟨tb5,to5,none⟩) ts.length c, .slice o.vA 0 o.vc, .slice o.iA o.idx.length o.ic, .slice o.sA o.skt.length o.sc, .slice o.cA o.cch.length o.cc, .slice o.rA o.rel.length o.rc, .slice o.tA o.str.length o.tc, .slice o.bA o.bak.length o.bc]∧Blk u (w.heap.size + 1) 79 (Chg.cells ⟨kd,sq,dy,tn,A0,cp,row,key,cl,vl⟩).toArray∧Blk u (w.heap.size + 2) 53 #[.int .i64 0, .int .i64 0, .string ⟨#[]⟩]∧Below w.heap.size w u) ⟨?_,?_,?_,?_⟩ ?_
 ·exact ((Blk.new _ _ _).alloc _).alloc _
 ·exact (Blk.new' spA).alloc _
 ·exact Blk.new' spA
 ·exact belA
 rintro W ⟨hC,hX,hN,hbW⟩
 have hx2':Below w.heap.size w W:=hbW
 obtain ⟨p0,_⟩:=Cat.blkO hC
 obtain ⟨⟨q0,q1,q2,q3⟩,q4,⟨q5,q6,q7⟩,q8,q9,q10,q11⟩:=Chg.blk hX
 have n0:=hN.cell 0
 have n1:=hN.cell 1
 have n2:=hN.cell 2
 simp only [gE3] at n0 n1 n2
 have t1:=(hbW.cell (p:=⟨tb5,_,none⟩) htb5).trans T1.out
 have hWz:=hN.lt
 clear hC hX hN
 go_wp2_with (first
  | (go_at_call 102;(first|(with_reducible refine (ref07_within kd 1 3 _ H1.out).mono ?_)|(with_reducible refine (ref07_within sq 1 1073741824 _ H2.out).mono ?_)|(with_reducible refine (ref07_within dy 0 1048576 _ H3.out).mono ?_)|(with_reducible refine (ref07_within tn 0 ((ts.length:Int) - 1) _ H4.out).mono ?_)|(with_reducible refine (ref07_within cl 0 ((cn:Int) - 1) _ H5.out).mono ?_));rintro e w1 ⟨rfl,rfl⟩)
  | (go_at_call 103;(with_reducible refine (ref01_ValidRow A0 cp row.length row _ (HR.out.next belA) rfl omA HRB.out).mono ?_);rintro e w2 ⟨rfl,hb2⟩;have hx2:=below_nextN hx2' hb2 hx2'.size)
  | (go_at_call 104;(first|(with_reducible refine (ref01_ValidR key _ HVK.out).mono ?_)|(with_reducible refine (ref01_ValidR vl _ HVV.out).mono ?_));rintro e w3 ⟨rfl,hb3⟩;have hbb3:=hb3.1;have hbs3:=hbb3.size;obtain ⟨kx3,_,_⟩:=keepE hb3 (w.heap.size + 1) omA))
 go_ret
 refine ⟨ret_bool HB.out.symm,?_⟩
 first|exact hbW|exact hx2|exact belA):P:=h
theorem ref07_New (A:Option Addr) (c m:Nat) (ts:List Tab) (w:World) (ht:TabsIn w w.heap.size A ts) (hm:ts.length=m) (hs:SaneCat ts) (hok:CatOk ts) (hcg:CatG w w.heap.size A c ts o) :
 Calls Tryz.prog 30 #[.agg #[.slice A m c, .slice o.vA 0 o.vc, .slice o.iA o.idx.length o.ic, .slice o.sA o.skt.length o.sc, .slice o.cA o.cch.length o.cc, .slice o.rA o.rel.length o.rc, .slice o.tA o.str.length o.tc, .slice o.bA o.bak.length o.bc]] w fun e w'=>(∃ q,e = .returned (.slice (some ⟨q,0,none⟩) m m)∧w.heap.size≤q∧RTabsIn w' w'.heap.size (some ⟨q,0,none⟩) (List.replicate m zeroT))∧Below w.heap.size w w':=by
 subst hm
 obtain ⟨i7,hi7,hz7,hs7,hb7⟩:=info_parts infoRTab
 have hlen:ts.length ≤ 8:=hok.len
 have hmk : ∀ u:World,(Instr.makeSlice 38 (.int .i64 (ts.length:Int)) (.int .i64 (ts.length:Int))).run Tryz.prog u = .ok (.slice (some ⟨u.heap.size,0,none⟩) ts.length ts.length) (u.alloc (.cells (madeCells (RTab.cells zeroT).toArray (ts.length * 1)) 45)):=fun u=>by
  have:=run_make_rowN (P:=Tryz.prog) 38 45 i7 (.slice none 0 0) Tryz.underlying38 hi7 hz7 .i64 .i64 ts.length ts.length nlr (by rw [hb7];omega) omA u
  rw [hs7] at this
  exact this
 have HT:=qh ht
 have HS:=qh hs
 have HOK:=qh (pb_true hok)
 have HCG:=qh hcg
 clear ht hs hok hcg hi7 hz7 hs7 hb7
 go_enter Tryz.func30,Tryz.ntmps30
 go_wp2_with fail
 (with_reducible refine (HCG.out.ref _ belA).mono ?_)
 rintro e w1 ⟨rfl,hb1⟩
 have hx1:Below w.heap.size w w1:=below_nextN belA hb1 leA
 have hB:Blk w1 w.heap.size 34 #[.slice A ts.length c, .slice o.vA 0 o.vc, .slice o.iA o.idx.length o.ic, .slice o.sA o.skt.length o.sc, .slice o.cA o.cch.length o.cc, .slice o.rA o.rel.length o.rc, .slice o.tA o.str.length o.tc, .slice o.bA o.bak.length o.bc]:=(Blk.new _ _ _).below hb1 spA
 obtain ⟨a0,_⟩:=Cat.blkO hB
 have hz1:=hx1.size
 clear hB hb1
 go_wp2_with fail
 go_ret
 have hO:Owns (w1.alloc (.cells (madeCells (RTab.cells zeroT).toArray ts.length) 45)) w1.heap.size 45 RTab.cells 1 (.slice (some ⟨w1.heap.size,0,none⟩) ts.length ts.length) (List.replicate ts.length zeroT):=Owns.made rtab_len omA (by rw [Nat.mul_one];exact Blk.new' rfl) nlr mxA
 refine ⟨⟨w1.heap.size,by simp,hz1,?_⟩,?_⟩
 ·have h:=OwnT.read (OwnT.zero _ _ ts.length) hO
  simpa using h
 ·simpa using hx1.alloc hx1.size (.cells (madeCells (RTab.cells zeroT).toArray ts.length) 45)
theorem asc_ge {l:List Int} (h:l.Pairwise (fun a b:Int=>a<b)) (h0 : ∀ x∈l,0≤x) : ∀ i (hi:i<l.length),(i:Int)≤l[i]
 | 0,hi=>h0 _ (lgm hi)
 | i + 1,hi=>by
   have h1:=asc_ge h h0 i omA
   have h2:=List.pairwise_iff_getElem.1 h i (i + 1) omA hi omA
   omega
theorem fixed_len {ts:List Tab} {n:Nat} {out:List Int} (hok:CatOk ts) (hn:n<ts.length) (h:OwnTo [0] ts[n].cols [] out):out.length ≤ 8:=by
 have hc:=hok.cols hn
 have hb : ∀ x∈out,0≤x∧x < 8:=by
  intro x hx
  rcases (h.2 x).1 hx with h1|⟨q,hq,h1⟩|h1
  ·simp at h1
   omega
  ·obtain ⟨i,hi,rfl⟩:=List.getElem_of_mem h1
   have ho:=hok.owners hn hq i hi
   have:=ho.lo
   have:=ho.hi
   omega
  ·cases h1
 rcases Nat.eq_zero_or_pos out.length with h0|h0
 ·omega
 ·have h1:=asc_ge h.1 (fun x hx=>(hb x hx).1) (out.length - 1) omA
  have h2:=(hb _ (lgm (show out.length - 1<out.length by omega))).2
  omega
def FixedCol (cols:List Col) (k:Int):Prop:=k = 0 ∨ ∃ q∈cols,k∈q.own
theorem ref07_fixed (A:Option Addr) (c m:Nat) (ts:List Tab) (n:Nat) (k:Int) (cols:List Col) (w:World) (ht:TabsIn w w.heap.size A ts) (hm:ts.length=m) (hs:SaneCat ts) (hok:CatOk ts) (hcg:CatG w w.heap.size A c ts o) (hn:n<ts.length) (hcs:ts[n].cols=cols) {r:Bool} (hr:pb (FixedCol cols k)=r) :
 Calls Tryz.prog 70 #[.agg #[.slice A m c, .slice o.vA 0 o.vc, .slice o.iA o.idx.length o.ic, .slice o.sA o.skt.length o.sc, .slice o.cA o.cch.length o.cc, .slice o.rA o.rel.length o.rc, .slice o.tA o.str.length o.tc, .slice o.bA o.bak.length o.bc], .int .i64 n, .int .i64 k] w fun e w'=>e = .returned (.bool r)∧Below w.heap.size w w':=by
 subst hm hr
 have HT:=qh ht
 have HS:=qh hs
 have HOK:=qh hok
 have HCG:=qh hcg
 have HCS:=qh hcs
 clear ht hs hok hcg hcs
 go_enter Tryz.func70,Tryz.ntmps70
 go_wp2_with fail
 (with_reducible refine (ref04_FixedO A c ts.length ts n cols _ (HT.out.next belA) rfl HS.out HOK.out (HCG.out.next belA) hn HCS.out).mono ?_)
 rintro e w1 ⟨⟨A1,c1,out,rfl,hc1,hs1,hto⟩,hb1⟩
 have hx1:Below w.heap.size w w1:=below_nextN belA hb1 leA
 have HS1:=qh hs1
 have hol:out.length ≤ 8:=fixed_len HOK.out hn (by rw [HCS.out];exact hto)
 have HIFF:Hid (FixedCol cols k↔k∈out):=qh (by rw [hto.2];simp [FixedCol])
 clear hs1 hto hb1
 go_wp2_with fail
 go_loopw [8] (fun vi wr => ∃ i:Nat,i≤out.length∧vi = .int .i64 i∧w1=wr∧(∀ q (h:q<out.length),q<i→out[q]≠k)) (fun vi _=>out.length - (intOf vi).toNat)
 case atStart=>exact ⟨0,Nat.zero_le _,rfl,rfl,fun q _ h=>by omega⟩
 case round =>
  obtain ⟨i,hi,rfl,rfl,hno⟩:=hrel
  have HNO:=qh hno
  clear hno
  by_cases hlt:i<out.length
  ·obtain ⟨b5,o5,rfl,hb5,hc5⟩:=HS1.out.get hlt
   have x0:=hc5 0 _ rfl
   simp only [Nat.mul_one,Nat.add_zero] at x0
   clear hc5
   by_cases he:out[i]=k
   ·have he':(out[i]==k)=true:=by simpa using he
    have HY:Hid (FixedCol cols k):=qh (HIFF.out.2 (he▸lgm hlt))
    clear he
    go_wp2_with fail
    go_ret
    exact ⟨ret_bool (pb_true HY.out).symm,hx1⟩
   ·have he':(out[i]==k)=false:=by simpa using he
    have HE:=qh he
    clear he
    go_wp2_with fail
    go_roundw
    case rel=>exact ⟨i + 1,by omega,by go_num,by first|rfl|trivial,fun q h hq=>by
     rcases Nat.lt_or_ge q i with h1|h1
     ·exact HNO.out q h h1
     ·obtain rfl:q=i:=by omega
      exact HE.out⟩
    case measure=>exact meA
  ·have hlt':decide (i<out.length)=false:=by simpa using hlt
   have HN:Hid (¬ FixedCol cols k):=qh (by
    rw [HIFF.out]
    intro hm
    obtain ⟨q,hq,he⟩:=List.getElem_of_mem hm
    exact HNO.out q hq omA he)
   go_wp2_with fail
   go_ret
   exact ⟨ret_bool (pb_false HN.out).symm,hx1⟩
def nulV:Val:=⟨0,0,⟨#[]⟩⟩
def badHead (m:Nat) (x:Chg):Bool:=((!withinB x.kind 1 3 || !withinB x.seq 1 1073741824) || !withinB x.day 0 1048576) || !withinB x.table 0 ((m:Int) - 1)
def badIns (n:Nat) (x:Chg):Bool:=(((decide (x.key≠nulV)||x.column != 0)||decide (x.val≠nulV))||(x.row.length:Int) != (n:Int)) || !rowB x.row
def badUpd (n:Nat) (x:Chg):Bool:=((decide (0<x.row.length) || !valB x.key) || !withinB x.column 0 ((n:Int) - 1)) || !valB x.val
def badDel (x:Chg):Bool:=((decide (0<x.row.length)||x.column != 0)||decide (x.val≠nulV)) || !valB x.key
def invalidB (ts:List Tab) (x:Chg):Bool:=badHead ts.length x||(if x.kind == 1 then badIns (colsAt ts x.table).length x else if x.kind == 2 then badUpd (colsAt ts x.table).length x else badDel x)
theorem ref07_invalid_head (A:Option Addr) (c m:Nat) (ts:List Tab) (x:Chg) (w:World) (hm:ts.length=m) (hl:m ≤ 1000000) (hb:badHead ts.length x=true) :
 Calls Tryz.prog 67 #[.agg #[.slice A m c, .slice o.vA 0 o.vc, .slice o.iA o.idx.length o.ic, .slice o.sA o.skt.length o.sc, .slice o.cA o.cch.length o.cc, .slice o.rA o.rel.length o.rc, .slice o.tA o.str.length o.tc, .slice o.bA o.bak.length o.bc], .agg #[.int .i64 x.kind, .int .i64 x.seq, .int .i64 x.day, .int .i64 x.table, .slice x.A x.row.length x.cap, .int .i64 x.key.kind, .int .i64 x.key.num, .string x.key.text, .int .i64 x.column, .int .i64 x.val.kind, .int .i64 x.val.num, .string x.val.text]] w fun e w'=>e = .returned (.bool true)∧Below w.heap.size w w':=by
 subst hm
 obtain ⟨kd,sq,dy,tb,A0,cp,row,key,cl,vl⟩:=x
 unfold badHead at hb
 simp only at hb
 cases h1:withinB kd 1 3
 have H1:=qh h1
 clear h1 hb
 rotate_left
 cases h2:withinB sq 1 1073741824
 have H1:=qh h1
 have H2:=qh h2
 clear h1 h2 hb
 rotate_left
 cases h3:withinB dy 0 1048576
 have H1:=qh h1
 have H2:=qh h2
 have H3:=qh h3
 clear h1 h2 h3 hb
 rotate_left
 cases h4:withinB tb 0 ((ts.length:Int) - 1)
 have H1:=qh h1
 have H2:=qh h2
 have H3:=qh h3
 have H4:=qh h4
 clear h1 h2 h3 h4 hb
 rotate_left
 rw [h1,h2,h3,h4] at hb
 cases hb
 all_goals (
  go_enter Tryz.func67,Tryz.ntmps67
  go_wp2_with (go_at_call 102;(first|(with_reducible refine (ref07_within kd 1 3 _ H1.out).mono ?_)|(with_reducible refine (ref07_within sq 1 1073741824 _ H2.out).mono ?_)|(with_reducible refine (ref07_within dy 0 1048576 _ H3.out).mono ?_)|(with_reducible refine (ref07_within tb 0 ((ts.length:Int) - 1) _ H4.out).mono ?_));rintro e w1 ⟨rfl,rfl⟩)
  go_ret
  exact ⟨ret_bool rfl,by exact belA⟩)
theorem Chg.blk {w:World} {g:Nat} {x:Chg} (h:Blk w g 79 x.cells.toArray) :
 (w.cell? ⟨g,0,none⟩=some (.int .i64 x.kind)∧w.cell? ⟨g,1,none⟩=some (.int .i64 x.seq)∧w.cell? ⟨g,2,none⟩=some (.int .i64 x.day)∧w.cell? ⟨g,3,none⟩=some (.int .i64 x.table))∧w.cell? ⟨g,4,none⟩=some (.slice x.A x.row.length x.cap) ∧
 (w.cell? ⟨g,5,none⟩=some (.int .i64 x.key.kind)∧w.cell? ⟨g,6,none⟩=some (.int .i64 x.key.num)∧w.cell? ⟨g,7,none⟩=some (.string x.key.text))∧w.cell? ⟨g,8,none⟩=some (.int .i64 x.column) ∧
 w.cell? ⟨g,9,none⟩=some (.int .i64 x.val.kind)∧w.cell? ⟨g,10,none⟩=some (.int .i64 x.val.num)∧w.cell? ⟨g,11,none⟩=some (.string x.val.text) :=
 ⟨⟨h.cell 0,h.cell 1,h.cell 2,h.cell 3⟩,h.cell 4,⟨h.cell 5,h.cell 6,h.cell 7⟩,h.cell 8,h.cell 9,h.cell 10,h.cell 11⟩
theorem ref07_invalid_ins (A:Option Addr) (c m:Nat) (ts:List Tab) (sq dy:Int) (tn:Nat) (A0:Option Addr) (cp:Nat) (row:List Val) (key:Val) (cl:Int) (vl:Val) (w:World) (ht:TabsIn w w.heap.size A ts) (hm:ts.length=m) (hl:m ≤ 1000000) (htn:tn<ts.length) (hR:SliceIs w w.heap.size Val.cells 3 A0 row) (hrl:row.length ≤ 1000000) (cn:Nat) (hcn:ts[tn].cols.length=cn) (hcl:cn ≤ 1000000) (hh:badHead ts.length ⟨1,sq,dy,tn,A0,cp,row,key,cl,vl⟩=false) {r:Bool} (hr:badIns cn ⟨1,sq,dy,tn,A0,cp,row,key,cl,vl⟩=r) :
 Calls Tryz.prog 67 #[.agg #[.slice A m c, .slice o.vA 0 o.vc, .slice o.iA o.idx.length o.ic, .slice o.sA o.skt.length o.sc, .slice o.cA o.cch.length o.cc, .slice o.rA o.rel.length o.rc, .slice o.tA o.str.length o.tc, .slice o.bA o.bak.length o.bc], .agg #[.int .i64 1, .int .i64 sq, .int .i64 dy, .int .i64 tn, .slice A0 row.length cp, .int .i64 key.kind, .int .i64 key.num, .string key.text, .int .i64 cl, .int .i64 vl.kind, .int .i64 vl.num, .string vl.text]] w fun e w'=>e = .returned (.bool r)∧Below w.heap.size w w':=by
 subst hm
 have hg:Tryz.prog.eqGuardType Tryz.prog.depth 53=false:=by kernel_rfl
 obtain ⟨kd,hkd⟩ : ∃ kd:Int,kd = 1:=⟨_,rfl⟩
 unfold badHead at hh
 simp only [Bool.or_eq_false_iff,Bool.not_eq_false'] at hh
 obtain ⟨⟨⟨h1,h2⟩,h3⟩,h4⟩:=hh
 have h1:withinB kd 1 3=true:=by rw [hkd];rfl
 have H1:=qh h1
 have H2:=qh h2
 have H3:=qh h3
 have H4:=qh h4
 have HR:=qh hR
 obtain ⟨tb5,to5,rfl,htb5,htc⟩:=ht.1.get htn
 obtain ⟨_,t1,_,_⟩:=Tab.cells4 htc
 rw [hcn] at t1
 have T1:=qh t1
 have htn':decide (tn<ts.length)=true:=by simpa using htn
 have hkd':(kd == 1)=true:=by simpa using hkd
 rw [← hkd] at hr ⊢
 clear h1 h2 h3 h4 hR ht htc t1 hkd hcn
 cases hk:decide (key=nulV)
 have heq:=eqlVal_of (x:=key) (y:=nulV) hk
 have HB:Hid (r=true):=qh (by rw [← hr];simp only [badIns,ne_eq,decide_not,hk];rfl)
 clear hk hr
 simp only [nulV] at heq
 rotate_left
 have heq:=eqlVal_of (x:=key) (y:=nulV) hk
 simp only [nulV] at heq
 by_cases hc:cl ≠ 0
 have hc':(cl != 0)=true:=by simpa using hc
 have HB:Hid (r=true):=qh (by rw [← hr];simp only [badIns,ne_eq,decide_not,hk,hc'];rfl)
 clear hk hr hc
 rotate_left
 have hc:=Decidable.not_not.1 hc
 have hc':(cl != 0)=false:=by simp [hc]
 cases hv:decide (vl=nulV)
 have heq2:=eqlVal_of (x:=vl) (y:=nulV) hv
 have HB:Hid (r=true):=qh (by rw [← hr];simp only [badIns,ne_eq,decide_not,hk,hc',hv];rfl)
 clear hk hr hc hv
 simp only [nulV] at heq2
 rotate_left
 have heq2:=eqlVal_of (x:=vl) (y:=nulV) hv
 simp only [nulV] at heq2
 by_cases hn:(row.length:Int)≠(cn:Int)
 have hn':((row.length:Int) != (cn:Int))=true:=bne_iff_ne.2 hn
 have HB:Hid (r=true):=qh (by rw [← hr];simp only [badIns,ne_eq,decide_not,hk,hc',hv,hn'];rfl)
 clear hk hr hc hv hn
 rotate_left
 have hn:=Decidable.not_not.1 hn
 have hn':((row.length:Int) != (cn:Int))=false:=by rw [hn];simp
 cases hrb:rowB row
 have HB:Hid (r=true):=qh (by rw [← hr];simp only [badIns,ne_eq,decide_not,hk,hc',hv,hn',hrb];rfl)
 have HRB:=qh hrb
 clear hk hr hc hv hn hrb
 rotate_left
 have HB:Hid (r=false):=qh (by rw [← hr];simp only [badIns,ne_eq,decide_not,hk,hc',hv,hn',hrb];rfl)
 have HRB:=qh hrb
 clear hk hr hc hv hn hrb
 rotate_left
 all_goals (
  exact lTbl81)
theorem ref07_invalid_upd (A:Option Addr) (c m:Nat) (ts:List Tab) (sq dy:Int) (tn:Nat) (A0:Option Addr) (cp:Nat) (row:List Val) (key:Val) (cl:Int) (vl:Val) (w:World) (ht:TabsIn w w.heap.size A ts) (hm:ts.length=m) (hl:m ≤ 1000000) (htn:tn<ts.length) (hR:SliceIs w w.heap.size Val.cells 3 A0 row) (hrl:row.length ≤ 1000000) (cn:Nat) (hcn:ts[tn].cols.length=cn) (hcl:cn ≤ 1000000) (hh:badHead ts.length ⟨2,sq,dy,tn,A0,cp,row,key,cl,vl⟩=false) {r:Bool} (hr:badUpd cn ⟨2,sq,dy,tn,A0,cp,row,key,cl,vl⟩=r) :
 Calls Tryz.prog 67 #[.agg #[.slice A m c, .slice o.vA 0 o.vc, .slice o.iA o.idx.length o.ic, .slice o.sA o.skt.length o.sc, .slice o.cA o.cch.length o.cc, .slice o.rA o.rel.length o.rc, .slice o.tA o.str.length o.tc, .slice o.bA o.bak.length o.bc], .agg #[.int .i64 2, .int .i64 sq, .int .i64 dy, .int .i64 tn, .slice A0 row.length cp, .int .i64 key.kind, .int .i64 key.num, .string key.text, .int .i64 cl, .int .i64 vl.kind, .int .i64 vl.num, .string vl.text]] w fun e w'=>e = .returned (.bool r)∧Below w.heap.size w w':=by
 subst hm
 have hg:Tryz.prog.eqGuardType Tryz.prog.depth 53=false:=by kernel_rfl
 obtain ⟨kd,hkd⟩ : ∃ kd:Int,kd = 2:=⟨_,rfl⟩
 unfold badHead at hh
 simp only [Bool.or_eq_false_iff,Bool.not_eq_false'] at hh
 obtain ⟨⟨⟨h1,h2⟩,h3⟩,h4⟩:=hh
 have h1:withinB kd 1 3=true:=by rw [hkd];rfl
 have H1:=qh h1
 have H2:=qh h2
 have H3:=qh h3
 have H4:=qh h4
 have HR:=qh hR
 obtain ⟨tb5,to5,rfl,htb5,htc⟩:=ht.1.get htn
 obtain ⟨_,t1,_,_⟩:=Tab.cells4 htc
 rw [hcn] at t1
 have T1:=qh t1
 have htn':decide (tn<ts.length)=true:=by simpa using htn
 have hkd':(kd == 1)=false:=by rw [hkd];rfl
 have hkd2:(kd == 2)=true:=by rw [hkd];rfl
 rw [← hkd] at hr ⊢
 clear h1 h2 h3 h4 hR ht htc t1 hkd hcn
 by_cases hn : 0<row.length
 have hn':decide (0<row.length)=true:=by simpa using hn
 have HB:Hid (r=true):=qh (by rw [← hr];simp only [badUpd,hn'];rfl)
 clear hr hn
 rotate_left
 have hn':decide (0<row.length)=false:=by simpa using hn
 cases hk:valB key
 have HB:Hid (r=true):=qh (by rw [← hr];simp only [badUpd,hn',hk];rfl)
 have HVK:=qh hk
 clear hr hn hk
 rotate_left
 have HVK:=qh hk
 cases h5:withinB cl 0 ((cn:Int) - 1)
 have HB:Hid (r=true):=qh (by rw [← hr];simp only [badUpd,hn',hk,h5];rfl)
 have H5:=qh h5
 clear hr hn hk h5
 rotate_left
 have H5:=qh h5
 cases hv:valB vl
 have HB:Hid (r=true):=qh (by rw [← hr];simp only [badUpd,hn',hk,h5,hv];rfl)
 have HVV:=qh hv
 clear hr hn hk h5 hv
 rotate_left
 have HB:Hid (r=false):=qh (by rw [← hr];simp only [badUpd,hn',hk,h5,hv];rfl)
 have HVV:=qh hv
 clear hr hn hk h5 hv
 rotate_left
 all_goals (
  exact lTbl81)
theorem ref07_invalid_del (A:Option Addr) (c m:Nat) (ts:List Tab) (sq dy:Int) (tn:Nat) (A0:Option Addr) (cp:Nat) (row:List Val) (key:Val) (cl:Int) (vl:Val) (kz:Int) (hkz:kz ≠ 1∧kz ≠ 2) (w:World) (ht:TabsIn w w.heap.size A ts) (hm:ts.length=m) (hl:m ≤ 1000000) (htn:tn<ts.length) (hR:SliceIs w w.heap.size Val.cells 3 A0 row) (hrl:row.length ≤ 1000000) (cn:Nat) (hcn:ts[tn].cols.length=cn) (hcl:cn ≤ 1000000) (hh:badHead ts.length ⟨kz,sq,dy,tn,A0,cp,row,key,cl,vl⟩=false) {r:Bool} (hr:badDel ⟨kz,sq,dy,tn,A0,cp,row,key,cl,vl⟩=r) :
 Calls Tryz.prog 67 #[.agg #[.slice A m c, .slice o.vA 0 o.vc, .slice o.iA o.idx.length o.ic, .slice o.sA o.skt.length o.sc, .slice o.cA o.cch.length o.cc, .slice o.rA o.rel.length o.rc, .slice o.tA o.str.length o.tc, .slice o.bA o.bak.length o.bc], .agg #[.int .i64 kz, .int .i64 sq, .int .i64 dy, .int .i64 tn, .slice A0 row.length cp, .int .i64 key.kind, .int .i64 key.num, .string key.text, .int .i64 cl, .int .i64 vl.kind, .int .i64 vl.num, .string vl.text]] w fun e w'=>e = .returned (.bool r)∧Below w.heap.size w w':=by
 subst hm
 have hg:Tryz.prog.eqGuardType Tryz.prog.depth 53=false:=by kernel_rfl
 obtain ⟨kd,hkd⟩ : ∃ kd:Int,kd=kz:=⟨_,rfl⟩
 unfold badHead at hh
 simp only [Bool.or_eq_false_iff,Bool.not_eq_false'] at hh
 obtain ⟨⟨⟨h1,h2⟩,h3⟩,h4⟩:=hh
 rw [← hkd] at h1 hkz
 have H1:=qh h1
 have H2:=qh h2
 have H3:=qh h3
 have H4:=qh h4
 have HR:=qh hR
 obtain ⟨tb5,to5,rfl,htb5,htc⟩:=ht.1.get htn
 obtain ⟨_,t1,_,_⟩:=Tab.cells4 htc
 rw [hcn] at t1
 have T1:=qh t1
 have htn':decide (tn<ts.length)=true:=by simpa using htn
 have hkd':(kd == 1)=false:=by rw [beq_eq_false_iff_ne];exact hkz.1
 have hkd2:(kd == 2)=false:=by rw [beq_eq_false_iff_ne];exact hkz.2
 rw [← hkd] at hr ⊢
 clear h1 h2 h3 h4 hR ht htc t1 hkd hcn
 by_cases hn : 0<row.length
 have hn':decide (0<row.length)=true:=by simpa using hn
 have HB:Hid (r=true):=qh (by rw [← hr];simp only [badDel,hn'];rfl)
 clear hr hn
 rotate_left
 have hn':decide (0<row.length)=false:=by simpa using hn
 by_cases hc:cl ≠ 0
 have hc':(cl != 0)=true:=by simpa using hc
 have HB:Hid (r=true):=qh (by rw [← hr];simp only [badDel,hn',hc'];rfl)
 clear hr hn hc
 rotate_left
 have hc:=Decidable.not_not.1 hc
 have hc':(cl != 0)=false:=by simp [hc]
 cases hv:decide (vl=nulV)
 have heq2:=eqlVal_of (x:=vl) (y:=nulV) hv
 have HB:Hid (r=true):=qh (by rw [← hr];simp only [badDel,ne_eq,decide_not,hn',hc',hv];rfl)
 clear hr hn hc hv
 simp only [nulV] at heq2
 rotate_left
 have heq2:=eqlVal_of (x:=vl) (y:=nulV) hv
 simp only [nulV] at heq2
 cases hk:valB key
 have HB:Hid (r=true):=qh (by rw [← hr];simp only [badDel,ne_eq,decide_not,hn',hc',hv,hk];rfl)
 have HVK:=qh hk
 clear hr hn hc hv hk
 rotate_left
 have HB:Hid (r=false):=qh (by rw [← hr];simp only [badDel,ne_eq,decide_not,hn',hc',hv,hk];rfl)
 have HVK:=qh hk
 clear hr hn hc hv hk
 rotate_left
 all_goals (
  exact lTbl81)
theorem within_nat {x:Int} {n:Nat} (h:withinB x 0 ((n:Int) - 1)=true) : ∃ k:Nat,x=(k:Int)∧k<n:=by
 simp only [withinB,Bool.and_eq_true,decide_eq_true_eq] at h
 exact ⟨x.toNat,by omega,by omega⟩
theorem ref07_invalid (A:Option Addr) (c m:Nat) (ts:List Tab) (x:Chg) (w:World) (ht:TabsIn w w.heap.size A ts) (hm:ts.length=m) (hl:SaneCat ts) (hR:SliceIs w w.heap.size Val.cells 3 x.A x.row) (hrl:x.row.length ≤ 1000000) {r:Bool} (hr:invalidB ts x=r) :
 Calls Tryz.prog 67 #[.agg #[.slice A m c, .slice o.vA 0 o.vc, .slice o.iA o.idx.length o.ic, .slice o.sA o.skt.length o.sc, .slice o.cA o.cch.length o.cc, .slice o.rA o.rel.length o.rc, .slice o.tA o.str.length o.tc, .slice o.bA o.bak.length o.bc], .agg #[.int .i64 x.kind, .int .i64 x.seq, .int .i64 x.day, .int .i64 x.table, .slice x.A x.row.length x.cap, .int .i64 x.key.kind, .int .i64 x.key.num, .string x.key.text, .int .i64 x.column, .int .i64 x.val.kind, .int .i64 x.val.num, .string x.val.text]] w fun e w'=>e = .returned (.bool r)∧Below w.heap.size w w':=by
 subst hr
 cases hh:badHead ts.length x
 ·have hw:withinB x.table 0 ((ts.length:Int) - 1)=true:=by
   unfold badHead at hh
   simp only [Bool.or_eq_false_iff,Bool.not_eq_false'] at hh
   exact hh.2
  obtain ⟨k,hk,hkl⟩:=within_nat hw
  obtain ⟨kd,sq,dy,tb,A0,cp,row,key,cl,vl⟩:=x
  simp only at hk hR hrl
  subst hk
  have hcl:=(hl.tabs ts[k] (lgm hkl)).len
  have hce:(colsAt ts (k:Int))=ts[k].cols:=by
   unfold colsAt
   rw [Int.toNat_natCast,List.getElem?_eq_getElem hkl]
  have hml:=hl.len
  by_cases h1:kd = 1
  ·subst h1
   have he:invalidB ts ⟨1,sq,dy,k,A0,cp,row,key,cl,vl⟩=badIns ts[k].cols.length ⟨1,sq,dy,k,A0,cp,row,key,cl,vl⟩:=by
    unfold invalidB
    rw [hh,hce]
    rfl
   rw [he]
   exact ref07_invalid_ins A c m ts sq dy k A0 cp row key cl vl w ht hm omA hkl hR hrl _ rfl hcl hh rfl
  ·by_cases h2:kd = 2
   ·subst h2
    have he:invalidB ts ⟨2,sq,dy,k,A0,cp,row,key,cl,vl⟩=badUpd ts[k].cols.length ⟨2,sq,dy,k,A0,cp,row,key,cl,vl⟩:=by
     unfold invalidB
     rw [hh,hce]
     rfl
    rw [he]
    exact ref07_invalid_upd A c m ts sq dy k A0 cp row key cl vl w ht hm omA hkl hR hrl _ rfl hcl hh rfl
   ·have he:invalidB ts ⟨kd,sq,dy,k,A0,cp,row,key,cl,vl⟩=badDel ⟨kd,sq,dy,k,A0,cp,row,key,cl,vl⟩:=by
     have e1:(kd == 1)=false:=by rw [beq_eq_false_iff_ne];exact h1
     have e2:(kd == 2)=false:=by rw [beq_eq_false_iff_ne];exact h2
     unfold invalidB
     simp only [hh,e1,e2]
     rfl
    rw [he]
    exact ref07_invalid_del A c m ts sq dy k A0 cp row key cl vl kd ⟨h1,h2⟩ w ht hm omA hkl hR hrl _ rfl hcl hh rfl
 ·have he:invalidB ts x=true:=by unfold invalidB;rw [hh];rfl
  rw [he]
  have hml:=hl.len
  exact ref07_invalid_head A c m ts x w hm omA hh
theorem ref07_New0 (A:Option Addr) (c m:Nat) (ts:List Tab) (w:World) (ht:TabsIn w w.heap.size A ts) (hm:ts.length=m) (hs:SaneCat ts) (hok:CatOk ts) :
 Calls Tryz.prog 30 #[.agg #[.slice A m c, .slice none 0 0, .slice none 0 0, .slice none 0 0, .slice none 0 0, .slice none 0 0, .slice none 0 0, .slice none 0 0]] w fun e w'=>(∃ q,e = .returned (.slice (some ⟨q,0,none⟩) m m)∧w.heap.size≤q∧RTabsIn w' w'.heap.size (some ⟨q,0,none⟩) (List.replicate m zeroT))∧Below w.heap.size w w' :=
 ref07_New (o:=Oth.nil) A c m ts w ht hm hs hok (CatG.nil ht hs hok)
variable {o:Oth}
def recsAt (rt:List RTab) (k:Int):List Rcd:=match rt[k.toNat]? with
 | some t=>t.recs
 | none => []
def leadsB (ts:List Tab) (rt:List RTab) (x:Col) (v:Val):Bool:=(x.refs.toList.isEmpty||v.kind == 0)||decide (0≤findK (recsAt rt (findI (ts.map Tab.name) x.refs ts.length)) v)
theorem ref07_leads (A:Option Addr) (c m:Nat) (ts:List Tab) (RA:Option Addr) (rc n:Nat) (rt:List RTab) (i:Nat) (xn:ByteArray) (xt:Int) (xs xr:ByteArray) (xA:Option Addr) (xc:Nat) (xo:List Int) (xj xd:Int) (v:Val) (w:World)
 (ht:TabsIn w w.heap.size A ts) (hm:ts.length=m) (hs:SaneCat ts) (hok:CatOk ts) (hcg:CatG w w.heap.size A c ts o) (hr:RTabsIn w w.heap.size RA rt) (hn:rt.length=n) (hsr:SaneR rt) (hlen:rt.length=ts.length) (hi:i<ts.length) (hx:(⟨xn,xt,xs,xr,xA,xc,xo,xj,xd⟩:Col)∈ts[i].cols) {r:Bool} (hres:leadsB ts rt ⟨xn,xt,xs,xr,xA,xc,xo,xj,xd⟩ v=r) :
 Calls Tryz.prog 145 #[.agg #[.slice A m c, .slice o.vA 0 o.vc, .slice o.iA o.idx.length o.ic, .slice o.sA o.skt.length o.sc, .slice o.cA o.cch.length o.cc, .slice o.rA o.rel.length o.rc, .slice o.tA o.str.length o.tc, .slice o.bA o.bak.length o.bc], .slice RA n rc, .agg #[.string xn, .int .i64 xt, .string xs, .string xr, .slice xA xo.length xc, .int .i64 xj, .int .i64 xd], .agg #[.int .i64 v.kind, .int .i64 v.num, .string v.text]] w fun e w'=>e = .returned (.bool r)∧Below w.heap.size w w':=by
 subst hm hn
 by_cases he:xr=⟨#[]⟩
 ·have he':=empT he
  have HB:Hid (r=true):=qh (by rw [← hres];simp only [leadsB,he'];rfl)
  clear hx hres he ht hr
  go_enter Tryz.func145,Tryz.ntmps145
  go_upto_region 1 with (fail)
  refine abs_world (P:=fun u=>Code.wp _ _ _ _ u) (R:=fun u=>Blk u w.heap.size 34 #[.slice A ts.length c, .slice o.vA 0 o.vc, .slice o.iA o.idx.length o.ic, .slice o.sA o.skt.length o.sc, .slice o.cA o.cch.length o.cc, .slice o.rA o.rel.length o.rc, .slice o.tA o.str.length o.tc, .slice o.bA o.bak.length o.bc]∧Blk u (w.heap.size + 1) 73 #[.string xn, .int .i64 xt, .string xs, .string xr, .slice xA xo.length xc, .int .i64 xj, .int .i64 xd]∧Blk u (w.heap.size + 2) 53 #[.int .i64 v.kind, .int .i64 v.num, .string v.text]∧Below w.heap.size w u) ⟨?_,?_,?_,?_⟩ ?_
  ·exact ((Blk.new _ _ _).alloc _).alloc _
  ·exact (Blk.new' spA).alloc _
  ·exact Blk.new' spA
  ·exact belA
  rintro W ⟨hC,hX,hV,hbW⟩
  obtain ⟨p0,p1,p2,p3,p4,p5,p6,p7⟩:=Cat.blkO hC
  obtain ⟨x0,x1,x2,x3,x4,x5,x6⟩:=Col.blk hX
  have v0:=hV.cell 0
  have v1:=hV.cell 1
  have v2:=hV.cell 2
  simp only [gE3] at v0 v1 v2
  have hzW:=hV.lt
  have hk0:=keepQ (w:=W) w.heap.size omA
  have hk1:=keepQ (w:=W) (w.heap.size + 1) omA
  have hk2:=keepQ (w:=W) (w.heap.size + 2) omA
  clear hC hX hV
  refine wp_region_bel krA krA ?_;(repeat (go_big_quiet_step (fail)));refine wpQuiet_nil ?_;intro wq hq
  clear hk0 hk1 hk2 p0 p1 p2 p3 p4 p5 p6 p7 x0 x1 x2 x3 x4 x5 x6 v0 v1 v2
  go_wp2_with fail
  go_ret
  exact ⟨ret_bool HB.out.symm,below_nextN hbW hq hbW.size⟩
 have he':=empF he
 by_cases hv:v.kind = 0
 ·have hv':(v.kind == 0)=true:=by simpa using hv
  have HB:Hid (r=true):=qh (by rw [← hres];simp only [leadsB,he',hv'];rfl)
  clear hx hres he ht hr hv
  go_enter Tryz.func145,Tryz.ntmps145
  go_upto_region 1 with (fail)
  refine abs_world (P:=fun u=>Code.wp _ _ _ _ u) (R:=fun u=>Blk u w.heap.size 34 #[.slice A ts.length c, .slice o.vA 0 o.vc, .slice o.iA o.idx.length o.ic, .slice o.sA o.skt.length o.sc, .slice o.cA o.cch.length o.cc, .slice o.rA o.rel.length o.rc, .slice o.tA o.str.length o.tc, .slice o.bA o.bak.length o.bc]∧Blk u (w.heap.size + 1) 73 #[.string xn, .int .i64 xt, .string xs, .string xr, .slice xA xo.length xc, .int .i64 xj, .int .i64 xd]∧Blk u (w.heap.size + 2) 53 #[.int .i64 v.kind, .int .i64 v.num, .string v.text]∧Below w.heap.size w u) ⟨?_,?_,?_,?_⟩ ?_
  ·exact ((Blk.new _ _ _).alloc _).alloc _
  ·exact (Blk.new' spA).alloc _
  ·exact Blk.new' spA
  ·exact belA
  rintro W ⟨hC,hX,hV,hbW⟩
  obtain ⟨p0,p1,p2,p3,p4,p5,p6,p7⟩:=Cat.blkO hC
  obtain ⟨x0,x1,x2,x3,x4,x5,x6⟩:=Col.blk hX
  have v0:=hV.cell 0
  have v1:=hV.cell 1
  have v2:=hV.cell 2
  simp only [gE3] at v0 v1 v2
  have hzW:=hV.lt
  have hk0:=keepQ (w:=W) w.heap.size omA
  have hk1:=keepQ (w:=W) (w.heap.size + 1) omA
  have hk2:=keepQ (w:=W) (w.heap.size + 2) omA
  clear hC hX hV
  refine wp_region_bel krA krA ?_;(repeat (go_big_quiet_step (fail)));refine wpQuiet_nil ?_;intro wq hq
  clear hk0 hk1 hk2 p0 p1 p2 p3 p4 p5 p6 p7 x0 x1 x2 x3 x4 x5 x6 v0 v1 v2
  go_wp2_with fail
  go_ret
  exact ⟨ret_bool HB.out.symm,below_nextN hbW hq hbW.size⟩
 have hv':(v.kind == 0)=false:=by simpa using hv
 obtain ⟨k,hk,hki,hname,_⟩:=hok.ref hi hx he
 have hfi:findI (ts.map Tab.name) xr ts.length=(k:Int):=by
  have h:=hok.find hk
  have hname:ts[k].name=xr:=hname
  rwa [hname] at h
 have hkr:k<rt.length:=by omega
 obtain ⟨rb,ro,rfl,hrb,hrc⟩:=hr.1.get hkr
 have c0:=hrc 0 _ rfl
 have hrecs:=hr.2 rt[k] (lgm hkr)
 have hrow:=hsr.row rt[k] (lgm hkr)
 have hrln:=hsr.recs rt[k] (lgm hkr)
 have hra:recsAt rt (k:Int)=rt[k].recs:=by
  unfold recsAt
  rw [Int.toNat_natCast,List.getElem?_eq_getElem hkr]
 obtain ⟨z,hz⟩ : ∃ z,findK rt[k].recs v=z:=⟨_,rfl⟩
 have HB:Hid (r=decide (0≤z)):=qh (by
  rw [← hres,← hz,← hra,← hfi]
  simp only [leadsB,he',hv',Bool.false_or])
 have hln:=hsr.len
 obtain ⟨⟨TA,tc,recs⟩,hy⟩ : ∃ x:RTab,rt[k]=x:=⟨_,rfl⟩
 rw [hy] at c0 hrecs hrow hrln hz
 simp only [Nat.mul_one,Nat.add_zero] at c0 hrecs hrow hrln hz
 have HT:=qh ht
 have HS:=qh hs
 have HOK:=qh hok
 have HCG:=qh hcg
 have HFI:=qh hfi
 have HRE:=qh hrecs
 have HRO:=qh hrow
 have HZ:=qh hz
 have hkr':decide (k<rt.length)=true:=by simpa using hkr
 clear hx hres he ht hr hv hs hok hcg hfi hrecs hrow hz hra hrc hname hy hlen hsr
 cases hzz:decide (0≤z)
 ·have HZZ:=qh hzz
  go_enter Tryz.func145,Tryz.ntmps145
  go_upto_region 1 with (fail)
  refine abs_world (P:=fun u=>Code.wp _ _ _ _ u) (R:=fun u=>Blk u w.heap.size 34 #[.slice A ts.length c, .slice o.vA 0 o.vc, .slice o.iA o.idx.length o.ic, .slice o.sA o.skt.length o.sc, .slice o.cA o.cch.length o.cc, .slice o.rA o.rel.length o.rc, .slice o.tA o.str.length o.tc, .slice o.bA o.bak.length o.bc]∧Blk u (w.heap.size + 1) 73 #[.string xn, .int .i64 xt, .string xs, .string xr, .slice xA xo.length xc, .int .i64 xj, .int .i64 xd]∧Blk u (w.heap.size + 2) 53 #[.int .i64 v.kind, .int .i64 v.num, .string v.text]∧Below w.heap.size w u) ⟨?_,?_,?_,?_⟩ ?_
  ·exact ((Blk.new _ _ _).alloc _).alloc _
  ·exact (Blk.new' spA).alloc _
  ·exact Blk.new' spA
  ·exact belA
  rintro W ⟨hC,hX,hV,hbW⟩
  obtain ⟨p0,p1,p2,p3,p4,p5,p6,p7⟩:=Cat.blkO hC
  obtain ⟨x0,x1,x2,x3,x4,x5,x6⟩:=Col.blk hX
  have v0:=hV.cell 0
  have v1:=hV.cell 1
  have v2:=hV.cell 2
  simp only [gE3] at v0 v1 v2
  have hzW:=hV.lt
  have hk0:=keepQ (w:=W) w.heap.size omA
  have hk1:=keepQ (w:=W) (w.heap.size + 1) omA
  have hk2:=keepQ (w:=W) (w.heap.size + 2) omA
  clear hC hX hV
  have c0:=(hbW.cell (p:=⟨rb,_,none⟩) hrb).trans c0
  have hk3:=keepQ (w:=W) rb omA
  refine wp_region_bel krA krA ?_;(repeat (go_big_quiet_step ((first
   | (go_at_call 97;with_reducible exact bel_of (ref04_FindO A c ts.length ts xr _ (HT.out.next (below_nextN hbW (BelOf.h _) hbW.size)) rfl HS.out (HCG.out.next (below_nextN hbW (BelOf.h _) hbW.size)) HFI.out))
   | (go_at_call 72;with_reducible exact bel_of (ref07_Find TA tc recs.length recs v _ (HRE.out.next (below_nextN hbW (BelOf.h _) hbW.size)) rfl hrln HRO.out HZ.out))))));refine wpQuiet_nil ?_;intro wq hq
  clear hk0 hk1 hk2 hk3 p0 p1 p2 p3 p4 p5 p6 p7 x0 x1 x2 x3 x4 x5 x6 v0 v1 v2 c0
  go_wp2_with fail
  go_ret
  exact ⟨ret_bool (by rw [HB.out,HZZ.out]),below_nextN hbW hq hbW.size⟩
 ·have HZZ:=qh hzz
  go_enter Tryz.func145,Tryz.ntmps145
  go_upto_region 1 with (fail)
  refine abs_world (P:=fun u=>Code.wp _ _ _ _ u) (R:=fun u=>Blk u w.heap.size 34 #[.slice A ts.length c, .slice o.vA 0 o.vc, .slice o.iA o.idx.length o.ic, .slice o.sA o.skt.length o.sc, .slice o.cA o.cch.length o.cc, .slice o.rA o.rel.length o.rc, .slice o.tA o.str.length o.tc, .slice o.bA o.bak.length o.bc]∧Blk u (w.heap.size + 1) 73 #[.string xn, .int .i64 xt, .string xs, .string xr, .slice xA xo.length xc, .int .i64 xj, .int .i64 xd]∧Blk u (w.heap.size + 2) 53 #[.int .i64 v.kind, .int .i64 v.num, .string v.text]∧Below w.heap.size w u) ⟨?_,?_,?_,?_⟩ ?_
  ·exact ((Blk.new _ _ _).alloc _).alloc _
  ·exact (Blk.new' spA).alloc _
  ·exact Blk.new' spA
  ·exact belA
  rintro W ⟨hC,hX,hV,hbW⟩
  obtain ⟨p0,p1,p2,p3,p4,p5,p6,p7⟩:=Cat.blkO hC
  obtain ⟨x0,x1,x2,x3,x4,x5,x6⟩:=Col.blk hX
  have v0:=hV.cell 0
  have v1:=hV.cell 1
  have v2:=hV.cell 2
  simp only [gE3] at v0 v1 v2
  have hzW:=hV.lt
  have hk0:=keepQ (w:=W) w.heap.size omA
  have hk1:=keepQ (w:=W) (w.heap.size + 1) omA
  have hk2:=keepQ (w:=W) (w.heap.size + 2) omA
  clear hC hX hV
  have c0:=(hbW.cell (p:=⟨rb,_,none⟩) hrb).trans c0
  have hk3:=keepQ (w:=W) rb omA
  refine wp_region_bel krA krA ?_;(repeat (go_big_quiet_step ((first
   | (go_at_call 97;with_reducible exact bel_of (ref04_FindO A c ts.length ts xr _ (HT.out.next (below_nextN hbW (BelOf.h _) hbW.size)) rfl HS.out (HCG.out.next (below_nextN hbW (BelOf.h _) hbW.size)) HFI.out))
   | (go_at_call 72;with_reducible exact bel_of (ref07_Find TA tc recs.length recs v _ (HRE.out.next (below_nextN hbW (BelOf.h _) hbW.size)) rfl hrln HRO.out HZ.out))))));refine wpQuiet_nil ?_;intro wq hq
  clear hk0 hk1 hk2 hk3 p0 p1 p2 p3 p4 p5 p6 p7 x0 x1 x2 x3 x4 x5 x6 v0 v1 v2 c0
  go_wp2_with fail
  go_ret
  exact ⟨ret_bool (by rw [HB.out,HZZ.out]),below_nextN hbW hq hbW.size⟩
variable {o:Oth}
def RowTyped (cols:List Col) (row:List Val):Prop := ∀ i (h:i<row.length) (k:i<cols.length),typedB row[i] cols[i].ty=true
def badTyp (cols:List Col) (x:Chg):Bool := !typedB (keyOf x) (tyAt cols 0)||(x.kind == 2 && !typedB x.val (tyAt cols x.column))
noncomputable def formE (ts:List Tab) (x:Chg):Int :=
 if invalidB ts x=true then 1 else if ((keyOf x).kind == 0)=true then 6 else if pb (RowTyped (colsAt ts x.table) x.row)=false then 5
 else if badTyp (colsAt ts x.table) x=true then 5 else if (x.kind == 2&&pb (FixedCol (colsAt ts x.table) x.column))=true then 11 else 0
structure InForm (ts:List Tab) (x:Chg) (k:Nat):Prop where
 tab:x.table=(k:Int)
 lt:k<ts.length
 kind:x.kind = 1∨x.kind = 2∨x.kind = 3
 ins:x.kind = 1→x.row.length=(colsAt ts (k:Int)).length
 rest:x.kind ≠ 1→x.row.length = 0
 upd:x.kind = 2 → ∃ j:Nat,x.column=(j:Int)∧j<(colsAt ts (k:Int)).length
 seq:withinB x.seq 1 1073741824=true
theorem inForm {ts:List Tab} {x:Chg} (h:invalidB ts x=false) : ∃ k,InForm ts x k:=by
 unfold invalidB at h
 rw [Bool.or_eq_false_iff] at h
 obtain ⟨hh,hb⟩:=h
 unfold badHead at hh
 simp only [Bool.or_eq_false_iff,Bool.not_eq_false'] at hh
 obtain ⟨⟨⟨h1,hsq⟩,_⟩,h4⟩:=hh
 obtain ⟨k,hk,hkl⟩:=within_nat h4
 have hkd:x.kind = 1∨x.kind = 2∨x.kind = 3:=by
  simp only [withinB,Bool.and_eq_true,decide_eq_true_eq] at h1
  omega
 rw [hk] at hb
 refine ⟨k,hk,hkl,hkd,fun h => ?_,fun h => ?_,fun h => ?_,hsq⟩
 ·have e1:(x.kind == 1)=true:=by simpa using h
  rw [e1,if_pos rfl] at hb
  unfold badIns at hb
  simp only [Bool.or_eq_false_iff] at hb
  have:=hb.1.2
  have:((x.row.length:Int)=((colsAt ts (k:Int)).length:Int)):=by simpa using this
  omega
 ·have e1:(x.kind == 1)=false:=by simpa using h
  rw [e1,if_neg (by decide)] at hb
  have:decide (0<x.row.length)=false:=by
   split at hb
   ·unfold badUpd at hb
    simp only [Bool.or_eq_false_iff] at hb
    exact hb.1.1.1
   ·unfold badDel at hb
    simp only [Bool.or_eq_false_iff] at hb
    exact hb.1.1.1
  have:=of_decide_eq_false this
  omega
 ·have e1:(x.kind == 1)=false:=by rw [h];rfl
  have e2:(x.kind == 2)=true:=by rw [h];rfl
  rw [e1,if_neg (by decide),e2,if_pos rfl] at hb
  unfold badUpd at hb
  simp only [Bool.or_eq_false_iff,Bool.not_eq_false'] at hb
  exact within_nat hb.1.2
theorem colsAt_get {ts:List Tab} {k:Nat} (h:k<ts.length):colsAt ts (k:Int)=ts[k].cols:=by
 unfold colsAt
 rw [Int.toNat_natCast,List.getElem?_eq_getElem h]
theorem tyAt_get {cols:List Col} {k:Nat} (h:k<cols.length):tyAt cols (k:Int)=cols[k].ty:=by
 unfold tyAt
 rw [Int.toNat_natCast,List.getElem?_eq_getElem h]
theorem ref07_Form (A:Option Addr) (c m:Nat) (ts:List Tab) (kd sq dy tb:Int) (A0:Option Addr) (cp:Nat) (row:List Val) (key:Val) (cl:Int) (vl:Val) (w:World) (ht:TabsIn w w.heap.size A ts) (hm:ts.length=m) (hs:SaneCat ts) (hok:CatOk ts) (hcg:CatG w w.heap.size A c ts o) (hR:SliceIs w w.heap.size Val.cells 3 A0 row) (hrl:row.length ≤ 1000000) {r:Int} (hr:formE ts ⟨kd,sq,dy,tb,A0,cp,row,key,cl,vl⟩=r) :
 Calls Tryz.prog 33 #[.agg #[.slice A m c, .slice o.vA 0 o.vc, .slice o.iA o.idx.length o.ic, .slice o.sA o.skt.length o.sc, .slice o.cA o.cch.length o.cc, .slice o.rA o.rel.length o.rc, .slice o.tA o.str.length o.tc, .slice o.bA o.bak.length o.bc], .agg #[.int .i64 kd, .int .i64 sq, .int .i64 dy, .int .i64 tb, .slice A0 row.length cp, .int .i64 key.kind, .int .i64 key.num, .string key.text, .int .i64 cl, .int .i64 vl.kind, .int .i64 vl.num, .string vl.text]] w fun e w'=>e = .returned (.int .i64 r)∧Below w.heap.size w w':=by
 subst hm
 have HT:=qh ht
 have HS:=qh hs
 have HOK:=qh hok
 have HCG:=qh hcg
 have HR:=qh hR
 clear ht hs hok hcg hR
 have hstart:(∀ u:World,Blk u w.heap.size 34 #[.slice A ts.length c, .slice o.vA 0 o.vc, .slice o.iA o.idx.length o.ic, .slice o.sA o.skt.length o.sc, .slice o.cA o.cch.length o.cc, .slice o.rA o.rel.length o.rc, .slice o.tA o.str.length o.tc, .slice o.bA o.bak.length o.bc]∧Blk u (w.heap.size + 1) 79 (Chg.cells ⟨kd,sq,dy,tb,A0,cp,row,key,cl,vl⟩).toArray∧Below w.heap.size w u→True):=fun _ _=>trivial
 clear hstart
 obtain ⟨ri,hri⟩ : ∃ ri,invalidB ts ⟨kd,sq,dy,tb,A0,cp,row,key,cl,vl⟩=ri:=⟨_,rfl⟩
 have HI:=qh hri
 go_enter Tryz.func33,Tryz.ntmps33
 go_upto_region 1 with (fail)
 refine abs_world (P:=fun u=>Code.wp _ _ _ _ u) (R:=fun u=>Blk u w.heap.size 34 #[.slice A ts.length c, .slice o.vA 0 o.vc, .slice o.iA o.idx.length o.ic, .slice o.sA o.skt.length o.sc, .slice o.cA o.cch.length o.cc, .slice o.rA o.rel.length o.rc, .slice o.tA o.str.length o.tc, .slice o.bA o.bak.length o.bc]∧Blk u (w.heap.size + 1) 79 (Chg.cells ⟨kd,sq,dy,tb,A0,cp,row,key,cl,vl⟩).toArray∧Below w.heap.size w u) ⟨?_,?_,?_⟩ ?_
 ·exact (Blk.new _ _ _).alloc _
 ·exact Blk.new' spA
 ·exact belA
 rintro W ⟨hC,hX,hbW⟩
 have hzW:=hX.lt
 have HC:=qh hC
 have HX:=qh hX
 obtain ⟨p0,p1,p2,p3,p4,p5,p6,p7⟩:=Cat.blkO hC
 obtain ⟨⟨q0,q1,q2,q3⟩,q4,⟨q5,q6,q7⟩,q8,q9,q10,q11⟩:=Chg.blk hX
 simp only at q0 q1 q2 q3 q4 q5 q6 q7 q8 q9 q10 q11
 clear hC hX hri
 go_wp2_with fail
 (with_reducible refine (ref07_invalid A c ts.length ts ⟨kd,sq,dy,tb,A0,cp,row,key,cl,vl⟩ _ (HT.out.next hbW) rfl HS.out (HR.out.next hbW) hrl HI.out).mono ?_)
 rintro e w1 ⟨rfl,hb1⟩
 have hx1:=below_nextN hbW hb1 hbW.size
 have hz1:=hb1.size
 have hC1:=HC.out.below hb1 omA
 have hX1:=HX.out.below hb1 hzW
 clear p0 p1 p2 p3 p4 p5 p6 p7 q0 q1 q2 q3 q4 q5 q6 q7 q8 q9 q10 q11
 cases ri
 ·obtain ⟨k,hin⟩:=inForm HI.out
  obtain ⟨hk1,hk2,hk3,hk4,hk5,hk6⟩:=hin
  simp only at hk1 hk3 hk4 hk5 hk6
  subst hk1
  have hcol:=HOK.out.cols hk2
  rw [colsAt_get hk2] at hk4 hk6
  have hk5' : 0<row.length→kd = 1:=fun h=>by
   rcases Decidable.em (kd = 1) with h1|h1
   ·exact h1
   ·have:=hk5 h1
    omega
  have hkpos:kd = 1 → 0<row.length:=fun h=>by have:=hk4 h;omega
  have HC1:=qh hC1
  have HX1:=qh hX1
  obtain ⟨p0,p1,p2,p3,p4,p5,p6,p7⟩:=Cat.blkO hC1
  obtain ⟨⟨q0,q1,q2,q3⟩,q4,⟨q5,q6,q7⟩,q8,q9,q10,q11⟩:=Chg.blk hX1
  simp only at q0 q1 q2 q3 q4 q5 q6 q7 q8 q9 q10 q11
  clear hC1 hX1
  obtain ⟨kv,hkv⟩ : ∃ kv,keyOf ⟨kd,sq,dy,(k:Int),A0,cp,row,key,cl,vl⟩=kv:=⟨_,rfl⟩
  have HKV:=qh hkv
  clear hkv
  have H4:=qh hk4
  have H5:=qh hk5'
  have H6:=qh hk6
  have HP:=qh hkpos
  have HR1:=qh (HR.out.next hx1)
  clear hk4 hk5 hk6 hk5' hkpos
  go_wp2_with fail
  (with_reducible refine (ref07_key ⟨kd,sq,dy,(k:Int),A0,cp,row,key,cl,vl⟩ _ HR1.out hrl HP.out HKV.out).mono ?_)
  rintro e w2 ⟨rfl,hb2⟩
  have hx2:=below_nextN hx1 hb2 hx1.size
  have hz2:=hb2.size
  have hC2:=HC1.out.below hb2 omA
  have hX2:=HX1.out.below hb2 omA
  have HC2:=qh hC2
  have HX2:=qh hX2
  clear p0 p1 p2 p3 p4 p5 p6 p7 q0 q1 q2 q3 q4 q5 q6 q7 q8 q9 q10 q11
  obtain ⟨p0,p1,p2,p3,p4,p5,p6,p7⟩:=Cat.blkO hC2
  obtain ⟨⟨q0,q1,q2,q3⟩,q4,⟨q5,q6,q7⟩,q8,q9,q10,q11⟩:=Chg.blk hX2
  simp only at q0 q1 q2 q3 q4 q5 q6 q7 q8 q9 q10 q11
  clear hC2 hX2
  have hfd : ∀ u:World,(Instr.field 53 (.agg #[.int .i64 kv.kind, .int .i64 kv.num, .string kv.text]) 0).run Tryz.prog u = .ok (.int .i64 kv.kind) u:=fun _=>by kernel_rfl
  by_cases h0:kv.kind = 0
  ·have h0':(kv.kind == 0)=true:=by simpa using h0
   have HRES:Hid (r = 6):=qh (by rw [← hr,formE,if_neg (by rw [HI.out];decide),if_pos (by rw [HKV.out];exact h0')])
   clear h0
   go_wp2_with fail
   go_ret
   exact ⟨ret_int (a := 6) HRES.out.symm,hx2⟩
  ·have h0':(kv.kind == 0)=false:=by simpa using h0
   have hrest:r=(if pb (RowTyped ts[k].cols row)=false then 5 else if badTyp ts[k].cols ⟨kd,sq,dy,(k:Int),A0,cp,row,key,cl,vl⟩=true then 5 else if (kd == 2&&pb (FixedCol ts[k].cols cl))=true then 11 else 0):=by
    rw [← hr,formE,if_neg (by rw [HI.out];decide),if_neg (by rw [HKV.out,h0'];decide),colsAt_get hk2]
   have HREST:=qh hrest
   clear h0 hrest hr
   obtain ⟨tb5,to5,rfl,htb5,htc⟩:=(HT.out.1).get hk2
   obtain ⟨t0,t1,t2,t3⟩:=Tab.cells4 htc
   have hcols:=HT.out.2 ts[k] (lgm hk2)
   obtain ⟨cols,hcs⟩ : ∃ l,ts[k].cols=l:=⟨_,rfl⟩
   have HCS:=qh hcs
   obtain ⟨CA,hCA⟩ : ∃ a,ts[k].A=a:=⟨_,rfl⟩
   obtain ⟨cc,hcc⟩ : ∃ a,ts[k].cap=a:=⟨_,rfl⟩
   obtain ⟨tnm,htnm⟩ : ∃ a,ts[k].name=a:=⟨_,rfl⟩
   obtain ⟨ter,hter⟩ : ∃ a,ts[k].erase=a:=⟨_,rfl⟩
   obtain ⟨trt,htrt⟩ : ∃ a,ts[k].retain=a:=⟨_,rfl⟩
   rw [hcs] at hcol hcols t1
   rw [hCA] at hcols t1
   rw [hcc] at t1
   rw [htnm] at t0
   rw [hter] at t2
   rw [htrt] at t3
   have h4:=H4.out
   have h6:=H6.out
   have hrest:=HREST.out
   rw [hcs] at h4 h6 hrest
   clear H4 H6 HREST
   have H4:=qh h4
   have H6:=qh h6
   have HREST:=qh hrest
   clear h4 h6 hrest
   have t0:=(hx2.cell (p:=⟨tb5,_,none⟩) htb5).trans t0
   have t1:=(hx2.cell (p:=⟨tb5,_,none⟩) htb5).trans t1
   have t2:=(hx2.cell (p:=⟨tb5,_,none⟩) htb5).trans t2
   have t3:=(hx2.cell (p:=⟨tb5,_,none⟩) htb5).trans t3
   have HCO:=qh (hcols.1.below hx2)
   have hk2':decide (k<ts.length)=true:=by simpa using hk2
   clear htc hcols hcs hCA hcc htnm hter htrt
   go_upto_region 6 with (fail)
   refine abs_world (P:=fun u=>Code.wp _ _ _ _ u) (R:=fun u=>Blk u w2.heap.size 71 #[.string tnm, .slice CA cols.length cc, .int .i64 ter, .int .i64 trt]∧Below w2.heap.size w2 u) ⟨?_,?_⟩ ?_
   ·exact Blk.new' rfl
   ·exact belA
   rintro V ⟨hTB,hbV⟩
   have hxV:=below_nextN hx2 hbV hx2.size
   have hzV:=hTB.lt
   have HTB:=qh hTB
   have HCV:=qh (HC2.out.below hbV omA)
   have HXV:=qh (HX2.out.below hbV omA)
   clear p0 p1 p2 p3 p4 p5 p6 p7 q0 q1 q2 q3 q4 q5 q6 q7 q8 q9 q10 q11
   clear t0 t1 t2 t3 hTB hfd
   go_wp2_with fail
   go_loopw [6] (fun vi wr => ∃ i:Nat,i≤row.length∧vi = .int .i64 i∧Below V.heap.size V wr∧(∀ q (h:q<row.length) (h':q<cols.length),q<i→typedB row[q] cols[q].ty=true)) (fun vi _=>row.length - (intOf vi).toNat)
   case atStart=>exact ⟨0,Nat.zero_le _,rfl,Below.refl _ _,fun q _ _ h=>by omega⟩
   case round =>
    obtain ⟨i,hir,rfl,hbr,hpre⟩:=hrel
    have HPRE:=qh hpre
    have hxr:=below_nextN hxV hbr hxV.size
    have hwz:=hbr.size
    have hCr:=HCV.out.below hbr omA
    have hXr:=HXV.out.below hbr omA
    obtain ⟨u0,u1,u2,u3⟩:=Tab.blk (HTB.out.below hbr hzV)
    obtain ⟨p0,p1,p2,p3,p4,p5,p6,p7⟩:=Cat.blkO hCr
    obtain ⟨⟨q0,q1,q2,q3⟩,q4,⟨q5,q6,q7⟩,q8,q9,q10,q11⟩:=Chg.blk hXr
    simp only at q0 q1 q2 q3 q4 q5 q6 q7 q8 q9 q10 q11
    have HCr:=qh hCr
    have HXr:=qh hXr
    clear hpre hCr hXr
    have hk0:=keepQ (w:=wr) w.heap.size omA
    have hk1:=keepQ (w:=wr) (w.heap.size + 1) omA
    have hk7:=keepQ (w:=wr) w2.heap.size omA
    by_cases hlt:i<row.length
    ·have hkd:kd = 1:=H5.out omA
     have hic:i<cols.length:=by have:=H4.out hkd;omega
     obtain ⟨rb,ro,rfl,hrb,hrc⟩:=(HR.out.below hxr).get hlt
     obtain ⟨y0,y1,y2⟩:=Val.cells3 hrc
     obtain ⟨cb,co,rfl,hcb,hcc⟩:=(HCO.out.below (below_nextN hbV hbr hbV.size |>.mono omA)).get hic
     have c1:=hcc 1 _ rfl
     have hk3:=keepQ (w:=wr) rb omA
     have hk4:=keepQ (w:=wr) cb omA
     have hlt':decide (i<row.length)=true:=by simpa using hlt
     have hic':decide (i<cols.length)=true:=by simpa using hic
     clear hrc hcc
     cases hty:typedB row[i] cols[i].ty
     ·have HRES:Hid (r = 5):=qh (by rw [HREST.out,if_pos (pb_false fun h=>by have:=h i hlt hic;rw [hty] at this;cases this)])
      have HTY:=qh hty
      clear hty
      go_upto_region 9 with (fail)
      refine wp_region_bel krA krA ?_;(repeat (go_big_quiet_step ((go_at_call 69;with_reducible exact bel_of_ext (ref07_typed row[i] cols[i].ty _ HTY.out)))));refine wpQuiet_nil ?_;intro wq hq
      clear p0 p1 p2 p3 p4 p5 p6 p7 q0 q1 q2 q3 q4 q5 q6 q7 q8 q9 q10 q11
      clear hk0 hk1 hk7 hk3 hk4 u0 u1 u2 u3 y0 y1 y2 c1
      go_wp2_with fail
      go_ret
      exact ⟨ret_int (a := 5) HRES.out.symm,below_nextN hxr hq hxr.size⟩
     ·have HTY:=qh hty
      clear hty
      go_upto_region 9 with (fail)
      refine wp_region_bel krA krA ?_;(repeat (go_big_quiet_step ((go_at_call 69;with_reducible exact bel_of_ext (ref07_typed row[i] cols[i].ty _ HTY.out)))));refine wpQuiet_nil ?_;intro wq hq
      clear p0 p1 p2 p3 p4 p5 p6 p7 q0 q1 q2 q3 q4 q5 q6 q7 q8 q9 q10 q11
      clear hk0 hk1 hk7 hk3 hk4 u0 u1 u2 u3 y0 y1 y2 c1
      go_wp2_with fail
      go_roundw
      case rel=>exact ⟨i + 1,by omega,by go_num,below_nextN hbr hq hwz,fun q h h' hq'=>by
       rcases Nat.lt_or_ge q i with h1|h1
       ·exact HPRE.out q h h' h1
       ·obtain rfl:q=i:=by omega
        exact HTY.out⟩
      case measure=>exact meA
    ·have hlt':decide (i<row.length)=false:=by simpa using hlt
     have HRT:Hid (RowTyped cols row):=qh fun q h h'=>HPRE.out q h h' omA
     have HREST2:Hid (r=if badTyp cols ⟨kd,sq,dy,(k:Int),A0,cp,row,key,cl,vl⟩=true then 5 else if (kd == 2&&pb (FixedCol cols cl))=true then 11 else 0):=qh (by
      have:=HREST.out
      rw [if_neg (by rw [pb_true HRT.out];decide)] at this
      exact this)
     have hc0 : 0<cols.length:=hcol.1
     have hc0':decide (0<cols.length)=true:=by simpa using hc0
     obtain ⟨cb,co,rfl,hcb,hcc⟩:=(HCO.out.below (below_nextN hbV hbr hbV.size |>.mono omA)).get hc0
     have c1:=hcc 1 _ rfl
     simp only [Nat.zero_mul,Nat.add_zero] at c1
     have hk4:=keepQ (w:=wr) cb omA
     have HTA:Hid (tyAt cols 0=cols[0].ty):=qh (tyAt_get (k := 0) hc0)
     obtain ⟨ty0,hty0⟩ : ∃ t,cols[0].ty=t:=⟨_,rfl⟩
     rw [hty0] at c1
     have HT0:=qh hty0
     clear hcc hty0
     cases h1:typedB kv ty0
     ·have HRES:Hid (r = 5):=qh (by rw [HREST2.out,if_pos (by unfold badTyp;rw [HKV.out,HTA.out,HT0.out,h1];rfl)])
      have H1:=qh h1
      clear h1
      go_upto_region 11 with (fail)
      refine wp_region_bel krA krA ?_;(repeat (go_big_quiet_step ((first
       | (go_at_call 68;with_reducible exact bel_of (ref07_key ⟨kd,sq,dy,(k:Int),A0,cp,row,key,_,vl⟩ _ (HR1.out.next (below_nextN (below_nextN hb2 hbV hb2.size) (below_nextN hbr (BelOf.h _) hbr.size) leA)) hrl HP.out HKV.out))
       | (go_at_call 69;(first|with_reducible exact bel_of_ext (ref07_typed kv ty0 _ H1.out)|with_reducible exact bel_of_ext (ref07_typed vl tyj _ H2.out)))))));refine wpQuiet_nil ?_;intro wq hq
      clear p0 p1 p2 p3 p4 p5 p6 p7 q0 q1 q2 q3 q4 q5 q6 q7 q8 q9 q10 q11
      (try clear c2)
      clear hk0 hk1 hk7 hk4 u0 u1 u2 u3 c1
      go_wp2_with fail
      go_ret
      exact ⟨ret_int (a := 5) HRES.out.symm,below_nextN hxr hq hxr.size⟩
     ·by_cases hd2:kd = 2
      ·have hd2':(kd == 2)=true:=by simpa using hd2
       obtain ⟨j,hj,hjc⟩:=H6.out hd2
       subst hj
       have hjc':decide (j<cols.length)=true:=by simpa using hjc
       obtain ⟨cb',co',he',_,hcc'⟩:=(HCO.out.below (below_nextN hbV hbr hbV.size |>.mono omA)).get hjc
       injection he' with he'
       injection he' with he1 he2
       subst he1 he2
       have c2:=hcc' 1 _ rfl
       have HTJ:Hid (tyAt cols (j:Int)=cols[j].ty):=qh (tyAt_get hjc)
       obtain ⟨tyj,htyj⟩ : ∃ t,cols[j].ty=t:=⟨_,rfl⟩
       rw [htyj] at c2
       have HT2:=qh htyj
       clear hcc' htyj hd2
       cases h2:typedB vl tyj
       ·have HRES:Hid (r = 5):=qh (by rw [HREST2.out,if_pos (by unfold badTyp;rw [HKV.out,HTA.out,HT0.out,h1,hd2',HTJ.out,HT2.out,h2];rfl)])
        have H1:=qh h1
        have H2:=qh h2
        clear h1 h2
        go_upto_region 11 with (fail)
        refine wp_region_bel krA krA ?_;(repeat (go_big_quiet_step ((first
         | (go_at_call 68;with_reducible exact bel_of (ref07_key ⟨kd,sq,dy,(k:Int),A0,cp,row,key,_,vl⟩ _ (HR1.out.next (below_nextN (below_nextN hb2 hbV hb2.size) (below_nextN hbr (BelOf.h _) hbr.size) leA)) hrl HP.out HKV.out))
         | (go_at_call 69;(first|with_reducible exact bel_of_ext (ref07_typed kv ty0 _ H1.out)|with_reducible exact bel_of_ext (ref07_typed vl tyj _ H2.out)))))));refine wpQuiet_nil ?_;intro wq hq
        clear p0 p1 p2 p3 p4 p5 p6 p7 q0 q1 q2 q3 q4 q5 q6 q7 q8 q9 q10 q11
        (try clear c2)
        clear hk0 hk1 hk7 hk4 u0 u1 u2 u3 c1
        go_wp2_with fail
        go_ret
        exact ⟨ret_int (a := 5) HRES.out.symm,below_nextN hxr hq hxr.size⟩
       ·have HRES:Hid (r=if pb (FixedCol cols (j:Int))=true then 11 else 0):=qh (by rw [HREST2.out,if_neg (by unfold badTyp;rw [HKV.out,HTA.out,HT0.out,h1,hd2',HTJ.out,HT2.out,h2];decide),hd2',Bool.true_and])
        have H1:=qh h1
        have H2:=qh h2
        clear h1 h2
        go_upto_region 11 with (fail)
        refine wp_region_bel krA krA ?_;(repeat (go_big_quiet_step ((first
         | (go_at_call 68;with_reducible exact bel_of (ref07_key ⟨kd,sq,dy,(k:Int),A0,cp,row,key,_,vl⟩ _ (HR1.out.next (below_nextN (below_nextN hb2 hbV hb2.size) (below_nextN hbr (BelOf.h _) hbr.size) leA)) hrl HP.out HKV.out))
         | (go_at_call 69;(first|with_reducible exact bel_of_ext (ref07_typed kv ty0 _ H1.out)|with_reducible exact bel_of_ext (ref07_typed vl tyj _ H2.out)))))));refine wpQuiet_nil ?_;intro wq hq
        clear p0 p1 p2 p3 p4 p5 p6 p7 q0 q1 q2 q3 q4 q5 q6 q7 q8 q9 q10 q11
        (try clear c2)
        clear hk0 hk1 hk7 hk4 u0 u1 u2 u3 c1
        have hxq:=below_nextN hxr hq hxr.size
        have hCq:=HCr.out.below hq omA
        have hXq:=HXr.out.below hq omA
        obtain ⟨p0,p1,p2,p3,p4,p5,p6,p7⟩:=Cat.blkO hCq
        obtain ⟨⟨q0,q1,q2,q3⟩,q4,⟨q5,q6,q7⟩,q8,q9,q10,q11⟩:=Chg.blk hXq
        simp only at q0 q1 q2 q3 q4 q5 q6 q7 q8 q9 q10 q11
        clear hCq hXq
        cases h3:pb (FixedCol cols (j:Int))
        ·have HRES2:Hid (r = 0):=qh (by rw [HRES.out,h3];rfl)
         have H3:=qh h3
         clear h3
         go_wp2_with (go_at_call 70;(with_reducible refine (ref07_fixed _ c ts.length ts k (j:Int) cols _ (HT.out.next hxq) rfl HS.out HOK.out (HCG.out.next hxq) hk2 HCS.out H3.out).mono ?_);rintro e w9 ⟨rfl,hb9⟩)
         go_ret
         exact ⟨ret_int (a := 0) HRES2.out.symm,below_nextN hxq hb9 hxq.size⟩
        ·have HRES2:Hid (r = 11):=qh (by rw [HRES.out,h3];rfl)
         have H3:=qh h3
         clear h3
         go_wp2_with (go_at_call 70;(with_reducible refine (ref07_fixed _ c ts.length ts k (j:Int) cols _ (HT.out.next hxq) rfl HS.out HOK.out (HCG.out.next hxq) hk2 HCS.out H3.out).mono ?_);rintro e w9 ⟨rfl,hb9⟩)
         go_ret
         exact ⟨ret_int (a := 11) HRES2.out.symm,below_nextN hxq hb9 hxq.size⟩
      ·have hd2':(kd == 2)=false:=by simpa using hd2
       have HRES:Hid (r = 0):=qh (by rw [HREST2.out,if_neg (by unfold badTyp;rw [HKV.out,HTA.out,HT0.out,h1,hd2'];simp),hd2'];rfl)
       have H1:=qh h1
       clear h1 hd2
       go_upto_region 11 with (fail)
       refine wp_region_bel krA krA ?_;(repeat (go_big_quiet_step ((first
        | (go_at_call 68;with_reducible exact bel_of (ref07_key ⟨kd,sq,dy,(k:Int),A0,cp,row,key,_,vl⟩ _ (HR1.out.next (below_nextN (below_nextN hb2 hbV hb2.size) (below_nextN hbr (BelOf.h _) hbr.size) leA)) hrl HP.out HKV.out))
        | (go_at_call 69;(first|with_reducible exact bel_of_ext (ref07_typed kv ty0 _ H1.out)|with_reducible exact bel_of_ext (ref07_typed vl tyj _ H2.out)))))));refine wpQuiet_nil ?_;intro wq hq
       clear p0 p1 p2 p3 p4 p5 p6 p7 q0 q1 q2 q3 q4 q5 q6 q7 q8 q9 q10 q11
       (try clear c2)
       clear hk0 hk1 hk7 hk4 u0 u1 u2 u3 c1
       have hXq:=HXr.out.below hq omA
       obtain ⟨⟨q0,q1,q2,q3⟩,q4,⟨q5,q6,q7⟩,q8,q9,q10,q11⟩:=Chg.blk hXq
       simp only at q0
       clear hXq q1 q2 q3 q4 q5 q6 q7 q8 q9 q10 q11
       go_wp2_with fail
       go_ret
       exact ⟨ret_int (a := 0) HRES.out.symm,below_nextN hxr hq hxr.size⟩
 ·have HRES:Hid (r = 1):=qh (by rw [← hr,formE,if_pos HI.out])
  clear hr
  go_wp2_with fail
  go_ret
  exact ⟨ret_int (a := 1) HRES.out.symm,hx1⟩
variable {o:Oth}
def AllLead (ts:List Tab) (rt:List RTab) (cols:List Col) (row:List Val):Prop := ∀ i (h:i<row.length) (k:i<cols.length),leadsB ts rt cols[i] row[i]=true
def leadsAt (ts:List Tab) (rt:List RTab) (cols:List Col) (k:Int) (v:Val):Bool:=match cols[k.toNat]? with
 | some x=>leadsB ts rt x v
 | none=>true
noncomputable def stateE (ts:List Tab) (rt:List RTab) (x:Chg):Int :=
 if (x.kind == 1&&decide (0≤findK (recsAt rt x.table) (keyOf x)))=true then 4 else if (x.kind != 1&&decide (findK (recsAt rt x.table) (keyOf x) < 0))=true then 10
 else if pb (AllLead ts rt (colsAt ts x.table) x.row)=false then 7 else if (x.kind == 2 && !leadsAt ts rt (colsAt ts x.table) x.column x.val)=true then 7
 else if (x.kind == 1&&decide (64≤(recsAt rt x.table).length))=true then 8 else 0
theorem leadsAt_get {ts:List Tab} {rt:List RTab} {cols:List Col} {k:Nat} {v:Val} (h:k<cols.length):leadsAt ts rt cols (k:Int) v=leadsB ts rt cols[k] v:=by
 unfold leadsAt
 rw [Int.toNat_natCast,List.getElem?_eq_getElem h]
theorem recsAt_get {rt:List RTab} {k:Nat} (h:k<rt.length):recsAt rt (k:Int)=rt[k].recs:=by
 unfold recsAt
 rw [Int.toNat_natCast,List.getElem?_eq_getElem h]
theorem ref07_State (A:Option Addr) (c m:Nat) (ts:List Tab) (RA:Option Addr) (rc n:Nat) (rt:List RTab) (k:Nat) (kd sq dy:Int) (A0:Option Addr) (cp:Nat) (row:List Val) (key:Val) (cl:Int) (vl:Val) (w:World) (ht:TabsIn w w.heap.size A ts) (hm:ts.length=m) (hs:SaneCat ts) (hok:CatOk ts) (hcg:CatG w w.heap.size A c ts o) (hrt:RTabsIn w w.heap.size RA rt) (hn:rt.length=n) (hsr:SaneR rt) (hlen:rt.length=ts.length) (hR:SliceIs w w.heap.size Val.cells 3 A0 row) (hrl:row.length ≤ 1000000) (hin:InForm ts ⟨kd,sq,dy,(k:Int),A0,cp,row,key,cl,vl⟩ k) {r:Int} (hr:stateE ts rt ⟨kd,sq,dy,(k:Int),A0,cp,row,key,cl,vl⟩=r) :
 Calls Tryz.prog 101 #[.agg #[.slice A m c, .slice o.vA 0 o.vc, .slice o.iA o.idx.length o.ic, .slice o.sA o.skt.length o.sc, .slice o.cA o.cch.length o.cc, .slice o.rA o.rel.length o.rc, .slice o.tA o.str.length o.tc, .slice o.bA o.bak.length o.bc], .slice RA n rc, .agg #[.int .i64 kd, .int .i64 sq, .int .i64 dy, .int .i64 k, .slice A0 row.length cp, .int .i64 key.kind, .int .i64 key.num, .string key.text, .int .i64 cl, .int .i64 vl.kind, .int .i64 vl.num, .string vl.text]] w fun e w'=>e = .returned (.int .i64 r)∧Below w.heap.size w w':=by
 subst hm hn
 obtain ⟨_,hk2,hk3,hk4,hk5,hk6⟩:=hin
 simp only at hk3 hk4 hk5 hk6
 rw [colsAt_get hk2] at hk4 hk6
 have hkr:k<rt.length:=by omega
 obtain ⟨tb5,to5,rfl,htb5,htc⟩:=ht.1.get hk2
 obtain ⟨_,t1,_,_⟩:=Tab.cells4 htc
 have hcols:=ht.2 ts[k] (lgm hk2)
 obtain ⟨rb,ro,rfl,hrb,hrc⟩:=hrt.1.get hkr
 have c0:=hrc 0 _ rfl
 have hrecs:=hrt.2 rt[k] (lgm hkr)
 have hrow:=hsr.row rt[k] (lgm hkr)
 have hrln:=hsr.recs rt[k] (lgm hkr)
 have hst:r=(if (kd == 1&&decide (0≤findK rt[k].recs (keyOf ⟨kd,sq,dy,(k:Int),A0,cp,row,key,cl,vl⟩)))=true then 4 else if (kd != 1&&decide (findK rt[k].recs (keyOf ⟨kd,sq,dy,(k:Int),A0,cp,row,key,cl,vl⟩) < 0))=true then 10
  else if pb (AllLead ts rt ts[k].cols row)=false then 7 else if (kd == 2 && !leadsAt ts rt ts[k].cols cl vl)=true then 7
  else if (kd == 1&&decide (64≤rt[k].recs.length))=true then 8 else 0):=by
  rw [← hr,stateE,recsAt_get hkr,colsAt_get hk2]
 have hmem : ∀ i (h:i<ts[k].cols.length),ts[k].cols[i]∈ts[k].cols:=fun i h=>lgm h
 obtain ⟨cols,hcs⟩ : ∃ l,ts[k].cols=l:=⟨_,rfl⟩
 obtain ⟨CA,hCA⟩ : ∃ a,ts[k].A=a:=⟨_,rfl⟩
 obtain ⟨cc,hcc⟩ : ∃ a,ts[k].cap=a:=⟨_,rfl⟩
 obtain ⟨⟨TA,tc,recs⟩,hy⟩ : ∃ x:RTab,rt[k]=x:=⟨_,rfl⟩
 rw [hy] at c0 hrecs hrow hrln hst
 have hmem' : ∀ i (h:i<cols.length),cols[i]∈ts[k].cols:=fun i h=>by subst hcs;exact lgm h
 rw [hcs] at hcols t1 hst hk4 hk6
 rw [hCA] at hcols t1
 rw [hcc] at t1
 simp only [Nat.mul_one,Nat.add_zero] at c0 hrecs hrow hrln hst
 have hln:=hsr.len
 have hcm:=(hs.tabs ts[k] (lgm hk2)).len
 rw [hcs] at hcm
 obtain ⟨kv,hkv⟩ : ∃ kv,keyOf ⟨kd,sq,dy,(k:Int),A0,cp,row,key,cl,vl⟩=kv:=⟨_,rfl⟩
 obtain ⟨z,hz⟩ : ∃ z,findK recs kv=z:=⟨_,rfl⟩
 rw [hkv,hz] at hst
 have hkpos:kd = 1 → 0<row.length:=fun h=>by have:=hk4 h;have:=(hok.cols hk2).1;rw [hcs] at this;omega
 have HKV:=qh hkv
 have HZ:=qh hz
 have HST:=qh hst
 have HMEM:=qh hmem'
 have HT:=qh ht
 have HS:=qh hs
 have HOK:=qh hok
 have HCG:=qh hcg
 have HRT:=qh hrt
 have HSR:=qh hsr
 have HLEN:=qh hlen
 have HR:=qh hR
 have HRE:=qh hrecs
 have HRO:=qh hrow
 have HCO:=qh hcols.1
 have HC0:=qh c0
 have HT1:=qh t1
 have H4:=qh hk4
 have H5:=qh hk5
 have H6:=qh hk6
 have HP:=qh hkpos
 have hkr':decide (k<rt.length)=true:=by simpa using hkr
 have hk2':decide (k<ts.length)=true:=by simpa using hk2
 clear ht hs hok hcg hrt hsr hlen hR hrecs hrow hcols c0 t1 hk4 hk5 hk6 hkpos hkv hz hst hmem hmem' hr htc hrc hcs hCA hcc hy
 go_enter Tryz.func101,Tryz.ntmps101
 go_upto_region 1 with (fail)
 refine abs_world (P:=fun u=>Code.wp _ _ _ _ u) (R:=fun u=>Blk u w.heap.size 34 #[.slice (some ⟨tb5,to5,none⟩) ts.length c, .slice o.vA 0 o.vc, .slice o.iA o.idx.length o.ic, .slice o.sA o.skt.length o.sc, .slice o.cA o.cch.length o.cc, .slice o.rA o.rel.length o.rc, .slice o.tA o.str.length o.tc, .slice o.bA o.bak.length o.bc]∧Blk u (w.heap.size + 1) 79 (Chg.cells ⟨kd,sq,dy,(k:Int),A0,cp,row,key,cl,vl⟩).toArray∧Below w.heap.size w u) ⟨?_,?_,?_⟩ ?_
 ·exact (Blk.new _ _ _).alloc _
 ·exact Blk.new' spA
 ·exact belA
 rintro W ⟨hC,hX,hbW⟩
 have hzW:=hX.lt
 have HC:=qh hC
 have HX:=qh hX
 obtain ⟨p0,p1,p2,p3,p4,p5,p6,p7⟩:=Cat.blkO hC
 obtain ⟨⟨q0,q1,q2,q3⟩,q4,⟨q5,q6,q7⟩,q8,q9,q10,q11⟩:=Chg.blk hX
 simp only at q0 q1 q2 q3 q4 q5 q6 q7 q8 q9 q10 q11
 clear hC hX
 have c0:=(hbW.cell (p:=⟨rb,_,none⟩) hrb).trans HC0.out
 have hk0:=keepQ (w:=W) w.heap.size omA
 have hk1:=keepQ (w:=W) (w.heap.size + 1) omA
 have hk3':=keepQ (w:=W) rb omA
 refine wp_region_bel krA krA ?_;(repeat (go_big_quiet_step ((first
  | (go_at_call 68;with_reducible exact bel_of (ref07_key ⟨kd,sq,dy,(k:Int),A0,cp,row,key,cl,vl⟩ _ (HR.out.next (below_nextN hbW (BelOf.h _) hbW.size)) hrl HP.out HKV.out))
  | (go_at_call 72;with_reducible exact bel_of (ref07_Find TA tc recs.length recs kv _ (HRE.out.next (below_nextN hbW (BelOf.h _) hbW.size)) rfl hrln HRO.out HZ.out))))));refine wpQuiet_nil ?_;intro wq hq
 clear p0 p1 p2 p3 p4 p5 p6 p7 q0 q1 q2 q3 q4 q5 q6 q7 q8 q9 q10 q11
 clear c0 hk0 hk1 hk3'
 have hxq:=below_nextN hbW hq hbW.size
 have HCQ:=qh (HC.out.below hq omA)
 have HXQ:=qh (HX.out.below hq hzW)
 have hqz:=hq.size
 have hCq:=HCQ.out
 have hXq:=HXQ.out
 obtain ⟨p0,p1,p2,p3,p4,p5,p6,p7⟩:=Cat.blkO hCq
 obtain ⟨⟨q0,q1,q2,q3⟩,q4,⟨q5,q6,q7⟩,q8,q9,q10,q11⟩:=Chg.blk hXq
 simp only at q0 q1 q2 q3 q4 q5 q6 q7 q8 q9 q10 q11
 clear hCq hXq
 by_cases hd1:kd = 1
 ·have e1:(kd == 1)=true:=by simpa using hd1
  have e1':(kd != 1)=false:=by simp [hd1]
  have e2:(kd == 2)=false:=by rw [hd1];rfl
  have hrc4:=H4.out hd1
  clear hd1
  cases hzz:decide (0≤z)
  ·have hst1:r=(if pb (AllLead ts rt cols row)=false then 7 else if decide (64≤recs.length)=true then 8 else 0):=by
    have h:=HST.out
    rw [e1,e1',e2,hzz] at h
    simpa using h
   have HST1:=qh hst1
   have HZZ:=qh hzz
   clear hst1
   clear hzz
   have hzz':decide (z < 0)=true:=by
    have:=HZZ.out
    simp at this ⊢
    omega
   have hzz:=HZZ.out
   have t1:=(hxq.cell (p:=⟨tb5,_,none⟩) htb5).trans HT1.out
   go_wp2_with fail
   clear p0 p1 p2 p3 p4 p5 p6 p7 q0 q1 q2 q3 q4 q5 q6 q7 q8 q9 q10 q11
   clear t1 hzz hzz'
   go_loopw [9] (fun vi wr => ∃ i:Nat,i≤row.length∧vi = .int .i64 i∧Below wq.heap.size wq wr∧(∀ q (h:q<row.length) (h':q<cols.length),q<i→leadsB ts rt cols[q] row[q]=true)) (fun vi _=>row.length - (intOf vi).toNat)
   case atStart=>exact ⟨0,Nat.zero_le _,rfl,Below.refl _ _,fun q _ _ h=>by omega⟩
   case round =>
    obtain ⟨i,hir,rfl,hbr,hpre⟩:=hrel
    have HPRE:=qh hpre
    clear hpre
    have hxr:=below_nextN hxq hbr hxq.size
    have hwz:=hbr.size
    have HCR:=qh (HCQ.out.below hbr omA)
    have HXR:=qh (HXQ.out.below hbr omA)
    have hCr:=HCR.out
    have hXr:=HXR.out
    obtain ⟨p0,p1,p2,p3,p4,p5,p6,p7⟩:=Cat.blkO hCr
    obtain ⟨⟨q0,q1,q2,q3⟩,q4,⟨q5,q6,q7⟩,q8,q9,q10,q11⟩:=Chg.blk hXr
    simp only at q0 q1 q2 q3 q4 q5 q6 q7 q8 q9 q10 q11
    clear hCr hXr
    have hk0:=keepQ (w:=wr) w.heap.size omA
    have hk1:=keepQ (w:=wr) (w.heap.size + 1) omA
    have hk3':=keepQ (w:=wr) rb omA
    by_cases hlt:i<row.length
    ·have hic:i<cols.length:=by omega
     obtain ⟨vb,vo,rfl,hvb,hvc⟩:=(HR.out.below hxr).get hlt
     obtain ⟨y0,y1,y2⟩:=Val.cells3 hvc
     obtain ⟨cb,co,rfl,hcb,hcc⟩:=(HCO.out.below hxr).get hic
     obtain ⟨z0,z1,z2,z3,z4,z5,z6⟩:=Col.cells7 hcc
     have hmx:=HMEM.out i hic
     obtain ⟨v,hv⟩ : ∃ v,row[i]=v:=⟨_,rfl⟩
     obtain ⟨⟨xn,xt,xs,xr,xA,xc,xo,xj,xd⟩,hx⟩ : ∃ x:Col,cols[i]=x:=⟨_,rfl⟩
     rw [hx] at hmx z0 z1 z2 z3 z4 z5 z6
     rw [hv] at y0 y1 y2
     simp only at z0 z1 z2 z3 z4 z5 z6
     have HV:=qh hv
     have HX':=qh hx
     have hk5':=keepQ (w:=wr) vb omA
     have hk6':=keepQ (w:=wr) cb omA
     have hlt':decide (i<row.length)=true:=by simpa using hlt
     have hic':decide (i<cols.length)=true:=by simpa using hic
     clear hvc hcc hv hx
     cases hlb:leadsB ts rt ⟨xn,xt,xs,xr,xA,xc,xo,xj,xd⟩ v
     ·have HRES:Hid (r = 7):=qh (by rw [HST1.out,if_pos (pb_false fun h=>by have:=h i hlt hic;rw [HV.out,HX'.out,hlb] at this;cases this)])
      have HLC:Hid (∀ x:BelOf wr,Calls Tryz.prog 145 #[.agg #[.slice (some ⟨tb5,to5,none⟩) ts.length c, .slice o.vA 0 o.vc, .slice o.iA o.idx.length o.ic, .slice o.sA o.skt.length o.sc, .slice o.cA o.cch.length o.cc, .slice o.rA o.rel.length o.rc, .slice o.tA o.str.length o.tc, .slice o.bA o.bak.length o.bc], .slice (some ⟨rb,ro,none⟩) rt.length rc, .agg #[.string xn, .int .i64 xt, .string xs, .string xr, .slice xA xo.length xc, .int .i64 xj, .int .i64 xd], .agg #[.int .i64 v.kind, .int .i64 v.num, .string v.text]] x.u fun e w''=>e = .returned (.bool false) ∧ ∃ y:BelOf wr,w''=y.u):=qh fun x=>bel_of (ref07_leads _ c ts.length ts _ rc rt.length rt k xn xt xs xr xA xc xo xj xd v _ (HT.out.next (below_nextN hxr x.h hxr.size)) rfl HS.out HOK.out (HCG.out.next (below_nextN hxr x.h hxr.size)) (HRT.out.next (below_nextN hxr x.h hxr.size)) rfl HSR.out HLEN.out hk2 hmx hlb)
      clear hlb hmx
      go_upto_region 10 with (fail)
      refine wp_region_bel krA krA ?_;(repeat (go_big_quiet_step ((go_at_call 145;with_reducible exact HLC.out _))));refine wpQuiet_nil ?_;intro wq2 hq2
      clear p0 p1 p2 p3 p4 p5 p6 p7 q0 q1 q2 q3 q4 q5 q6 q7 q8 q9 q10 q11
      clear hk0 hk1 hk3' hk5' hk6' y0 y1 y2 z0 z1 z2 z3 z4 z5 z6
      go_wp2_with fail
      go_ret
      exact ⟨ret_int (a := 7) HRES.out.symm,below_nextN hxr hq2 hxr.size⟩
     ·have HLB:Hid (leadsB ts rt cols[i] row[i]=true):=qh (by rw [HV.out,HX'.out];exact hlb)
      have HLC:Hid (∀ x:BelOf wr,Calls Tryz.prog 145 #[.agg #[.slice (some ⟨tb5,to5,none⟩) ts.length c, .slice o.vA 0 o.vc, .slice o.iA o.idx.length o.ic, .slice o.sA o.skt.length o.sc, .slice o.cA o.cch.length o.cc, .slice o.rA o.rel.length o.rc, .slice o.tA o.str.length o.tc, .slice o.bA o.bak.length o.bc], .slice (some ⟨rb,ro,none⟩) rt.length rc, .agg #[.string xn, .int .i64 xt, .string xs, .string xr, .slice xA xo.length xc, .int .i64 xj, .int .i64 xd], .agg #[.int .i64 v.kind, .int .i64 v.num, .string v.text]] x.u fun e w''=>e = .returned (.bool true) ∧ ∃ y:BelOf wr,w''=y.u):=qh fun x=>bel_of (ref07_leads _ c ts.length ts _ rc rt.length rt k xn xt xs xr xA xc xo xj xd v _ (HT.out.next (below_nextN hxr x.h hxr.size)) rfl HS.out HOK.out (HCG.out.next (below_nextN hxr x.h hxr.size)) (HRT.out.next (below_nextN hxr x.h hxr.size)) rfl HSR.out HLEN.out hk2 hmx hlb)
      clear hlb hmx
      go_upto_region 10 with (fail)
      refine wp_region_bel krA krA ?_;(repeat (go_big_quiet_step ((go_at_call 145;with_reducible exact HLC.out _))));refine wpQuiet_nil ?_;intro wq2 hq2
      clear p0 p1 p2 p3 p4 p5 p6 p7 q0 q1 q2 q3 q4 q5 q6 q7 q8 q9 q10 q11
      clear hk0 hk1 hk3' hk5' hk6' y0 y1 y2 z0 z1 z2 z3 z4 z5 z6
      go_wp2_with fail
      go_roundw
      case rel=>exact ⟨i + 1,by omega,by go_num,below_nextN hbr hq2 hwz,fun q h h' hq'=>by
       rcases Nat.lt_or_ge q i with h1|h1
       ·exact HPRE.out q h h' h1
       ·obtain rfl:q=i:=by omega
        exact HLB.out⟩
      case measure=>exact meA
    ·have hlt':decide (i<row.length)=false:=by simpa using hlt
     have HAL:Hid (AllLead ts rt cols row):=qh fun q h h'=>HPRE.out q h h' omA
     have HST2:Hid (r=if decide (64≤recs.length)=true then 8 else 0):=qh (by rw [HST1.out,if_neg (by rw [pb_true HAL.out];decide)])
     go_upto_region 12 with (fail)
     refine wp_region_bel krA krA ?_;(repeat (go_big_quiet_step (fail)));refine wpQuiet_nil ?_;intro wq2 hq2
     have hxq2:=below_nextN hxr hq2 hxr.size
     have hXz:=HXR.out.below hq2 omA
     have hCz:=HCR.out.below hq2 omA
     clear p0 p1 p2 p3 p4 p5 p6 p7 q0 q1 q2 q3 q4 q5 q6 q7 q8 q9 q10 q11
     clear hk0 hk1 hk3'
     obtain ⟨p0,p1,p2,p3,p4,p5,p6,p7⟩:=Cat.blkO hCz
     obtain ⟨⟨q0,q1,q2,q3⟩,q4,⟨q5,q6,q7⟩,q8,q9,q10,q11⟩:=Chg.blk hXz
     simp only at q0 q1 q2 q3 q4 q5 q6 q7 q8 q9 q10 q11
     have c0:=(hxq2.cell (p:=⟨rb,_,none⟩) hrb).trans HC0.out
     clear hCz hXz
     by_cases h64 : 64≤recs.length
     ·have h64':decide (64≤recs.length)=true:=by simpa using h64
      have HRES:Hid (r = 8):=qh (by rw [HST2.out,h64'];rfl)
      go_wp2_with fail
      go_ret
      exact ⟨ret_int (a := 8) HRES.out.symm,hxq2⟩
     ·have h64':decide (64≤recs.length)=false:=by simpa using h64
      have HRES:Hid (r = 0):=qh (by rw [HST2.out,h64'];rfl)
      go_wp2_with fail
      go_ret
      exact ⟨ret_int (a := 0) HRES.out.symm,hxq2⟩
  ·have HRES:Hid (r = 4):=qh (by rw [HST.out,e1,hzz];rfl)
   go_wp2_with fail
   go_ret
   exact ⟨ret_int (a := 4) HRES.out.symm,hxq⟩
 ·have e1:(kd == 1)=false:=by simpa using hd1
  have e1':(kd != 1)=true:=by simp [hd1]
  have hrow0:=H5.out hd1
  clear hd1
  cases hzz:decide (z < 0)
  ·have hst1:r=(if (kd == 2 && !leadsAt ts rt cols cl vl)=true then 7 else 0):=by
    have h:=HST.out
    have hall:pb (AllLead ts rt cols row)=true:=pb_true fun i h _=>by omega
    rw [e1,e1',hzz,hall] at h
    simpa using h
   have HST1:=qh hst1
   clear hst1
   have t1:=(hxq.cell (p:=⟨tb5,_,none⟩) htb5).trans HT1.out
   have hr0':decide (0<row.length)=false:=decide_eq_false omA
   have hr0 : ¬ (0<row.length):=by omega
   go_wp2_with fail
   clear p0 p1 p2 p3 p4 p5 p6 p7 q0 q1 q2 q3 q4 q5 q6 q7 q8 q9 q10 q11
   clear t1 hzz
   go_loopw [9] (fun vi wr=>vi = .int .i64 0∧Below wq.heap.size wq wr) (fun vi _ => 0)
   case atStart=>exact ⟨rfl,Below.refl _ _⟩
   case round =>
    obtain ⟨rfl,hbr⟩:=hrel
    have hxr:=below_nextN hxq hbr hxq.size
    have hwz:=hbr.size
    have HCR:=qh (HCQ.out.below hbr omA)
    have HXR:=qh (HXQ.out.below hbr omA)
    have hCr:=HCR.out
    have hXr:=HXR.out
    obtain ⟨p0,p1,p2,p3,p4,p5,p6,p7⟩:=Cat.blkO hCr
    obtain ⟨⟨q0,q1,q2,q3⟩,q4,⟨q5,q6,q7⟩,q8,q9,q10,q11⟩:=Chg.blk hXr
    simp only at q0 q1 q2 q3 q4 q5 q6 q7 q8 q9 q10 q11
    clear hCr hXr
    have hk0:=keepQ (w:=wr) w.heap.size omA
    have hk1:=keepQ (w:=wr) (w.heap.size + 1) omA
    have hk3':=keepQ (w:=wr) rb omA
    by_cases hd2:kd = 2
    ·have e2:(kd == 2)=true:=by simpa using hd2
     obtain ⟨j,hj,hjc⟩:=H6.out hd2
     subst hj
     obtain ⟨cb,co,rfl,hcb,hcc⟩:=(HCO.out.below hxr).get hjc
     obtain ⟨z0,z1,z2,z3,z4,z5,z6⟩:=Col.cells7 hcc
     have hmx:=HMEM.out j hjc
     have hla:=leadsAt_get (ts:=ts) (rt:=rt) (v:=vl) hjc
     obtain ⟨⟨xn,xt,xs,xr,xA,xc,xo,xj,xd⟩,hx⟩ : ∃ x:Col,cols[j]=x:=⟨_,rfl⟩
     rw [hx] at hmx z0 z1 z2 z3 z4 z5 z6 hla
     simp only at z0 z1 z2 z3 z4 z5 z6
     have hk6':=keepQ (w:=wr) cb omA
     have hjc':decide (j<cols.length)=true:=by simpa using hjc
     obtain ⟨v,hv⟩ : ∃ v,vl=v:=⟨_,rfl⟩
     subst hv
     have HLA:=qh hla
     clear hcc hx hla hd2
     cases hlb:leadsB ts rt ⟨xn,xt,xs,xr,xA,xc,xo,xj,xd⟩ vl
     ·have HRES:Hid (r = 7):=qh (by rw [HST1.out,e2,HLA.out,hlb];rfl)
      have HLC:Hid (∀ x:BelOf wr,Calls Tryz.prog 145 #[.agg #[.slice (some ⟨tb5,to5,none⟩) ts.length c, .slice o.vA 0 o.vc, .slice o.iA o.idx.length o.ic, .slice o.sA o.skt.length o.sc, .slice o.cA o.cch.length o.cc, .slice o.rA o.rel.length o.rc, .slice o.tA o.str.length o.tc, .slice o.bA o.bak.length o.bc], .slice (some ⟨rb,ro,none⟩) rt.length rc, .agg #[.string xn, .int .i64 xt, .string xs, .string xr, .slice xA xo.length xc, .int .i64 xj, .int .i64 xd], .agg #[.int .i64 vl.kind, .int .i64 vl.num, .string vl.text]] x.u fun e w''=>e = .returned (.bool false) ∧ ∃ y:BelOf wr,w''=y.u):=qh fun x=>bel_of (ref07_leads _ c ts.length ts _ rc rt.length rt k xn xt xs xr xA xc xo xj xd vl _ (HT.out.next (below_nextN hxr x.h hxr.size)) rfl HS.out HOK.out (HCG.out.next (below_nextN hxr x.h hxr.size)) (HRT.out.next (below_nextN hxr x.h hxr.size)) rfl HSR.out HLEN.out hk2 hmx hlb)
      clear hlb hmx
      go_upto_region 12 with (fail)
      refine wp_region_bel krA krA ?_;(repeat (go_big_quiet_step ((go_at_call 145;with_reducible exact HLC.out _))));refine wpQuiet_nil ?_;intro wq2 hq2
      clear p0 p1 p2 p3 p4 p5 p6 p7 q0 q1 q2 q3 q4 q5 q6 q7 q8 q9 q10 q11
      clear hk0 hk1 hk3' hk6' z0 z1 z2 z3 z4 z5 z6
      go_wp2_with fail
      go_ret
      exact ⟨ret_int (a := 7) HRES.out.symm,below_nextN hxr hq2 hxr.size⟩
     ·have HRES:Hid (r = 0):=qh (by rw [HST1.out,e2,HLA.out,hlb];rfl)
      have HLC:Hid (∀ x:BelOf wr,Calls Tryz.prog 145 #[.agg #[.slice (some ⟨tb5,to5,none⟩) ts.length c, .slice o.vA 0 o.vc, .slice o.iA o.idx.length o.ic, .slice o.sA o.skt.length o.sc, .slice o.cA o.cch.length o.cc, .slice o.rA o.rel.length o.rc, .slice o.tA o.str.length o.tc, .slice o.bA o.bak.length o.bc], .slice (some ⟨rb,ro,none⟩) rt.length rc, .agg #[.string xn, .int .i64 xt, .string xs, .string xr, .slice xA xo.length xc, .int .i64 xj, .int .i64 xd], .agg #[.int .i64 vl.kind, .int .i64 vl.num, .string vl.text]] x.u fun e w''=>e = .returned (.bool true) ∧ ∃ y:BelOf wr,w''=y.u):=qh fun x=>bel_of (ref07_leads _ c ts.length ts _ rc rt.length rt k xn xt xs xr xA xc xo xj xd vl _ (HT.out.next (below_nextN hxr x.h hxr.size)) rfl HS.out HOK.out (HCG.out.next (below_nextN hxr x.h hxr.size)) (HRT.out.next (below_nextN hxr x.h hxr.size)) rfl HSR.out HLEN.out hk2 hmx hlb)
      clear hlb hmx
      go_upto_region 12 with (fail)
      refine wp_region_bel krA krA ?_;(repeat (go_big_quiet_step ((go_at_call 145;with_reducible exact HLC.out _))));refine wpQuiet_nil ?_;intro wq2 hq2
      clear p0 p1 p2 p3 p4 p5 p6 p7 q0 q1 q2 q3 q4 q5 q6 q7 q8 q9 q10 q11
      clear hk0 hk1 hk3' hk6' z0 z1 z2 z3 z4 z5 z6
      have hXz:=HXR.out.below hq2 omA
      obtain ⟨⟨q0,_⟩,_⟩:=Chg.blk hXz
      simp only at q0
      clear hXz
      go_wp2_with fail
      go_ret
      exact ⟨ret_int (a := 0) HRES.out.symm,below_nextN hxr hq2 hxr.size⟩
    ·have e2:(kd == 2)=false:=by simpa using hd2
     have HRES:Hid (r = 0):=qh (by rw [HST1.out,e2];rfl)
     clear hd2
     go_upto_region 12 with (fail)
     refine wp_region_bel krA krA ?_;(repeat (go_big_quiet_step (fail)));refine wpQuiet_nil ?_;intro wq2 hq2
     clear p0 p1 p2 p3 p4 p5 p6 p7 q0 q1 q2 q3 q4 q5 q6 q7 q8 q9 q10 q11
     clear hk0 hk1 hk3'
     have hXz:=HXR.out.below hq2 omA
     obtain ⟨⟨q0,_⟩,_⟩:=Chg.blk hXz
     simp only at q0
     clear hXz
     go_wp2_with fail
     go_ret
     exact ⟨ret_int (a := 0) HRES.out.symm,below_nextN hxr hq2 hxr.size⟩
  ·have HRES:Hid (r = 10):=qh (by rw [HST.out,e1,e1',hzz];rfl)
   go_wp2_with fail
   go_ret
   exact ⟨ret_int (a := 10) HRES.out.symm,hxq⟩
variable {o:Oth}
noncomputable def checkE (ts:List Tab) (rt:List RTab) (x:Chg):Int :=
 if pb (RTabsOk ts rt)=false then 1 else if (formE ts x != 0)=true then formE ts x else if decide (x.seq≤lastOfT rt)=true then 12 else stateE ts rt x
theorem formE_in {ts:List Tab} {x:Chg} (h:formE ts x = 0) : ∃ k,InForm ts x k:=by
 refine inForm ?_
 cases hb:invalidB ts x
 ·rfl
 ·rw [formE,hb] at h
  simp at h
theorem ref07_Check (A:Option Addr) (c m:Nat) (ts:List Tab) (RA:Option Addr) (rc n:Nat) (rt:List RTab) (kd sq dy tb:Int) (A0:Option Addr) (cp:Nat) (row:List Val) (key:Val) (cl:Int) (vl:Val) (w:World) (ht:TabsIn w w.heap.size A ts) (hm:ts.length=m) (hs:SaneCat ts) (hcat:CatOk ts) (hcg:CatG w w.heap.size A c ts o) (hrt:RTabsIn w w.heap.size RA rt) (hn:rt.length=n) (hsr:SaneR rt) (hR:SliceIs w w.heap.size Val.cells 3 A0 row) (hrl:row.length ≤ 1000000) {r:Int} (hr:checkE ts rt ⟨kd,sq,dy,tb,A0,cp,row,key,cl,vl⟩=r) :
 Calls Tryz.prog 66 #[.agg #[.slice A m c, .slice o.vA 0 o.vc, .slice o.iA o.idx.length o.ic, .slice o.sA o.skt.length o.sc, .slice o.cA o.cch.length o.cc, .slice o.rA o.rel.length o.rc, .slice o.tA o.str.length o.tc, .slice o.bA o.bak.length o.bc], .slice RA n rc, .agg #[.int .i64 kd, .int .i64 sq, .int .i64 dy, .int .i64 tb, .slice A0 row.length cp, .int .i64 key.kind, .int .i64 key.num, .string key.text, .int .i64 cl, .int .i64 vl.kind, .int .i64 vl.num, .string vl.text]] w fun e w'=>e = .returned (.int .i64 r)∧Below w.heap.size w w':=by
 subst hm hn
 obtain ⟨z,hz⟩ : ∃ z,formE ts ⟨kd,sq,dy,tb,A0,cp,row,key,cl,vl⟩=z:=⟨_,rfl⟩
 obtain ⟨b,hb⟩ : ∃ b,pb (RTabsOk ts rt)=b:=⟨_,rfl⟩
 obtain ⟨l,hl⟩ : ∃ l,lastOfT rt=l:=⟨_,rfl⟩
 have hst:r=if b=false then 1 else if (z != 0)=true then z else if decide (sq≤l)=true then 12 else stateE ts rt ⟨kd,sq,dy,tb,A0,cp,row,key,cl,vl⟩:=by rw [← hr,checkE,hz,hb,hl]
 have hok:b=true→RTabsOk ts rt:=fun h=>pb_iff.1 (by rw [hb,h])
 have HZ:=qh hz
 have HB:=qh hb
 have HL:=qh hl
 have HST:=qh hst
 have HK:=qh hok
 have HT:=qh ht
 have HCAT:=qh hcat
 have HCG:=qh hcg
 have HS:=qh hs
 have HRT:=qh hrt
 have HSR:=qh hsr
 have HR:=qh hR
 clear hz hb hl hst hok ht hs hcat hcg hrt hsr hR hr
 go_enter Tryz.func66,Tryz.ntmps66
 go_upto_region 1 with (fail)
 refine abs_world (P:=fun u=>Code.wp _ _ _ _ u) (R:=fun u=>Blk u w.heap.size 34 #[.slice A ts.length c, .slice o.vA 0 o.vc, .slice o.iA o.idx.length o.ic, .slice o.sA o.skt.length o.sc, .slice o.cA o.cch.length o.cc, .slice o.rA o.rel.length o.rc, .slice o.tA o.str.length o.tc, .slice o.bA o.bak.length o.bc]∧Blk u (w.heap.size + 1) 79 (Chg.cells ⟨kd,sq,dy,tb,A0,cp,row,key,cl,vl⟩).toArray∧Below w.heap.size w u) ⟨?_,?_,?_⟩ ?_
 ·exact (Blk.new _ _ _).alloc _
 ·exact Blk.new' spA
 ·exact belA
 rintro W ⟨hC,hX,hbW⟩
 have hzW:=hX.lt
 have HC:=qh hC
 have HX:=qh hX
 obtain ⟨p0,p1,p2,p3,p4,p5,p6,p7⟩:=Cat.blkO hC
 obtain ⟨⟨q0,q1,q2,q3⟩,q4,⟨q5,q6,q7⟩,q8,q9,q10,q11⟩:=Chg.blk hX
 simp only at q0 q1 q2 q3 q4 q5 q6 q7 q8 q9 q10 q11
 clear hC hX
 go_wp2_with fail
 (with_reducible refine (ref07_Valid A c ts.length ts RA rc rt.length rt _ (HT.out.next (below_nextN hbW brf hbW.size)) rfl HS.out HCAT.out (HCG.out.next (below_nextN hbW brf hbW.size)) (HRT.out.next (below_nextN hbW brf hbW.size)) rfl HSR.out HB.out).mono ?_)
 rintro e w1 ⟨rfl,hb1⟩
 clear p0 p1 p2 p3 p4 p5 p6 p7 q0 q1 q2 q3 q4 q5 q6 q7 q8 q9 q10 q11
 have hx1:=below_nextN hbW hb1 hbW.size
 have hz1:=hb1.size
 have HC1:=qh (HC.out.below hb1 omA)
 have HX1:=qh (HX.out.below hb1 hzW)
 have hC1:=HC1.out
 have hX1:=HX1.out
 cases b
 ·have HRES:Hid (r = 1):=qh HST.out
  clear hC1 hX1
  go_wp2_with fail
  go_ret
  exact ⟨ret_int (a := 1) HRES.out.symm,hx1⟩
 have HOK:Hid (CatOk ts):=qh (HK.out rfl).cat
 have HLN:Hid (rt.length=ts.length):=qh (HK.out rfl).len
 obtain ⟨p0,p1,p2,p3,p4,p5,p6,p7⟩:=Cat.blkO hC1
 obtain ⟨⟨q0,q1,q2,q3⟩,q4,⟨q5,q6,q7⟩,q8,q9,q10,q11⟩:=Chg.blk hX1
 simp only at q0 q1 q2 q3 q4 q5 q6 q7 q8 q9 q10 q11
 clear hC1 hX1
 go_wp2_with fail
 (with_reducible refine (ref07_Form A c ts.length ts kd sq dy tb A0 cp row key cl vl _ (HT.out.next (below_nextN hx1 brf hx1.size)) rfl HS.out HOK.out (HCG.out.next (below_nextN hx1 brf hx1.size)) (HR.out.next (below_nextN hx1 brf hx1.size)) hrl HZ.out).mono ?_)
 rintro e w2 ⟨rfl,hb2⟩
 clear p0 p1 p2 p3 p4 p5 p6 p7 q0 q1 q2 q3 q4 q5 q6 q7 q8 q9 q10 q11
 have hx2:=below_nextN hx1 hb2 hx1.size
 have hz2:=hb2.size
 have HC2:=qh (HC1.out.below hb2 omA)
 have HX2:=qh (HX1.out.below hb2 omA)
 by_cases hz0:z = 0
 rotate_left
 ·have hz0':(z != 0)=true:=by simpa using hz0
  have HRES:Hid (r=z):=qh (by rw [HST.out,hz0'];rfl)
  clear hz0
  go_wp2_with fail
  go_ret
  exact ⟨ret_int (a:=z) HRES.out.symm,hx2⟩
 have HIN:Hid (∃ k,InForm ts ⟨kd,sq,dy,tb,A0,cp,row,key,cl,vl⟩ k):=qh (formE_in (HZ.out.trans hz0))
 have HST2:Hid (r=if decide (sq≤l)=true then 12 else stateE ts rt ⟨kd,sq,dy,tb,A0,cp,row,key,cl,vl⟩):=qh (by rw [HST.out,hz0];rfl)
 clear HZ HST
 subst hz0
 have hC2:=HC2.out
 have hX2:=HX2.out
 obtain ⟨p0,p1,p2,p3,p4,p5,p6,p7⟩:=Cat.blkO hC2
 obtain ⟨⟨q0,q1,q2,q3⟩,q4,⟨q5,q6,q7⟩,q8,q9,q10,q11⟩:=Chg.blk hX2
 simp only at q0 q1 q2 q3 q4 q5 q6 q7 q8 q9 q10 q11
 clear hC2 hX2
 go_upto_region 6 with (fail)
 have hk1:=keepQ (w:=w2) (w.heap.size + 1) omA
 refine wp_region_bel krA krA ?_;(repeat (go_big_quiet_step (((go_at_call 100;with_reducible exact bel_of ((ref07_Last RA rc rt.length rt _ (HRT.out.next (below_nextN hx2 (BelOf.h _) hx2.size)) rfl HSR.out HL.out).mono fun e w' h=>⟨h.1,h.2▸Below.refl _ _⟩))))));refine wpQuiet_nil ?_;intro wq hq
 clear p0 p1 p2 p3 p4 p5 p6 p7 q0 q1 q2 q3 q4 q5 q6 q7 q8 q9 q10 q11
 clear hk1
 have hxq:=below_nextN hx2 hq hx2.size
 have hzq:=hq.size
 cases hd:decide (sq≤l)
 rotate_left
 ·have HRES:Hid (r = 12):=qh (by rw [HST2.out,hd];rfl)
  go_wp2_with fail
  go_ret
  exact ⟨ret_int (a := 12) HRES.out.symm,hxq⟩
 have HRES:Hid (stateE ts rt ⟨kd,sq,dy,tb,A0,cp,row,key,cl,vl⟩=r):=qh (by rw [HST2.out,hd];rfl)
 obtain ⟨k,hin⟩:=HIN.out
 have hC3:=HC2.out.below hq omA
 have hX3:=HX2.out.below hq omA
 have htk:tb=(k:Int):=hin.tab
 have HIN2:=qh hin
 subst htk
 obtain ⟨p0,p1,p2,p3,p4,p5,p6,p7⟩:=Cat.blkO hC3
 obtain ⟨⟨q0,q1,q2,q3⟩,q4,⟨q5,q6,q7⟩,q8,q9,q10,q11⟩:=Chg.blk hX3
 simp only at q0 q1 q2 q3 q4 q5 q6 q7 q8 q9 q10 q11
 clear hC3 hX3 hin
 go_wp2_with fail
 (with_reducible refine (ref07_State A c ts.length ts RA rc rt.length rt k kd sq dy A0 cp row key cl vl _ (HT.out.next (below_nextN hxq brf hxq.size)) rfl HS.out HOK.out (HCG.out.next (below_nextN hxq brf hxq.size)) (HRT.out.next (below_nextN hxq brf hxq.size)) rfl HSR.out HLN.out (HR.out.next (below_nextN hxq brf hxq.size)) hrl HIN2.out HRES.out).mono ?_)
 rintro e w4 ⟨rfl,hb4⟩
 clear p0 p1 p2 p3 p4 p5 p6 p7 q0 q1 q2 q3 q4 q5 q6 q7 q8 q9 q10 q11
 have hx4:=below_nextN hxq hb4 hxq.size
 clear hd
 go_wp2_with fail
 go_ret
 exact ⟨ret_int (a:=r) rfl,hx4⟩
def PTab (n:Nat) (l:List PRec):Prop:=l.length ≤ 64 ∧ ∀ r∈l,r.1.length=n∧r.2.1.length=n
structure PShape (ts:List Tab) (pl:List (List PRec)):Prop where
 len:pl.length=ts.length
 tab : ∀ i (h:i<pl.length) (h':i<ts.length),PTab ts[i].cols.length pl[i]
theorem PTab.cut {n:Nat} {l:List PRec} (h:PTab n l) (j:Nat):PTab n (cutP l j):=by
 refine ⟨?_,fun r hr => ?_⟩
 ·have:=h.1
  simp [cutP]
  omega
 ·rcases List.mem_append.1 hr with h1|h1
  ·exact h.2 r (List.mem_of_mem_take h1)
  ·exact h.2 r (List.mem_of_mem_drop h1)
theorem PTab.ins {n:Nat} {l:List PRec} (h:PTab n l) (hl:l.length < 64) {r:PRec} (hr:r.1.length=n∧r.2.1.length=n):PTab n (insP l r):=by
 refine ⟨?_,fun y hy => ?_⟩
 ·simp [insP]
  omega
 ·rcases List.mem_append.1 hy with h1|h1
  ·rcases List.mem_append.1 h1 with h2|h2
   ·exact h.2 y (List.mem_of_mem_take h2)
   ·rw [List.mem_singleton.1 h2]
    exact hr
  ·exact h.2 y (List.mem_of_mem_drop h1)
theorem PTab.upd {n:Nat} {l:List PRec} (h:PTab n l) (j:Nat) (x:Chg):PTab n (updP l j x):=by
 unfold updP
 split
 ·rename_i r hr
  have hm:=List.mem_of_getElem? hr
  have hh:=h.2 r hm
  refine ⟨by simpa using h.1,fun y hy => ?_⟩
  rcases List.mem_or_eq_of_mem_set hy with h1|rfl
  ·exact h.2 y h1
  ·simpa using hh
 ·exact h
theorem PTab.perf {n:Nat} {l:List PRec} (h:PTab n l) {x:Chg} (hx:x.kind = 1→x.row.length=n):PTab n (perfL l x):=by
 unfold perfL
 split
 ·rename_i hk
  have hn:(newP x).1.length=n∧(newP x).2.1.length=n:=by simp [newP,hx hk]
  split
  ·rename_i hz
   obtain ⟨j,hj,hje⟩:=findP_at hz
   refine (h.cut _).ins ?_ hn
   have:=h.1
   rw [hje]
   simp [cutP]
   omega
  ·split
   ·exact h
   ·exact h.ins omA hn
 ·split
  ·exact h
  ·split
   ·exact h.upd _ _
   ·exact h.cut _
theorem PShape.perf {ts:List Tab} {pl:List (List PRec)} (h:PShape ts pl) {x:Chg} {k:Nat} (hin:InForm ts x k):PShape ts (performE pl x):=by
 have hk:=hin.lt
 have hkl:k<pl.length:=by rw [h.len];exact hk
 refine ⟨by simp [performE,h.len],fun i hi hi' => ?_⟩
 unfold performE at hi ⊢
 rw [List.getElem_set]
 have ht:x.table.toNat=k:=by rw [hin.tab];simp
 by_cases he:x.table.toNat=i
 ·rw [if_pos he]
  have hik:i=k:=by omega
  subst hik
  rw [hin.tab,tabP_get hkl]
  refine (h.tab i hkl hi').perf fun h1 => ?_
  have:=hin.ins h1
  rw [colsAt_get hk] at this
  exact this
 ·rw [if_neg he]
  exact h.tab i (by simpa using hi) hi'
def RShape (ts:List Tab) (rt:List RTab):Prop:=PShape ts (rt.map pureT)
theorem RShape.len {ts:List Tab} {rt:List RTab} (h:RShape ts rt):rt.length=ts.length:=by simpa using PShape.len h
theorem RShape.tab {ts:List Tab} {rt:List RTab} (h:RShape ts rt) {i:Nat} (hi:i<rt.length) (hi':i<ts.length):rt[i].recs.length ≤ 64 ∧ ∀ r∈rt[i].recs,r.row.length=ts[i].cols.length∧r.seq.length=ts[i].cols.length:=by
 have h1:=PShape.tab h i (by simpa using hi) hi'
 rw [List.getElem_map] at h1
 refine ⟨by simpa [pureT] using h1.1,fun r hr => ?_⟩
 exact h1.2 (pureR r) (List.mem_map_of_mem hr)
theorem RShape.sane {ts:List Tab} {rt:List RTab} (h:RShape ts rt) (hok:CatOk ts):SaneR rt:=by
 have hl:=h.len
 have hl8:=hok.len
 refine ⟨by omega,fun t ht => ?_,fun t ht r hr => ?_,fun t ht r hr => ?_⟩
 all_goals
  obtain ⟨i,hi,rfl⟩:=List.getElem_of_mem ht
  have hi':i<ts.length:=by omega
  have h1:=h.tab hi hi'
  have h2:=(hok.cols hi').2
 ·omega
 ·have:=(h1.2 r hr).1;omega
 ·have:=(h1.2 r hr).2;omega
theorem RShape.row {ts:List Tab} {rt:List RTab} (h:RShape ts rt) (hok:CatOk ts) : ∀ t∈rt,∀ r∈t.recs,0<r.row.length:=by
 intro t ht r hr
 have hl:=h.len
 obtain ⟨i,hi,rfl⟩:=List.getElem_of_mem ht
 have hi':i<ts.length:=by omega
 have h1:=(h.tab hi hi').2 r hr
 have h2:=(hok.cols hi').1
 omega
end Go.Proofs.YtjhnpnhpmdkpcaaGreat
