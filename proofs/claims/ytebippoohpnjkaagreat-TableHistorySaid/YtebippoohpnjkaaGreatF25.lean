/-
  Contracts and plain laws of this seat, part 25.
-/
import Derived.Test.YtebippoohpnjkaaGreatF17
set_option linter.unusedVariables false
set_option linter.unusedSimpArgs false
set_option maxRecDepth 100000
set_option maxHeartbeats 16000000
namespace Go.Proofs.YtebippoohpnjkaaGreat
open Go.RowKit Go
theorem kK{P:Prop}(h:P:=by
 go_wp2_with fail
 go_meet
 exact⟨rfl,rfl⟩):P:=h
theorem gJ(v:Val)(x:Col)(w:World){r:Bool}(hr:di v x.ty=r):
 Calls Tryz.prog 156 #[.agg #[.int .i64 v.kind,.int .i64 v.num,.string v.text],.agg #[.string x.name,.int .i64 x.ty,.string x.ns,.string x.refs,.slice x.A x.own.length x.cap,.int .i64 x.joint,.int .i64 x.eF]] w fun e w'=>e=.returned (.bool r)∧Below w.heap.size w w':=by
 subst hr
 cases h1:(v.kind == 0)
 ·cases h2:(v.kind==x.ty)
  ·go_enter Tryz.func156,Tryz.ntmps156
   go_wp2_with fail
   go_ret
   exact⟨ay (by simp only[di,h1,h2];rfl),by exact ak⟩
  ·go_enter Tryz.func156,Tryz.ntmps156
   go_wp2_with fail
   go_ret
   exact⟨ay (by simp only[di,h1,h2];rfl),by exact ak⟩
 ·go_enter Tryz.func156,Tryz.ntmps156
  go_wp2_with fail
  go_ret
  exact⟨ay (by simp only[di,h1];rfl),by exact ak⟩
theorem fP(v:Val)(w:World){r:Bool}(hr:bK v=r):Calls Tryz.prog 157 #[.agg #[.int .i64 v.kind,.int .i64 v.num,.string v.text]] w fun e w'=>e=.returned (.bool r)∧Ext w w':=by
 subst hr
 exact uZ _ _ _ _
theorem kU(a b:Val)(w:World){r:Int}(hr:aW a b=r):Calls Tryz.prog 161 #[.agg #[.int .i64 a.kind,.int .i64 a.num,.string a.text],.agg #[.int .i64 b.kind,.int .i64 b.num,.string b.text]] w fun e w'=>e=.returned (.int .i64 r)∧Ext w w':=by
 subst hr
 exact yR _ _ _ _ _ _ _
theorem j3(CA:Option Addr)(cc n:Nat)(af:List Col)(RA:Option Addr)(rc:Nat)(row:List Val)(SA:Option Addr)(sc:Nat)(seq:List Int)(dy:Int)(w:World)(ht:ah w w.heap.size Col.cells 7 CA af)(hn:af.length=n)(h0:0<n)(h8:n≤8)(hR:ah w w.heap.size Val.cells 3 RA row)(hS:ah w w.heap.size intCells 1 SA seq)(hrl:row.length≤1000000)(hsl:seq.length≤1000000){r:Bool}(hr:pb (gG af row seq dy)=r):
 Calls Tryz.prog 221 #[.slice CA n cc,.agg #[.slice RA row.length rc,.slice SA seq.length sc,.int .i64 dy]] w fun e w'=>e=.returned (.bool r)∧Below w.heap.size w w':=by
 subst hr
 have HT:=qh ht
 have HR:=qh hR
 have HS:=qh hS
 have HN:=qh hn
 clear ht hR hS hn
 go_enter Tryz.func221,Tryz.ntmps221
 go_upto_region 1 with (fail)
 refine ai (P:=fun u=>Code.wp _ _ _ _ u) (R:=fun u=>Blk u w.heap.size 126 #[.slice RA row.length rc,.slice SA seq.length sc,.int .i64 dy]∧Below w.heap.size w u) ⟨?_,?_⟩ ?_
 ·exact Blk.new _ _ _
 ·exact ak
 rintro W ⟨hB,hbW⟩
 have hz:=hB.lt
 have HB:=qh hB
 have q0:=hB.cell 0
 have q1:=hB.cell 1
 have q2:=hB.cell 2
 simp only[gE3]at q0 q1 q2
 clear hB
 obtain⟨r1,hr1⟩:∃b,((row.length:Int) != (n:Int))=b:=⟨_,rfl⟩
 obtain⟨r2,hr2⟩:∃b,((seq.length:Int) != (n:Int))=b:=⟨_,rfl⟩
 obtain⟨r3,hr3⟩:∃b,decide (dy<0)=b:=⟨_,rfl⟩
 obtain⟨r4,hr4⟩:∃b,decide (1048576<dy)=b:=⟨_,rfl⟩
 go_cut [31] (fun v wc=>v=.bool (r1||(r2||(r3||r4)))∧W=wc)
 case first =>
  cases r1
  ·cases r2
   ·cases r3
    ·cases r4
     ·exact kK
     ·exact kK
    ·exact kK
   ·exact kK
  ·exact kK
 case rest =>
  obtain⟨rfl,rfl⟩:=hcut
  cases hb:(r1||(r2||(r3||r4)))
  ·simp only[Bool.or_eq_false_iff]at hb
   obtain⟨rfl,rfl,rfl,rfl⟩:=hb
   have e1:row.length=n:=by have h:=hr1;simp at h;omega
   have e2:seq.length=n:=by have h:=hr2;simp at h;omega
   have SE:aD dy 0 1048576=true:=by
    rw[decide_eq_false_iff_not]at hr3 hr4
    rw[aD,Bool.and_eq_true,decide_eq_true_iff,decide_eq_true_iff]
    omega
   have HD:=qh SE
   have E1:=qh e1
   have E2:=qh e2
   clear hr1 hr2 hr3 hr4 SE
   rw[e1]at q0
   rw[e2]at q1
   have HB':Hid (Blk W w.heap.size 126 #[.slice RA n rc,.slice SA n sc,.int .i64 dy]):=qh (by have h:=HB.out;rw[e1,e2]at h;exact h)
   clear e1 e2 HB
   go_upto_region 4 with (fail)
   go_loopw [35] (fun vi wr =>∃m:Nat,m≤n∧vi=.int .i64 m∧Below W.heap.size W wr∧(∀i,i<m→pR af row seq i)) (fun vi _=>n-(intOf vi).toNat)
   case atStart=>exact⟨0,Nat.zero_le _,rfl,Below.refl _ _,fun i h=>by omega⟩
   case round =>
    obtain⟨m,hm,rfl,hbr,hok⟩:=hrel
    have HOK:=qh hok
    have hxr:=ae hbW hbr hbW.size
    have hwz:=hbr.size
    clear q0 q1 q2
    have q0:=(HB'.out.below hbr hz).cell 0
    have q1:=(HB'.out.below hbr hz).cell 1
    simp only[gE3]at q0 q1
    clear hok
    by_cases hlt:m<n
    ·have hmc:m<af.length:=by rw[HN.out];exact hlt
     have hmr:m<row.length:=by rw[E1.out];exact hlt
     have hms:m<seq.length:=by rw[E2.out];exact hlt
     have hm0:0<seq.length:=by rw[E2.out];omega
     obtain⟨cb,co,rfl,hcb,hcc⟩:=(HT.out.below hxr).get hmc
     obtain⟨rb,ro,rfl,hrb,hrc⟩:=(HR.out.below hxr).get hmr
     obtain⟨sb,so,rfl,hsb,hsc⟩:=(HS.out.below hxr).get hms
     obtain⟨sb',so',he',_,K5⟩:=(HS.out.below hxr).get hm0
     injection he' with he'
     injection he' with he1 he2
     subst he1 he2
     obtain⟨c0,c1,c2,c3,c4,c5,c6⟩:=Col.dK hcc
     obtain⟨y0,y1,y2⟩:=Val.cells3 hrc
     have s0:=hsc 0 _ rfl
     have s00:=K5 0 _ rfl
     simp only[Nat.mul_one,Nat.add_zero,Nat.zero_add]at s0 s00
     obtain⟨v,hv⟩:∃v,row[m]=v:=⟨_,rfl⟩
     obtain⟨x,hx⟩:∃x,af[m]=x:=⟨_,rfl⟩
     obtain⟨sm,hsm⟩:∃x,seq[m]=x:=⟨_,rfl⟩
     obtain⟨sz,hsz⟩:∃x,seq[0]=x:=⟨_,rfl⟩
     have MV:Hid (pR af row seq m↔(bK v=true∧di v x.ty=true)∧(1≤sm∧sm≤1073741824∧sz≤sm)):=qh ⟨fun h=>by
      have a:=h.pos hms
      rw[hsm,aD,Bool.and_eq_true,decide_eq_true_iff,decide_eq_true_iff]at a
      have b:=h.asc hms hm0
      rw[hsm,hsz]at b
      exact⟨⟨by rw[←hv];exact h.val hmr,by rw[←hv,←hx];exact h.typ hmr hmc⟩,a.1,a.2,b⟩,
      fun⟨⟨a,b⟩,c,d,e⟩=>⟨fun _=>by rw[hv];exact a,fun _ _=>by rw[hv,hx];exact b,fun _=>by rw[hsm,aD,Bool.and_eq_true,decide_eq_true_iff,decide_eq_true_iff];exact⟨c,d⟩,fun _ _=>by rw[hsm,hsz];exact e⟩⟩
     have wz:Hid (¬ pR af row seq m→¬ gG af row seq dy):=qh fun h1 h2=>h1 (h2.cell m hmc)
     rw[hv]at y0 y1 y2
     rw[hx]at c0 c1 c2 c3 c4 c5 c6
     rw[hsm]at s0
     rw[hsz]at s00
     clear hcc hrc hsc K5 hv hx hsm hsz
     go_upto_region 6 with (fail)
     refine ai (P:=fun u=>Code.wp _ _ _ _ u) (R:=fun u=>Blk u wr.heap.size 62 v.cells.toArray∧Below wr.heap.size wr u) ⟨?_,?_⟩ ?_
     ·exact Blk.new _ _ _
     ·exact ak
     rintro U ⟨hV,hbU⟩
     have hyU:=ae hbr hbU hwz
     have v0:=hV.cell 0
     have v1:=hV.cell 1
     have v2:=hV.cell 2
     simp only[Val.cells,gE3]at v0 v1 v2
     have hvl:=hV.lt
     have hUz:=hbU.size
     have hxz:=hxr.size
     replace c0:=(hbU.cell (p:=⟨cb,_,none⟩) (show cb<wr.heap.size by omega)).trans c0
     replace c1:=(hbU.cell (p:=⟨cb,_,none⟩) (show cb<wr.heap.size by omega)).trans c1
     replace c2:=(hbU.cell (p:=⟨cb,_,none⟩) (show cb<wr.heap.size by omega)).trans c2
     replace c3:=(hbU.cell (p:=⟨cb,_,none⟩) (show cb<wr.heap.size by omega)).trans c3
     replace c4:=(hbU.cell (p:=⟨cb,_,none⟩) (show cb<wr.heap.size by omega)).trans c4
     replace c5:=(hbU.cell (p:=⟨cb,_,none⟩) (show cb<wr.heap.size by omega)).trans c5
     replace c6:=(hbU.cell (p:=⟨cb,_,none⟩) (show cb<wr.heap.size by omega)).trans c6
     replace s0:=(hbU.cell (p:=⟨sb,_,none⟩) (show sb<wr.heap.size by omega)).trans s0
     replace s00:=(hbU.cell (p:=⟨sb,_,none⟩) (show sb<wr.heap.size by omega)).trans s00
     replace q1:=(hbU.cell (p:=⟨w.heap.size,_,none⟩) (show w.heap.size<wr.heap.size by omega)).trans q1
     clear q0 y0 y1 y2 hV
     go_cut [51] (fun u wc=>u=.bool (!(bK v&&di v x.ty))∧Below U.heap.size U wc)
     case first =>
      have hk0:=aH (w:=U) wr.heap.size hvl
      have hk1:=aH (w:=U) cb omA
      cases hv1:bK v
      ·have HV1:=qh hv1
       clear hv1
       refine ag krA krA ?_;(repeat(go_big_quiet_step ((first
        | (go_at_call 157;with_reducible exact aX (fP v _ HV1.out))))));refine wpQuiet_nil ?_;intro wq hq
       go_wp2_with fail
       go_meet
       exact⟨by rw[HV1.out];rfl,hq⟩
      ·cases hv2:di v x.ty
       ·have HV1:=qh hv1
        have HV2:=qh hv2
        clear hv1 hv2
        refine ag krA krA ?_;(repeat(go_big_quiet_step ((first
         | (go_at_call 157;with_reducible exact aX (fP v _ HV1.out))
         | (go_at_call 156;with_reducible exact bN (gJ v x _ HV2.out))))));refine wpQuiet_nil ?_;intro wq hq
        go_wp2_with fail
        go_meet
        exact⟨by rw[HV1.out,HV2.out];rfl,hq⟩
       ·have HV1:=qh hv1
        have HV2:=qh hv2
        clear hv1 hv2
        refine ag krA krA ?_;(repeat(go_big_quiet_step ((first
         | (go_at_call 157;with_reducible exact aX (fP v _ HV1.out))
         | (go_at_call 156;with_reducible exact bN (gJ v x _ HV2.out))))));refine wpQuiet_nil ?_;intro wq hq
        go_wp2_with fail
        go_meet
        exact⟨by rw[HV1.out,HV2.out];rfl,hq⟩
     case rest =>
      obtain⟨rfl,hbq⟩:=hcut
      obtain⟨V,rfl⟩:∃V:World,V=wc:=⟨_,rfl⟩
      have hyV:=ae hyU hbq hyU.size
      have hxV:=ae hbW hyV hbW.size
      replace s0:=(hbq.cell (p:=⟨sb,_,none⟩) (show sb<U.heap.size by omega)).trans s0
      replace s00:=(hbq.cell (p:=⟨sb,_,none⟩) (show sb<U.heap.size by omega)).trans s00
      replace q1:=(hbq.cell (p:=⟨w.heap.size,_,none⟩) (show w.heap.size<U.heap.size by omega)).trans q1
      clear c0 c1 c2 c3 c4 c5 c6 v0 v1 v2 hbq
      cases hvb:(bK v&&di v x.ty)
      ·have HNO:Hid (¬ gG af row seq dy):=qh (wz.out fun h=>by
        have h1:=(MV.out.1 h).1
        rw[h1.1,h1.2]at hvb
        cases hvb)
       clear hvb
       go_wp2_with fail
       go_ret
       exact⟨ay (aM HNO.out).symm,hxV⟩
      ·have HVB:=qh hvb
       clear hvb
       obtain⟨t1,ht1⟩:∃b,decide (sm<1)=b:=⟨_,rfl⟩
       obtain⟨t2,ht2⟩:∃b,decide (1073741824<sm)=b:=⟨_,rfl⟩
       obtain⟨t3,ht3⟩:∃b,decide (sm<sz)=b:=⟨_,rfl⟩
       go_upto_region 9 with (fail)
       go_cut [70] (fun u wc=>u=.bool (t1||(t2||t3))∧V=wc)
       case first =>
        cases t1
        ·cases t2
         ·cases t3
          ·exact kK
          ·exact kK
         ·exact kK
        ·exact kK
       case rest =>
        obtain⟨rfl,rfl⟩:=hcut
        cases htb:(t1||(t2||t3))
        ·have iV:Hid (pR af row seq m):=qh (MV.out.2 (by
          have h1:=HVB.out
          rw[Bool.and_eq_true]at h1
          simp only[Bool.or_eq_false_iff]at htb
          obtain⟨rfl,rfl,rfl⟩:=htb
          rw[decide_eq_false_iff_not]at ht1 ht2 ht3
          exact⟨h1,by omega,by omega,by omega⟩))
         clear htb ht1 ht2 ht3
         go_wp2_with fail
         go_roundw
         case rel =>
          exact⟨m+1,by omega,by go_num,hyV,fun i hi=>by
           rcases Nat.lt_or_ge i m with h1|h1
           ·exact HOK.out i h1
           ·obtain rfl:i=m:=by omega
            exact iV.out⟩
         case measure=>exact meA
        ·have HNO:Hid (¬ gG af row seq dy):=qh (wz.out fun h=>by
          have h1:=(MV.out.1 h).2
          rw[←ht1,←ht2,←ht3]at htb
          simp at htb
          omega)
         clear htb ht1 ht2 ht3
         go_wp2_with fail
         go_ret
         exact⟨ay (aM HNO.out).symm,hxV⟩
    ·have hlt':decide (m<n)=false:=by simpa using hlt
     have hmr:0<row.length:=by rw[E1.out];exact h0
     obtain⟨rb,ro,rfl,hrb,hrc⟩:=(HR.out.below hxr).get hmr
     obtain⟨y0,y1,y2⟩:=Val.cells3 hrc
     simp only[Nat.zero_mul,Nat.add_zero]at y0
     have MR:Hid (gG af row seq dy↔row[0].kind≠0):=qh ⟨fun h=>h.key hmr,fun h=>⟨by rw[E1.out,HN.out],by rw[E2.out,HN.out],HD.out,fun i hi=>HOK.out i (by have:=HN.out;omega),fun _=>h⟩⟩
     obtain⟨k,hk⟩:∃k,row[0].kind=k:=⟨_,rfl⟩
     have HK:=qh hk
     rw[hk]at y0
     have d0:decide (0<n)=true:=by simpa using h0
     clear hrc y1 y2 hk
     go_wp2_with fail
     go_ret
     refine⟨ay ?_,hxr⟩
     by_cases hk0:k=0
     ·rw[aM fun h=>MR.out.1 h (by rw[HK.out,hk0]),hk0];rfl
     ·rw[aU (MR.out.2 (by rw[HK.out];exact hk0))]
      simpa using hk0
  ·have HNO:Hid (¬ gG af row seq dy):=qh fun h=>by
    have d:=h.day
    rw[aD,Bool.and_eq_true,decide_eq_true_iff,decide_eq_true_iff]at d
    have l1:=h.len
    have l2:=h.wQ
    have hn:=HN.out
    rw[←hr1,←hr2,←hr3,←hr4]at hb
    simp at hb
    omega
   go_wp2_with fail
   go_ret
   exact⟨ay (aM HNO.out).symm,hbW⟩
open Go.RowKit Go
noncomputable def qZ(recs:List Rcd)(m:Nat):Value→Option Value:=fun x=>if pb (∃j,∃h:j<recs.length,j<m∧x=.int .i64 (fE recs[j]))=true then some (.bool true) else none
theorem KQ{recs:List Rcd}{m:Nat}(hm:m<recs.length):qZ recs (m+1) (.int .i64 (fE recs[m]))=some (.bool true):=by
 unfold qZ
 rw[if_pos (aU ⟨m,hm,by omega,rfl⟩)]
theorem KP{recs:List Rcd}{m:Nat}(hm:m<recs.length){u:Value}(hu:u≠.int .i64 (fE recs[m])):qZ recs (m+1) u=qZ recs m u:=by
 unfold qZ
 by_cases h:∃j,∃h:j<recs.length,j<m∧u=.int .i64 (fE recs[j])
 ·rw[if_pos (aU h)]
  obtain⟨j,h1,h2,h3⟩:=h
  rw[if_pos (aU ⟨j,h1,by omega,h3⟩)]
 ·have h2:¬ ∃j,∃h:j<recs.length,j<m+1∧u=.int .i64 (fE recs[j]):=by
   rintro⟨j,h1,h2,h3⟩
   rcases Nat.lt_or_ge j m with h4|h4
   ·exact h ⟨j,h1,h4,h3⟩
   ·obtain rfl:j=m:=by omega
    exact hu h3
  rw[aM h,aM h2]
theorem KA(w:World)(recs:List Rcd):dO Tryz.prog 3 4 (w.alloc (.map #[] 0)) w.heap.size 0 (qZ recs 0):=
 (dO.made w _ _ _).eqf fun x kl _=>by
   unfold qZ
   rw[aM (by rintro⟨j,_,h,_⟩;omega)]
   rfl
theorem AZ{a:Int}(h:0≤a∧a≤1073741824):Go.keyOf Tryz.prog 3 (.int .i64 a)=some (.int .i64 a):=Maps.keyOf_int_mk Tryz.underlying3 (by
 have h1:IntKind.i64.min≤a:=Int.le_trans (by decide) h.1
 have h2:a≤IntKind.i64.max:=Int.le_trans h.2 (by decide)
 simp[Lit.wf,h1];omega)
theorem Bb:Maps.Keyed Tryz.prog 3:=Maps.int_keyed Tryz.underlying3
theorem Aq{af:List Col}{recs:List Rcd}{m:Nat}(hm:m<recs.length)(h:¬ gG af recs[m].row recs[m].seq recs[m].day):¬ RTabOk af recs:=fun k=>h (k.at_ m hm).ok
theorem mI(CA:Option Addr)(cc n:Nat)(af:List Col)(A:Option Addr)(c l:Nat)(recs:List Rcd)(w:World)(ht:ah w w.heap.size Col.cells 7 CA af)(hn:af.length=n)(h0:0<n)(h8:n≤8)(hR:gZ w w.heap.size A recs)(hl:recs.length=l)(hl1:l≤1000000)(hsr:∀r∈recs,r.row.length≤1000000∧r.seq.length≤1000000){r:Bool}(hr:pb (RTabOk af recs)=r):
 Calls Tryz.prog 165 #[.slice CA n cc,.slice A l c] w fun e w'=>e=.returned (.bool r)∧Below w.heap.size w w':=by
 subst hr hl
 have hmm:= @run_makeMap Tryz.prog
 by_cases h64:64<recs.length
 ·have d0:decide (64<recs.length)=true:=by simpa using h64
  have HNO:Hid (¬ RTabOk af recs):=qh fun h=>by have:=h.len;omega
  clear hmm
  go_enter Tryz.func165,Tryz.ntmps165
  go_wp2_with fail
  go_ret
  exact⟨ay (aM HNO.out).symm,Below.refl _ _⟩
 have d0:decide (64<recs.length)=false:=by simpa using h64
 have HT:=qh ht
 have HR1:=qh hR.1
 have HR2:=qh hR.2
 have HN:=qh hn
 have HSR:=qh hsr
 clear ht hR hn hsr
 go_enter Tryz.func165,Tryz.ntmps165
 go_upto_region 5 with (fail)
 clear hmm d0
 go_loopw [14] (fun vi wr =>∃m:Nat,m≤recs.length∧vi=.int .i64 m∧Below w.heap.size w wr∧dO Tryz.prog 3 4 wr w.heap.size m (qZ recs m)∧(∀k (h:k<recs.length),k<m→pM af recs k h)) (fun vi _=>recs.length-(intOf vi).toNat)
 case atStart=>exact⟨0,Nat.zero_le _,rfl,by exact ak,KA w recs,fun k _ h=>by omega⟩
 case round =>
  obtain⟨m,hm,rfl,hbr,hmv,hok⟩:=hrel
  have HOK:=qh hok
  have HMV:=qh hmv
  have hml:=hmv.lt
  have hwz:=hbr.size
  clear hok hmv
  by_cases hlt:m<recs.length
  ·obtain⟨b5,o5,rfl,hb5,hc5⟩:=(HR1.out.below hbr).get hlt
   obtain⟨g0,g1,g2⟩:=Rcd.cells3 hc5
   have hrow:=HR2.out recs[m] (lgm hlt)
   have Ic:=HSR.out recs[m] (lgm hlt)
   have ed:=hrow.1
   have hrow2:=hrow.2
   obtain⟨x,hx⟩:∃x,recs[m]=x:=⟨_,rfl⟩
   have HX:=qh hx
   rw[hx]at g0 g1 g2 ed hrow2 Ic
   obtain⟨QA,qc,row,SA,sc,sq,dy⟩:=x
   simp only at g0 g1 g2 ed hrow2 Ic
   have jy:=qh ed
   have Jr:=qh hrow2
   obtain⟨hs1,hs2⟩:=Ic
   clear hc5 hrow hx ed hrow2
   go_upto_region 7 with (fail)
   refine ai (P:=fun u=>Code.wp _ _ _ _ u) (R:=fun u=>Blk u wr.heap.size 126 #[.slice QA row.length qc,.slice SA sq.length sc,.int .i64 dy]∧dO Tryz.prog 3 4 u w.heap.size m (qZ recs m)∧Below wr.heap.size wr u) ⟨?_,?_,?_⟩ ?_
   ·exact Blk.new _ _ _
   ·exact HMV.out.alloc _
   ·exact ak
   rintro U ⟨hD,hMU,hbU⟩
   have hUz:=hbU.size
   have hDl:=hD.lt
   have hyU:=ae hbr hbU hwz
   have d1:=hD.cell 0
   have d2:=hD.cell 1
   have d3:=hD.cell 2
   simp only[gE3]at d1 d2 d3
   have HMU:=qh hMU
   have HD:=qh hD
   clear g0 g1 g2 hD hMU HMV
   cases hv:pb (gG af row sq dy)
   ·have HNO:Hid (¬ RTabOk af recs):=qh (Aq hlt (by rw[HX.out];intro h;rw[aU h]at hv;cases hv))
    have HV:=qh hv
    clear hv
    go_wp2_with (go_at_call 221;(with_reducible refine(j3 CA cc n af QA qc row SA sc sq dy _ (HT.out.next hyU) HN.out h0 h8 (jy.out.next hyU) (Jr.out.next hyU) hs1 hs2 HV.out).mono ?_);rintro e w1 ⟨rfl,hb1⟩;have hx1:Below w.heap.size w w1:=ae hyU hb1 hyU.size)
    go_ret
    exact⟨ay (aM HNO.out).symm,hx1⟩
   ·have zl:=iH.1 hv
    have hsl:0<sq.length:=by rw[zl.wQ,HN.out];exact h0
    have hrl:0<row.length:=by rw[zl.len,HN.out];exact h0
    have hpos:=(zl.cell 0 (by rw[HN.out];exact h0)).pos hsl
    rw[aD,Bool.and_eq_true,decide_eq_true_iff,decide_eq_true_iff]at hpos
    obtain⟨b6,o6,rfl,hb6,hc6⟩:=(Jr.out.below hyU).get hsl
    have s0:=hc6 0 _ rfl
    simp only[Nat.zero_mul,Nat.add_zero]at s0
    obtain⟨z,hz⟩:∃z,sq[0]=z:=⟨_,rfl⟩
    rw[hz]at s0 hpos
    have hhd:fE recs[m]=z:=by rw[HX.out,←hz];exact(oW (r:=⟨QA,qc,row,some ⟨b6,o6,none⟩,sc,sq,dy⟩) hsl).symm
    have HHD:=qh hhd
    have Ol:=qh zl
    have HV:=qh hv
    have HZ:=qh hz
    clear hv hc6 zl hz hhd
    obtain⟨sn,hsn⟩:∃b,pb (∃j,∃h:j<recs.length,j<m∧Value.int .i64 z=.int .i64 (fE recs[j]))=b:=⟨_,rfl⟩
    have hins:qZ recs m (.int .i64 z)=if sn=true then some (.bool true) else none:=by unfold qZ;rw[hsn]
    have Ov:=qh hins
    have HSN:=qh hsn
    clear hins hsn
    go_cut [30] (fun v wc=>v=.bool sn∧Below U.heap.size U wc)
    case first =>
     cases sn
     ·go_wp2_with (go_at_call 221;(with_reducible refine(j3 CA cc n af QA qc row _ sc sq dy _ (HT.out.next hyU) HN.out h0 h8 (jy.out.next hyU) (Jr.out.next hyU) hs1 hs2 HV.out).mono ?_);rintro e w1 ⟨rfl,hb1⟩;have k1:=(hb1.cell (p:=⟨wr.heap.size,1,none⟩) hDl).trans d2;have k2:=(hb1.cell (p:=⟨b6,o6,none⟩) (show b6<U.heap.size by omega)).trans s0;have hlk:(Instr.lookup 275 (.map (some w.heap.size)) (.int .i64 z) false).run Tryz.prog w1=.ok (.bool false) w1:=(by(have h:=(HMU.out.below hb1 (show w.heap.size<U.heap.size by omega)).look Bb Tryz.underlying275 (pU w1) (pY false) (AZ (a:=z) ⟨by omega,by omega⟩);rw[Ov.out]at h;exact h)))
      go_meet
      exact⟨rfl,hb1⟩
     ·go_wp2_with (go_at_call 221;(with_reducible refine(j3 CA cc n af QA qc row _ sc sq dy _ (HT.out.next hyU) HN.out h0 h8 (jy.out.next hyU) (Jr.out.next hyU) hs1 hs2 HV.out).mono ?_);rintro e w1 ⟨rfl,hb1⟩;have k1:=(hb1.cell (p:=⟨wr.heap.size,1,none⟩) hDl).trans d2;have k2:=(hb1.cell (p:=⟨b6,o6,none⟩) (show b6<U.heap.size by omega)).trans s0;have hlk:(Instr.lookup 275 (.map (some w.heap.size)) (.int .i64 z) false).run Tryz.prog w1=.ok (.bool true) w1:=(by(have h:=(HMU.out.below hb1 (show w.heap.size<U.heap.size by omega)).look Bb Tryz.underlying275 (pU w1) (pY false) (AZ (a:=z) ⟨by omega,by omega⟩);rw[Ov.out]at h;exact h)))
      go_meet
      exact⟨rfl,hb1⟩
    case rest =>
     obtain⟨rfl,hb1⟩:=hcut
     obtain⟨V,rfl⟩:∃V:World,V=wc:=⟨_,rfl⟩
     have hyV:=ae hyU hb1 hyU.size
     have hVz:=hb1.size
     have HMV:=qh (HMU.out.below hb1 (show w.heap.size<U.heap.size by omega))
     have HDV:=qh (HD.out.below hb1 hDl)
     have k0:=(hb1.cell (p:=⟨wr.heap.size,0,none⟩) hDl).trans d1
     have k1:=(hb1.cell (p:=⟨wr.heap.size,1,none⟩) hDl).trans d2
     have k2:=(hb1.cell (p:=⟨b6,o6,none⟩) (show b6<U.heap.size by omega)).trans s0
     clear d1 d2 d3 s0
     cases sn
     ·have hnew:qZ recs (m+1) (.int .i64 z)=some (.bool true):=by have h:=KQ hlt;rw[HHD.out]at h;exact h
      have hold:∀u,u≠.int .i64 z→qZ recs (m+1) u=qZ recs m u:=fun u hu=>KP hlt (by rw[HHD.out];exact hu)
      have D5:=qh hnew
      have HOLD:=qh hold
      clear hnew hold
      go_upto_region 10 with (at_mapUpdate;refine qA _ rfl _ _ _ _ rfl 3 4 Bb Tryz.underlying275 w.heap.size m _ rfl HMV.out (by unfold maxLen;omega) (.int .i64 z) _ rfl (AZ ⟨by omega,by omega⟩) (.bool true) rfl _ (pY _) (qZ recs (m+1)) D5.out HOLD.out ?_;intro w2 hM2 hg2)
      have hy2:Below w.heap.size w w2:=Below.grown hyV hg2 omA inB
      have h2z:=hg2.size
      have HM2:=qh hM2
      have hD2:=HDV.out.grown hg2 inA
      have Vm:=hD2.lt
      have d1:=hD2.cell 0
      simp only[gE3]at d1
      clear k0 k1 k2 hM2 hD2
      obtain⟨bb,hbb⟩:∃b,pb (∀h0:0<m,aW (eT recs[m-1]) (eT recs[m])<0)=b:=⟨_,rfl⟩
      have HBB:=qh hbb
      simp only[Act.put]
      go_cut [53] (fun v wc=>v=.bool (!bb)∧Below w2.heap.size w2 wc)
      case first =>
       rcases Nat.eq_zero_or_pos m with hm0|hm0
       ·have hbt:bb=true:=by rw[←hbb];exact aU fun h=>by omega
        have hk0:=aH (w:=w2) b5 omA
        subst hbt hm0
        refine ag krA krA ?_;(repeat(go_big_quiet_step (fail)));refine wpQuiet_nil ?_;intro wq hq
        go_wp2_with fail
        go_meet
        exact⟨rfl,hq⟩
       ·obtain⟨q,rfl⟩:∃q,m=q+1:=⟨m-1,by omega⟩
        have hql:q<recs.length:=by omega
        obtain⟨b7,o7,hbe,hb7,hc7⟩:=(HR1.out.below hy2).get hql
        injection hbe with hbe
        injection hbe with pq pg
        subst pq pg
        obtain⟨g0,_,_⟩:=Rcd.cells3 hc7
        have hrq:=(HOK.out q hql omA).ok
        have RZ:0<recs[q].row.length:=by rw[hrq.len,HN.out];exact h0
        obtain⟨b8,o8,SV,hb8,hc8⟩:=((HR2.out recs[q] (lgm hql)).1.below hy2).get RZ
        obtain⟨x0,x1,x2⟩:=Val.cells3 hc8
        rw[SV]at g0
        have hh1:recs[q].row[0]=eT recs[q]:=mU RZ
        rw[hh1]at x0 x1 x2
        obtain⟨pv,hpv⟩:∃v,eT recs[q]=v:=⟨_,rfl⟩
        rw[hpv]at x0 x1 x2
        obtain⟨b9,o9,rfl,hb9,hc9⟩:=(jy.out.below hy2).get hrl
        obtain⟨y0,y1,y2⟩:=Val.cells3 hc9
        have hh2:eT recs[q+1]=row[0]:=by rw[HX.out];exact(mU (r:=⟨some ⟨b9,o9,none⟩,qc,row,some ⟨b6,o6,none⟩,sc,sq,dy⟩) hrl).symm
        obtain⟨qv,hqv⟩:∃v,row[0]=v:=⟨_,rfl⟩
        rw[hqv]at y0 y1 y2 hh2
        simp only[Nat.zero_mul,Nat.add_zero]at x0 x1 x2 y0 y1 y2
        obtain⟨cm,hcm⟩:∃k,aW pv qv=k:=⟨_,rfl⟩
        have hbe:bb = !decide (0≤cm):=by
         rw[←hbb]
         by_cases UQ:cm<0
         ·rw[aU fun _=>by simp only[Nat.add_sub_cancel];rw[hpv,hh2,hcm];exact UQ]
          simp;omega
         ·rw[aM fun h=>by have h:=h omA;simp only[Nat.add_sub_cancel]at h;rw[hpv,hh2,hcm]at h;omega]
          simp;omega
        have HCM:=qh hcm
        have HBE:=qh hbe
        have hk0:=aH (w:=w2) b5 omA
        have hk1:=aH (w:=w2) b8 omA
        have hk2:=aH (w:=w2) b9 omA
        have hk3:=aH (w:=w2) wr.heap.size Vm
        have hd:decide (0<q+1)=true:=by simp
        clear hc7 hc8 hc9 hh1 hpv hh2 hqv hcm hbb SV hrq hbe
        cases hcd:decide (0≤cm)
        ·refine ag krA krA ?_;(repeat(go_big_quiet_step ((go_at_call 161;with_reducible exact aX (kU pv qv _ HCM.out)))));refine wpQuiet_nil ?_;intro wq hq
         go_wp2_with fail
         go_meet
         exact⟨by rw[HBE.out,hcd];rfl,hq⟩
        ·refine ag krA krA ?_;(repeat(go_big_quiet_step ((go_at_call 161;with_reducible exact aX (kU pv qv _ HCM.out)))));refine wpQuiet_nil ?_;intro wq hq
         go_wp2_with fail
         go_meet
         exact⟨by rw[HBE.out,hcd];rfl,hq⟩
      case rest =>
       obtain⟨rfl,hb3⟩:=hcut
       obtain⟨V3,rfl⟩:∃V3:World,V3=wc:=⟨_,rfl⟩
       have hy3:=ae hy2 hb3 hy2.size
       have HM3:=qh (HM2.out.below hb3 (show w.heap.size<w2.heap.size by omega))
       cases bb
       ·have HNO:Hid (¬ RTabOk af recs):=qh fun h=>by
         have h1:=aU (h.at_ m hlt).asc
         rw[HBB.out]at h1
         cases h1
        clear hbb d1
        go_wp2_with fail
        go_ret
        exact⟨ay (aM HNO.out).symm,hy3⟩
       ·have zF:Hid (pM af recs m hlt):=qh ⟨by rw[HX.out];exact Ol.out,iH.1 HBB.out,fun j hj he=>by
         have h1:=aU (p:= ∃j,∃h:j<recs.length,j<m∧Value.int .i64 z=.int .i64 (fE recs[j])) ⟨j,by omega,hj,by rw[he,HHD.out]⟩
         rw[HSN.out]at h1
         cases h1⟩
        clear hbb d1
        go_wp2_with fail
        go_roundw
        case rel=>exact⟨m+1,by omega,by go_num,hy3,HM3.out,fun k h hk=>by
         rcases Nat.lt_or_ge k m with h1|h1
         ·exact HOK.out k h h1
         ·obtain rfl:k=m:=by omega
          exact zF.out⟩
        case measure=>exact meA
     ·have HNO:Hid (¬ RTabOk af recs):=qh fun h=>by
       obtain⟨j,hj,hjm,he⟩:=iH.1 HSN.out
       injection he with _ he
       exact(h.at_ m hlt).own j hjm (by rw[HHD.out,he])
      go_wp2_with fail
      go_ret
      exact⟨ay (aM HNO.out).symm,hyV⟩
  ·have hlt':decide (m<recs.length)=false:=by simpa using hlt
   have iV:Hid (RTabOk af recs):=qh ⟨by omega,fun k h=>HOK.out k h omA⟩
   go_wp2_with fail
   go_ret
   exact⟨ay (aU iV.out).symm,hbr⟩
open Go.RowKit Go
variable {o:Oth}
structure tZ (w:World) (p mb fb k:Nat) (A:Option Addr) (c:Nat) (ts:List Tab) (o:Oth):Prop where
 blk:Blk w p 186 #[.slice A ts.length c,.slice o.vA 0 o.vc,.slice o.iA o.idx.length o.ic,.slice o.sA o.skt.length o.sc,.slice o.cA o.cch.length o.cc,.slice o.rA o.rel.length o.rc,.slice o.tA o.str.length o.tc,.slice o.bA o.bak.length o.bc,.map (some mb),.slice (some ⟨fb,0,none⟩) ts.length ts.length]
 nums:dO Tryz.prog 9 3 w mb k (mh ts k)
theorem tZ.next{w w':World}{p mb fb k:Nat}{A:Option Addr}{c:Nat}{ts:List Tab}(h:tZ w p mb fb k A c ts o)(hb:Below w.heap.size w w'):tZ w' p mb fb k A c ts o:=
 ⟨h.blk.below hb h.blk.lt,h.nums.below hb h.nums.lt⟩
theorem Sch.blk{w:World}{g:Nat}{a0 a1 a2 a3 a4 a5 a6 a7 a8 a9:Value}(k:Blk w g 186 #[a0,a1,a2,a3,a4,a5,a6,a7,a8,a9]):
 w.cell? ⟨g,0,none⟩=some a0∧w.cell? ⟨g,8,none⟩=some a8∧w.cell? ⟨g,9,none⟩=some a9:=⟨k.cell 0,k.cell 8,k.cell 9⟩
theorem KS:(Tryz.prog.info? 22).map (fun i=>(i.zero,i.size,i.bytes))=some (some (.slice none 0 0),1,24):=by kernel_rfl
open Go.RowKit Go
variable {o:Oth}
theorem zH(p mb fb k:Nat)(A:Option Addr)(c:Nat)(ts:List Tab)(RA:Option Addr)(rc n:Nat)(rt:List RTab)(w:World)(hI:tZ w p mb fb k A c ts o)(ht:aJ w w.heap.size A ts)(hok:aV ts)(hR:aR w w.heap.size RA rt)(hn:rt.length=n)(hsr:iP rt){r:Bool}(hres:pb (bf ts rt)=r):
 Calls Tryz.prog 118 #[.pointer (some ⟨p,0,none⟩),.slice RA n rc] w fun e w'=>e=.returned (.bool r)∧Below w.heap.size w w':=by
 subst hn hres
 have h8:ts.length≤8:=hok.len
 obtain⟨s0,s8,s9⟩:=Sch.blk hI.blk
 by_cases hlen:rt.length=ts.length
 ·have HI:=qh hI
  have HT:=qh ht.1
  have HT2:=qh ht.2
  have HR:=qh hR.1
  have HR2:=qh hR.2
  have HOK:=qh hok
  have HSR:=qh hsr
  have HL:=qh hlen
  rw[hlen]
  clear hI ht hok hR hsr
  go_enter Tryz.func118,Tryz.ntmps118
  go_upto_region 4 with (fail)
  clear s0 s8 s9
  go_loopw [18] (fun vi wr =>∃m:Nat,m≤ts.length∧vi=.int .i64 m∧Below w.heap.size w wr∧(∀i (h:i<rt.length) (h':i<ts.length),i<m→RTabOk ts[i].af rt[i].recs)) (fun vi _=>ts.length-(intOf vi).toNat)
  case atStart=>exact⟨0,Nat.zero_le _,rfl,by exact ak,fun i _ _ h=>by omega⟩
  case round =>
   obtain⟨m,hm,rfl,hbr,hdone⟩:=hrel
   have hwz:=hbr.size
   have HDO:=qh hdone
   clear hdone
   by_cases hlt:m<ts.length
   ·have Ik:m<rt.length:=by rw[HL.out];exact hlt
    obtain⟨s0,_,_⟩:=Sch.blk (HI.out.next hbr).blk
    obtain⟨b5,o5,rfl,hb5,hc5⟩:=(HT.out.below hbr).get hlt
    obtain⟨t0,t1,t2,t3⟩:=Tab.fe hc5
    obtain⟨b6,o6,rfl,hb6,hc6⟩:=(HR.out.below hbr).get Ik
    have r0:=hc6 0 _ rfl
    simp only[Nat.mul_one,Nat.add_zero]at r0
    have hcn:=HOK.out.af hlt
    have hcl:ah w w.heap.size Col.cells 7 ts[m].A ts[m].af:=(HT2.out ts[m] (lgm hlt)).1
    have hrc:gZ w w.heap.size rt[m].A rt[m].recs:=HR2.out rt[m] (lgm Ik)
    have Ic:rt[m].recs.length≤1000000 ∧ ∀r∈rt[m].recs,r.row.length≤1000000∧r.seq.length≤1000000:=⟨HSR.out.recs _ (lgm Ik),fun r hr=>⟨HSR.out.row _ (lgm Ik) r hr,HSR.out.seq _ (lgm Ik) r hr⟩⟩
    have HCL:=qh (hcl.next hbr)
    have HRC:=qh ((hrc.below hbr).mono hwz)
    have Oj:=qh Ic
    clear hc5 hc6 hcl hrc Ic
    cases hv:pb (RTabOk ts[m].af rt[m].recs)
    ·have HV:=qh hv
     have HNO:Hid (¬ bf ts rt):=qh fun h=>by
      have h1:=aU (h.tab m Ik hlt)
      rw[hv]at h1
      cases h1
     clear hv
     go_wp2_with (go_at_call 165;(with_reducible refine(mI ts[m].A ts[m].cap ts[m].af.length ts[m].af rt[m].A rt[m].cap rt[m].recs.length rt[m].recs _ HCL.out rfl hcn.1 hcn.2 HRC.out rfl Oj.out.1 Oj.out.2 HV.out).mono ?_);rintro e w1 ⟨rfl,hb1⟩;have hx1:Below w.heap.size w w1:=ae hbr hb1 hwz)
     go_ret
     exact⟨ay (aM HNO.out).symm,hx1⟩
    ·have HV:=qh hv
     clear hv
     go_wp2_with (go_at_call 165;(with_reducible refine(mI ts[m].A ts[m].cap ts[m].af.length ts[m].af rt[m].A rt[m].cap rt[m].recs.length rt[m].recs _ HCL.out rfl hcn.1 hcn.2 HRC.out rfl Oj.out.1 Oj.out.2 HV.out).mono ?_);rintro e w1 ⟨rfl,hb1⟩;have hx1:Below w.heap.size w w1:=ae hbr hb1 hwz)
     go_roundw
     case rel=>exact⟨m+1,by omega,by go_num,hx1,fun i h h' hi=>by
      rcases Nat.lt_or_ge i m with h1|h1
      ·exact HDO.out i h h' h1
      ·obtain rfl:i=m:=by omega
       exact iH.1 HV.out⟩
     case measure=>exact meA
   ·have hlt':decide (m<ts.length)=false:=by simpa using hlt
    have iV:Hid (bf ts rt):=qh ⟨HOK.out,HL.out,fun i h h'=>HDO.out i h h' omA⟩
    go_wp2_with fail
    go_ret
    exact⟨ay (aU iV.out).symm,hbr⟩
 ·have HNO:Hid (¬ bf ts rt):=qh fun h=>hlen h.len
  have d0:((rt.length:Int) != (ts.length:Int))=true:=by simp;omega
  clear hlen
  go_enter Tryz.func118,Tryz.ntmps118
  go_wp2_with fail
  go_ret
  exact⟨ay (aM HNO.out).symm,by exact ak⟩
end Go.Proofs.YtebippoohpnjkaaGreat
