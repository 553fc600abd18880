/-
  Contracts and plain laws of this seat, part 33.
-/
import Derived.Test.YtjidligipoldeaaGreatShelfS
import Derived.Test.YtjidligipoldeaaGreatT32
set_option linter.unusedVariables false
set_option linter.unusedSimpArgs false
set_option maxRecDepth 100000
set_option maxHeartbeats 16000000
namespace Go.Proofs.YtjidligipoldeaaGreat
open Go.RowKit Go
theorem cL{P:Prop}(h:P:=by rw[←hr];simp only[dD,ne_eq,decide_not,hk,hc',hv,hn',hrb];rfl):P:=h
theorem cM{P:Prop}(h:P:=by rw[←hr];simp only[eG,ne_eq,decide_not,hn',hc',hv,hrb];rfl):P:=h
theorem cN{P:Prop}(h:P:=by rw[←hr];simp only[dJ,hn',hvk,hw,hvv];rfl):P:=h
theorem cP{P:Prop}(h:P:=by rw[←hr];simp only[dJ,hn',hvk,hw];rfl):P:=h
theorem Oe{P:Prop}(h:P:=by
 go_wp2_with (go_at_call 157;(with_reducible refine(xm A0 cp row.length row _ (HR.out.next hbW) rfl hrl HRB.out).mono ?_);rintro e w2 ⟨rfl,hb2⟩)
 go_meet
 exact⟨by rw[HB.out],by first|exact hb2|exact ai⟩):P:=h
theorem Od{P:Prop}(h:P:=by
 go_wp2_with (go_at_call 126;(with_reducible refine(iE key _ HRB.out).mono ?_);rintro e w2 ⟨rfl,hb2⟩)
 go_meet
 exact⟨by rw[HB.out],by first|exact hb2.1|exact ai⟩):P:=h
theorem Oo{ae:List Col}{x:Chg}(h:dD ae.length x=true):jH ae x=1:=if_pos h
theorem Om{ae:List Col}{x:Chg}(h:dD ae.length x=false)(hk:((keyOf x).kind == 0)=true):jH ae x=6:=by
 unfold jH
 rw[h,if_neg (by decide),if_pos hk]
theorem Ol{ae:List Col}{x:Chg}(h:dD ae.length x=false)(hk:((keyOf x).kind == 0)=false)(ht:¬ fH ae x.row):jH ae x=5:=by
 unfold jH
 rw[h,if_neg (by decide),hk,if_neg (by decide),if_pos (bg ht)]
theorem Q3{ae:List Col}{x:Chg}(h:dD ae.length x=false)(hk:((keyOf x).kind == 0)=false)(ht:fH ae x.row):jH ae x=0:=by
 unfold jH
 rw[h,if_neg (by decide),hk,if_neg (by decide),bV ht,if_neg (by decide)]
theorem xm(A:Option Addr)(c n:Nat)(l:List Val)(w:World)(hl:ag w w.heap.size Val.cells 3 A l)(hln:l.length=n)(hn:n≤1000000){r:Bool}(hr:qN l=r):
 Calls Tryz.prog 157 #[.slice A n c] w fun e w'=>e=.returned (.bool r)∧Below w.heap.size w w':=by
 subst hln hr
 by_cases h16:16<l.length
 ·have Sg:decide (16<l.length)=true:=by simpa using h16
  go_enter Tryz.func157,Tryz.ntmps157
  go_wp2_with fail
  go_ret
  refine⟨ax ?_,by exact ai⟩
  have h:decide (l.length≤16)=false:=by simpa using h16
  rw[qN,h]
  rfl
 have Sg:decide (16<l.length)=false:=by simpa using h16
 go_enter Tryz.func157,Tryz.ntmps157
 go_wp2_with fail
 go_loopw [10] (fun vi wr =>∃m:Nat,m≤l.length∧vi=.int .i64 m∧Below w.heap.size w wr∧(∀i (h:i<l.length),i<m→bT l[i]=true)) (fun vi _=>l.length-(intOf vi).toNat)
 case atStart=>exact⟨0,Nat.zero_le _,rfl,by exact ai,fun i _ h=>by omega⟩
 case round =>
  obtain⟨m,hm,rfl,hbw,hok⟩:=hrel
  have HOK:=qh hok
  clear hok
  by_cases hlt:m<l.length
  ·obtain⟨b,o,rfl,hb,hc⟩:=(hl.below hbw).get hlt
   obtain⟨h0,h1,h2⟩:=Val.cells3 hc
   clear hc
   have hwz:=hbw.size
   cases hk:bT l[m]
   ·have HK:=qh hk
    clear hk
    go_wp2_with (go_at_call 126;(with_reducible refine(iE l[m] _ HK.out).mono ?_);rintro e w1 ⟨rfl,hb1⟩;have hx1:Below w.heap.size w w1:=aa (hbw.alloc hwz _) hb1.1 smA)
    go_ret
    refine⟨ax ?_,hx1⟩
    have h:l.all bT=false:=by
     rw[List.all_eq_false]
     exact⟨l[m],lgm hlt,by rw[HK.out];decide⟩
    rw[qN,h,Bool.and_false]
   ·have HK:=qh hk
    clear hk
    go_wp2_with (go_at_call 126;(with_reducible refine(iE l[m] _ HK.out).mono ?_);rintro e w1 ⟨rfl,hb1⟩;have hx1:Below w.heap.size w w1:=aa (hbw.alloc hwz _) hb1.1 smA)
    go_roundw
    case rel=>exact⟨m+1,by omega,by go_num,hx1,fun i h hi=>by
     rcases Nat.lt_or_ge i m with h1|h1
     ·exact HOK.out i h h1
     ·obtain rfl:i=m:=by omega
      exact HK.out⟩
    case measure=>exact meA
  ·have hlt':decide (m<l.length)=false:=by simpa using hlt
   go_wp2_with fail
   go_ret
   refine⟨ax ?_,hbw⟩
   have h:l.all bT=true:=by
    rw[List.all_eq_true]
    intro x hx
    obtain⟨i,hi,rfl⟩:=List.getElem_of_mem hx
    exact HOK.out i hi omA
   rw[qN,h,Bool.and_true]
   exact(decide_eq_true omA).symm
theorem xy(CA:Option Addr)(cc n:Nat)(ae:List Col)(kd sq dy tb:Int)(A0:Option Addr)(cp:Nat)(row:List Val)(key:Val)(cl:Int)(vl:Val)(w:World)(ht:ag w w.heap.size Col.cells 7 CA ae)(hn:ae.length=n)(h0:0<n)(hR:ag w w.heap.size Val.cells 3 A0 row)(hkd:kd=1)(hrl:row.length≤1000000){r:Int}(hr:jH ae ⟨kd,sq,dy,tb,A0,cp,row,key,cl,vl⟩=r):
 Calls Tryz.prog 119 #[.slice CA n cc,.agg #[.int .i64 kd,.int .i64 sq,.int .i64 dy,.int .i64 tb,.slice A0 row.length cp,.int .i64 key.kind,.int .i64 key.num,.string key.text,.int .i64 cl,.int .i64 vl.kind,.int .i64 vl.num,.string vl.text]] w fun e w'=>e=.returned (.int .i64 r)∧Below w.heap.size w w':=by
 subst hr hn
 have hg:Tryz.prog.eqGuardType Tryz.prog.depth 50=false:=by kernel_rfl
 have HT:=qh ht
 have HR:=qh hR
 have HKD:=qh hkd
 clear ht hR hkd
 obtain⟨bi,hbi⟩:∃b,dD ae.length ⟨kd,sq,dy,tb,A0,cp,row,key,cl,vl⟩=b:=⟨_,rfl⟩
 have HBI:=qh hbi
 clear hbi
 go_enter Tryz.func119,Tryz.ntmps119
 go_upto_region 1 with (fail)
 refine ah (P:=fun u=>Code.wp _ _ _ _ u) (R:=fun u=>Blk u w.heap.size 52 (Chg.cells ⟨kd,sq,dy,tb,A0,cp,row,key,cl,vl⟩).toArray∧Below w.heap.size w u) ⟨?_,?_⟩ ?_
 ·exact Blk.new' spA
 ·exact ai
 rintro W ⟨hX,hbW⟩
 have hz:=hX.lt
 have HX:=qh hX
 obtain⟨⟨q0,q1,q2,q3⟩,q4,⟨q5,q6,q7⟩,q8,q9,q10,q11⟩:=Chg.blk hX
 clear hX
 go_cut [35] (fun v wc=>v=.bool bi∧Below W.heap.size W wc)
 case first =>
  have hr:=HBI.out
  cases hk:decide (key=dU)
  have heq:=bu (x:=key) (y:=dU) hk
  have HB:Hid (bi=true):=qh (by rw[←hr];simp only[dD,ne_eq,decide_not,hk];rfl)
  clear hk hr
  simp only[dU]at heq
  rotate_left
  have heq:=bu (x:=key) (y:=dU) hk
  simp only[dU]at heq
  by_cases hc:cl≠0
  have hc':(cl != 0)=true:=by simpa using hc
  have HB:Hid (bi=true):=qh (by rw[←hr];simp only[dD,ne_eq,decide_not,hk,hc'];rfl)
  clear hk hr hc
  rotate_left
  have hc:=Decidable.not_not.1 hc
  have hc':(cl != 0)=false:=by simp[hc]
  cases hv:decide (vl=dU)
  have heq2:=bu (x:=vl) (y:=dU) hv
  have HB:Hid (bi=true):=qh (by rw[←hr];simp only[dD,ne_eq,decide_not,hk,hc',hv];rfl)
  clear hk hr hc hv
  simp only[dU]at heq2
  rotate_left
  have heq2:=bu (x:=vl) (y:=dU) hv
  simp only[dU]at heq2
  by_cases hn:(row.length:Int)≠(ae.length:Int)
  have hn':((row.length:Int) != (ae.length:Int))=true:=bne_iff_ne.2 hn
  have HB:Hid (bi=true):=qh (by rw[←hr];simp only[dD,ne_eq,decide_not,hk,hc',hv,hn'];rfl)
  clear hk hr hc hv hn
  rotate_left
  have hn:=Decidable.not_not.1 hn
  have hn':((row.length:Int) != (ae.length:Int))=false:=by rw[hn];simp
  cases hrb:qN row
  have HB:Hid (bi=true):=qh cL
  have HRB:=qh hrb
  clear hk hr hc hv hn hrb
  rotate_left
  have HB:Hid (bi=false):=qh cL
  have HRB:=qh hrb
  clear hk hr hc hv hn hrb
  rotate_left
  all_goals(
   exact Oe)
 case rest =>
  obtain⟨rfl,hbq⟩:=hcut
  obtain⟨V,rfl⟩:∃V:World,V=wc:=⟨_,rfl⟩
  have hxV:=aa hbW hbq hbW.size
  have hVz:=hxV.size
  have HXV:=qh (HX.out.below hbq hz)
  clear q0 q1 q2 q3 q4 q5 q6 q7 q8 q9 q10 q11 hbq hz HX
  cases bi
  ·have hlen:row.length=ae.length:=by
    have hbi:=HBI.out
    unfold dD at hbi
    simp only[Bool.or_eq_false_iff]at hbi
    have h1:=hbi.1.2
    have h2:(row.length:Int)=(ae.length:Int):=by simpa using h1
    omega
   have hr0:0<row.length:=by omega
   obtain⟨_,q4,_⟩:=Chg.blk HXV.out
   obtain⟨b5,o5,hA5,hb5,hc5⟩:=(HR.out.below hxV).get hr0
   subst hA5
   obtain⟨y0,_,_⟩:=Val.cells3 hc5
   simp only[Nat.zero_mul,Nat.add_zero]at y0
   have hkey:keyOf ⟨kd,sq,dy,tb,some ⟨b5,o5,none⟩,cp,row,key,cl,vl⟩=row[0]:=by rw[oh HKD.out,kU hr0]
   have HKEY:=qh hkey
   clear hc5 hkey
   cases hz0:(row[0].kind == 0)
   ·have HZ0:=qh hz0
    go_upto_region 5 with (fail)
    clear hz0 y0
    go_upto_region 6 with (fail)
    go_loopw [45] (fun vi wr =>∃m:Nat,m≤row.length∧vi=.int .i64 m∧Below V.heap.size V wr∧(∀i (h:i<row.length) (k:i<ae.length),i<m→dz row[i] ae[i].ty=true)) (fun vi _=>row.length-(intOf vi).toNat)
    case atStart=>exact⟨0,Nat.zero_le _,rfl,by exact ai,fun i _ _ h=>by omega⟩
    case round =>
     obtain⟨m,hm,rfl,hbr,hok⟩:=hrel
     have HOK:=qh hok
     have hxr:=aa hxV hbr hxV.size
     have hwz:=hxr.size
     clear hok q4
     by_cases hlt:m<row.length
     ·have hmc:m<ae.length:=by omega
      obtain⟨cb,co,rfl,hcb,hcc⟩:=(HT.out.below hxr).get hmc
      obtain⟨rb,ro,he',hrb,hrc⟩:=(HR.out.below hxr).get hlt
      injection he' with he'
      injection he' with he1 he2
      subst he1 he2
      obtain⟨c0,c1,c2,c3,c4,c5,c6⟩:=Col.dW hcc
      obtain⟨y0,y1,y2⟩:=Val.cells3 hrc
      obtain⟨v,hv⟩:∃v,row[m]=v:=⟨_,rfl⟩
      obtain⟨x,hx⟩:∃x,ae[m]=x:=⟨_,rfl⟩
      have VF:Hid (dz row[m] ae[m].ty=dz v x.ty):=qh (by rw[hv,hx])
      rw[hv]at y0 y1 y2
      rw[hx]at c0 c1 c2 c3 c4 c5 c6
      clear hcc hrc hv hx
      go_upto_region 8 with (fail)
      refine ah (P:=fun u=>Code.wp _ _ _ _ u) (R:=fun u=>Blk u wr.heap.size 50 v.cells.toArray∧Below wr.heap.size wr u) ⟨?_,?_⟩ ?_
      ·exact Blk.new _ _ _
      ·exact ai
      rintro U ⟨hV,hbU⟩
      have hyU:=aa hxr hbU hwz
      have v0:=hV.cell 0
      have v1:=hV.cell 1
      have v2:=hV.cell 2
      simp only[Val.cells,gE3]at v0 v1 v2
      have hvl:=hV.lt
      have hUz:=hbU.size
      have hxz:=hxr.size
      replace c0:=(hbU.cell (p:=⟨cb,_,none⟩) (show cb<wr.heap.size by omega)).trans c0
      replace c1:=(hbU.cell (p:=⟨cb,_,none⟩) (show cb<wr.heap.size by omega)).trans c1
      replace c2:=(hbU.cell (p:=⟨cb,_,none⟩) (show cb<wr.heap.size by omega)).trans c2
      replace c3:=(hbU.cell (p:=⟨cb,_,none⟩) (show cb<wr.heap.size by omega)).trans c3
      replace c4:=(hbU.cell (p:=⟨cb,_,none⟩) (show cb<wr.heap.size by omega)).trans c4
      replace c5:=(hbU.cell (p:=⟨cb,_,none⟩) (show cb<wr.heap.size by omega)).trans c5
      replace c6:=(hbU.cell (p:=⟨cb,_,none⟩) (show cb<wr.heap.size by omega)).trans c6
      clear y0 y1 y2 hV
      have hk0:=az (w:=U) wr.heap.size hvl
      have hk1:=az (w:=U) cb omA
      cases hv2:dz v x.ty
      ·have HV2:=qh hv2
       have HE:Hid (jH ae ⟨kd,sq,dy,tb,some ⟨b5,o5,none⟩,cp,row,key,cl,vl⟩=5):=qh (Ol HBI.out (by rw[HKEY.out];exact HZ0.out) fun h=>by
        have h1:=h m hlt hmc
        rw[VF.out,hv2]at h1
        cases h1)
       clear hv2
       refine af krA krA ?_;(repeat(go_big_quiet_step ((go_at_call 158;with_reducible exact dN (jb v x _ HV2.out)))));refine wpQuiet_nil ?_;intro wq hq
       go_wp2_with fail
       go_ret
       rw[HE.out]
       exact⟨rfl,aa hyU hq hyU.size⟩
      ·have HV2:=qh hv2
       clear hv2
       refine af krA krA ?_;(repeat(go_big_quiet_step ((go_at_call 158;with_reducible exact dN (jb v x _ HV2.out)))));refine wpQuiet_nil ?_;intro wq hq
       have hxU:=aa (aa hbr hbU hbr.size) hq (aa hbr hbU hbr.size).size
       go_wp2_with fail
       go_roundw
       case rel=>exact⟨m+1,by omega,by go_num,hxU,fun i h k hi=>by
        rcases Nat.lt_or_ge i m with h1|h1
        ·exact HOK.out i h k h1
        ·obtain rfl:i=m:=by omega
         rw[VF.out]
         exact HV2.out⟩
       case measure=>exact meA
     ·have hlt':decide (m<row.length)=false:=by simpa using hlt
      have HE:Hid (jH ae ⟨kd,sq,dy,tb,some ⟨b5,o5,none⟩,cp,row,key,cl,vl⟩=0):=qh (Q3 HBI.out (by rw[HKEY.out];exact HZ0.out) fun i h k=>HOK.out i h k omA)
      go_wp2_with fail
      go_ret
      rw[HE.out]
      exact⟨rfl,hxr⟩
   ·have HE:Hid (jH ae ⟨kd,sq,dy,tb,some ⟨b5,o5,none⟩,cp,row,key,cl,vl⟩=6):=qh (Om HBI.out (by rw[HKEY.out];exact hz0))
    go_wp2_with fail
    go_ret
    rw[HE.out]
    exact⟨rfl,hxV⟩
  ·have HE:=qh (Oo HBI.out)
   go_wp2_with fail
   go_ret
   rw[HE.out]
   exact⟨rfl,hxV⟩
theorem Pj{ae:List Col}{x:Chg}(h:eG x=true):mO ae x=1:=if_pos h
theorem Ph{ae:List Col}{x:Chg}(h:eG x=false)(hk:(x.key.kind == 0)=true):mO ae x=6:=by
 unfold mO
 rw[h,if_neg (by decide),if_pos hk]
theorem Pg{ae:List Col}{x:Chg}(h:eG x=false)(hk:(x.key.kind == 0)=false)(ht:(x.key.kind != oN ae 0)=true):mO ae x=5:=by
 unfold mO
 rw[h,if_neg (by decide),hk,if_neg (by decide),if_pos ht]
theorem Si{ae:List Col}{x:Chg}(h:eG x=false)(hk:(x.key.kind == 0)=false)(ht:(x.key.kind != oN ae 0)=false):mO ae x=0:=by
 unfold mO
 rw[h,if_neg (by decide),hk,if_neg (by decide),ht,if_neg (by decide)]
theorem xz(CA:Option Addr)(cc n:Nat)(ae:List Col)(kd sq dy tb:Int)(A0:Option Addr)(cp:Nat)(row:List Val)(key:Val)(cl:Int)(vl:Val)(w:World)(ht:ag w w.heap.size Col.cells 7 CA ae)(hn:ae.length=n)(h0:0<n)(hrl:row.length≤1000000){r:Int}(hr:mO ae ⟨kd,sq,dy,tb,A0,cp,row,key,cl,vl⟩=r):
 Calls Tryz.prog 121 #[.slice CA n cc,.agg #[.int .i64 kd,.int .i64 sq,.int .i64 dy,.int .i64 tb,.slice A0 row.length cp,.int .i64 key.kind,.int .i64 key.num,.string key.text,.int .i64 cl,.int .i64 vl.kind,.int .i64 vl.num,.string vl.text]] w fun e w'=>e=.returned (.int .i64 r)∧Below w.heap.size w w':=by
 subst hr hn
 have hg:Tryz.prog.eqGuardType Tryz.prog.depth 50=false:=by kernel_rfl
 have HT:=qh ht
 clear ht
 obtain⟨bi,hbi⟩:∃b,eG ⟨kd,sq,dy,tb,A0,cp,row,key,cl,vl⟩=b:=⟨_,rfl⟩
 have HBI:=qh hbi
 clear hbi
 go_enter Tryz.func121,Tryz.ntmps121
 go_upto_region 1 with (fail)
 refine ah (P:=fun u=>Code.wp _ _ _ _ u) (R:=fun u=>Blk u w.heap.size 52 (Chg.cells ⟨kd,sq,dy,tb,A0,cp,row,key,cl,vl⟩).toArray∧Below w.heap.size w u) ⟨?_,?_⟩ ?_
 ·exact Blk.new' spA
 ·exact ai
 rintro W ⟨hX,hbW⟩
 have hz:=hX.lt
 have HX:=qh hX
 obtain⟨⟨q0,q1,q2,q3⟩,q4,⟨q5,q6,q7⟩,q8,q9,q10,q11⟩:=Chg.blk hX
 clear hX
 go_cut [25] (fun v wc=>v=.bool bi∧Below W.heap.size W wc)
 case first =>
  have hr:=HBI.out
  by_cases hn:0<row.length
  have hn':decide (0<row.length)=true:=by simpa using hn
  have HB:Hid (bi=true):=qh (by rw[←hr];simp only[eG,ne_eq,decide_not,hn'];rfl)
  clear hr hn
  rotate_left
  have hn':decide (0<row.length)=false:=by simpa using hn
  by_cases hc:cl≠0
  have hc':(cl != 0)=true:=by simpa using hc
  have HB:Hid (bi=true):=qh (by rw[←hr];simp only[eG,ne_eq,decide_not,hn',hc'];rfl)
  clear hr hc hn
  rotate_left
  have hc:=Decidable.not_not.1 hc
  have hc':(cl != 0)=false:=by simp[hc]
  cases hv:decide (vl=dU)
  have heq2:=bu (x:=vl) (y:=dU) hv
  have HB:Hid (bi=true):=qh (by rw[←hr];simp only[eG,ne_eq,decide_not,hn',hc',hv];rfl)
  clear hr hc hv hn
  simp only[dU]at heq2
  rotate_left
  have heq2:=bu (x:=vl) (y:=dU) hv
  simp only[dU]at heq2
  cases hrb:bT key
  have HB:Hid (bi=true):=qh cM
  have HRB:=qh hrb
  clear hr hc hv hn hrb
  rotate_left
  have HB:Hid (bi=false):=qh cM
  have HRB:=qh hrb
  clear hr hc hv hn hrb
  rotate_left
  all_goals(
   exact Od)
 case rest =>
  obtain⟨rfl,hbq⟩:=hcut
  obtain⟨V,rfl⟩:∃V:World,V=wc:=⟨_,rfl⟩
  have hxV:=aa hbW hbq hbW.size
  have hVz:=hxV.size
  have hX:=HX.out.below hbq hz
  have hgl:=hX.lt
  clear q0 q1 q2 q3 q4 q5 q6 q7 q8 q9 q10 q11 hbq hz HX
  obtain⟨_,_,⟨q5,_,_⟩,_⟩:=Chg.blk hX
  clear hX
  obtain⟨cb,co,rfl,hcb,hcc⟩:=(HT.out.below hxV).get h0
  obtain⟨_,c1,_⟩:=Col.dW hcc
  simp only[Nat.zero_mul,Nat.add_zero]at c1
  have hty:oN ae 0=ae[0].ty:=kW (k:= 0) h0
  obtain⟨ty,TE⟩:∃t,ae[0].ty=t:=⟨_,rfl⟩
  rw[TE]at c1 hty
  have HTY:=qh hty
  clear hcc hty TE
  cases bi
  ·cases hz0:(key.kind == 0)
   ·have HZ0:=qh hz0
    go_upto_region 5 with (fail)
    have q0:=az (w:=V) w.heap.size hgl
    have q1:=az (w:=V) cb omA
    cases hne:(key.kind != ty)
    ·have HE:=qh (Si (ae:=ae) HBI.out HZ0.out (by rw[HTY.out];exact hne))
     refine af krA krA ?_;(repeat(go_big_quiet_step (fail)));refine wpQuiet_nil ?_;intro wq hq
     go_wp2_with fail
     go_ret
     rw[HE.out]
     exact⟨rfl,aa hxV hq hxV.size⟩
    ·have HE:=qh (Pg (ae:=ae) HBI.out HZ0.out (by rw[HTY.out];exact hne))
     refine af krA krA ?_;(repeat(go_big_quiet_step (fail)));refine wpQuiet_nil ?_;intro wq hq
     go_wp2_with fail
     go_ret
     rw[HE.out]
     exact⟨rfl,aa hxV hq hxV.size⟩
   ·have HE:=qh (Ph (ae:=ae) HBI.out hz0)
    go_wp2_with fail
    go_ret
    rw[HE.out]
    exact⟨rfl,hxV⟩
  ·have HE:=qh (Pj (ae:=ae) HBI.out)
   go_wp2_with fail
   go_ret
   rw[HE.out]
   exact⟨rfl,hxV⟩
theorem aj.NW{w:World}{base g cap i:Nat}{l:List Int}(h:aj w base 3 intCells 1 (.slice (some ⟨g,0,none⟩) l.length cap) l)(hi:i<l.length)(x:Int):
 aj (w.setCell ⟨g,i,none⟩ (.int .i64 x)) base 3 intCells 1 (.slice (some ⟨g,0,none⟩) l.length cap) (l.set i x)∧w.grownBy (w.setCell ⟨g,i,none⟩ (.int .i64 x)) (some g):=
 ⟨h.gV bE rfl hi x (j:= 0) (o:=i) (u:= .int .i64 x) omA omA rfl,(World.ownsRow.stored h i (.int .i64 x)).2⟩
theorem aj.cell1{w:World}{base g cap i:Nat}{l:List Int}(h:aj w base 3 intCells 1 (.slice (some ⟨g,0,none⟩) l.length cap) l)(hi:i<l.length):w.cell? ⟨g,i,none⟩=some (.int .i64 l[i]):=by
 have:=h.Vu bE hi (j:= 0) (u:= .int .i64 l[i]) rfl
 simpa using this
theorem Ji(g k n c:Nat)(cur:List Int)(base cap:Nat)(w:World)(h:aj w base 3 intCells 1 (.slice (some ⟨g,0,none⟩) cur.length cap) cur)(hn:k+n=cur.length)(h0:0<n):
 ∃vs,∀ty,(Builtin.clear_ #[22] ty #[.slice (some ⟨g,k,none⟩) n c]).run Tryz.prog w=.ok (.tuple #[]) (w.setCells g k vs):=by
 obtain⟨i0,hi0,hz0,hz1,hz2⟩:=info_parts wT
 refine⟨_,fun ty=>oJ w 22 3 ty (.int .i64 0) Tryz.underlying22 (fun w=>by kernel_rfl) (fun u hu =>?_) g k c h0 (fun j hj =>?_) (fun j hj=>h.frz _)⟩
 ·have hu:=rH (by simp[Value.cells]) hu
  simp[Value.cells]at hu
  rcases hu with rfl<;>rfl
 ·rw[Array.length_toList,size_zeroCells]at hj
  have hj:j<n*1:=by simpa[Value.cells]using hj
  have hlt:k+j<cur.length:=by omega
  rw[h.cell1 hlt]
  rfl
theorem DN(base g c:Nat)(l:List Int)(w:World)(h:aj w base 3 intCells 1 (.slice (some ⟨g,0,none⟩) l.length c) l)(hn:l.length≤1000000):
 Calls Tryz.prog 237 #[.slice (some ⟨g,0,none⟩) l.length c] w fun e w' =>
  (∃v,e=.returned v∧aj w' base 3 intCells 1 v (yP l))∧w.grownBy w' (some g):=by
 have HO:=qh h
 have hgb:=h.Sn
 have hcl:=h.Sm
 clear h
 go_enter Tryz.func237,Tryz.ntmps237
 by_cases h2:l.length<2
 ·go_wp2
  go_ret
  refine⟨⟨_,rfl,?_⟩,World.grownBy.refl _ _⟩
  rw[BO h2]
  exact HO.out
 ·have hd2:decide ((l.length:Int)<2)=false:=by simp;omega
  go_wp2
  go_loopw [3] (fun vk wr =>∃k:Nat,1≤k∧k≤l.length∧vk=.int .i64 k∧(∀j (h:j<l.length),0<j→j<k→¬ l[j]=l[j-1])∧Below w.heap.size w wr) (fun vk _=>l.length-(intOf vk).toNat)
  case atStart=>exact⟨1,Nat.le_refl _,by omega,rfl,fun j _ h0 h1=>by omega,by exact ai⟩
  case round =>
   obtain⟨k,hk1,hk,rfl,hno,hbw⟩:=hrel
   have HNO:=qh hno
   clear hno
   have hO:=HO.out.below hbw nlr
   have HOW:=qh hO
   by_cases hlt:k<l.length
   ·obtain⟨q,rfl⟩:∃q,k=q+1:=⟨k-1,by omega⟩
    have h0:=hO.cell1 hlt
    have g0:=hO.cell1 (show q<l.length by omega)
    have hk0:=az (w:=wr) g (by have:=hbw.size;omega)
    clear hO
    by_cases hcmp:l[q+1]=l[q]
    ·have heq:(l[q+1]==l[q])=true:=by simpa using hcmp
     have HCM:=qh hcmp
     clear hcmp
     go_wp2
     refine af krA krA ?_;(repeat(go_big_quiet_step (fail)));refine wpQuiet_nil ?_;intro wq hq
     have hq':=aa hbw hq hbw.size
     go_wp2
     have hdd:ddE l (q+1+1)=l.take (q+1):=by
      rw[yT hlt omA (by simpa using HCM.out)]
      exact yQ omA HNO.out
     have HDD:=qh hdd
     have hOq:=HOW.out.below hq nlr
     have HOQ:=qh hOq
     clear hdd h0 g0 hk0 HOW hOq heq
     go_loopw [3,5] (fun vk vm wi =>∃(k p:Nat) (cur:List Int),vk=.int .i64 k∧vm=.int .i64 (p+1:Nat)∧q+1+(p+1)≤l.length∧k≤q+1+p∧cur.length=l.length∧aj wi base 3 intCells 1 (.slice (some ⟨g,0,none⟩) l.length c) cur∧cur.take k=ddE l (q+1+(p+1))∧(∀j (h:j<l.length) (h':j<cur.length),q+1+p≤j→cur[j]=l[j])∧w.grownBy wi (some g)) (fun _ vm _=>l.length-(intOf vm).toNat)
     case atStart=>exact⟨q+1,0,l,rfl,rfl,by omega,by omega,rfl,HOQ.out,HDD.out.symm,fun _ _ _ _=>rfl,aL hq' _⟩
     case round =>
      obtain⟨k,p,cur,rfl,rfl,hp,hkp,pX,hO,htk,hsame,hgr⟩:=hrel
      have HO':=qh hO
      have HTK:=qh htk
      have HSA:=qh hsame
      have hgz:=hgr.size
      clear htk hsame
      by_cases OI:q+1+(p+1)<l.length
      ·have hOc:aj wr base 3 intCells 1 (.slice (some ⟨g,0,none⟩) cur.length c) cur:=by rw[pX];exact hO
       have h0:wr.cell? ⟨g,q+1+(p+1),none⟩=some (.int .i64 l[q+1+(p+1)]):=by
        rw[hOc.cell1 omA,HSA.out _ OI _ omA]
       have g0:wr.cell? ⟨g,q+1+p,none⟩=some (.int .i64 l[q+1+p]):=by
        rw[hOc.cell1 omA,HSA.out _ omA _ omA]
       have hk0:=az (w:=wr) g omA
       have HOC:=qh hOc
       have hd4:(((p+1:Nat):Int)<((l.length-(q+1):Nat):Int)):=by omega
       clear hO hOc
       cases hbb:(l[q+1+(p+1)]==l[q+1+p]) with
       | true =>
         have hcm2:l[q+1+(p+1)]=l[q+1+p]:=by simpa using hbb
         have HE2:=qh hcm2
         have heq:(l[q+1+(p+1)] != l[q+1+p])=false:=by rw[bne,hbb];rfl
         clear hcm2 hbb
         go_wp2
         refine af krA krA ?_;(repeat(go_big_quiet_step (fail)));refine wpQuiet_nil ?_;intro wq2 hq2
         have hg2:w.grownBy wq2 (some g):=au hgr (aL hq2 _)
         have HO2:=qh (HOC.out.below hq2 nlr)
         go_wp2
         go_roundw
         case rel=>exact⟨k,p+1,cur,rfl,by go_num,by omega,by omega,pX,by rw[←pX];exact HO2.out,by
          rw[HTK.out]
          exact(yT OI omA (by simpa using HE2.out)).symm,fun j h h' hj=>HSA.out j h h' omA,hg2⟩
         case measure=>exact meA
       | false =>
         have hcm2:¬ l[q+1+(p+1)]=l[q+1+p]:=by simpa using hbb
         have HE2:=qh hcm2
         have heq:(l[q+1+(p+1)] != l[q+1+p])=true:=by rw[bne,hbb];rfl
         clear hcm2 hbb
         go_wp2
         refine af krA krA ?_;(repeat(go_big_quiet_step (fail)));refine wpQuiet_nil ?_;intro wq2 hq2
         have hg2:w.grownBy wq2 (some g):=au hgr (aL hq2 _)
         have hO2:=HOC.out.below hq2 nlr
         clear h0 g0 hk0
         have h0:wq2.cell? ⟨g,q+1+(p+1),none⟩=some (.int .i64 l[q+1+(p+1)]):=by
          rw[hO2.cell1 omA,HSA.out _ OI _ omA]
         have hkl:k<cur.length:=by omega
         have g0:=hO2.cell1 hkl
         have hfz:∀j,wq2.frozen? ⟨g,j,none⟩=false:=fun j=>hO2.frz j
         have HO2:=qh hO2
         clear hO2
         go_wp2
         obtain⟨hs1,hs2⟩:=HO2.out.NW hkl l[q+1+(p+1)]
         go_roundw
         case rel=>exact⟨k+1,p+1,cur.set k l[q+1+(p+1)],by go_num,by go_num,by omega,by omega,by rw[List.length_set];exact pX,by rw[←pX];exact hs1,by
          rw[List.take_succ_eq_append_getElem (by simpa using hkl),List.getElem_set_self,List.take_set_of_le nlr,HTK.out]
          exact(yU OI omA (by simpa using HE2.out)).symm,fun j h h' hj=>by
          rw[List.getElem_set_ne omA]
          exact HSA.out j h (by simpa using h') omA,au hg2 hs2⟩
         case measure=>exact meA
      ·have hd4:decide (((p+1:Nat):Int)<((l.length-(q+1):Nat):Int))=false:=by simp;omega
       have hOc:aj wr base 3 intCells 1 (.slice (some ⟨g,0,none⟩) cur.length c) cur:=by rw[pX];exact hO
       obtain⟨vs,XK⟩:=Ji g k (l.length-k) (c-k) cur base c wr hOc omA omA
       have HOC:=qh hOc
       clear hO hOc
       go_wp2
       go_ret
       have htake:(cur.take k).length=k:=by simp;omega
       have hcut:=HOC.out.cut bE (m:=k) omA
       have hcut':aj wr base 3 intCells 1 (.slice (some ⟨g,0,none⟩) (cur.take k).length c) (cur.take k):=by rw[htake];exact hcut
       obtain⟨hb1,hb2⟩:=hcut'.BZ vs (o:=k) (by rw[htake];omega)
       refine⟨⟨_,rfl,?_⟩,au hgr hb2⟩
       rw[htake,HTK.out]at hb1
       have e:q+1+(p+1)=l.length:=by omega
       rw[e]at hb1
       exact hb1
    ·have heq:(l[q+1]==l[q])=false:=by simpa using hcmp
     have HCM:=qh hcmp
     clear hcmp
     go_wp2
     refine af krA krA ?_;(repeat(go_big_quiet_step (fail)));refine wpQuiet_nil ?_;intro wq hq
     have hq':=aa hbw hq hbw.size
     go_wp2
     go_roundw
     case rel=>exact⟨q+1+1,by omega,by omega,by go_num,fun j h h0 hj=>by
      rcases Nat.lt_or_ge j (q+1) with hjq|hjq
      ·exact HNO.out j h h0 hjq
      ·obtain rfl:j=q+1:=by omega
       exact by simpa using HCM.out,hq'⟩
     case measure=>exact meA
   ·obtain rfl:k=l.length:=by omega
    go_wp2
    go_ret
    refine⟨⟨_,rfl,?_⟩,aL hbw _⟩
    have e:yP l=l:=by
     have h:=yQ (l:=l) nlr HNO.out
     rwa [List.take_length]at h
    rw[e]
    exact HOW.out
open Go.RowKit Go Go.Sort
variable {o:Oth}
theorem DD(l:List Int):l.flatMap intCells=l.map (Value.int .i64):=by
 induction l with
 | nil=>rfl
 | cons x l ih=>rw[List.flatMap_cons,ih];rfl
theorem KS(base g c:Nat)(l:List Int)(w:World)(h:aj w base 3 intCells 1 (.slice (some ⟨g,0,none⟩) l.length c) l)(hn:l.length≤1000000):
 Calls Tryz.prog 236 #[.slice (some ⟨g,0,none⟩) l.length c] w fun e w'=>e=.returned (.tuple #[]) ∧ ∃l':List Int,l'.Perm l∧l'.Pairwise (fun a b:Int=>a≤b)∧aj w' base 3 intCells 1 (.slice (some ⟨g,0,none⟩) l'.length c) l'∧w.grownBy w' (some g):=by
 rcases h.2 with ⟨h',_⟩|⟨g',cap',cur,h',hb,hgb,hnc,hcm,hcs,ht⟩
 ·simp at h'
 ·injection h' with h1 _ h3
  injection h1 with h1
  injection h1 with h1
  subst h1 h3
  have hgl:g<w.heap.size:=(Array.getElem?_eq_some_iff.1 hgb).1
  rw[Nat.mul_one,DD]at ht
  refine(Tryz.slices_Sort_int g 0 c l w (holds_of_blockI hgb ht) hgl omA).mono ?_
  rintro e w' ⟨rfl,n,os,rfl⟩
  obtain⟨l',hl'⟩:∃l',l'=l.mergeSort fun x y=>decide (x≤y):=⟨_,rfl⟩
  rw[←hl']
  have hp:l'.Perm l:=by rw[hl'];exact List.mergeSort_perm l _
  have hln:=hp.length_eq
  refine⟨rfl,l',hp,?_,?_,grownBy_sortedI _⟩
  ·rw[hl']
   have h:=List.pairwise_mergeSort (le:=fun x y:Int=>decide (x≤y)) (fun a b c h1 h2=>by simp at *;omega) (fun a b=>by simp;omega) l
   simpa using h
  ·have h:=ownsRow_sortedI (n:=n) (os:=os) (e:= 3) hln hb hgb hnc hcm hcs
   unfold aj
   rw[DD,hln]
   exact h
theorem zC(w:World):CallsD Tryz.prog 235 #[] .returning w fun e u' w'=>e=.returned (.tuple #[])∧u'=.returning∧w'=w:=by
 refine callsD_of_wpS Tryz.func235 rfl fun c₀ cs hu =>?_
 apply wpS_region
 cases c₀
 simp_all[wpOpsS,go_sem,recoverD,Tryz.ntmps235,bodyPostS,results,Tryz.results235]
theorem Jp(A:Option Addr)(c m:Nat)(ts:List Tab)(n:Nat)(ae:List Col)(w:World)(ht:aF w w.heap.size A ts)(hm:ts.length=m)(hs:aM ts)(hok:aN ts)(hcg:gF w w.heap.size A c ts o)(hn:n<ts.length)(hcs:ts[n].ae=ae):
 Calls Tryz.prog 209 #[.agg #[.slice A m c,.slice o.vA 0 o.vc,.slice o.iA o.idx.length o.ic,.slice o.sA o.skt.length o.sc,.slice o.cA o.cch.length o.cc,.slice o.rA o.rel.length o.rc,.slice o.tA o.str.length o.tc,.slice o.bA o.bak.length o.bc],.int .i64 n] w fun e w'=>(∃v out,e=.returned v∧aj w' w.heap.size 3 intCells 1 v out∧jB [0] ae [] out)∧Below w.heap.size w w':=by
 subst hm
 obtain⟨i0,hi0,hz0,hz1,hz2⟩:=info_parts wT
 have h8:ae.length≤8:=by rw[←hcs];exact(hok.ae hn).2
 have hol:∀x∈ae,x.own.length≤8:=fun x hx=>hok.GA hn (x:=x) (by rw[hcs];exact hx)
 have hT0:=ht
 obtain⟨b5,o5,rfl,hb5,hc5⟩:=ht.1.get hn
 obtain⟨t0,t1,t2,t3⟩:=Tab.fV hc5
 have hcn:=ht.2 ts[n] (lgm hn)
 rw[hcs]at t1 hcn
 obtain⟨TA,hTA⟩:∃a,ts[n].A=a:=⟨_,rfl⟩
 obtain⟨tc,htc⟩:∃a,ts[n].cap=a:=⟨_,rfl⟩
 rw[hTA]at hcn t1
 rw[htc]at t1
 have hn1:decide ((n:Int)<0)=false:=by simp
 have hn2:decide ((ts.length:Int)≤(n:Int))=false:=by simp;omega
 have hn3:decide (ts.length≤n)=false:=by simp;omega
 have HT:=qh hT0
 have HS:=qh hs
 have HOK:=qh hok
 have HCG:=qh hcg
 have HC:=qh hcn
 have HL:=qh hol
 have HT1:=qh t1
 clear ht hc5 t0 t1 t2 t3 hcn hcs hol hTA htc hT0 hs hok hcg
 go_enter_defers Tryz.func209,Tryz.ntmps209
 go_upto_region 2 with (fail)
 refine ah (P:=fun u=>Code.wp _ _ _ _ u) (R:=fun u=>Blk u w.heap.size 33 #[.slice (some ⟨b5,o5,none⟩) ts.length c,.slice o.vA 0 o.vc,.slice o.iA o.idx.length o.ic,.slice o.sA o.skt.length o.sc,.slice o.cA o.cch.length o.cc,.slice o.rA o.rel.length o.rc,.slice o.tA o.str.length o.tc,.slice o.bA o.bak.length o.bc]∧Below w.heap.size w u) ⟨?_,?_⟩ ?_
 ·exact Blk.new _ _ _
 ·exact ai
 rintro W0 ⟨hB,hbW0⟩
 have WE:=hB.lt
 have HB:=qh hB
 obtain⟨p0,p1,p2,p3,p4,p5,p6,p7⟩:=Cat.fU hB
 clear hB
 go_upto_region 4 with (go_at_call 72;(with_reducible refine(HCG.out.prog _ hbW0).mono ?_);rintro e w1 ⟨rfl,hb1⟩;have hx1:Below w.heap.size w w1:=aa hbW0 hb1 hbW0.size;have hB1:=HB.out.below hb1 WE;clear p0 p1 p2 p3 p4 p5 p6 p7;obtain⟨p0,p1,p2,p3,p4,p5,p6,p7⟩:=Cat.fU hB1;have HB1:=qh hB1;have Y6:=hB1.lt;clear hB1)
 go_upto_region 5 with (fail)
 refine ah (P:=fun u=>Code.wp _ _ _ _ u) (R:=fun u=>Blk u w.heap.size 33 #[.slice (some ⟨b5,o5,none⟩) ts.length c,.slice o.vA 0 o.vc,.slice o.iA o.idx.length o.ic,.slice o.sA o.skt.length o.sc,.slice o.cA o.cch.length o.cc,.slice o.rA o.rel.length o.rc,.slice o.tA o.str.length o.tc,.slice o.bA o.bak.length o.bc]∧aj u w.heap.size 3 intCells 1 (.slice (some ⟨w1.heap.size,0,none⟩) 1 1) [0]∧Below w.heap.size w u) ⟨?_,?_,?_⟩ ?_
 ·exact HB1.out.alloc _
 ·exact aj.one (x:=(0:Int)) (Blk.new _ _ _) hx1.size bE
 ·exact hx1.alloc hx1.size _
 rintro W ⟨hB,hO,hbW⟩
 clear p0 p1 p2 p3 p4 p5 p6 p7
 have hzW:=hB.lt
 have HB:=qh hB
 have HO:=qh hO
 obtain⟨p0,p1,p2,p3,p4,p5,p6,p7⟩:=Cat.fU hB
 have t1:=((bN hbW b5 hb5).1 _).trans HT1.out
 clear hB hO
 go_upto_region 6 with (fail)
 go_loopw [5,30] (fun vf vi wr =>∃(m g cp:Nat) (out:List Int),m≤ae.length∧vi=.int .i64 m∧vf=.slice (some ⟨g,0,none⟩) out.length cp∧aj wr w.heap.size 3 intCells 1 (.slice (some ⟨g,0,none⟩) out.length cp) out ∧ 0<out.length∧out.length≤1+8*m∧(∀x,x∈out↔x∈[(0:Int)] ∨ ∃q∈ae.take m,x∈q.own)∧Below w.heap.size w wr) (fun _ vi _=>ae.length-(intOf vi).toNat)
 case atStart=>exact⟨0,w1.heap.size,1,[0],Nat.zero_le _,rfl,rfl,HO.out,by simp,by simp,fun x=>by simp,hbW⟩
 case round =>
  obtain⟨m,g,cp,out,hm,rfl,rfl,hown,hpos,hlen,hmem,hbr⟩:=hrel
  have hwz:=hbr.size
  have HOWN:=qh hown
  have zP:=qh hmem
  clear hown hmem p0 p1 p2 p3 p4 p5 p6 p7 t1
  by_cases hlt:m<ae.length
  ·obtain⟨b6,o6,rfl,hb6,hc6⟩:=(HC.out.1.below hbr).get hlt
   obtain⟨c0,c1,c2,c3,c4,c5,c6⟩:=Col.dW hc6
   have hio:=HC.out.2 ae[m] (lgm hlt)
   have hl8:=HL.out ae[m] (lgm hlt)
   obtain⟨⟨nm2,ty2,ns2,rf2,A3,c3',own,jo2,du2⟩,hx⟩:∃x:Col,ae[m]=x:=⟨_,rfl⟩
   rw[hx]at c0 c1 c2 c3 c4 c5 c6 hio hl8
   simp only at c0 c1 c2 c3 c4 c5 c6 hio hl8
   have HX:=qh hx
   have HIO:=qh hio
   clear hc6 hio hx
   go_wp2_with (at_builtin;go_must (refine aO _ rfl (.tmp 34) (.tmp 36) 22 rfl 3 i0 _ intCells 1 8 Tryz.underlying22 hi0 hz0 hz1 hz2 rfl omA bE dZ w.heap.size (.slice (some ⟨g,0,none⟩) out.length cp) out rfl (HOWN.out.alloc _) _ _ _ own rfl rfl (HIO.out.next ((hbr.alloc hwz _))) omA mxA smA ?_;intro v3 w3 hown3 hg3 qR;obtain⟨g',cp',rfl,_⟩:=hown3.pE (by rw[List.length_append];omega);have Dq:Below w.heap.size w w3:=Below.grown (hbr.alloc hwz _) hg3 smA (HOWN.out.row);have Er:=qh hown3;clear hown3 qR))
   go_roundw
   case rel=>exact⟨m+1,g',cp',out++own,by omega,by go_num,by rw[List.length_append],Er.out,by rw[List.length_append];omega,by rw[List.length_append];omega,fun x=>by
    rw[List.mem_append,zP.out,List.take_succ_eq_append_getElem hlt]
    simp only[List.mem_append,List.mem_singleton]
    constructor
    ·rintro((h|⟨q,hq,h⟩)|h)
     ·exact .inl h
     ·exact .inr ⟨q,.inl hq,h⟩
     ·exact .inr ⟨_,.inr rfl,by rw[HX.out];exact h⟩
    ·rintro(h|⟨q,hq|hq,h⟩)
     ·exact .inl (.inl h)
     ·exact .inl (.inr ⟨q,hq,h⟩)
     ·subst hq
      rw[HX.out]at h
      exact .inr h,Dq⟩
   case measure=>exact meA
  ·have hlt':decide (m<ae.length)=false:=by simpa using hlt
   obtain rfl:m=ae.length:=by omega
   have hmem:=zP.out
   rw[List.take_length]at hmem
   replace zP:=qh hmem
   clear hmem
   have hrw:∀k,some g=some k→w.heap.size≤k:=fun k hk=>by
    injection hk with hk
    rw[←hk]
    exact HOWN.out.row g rfl
   go_wp2_with fail
   (with_reducible refine(KS w.heap.size g cp out _ HOWN.out omA).mono ?_)
   rintro e w3 ⟨rfl,l',hp,hsrt,hown3,hg3⟩
   have hl3:=hp.length_eq
   have Er:=qh hown3
   have Dq:Below w.heap.size w w3:=Below.grown hbr hg3 hwz hrw
   clear hown3
   go_wp2_with fail
   rw[←hl3]
   (with_reducible refine(DN w.heap.size g cp l' _ Er.out omA).mono ?_)
   rintro e w4 ⟨⟨v4,rfl,Qe⟩,hg4⟩
   have VV:=qh Qe
   have XQ:Below w.heap.size w w4:=Below.grown Dq hg4 Dq.size hrw
   clear Qe
   go_wp2_with fail
   refine leaves_cons (f:= 235) (args:= #[]) spA (by simp[go_sem]) ?_;refine(zC _).mono ?_;rintro e u' w'' ⟨rfl,rfl,rfl⟩;refine⟨_,results_tmp rfl _ _ _,?_⟩
   refine⟨⟨_,_,rfl,VV.out,?_⟩,XQ⟩
   have hw:l'.Pairwise (fun a b:Int=>a<b∨a=b):=hsrt.imp fun h=>by omega
   refine⟨FM (lt:=fun a b:Int=>a<b) (fun h1 h2=>by omega) hw,fun x =>?_⟩
   rw[FL (lt:=fun a b:Int=>a<b) (fun h1 h2=>by omega) hw,hp.mem_iff,zP.out]
   simp
open Go.RowKit Go
variable {o:Oth}
structure Fx where
 A:Option Addr
 cap:Nat
 out:List Int
def Fx.val(f:Fx):Value:= .slice f.A f.out.length f.cap
def PR(w:World)(B:Nat)(f:Fx)(ae:List Col):Prop:=f=⟨none,0,[]⟩ ∨ ∃g,f.A=some ⟨g,0,none⟩∧aj w B 3 intCells 1 f.val f.out∧jB [0] ae [] f.out
structure jq (w:World) (B p mb fb:Nat) (A:Option Addr) (c:Nat) (ts:List Tab) (o:Oth) (F:List Fx):Prop where
 sch:wH w p mb fb ts.length A c ts o
 lp:B≤p
 lm:B≤mb
 lf:B≤fb
 len:F.length=ts.length
 blk:Blk w fb 22 (F.map Fx.val).toArray
 fix:∀i (h:i<F.length) (k:i<ts.length),PR w B F[i] ts[i].ae
def mQ(n:Nat)(F F':List Fx):Prop:= ∀f∈F',f∈F ∨ ∀a,f.A=some a→n≤a.block
theorem mQ.refl(n:Nat)(F:List Fx):mQ n F F:=fun f hf =>.inl hf
theorem mQ.mono{n m:Nat}{F F':List Fx}(h:mQ n F F')(hm:m≤n):mQ m F F':=fun f hf=>(h f hf).imp id fun h a ha=>Nat.le_trans hm (h a ha)
theorem mQ.set{n k:Nat}{F:List Fx}{f:Fx}(h:∀a,f.A=some a→n≤a.block):mQ n F (F.set k f):=fun g hg=>by
 rcases List.mem_or_eq_of_mem_set hg with h1|rfl
 ·exact .inl h1
 ·exact .inr h
theorem jq.nep{w:World}{B p mb fb:Nat}{A:Option Addr}{c:Nat}{ts:List Tab}{F:List Fx}(h:jq w B p mb fb A c ts o F):p≠fb:=h.sch.blk.apart h.blk (by decide)
theorem jq.nem{w:World}{B p mb fb:Nat}{A:Option Addr}{c:Nat}{ts:List Tab}{F:List Fx}(h:jq w B p mb fb A c ts o F):mb≠fb:=h.sch.nums.aY h.blk
theorem PR.below{w w':World}{B:Nat}{f:Fx}{ae:List Col}(h:PR w B f ae)(hb:Below w.heap.size w w'):PR w' B f ae:=by
 rcases h with h|⟨g,h1,h2,h3⟩
 ·exact .inl h
 ·exact .inr ⟨g,h1,h2.below hb nlr,h3⟩
theorem jq.next{w w':World}{B p mb fb:Nat}{A:Option Addr}{c:Nat}{ts:List Tab}{F:List Fx}(h:jq w B p mb fb A c ts o F)(hb:Below w.heap.size w w'):jq w' B p mb fb A c ts o F:=
 ⟨h.sch.next hb,h.lp,h.lm,h.lf,h.len,h.blk.below hb h.blk.lt,fun i a b=>(h.fix i a b).below hb⟩
theorem Ab{ae:List Col}{out:List Int}(h:jB [0] ae [] out)(k:Int):k∈out↔dn ae k:=by
 rw[h.2]
 unfold dn
 simp
theorem jq.put{w:World}{B p mb fb:Nat}{A:Option Addr}{c:Nat}{ts:List Tab}{F:List Fx}(h:jq w B p mb fb A c ts o F){n:Nat}(hn:n<ts.length){g cp:Nat}{out:List Int}
 (ho:aj w B 3 intCells 1 (.slice (some ⟨g,0,none⟩) out.length cp) out) (ht:jB [0] ts[n].ae [] out):
 jq (w.setCell ⟨fb,n,none⟩ (.slice (some ⟨g,0,none⟩) out.length cp)) B p mb fb A c ts o (F.set n ⟨some ⟨g,0,none⟩,cp,out⟩)∧w.grownBy (w.setCell ⟨fb,n,none⟩ (.slice (some ⟨g,0,none⟩) out.length cp)) (some fb):=by
 have hg:w.grownBy (w.setCell ⟨fb,n,none⟩ (.slice (some ⟨g,0,none⟩) out.length cp)) (some fb):=ak (World.grownBy.refl _ _) (.inl rfl) _
 refine⟨⟨⟨h.sch.blk.far h.nep _,h.sch.nums.setCell h.nem _⟩,h.lp,h.lm,h.lf,by rw[List.length_set];exact h.len,?_,fun i a b =>?_⟩,hg⟩
 ·have hb:=h.blk.aH n (.slice (some ⟨g,0,none⟩) out.length cp)
  rw[List.setIfInBounds_toArray]at hb
  rw[List.map_set]
  exact hb
 ·by_cases hi:i=n
  ·subst hi
   rw[List.getElem_set_self]
   exact .inr ⟨g,rfl,ho.jy h.blk (by decide) _,ht⟩
  ·rw[List.getElem_set_ne (fun e=>hi e.symm)]
   rcases h.fix i (by simpa using a) b with h1|⟨g',h1,h2,h3⟩
   ·exact .inl h1
   ·exact .inr ⟨g',h1,h2.jy h.blk (by decide) _,h3⟩
theorem Sch.cells{w:World}{p mb fb k:Nat}{A:Option Addr}{c:Nat}{ts:List Tab}(h:wH w p mb fb k A c ts o):w.cell? ⟨p,0,none⟩=some (.slice A ts.length c)∧w.cell? ⟨p,1,none⟩=some (.slice o.vA 0 o.vc)∧w.cell? ⟨p,2,none⟩=some (.slice o.iA o.idx.length o.ic)∧w.cell? ⟨p,3,none⟩=some (.slice o.sA o.skt.length o.sc)∧w.cell? ⟨p,4,none⟩=some (.slice o.cA o.cch.length o.cc)∧w.cell? ⟨p,5,none⟩=some (.slice o.rA o.rel.length o.rc)∧w.cell? ⟨p,6,none⟩=some (.slice o.tA o.str.length o.tc)∧w.cell? ⟨p,7,none⟩=some (.slice o.bA o.bak.length o.bc)∧w.cell? ⟨p,9,none⟩=some (.slice (some ⟨fb,0,none⟩) ts.length ts.length):=
 ⟨h.blk.cell 0,h.blk.cell 1,h.blk.cell 2,h.blk.cell 3,h.blk.cell 4,h.blk.cell 5,h.blk.cell 6,h.blk.cell 7,h.blk.cell 9⟩
theorem Al{ae:List Col}{out:List Int}{k:Int}{r:Bool}(h:jB [0] ae [] out)(hr:pb (dn ae k)=r):decide (k∈out)=r:=by
 rw[←hr]
 by_cases h1:k∈out
 ·rw[bV ((Ab h k).1 h1)]
  exact decide_eq_true h1
 ·rw[bg (fun h2=>h1 ((Ab h k).2 h2))]
  exact decide_eq_false h1
theorem jq.at{w:World}{B p mb fb:Nat}{A:Option Addr}{c:Nat}{ts:List Tab}{F:List Fx}(h:jq w B p mb fb A c ts o F){n:Nat}(hn:n<F.length){f:Fx}(hf:F[n]=f):w.cell? ⟨fb,n,none⟩=some f.val:=by
 rw[h.blk.cell n]
 simp[hn,hf]
theorem Aa{w:World}{B g cp:Nat}{out:List Int}(h:aj w B 3 intCells 1 (.slice (some ⟨g,0,none⟩) out.length cp) out):ag w w.heap.size intCells 1 (some ⟨g,0,none⟩) out:=by
 obtain⟨A,c,hv,_,hs,_⟩:=h.slice bE
 injection hv with h1
 rw[h1]
 exact hs
theorem vW(B p mb fb:Nat)(A:Option Addr)(c:Nat)(ts:List Tab)(F:List Fx)(n:Nat)(k:Int)(w:World)(hS:jq w B p mb fb A c ts o F)(ht:aF w w.heap.size A ts)(hs:aM ts)(hok:aN ts)(hcg:gF w w.heap.size A c ts o)(hn:n<ts.length)(hB:B≤w.heap.size){r:Bool}(hr:pb (dn ts[n].ae k)=r):
 Calls Tryz.prog 159 #[.pointer (some ⟨p,0,none⟩),.int .i64 n,.int .i64 k] w fun e w'=>e=.returned (.bool r)∧(∃F',jq w' B p mb fb A c ts o F'∧mQ w.heap.size F F')∧w.grownBy w' (some fb):=by
 have h8:ts.length≤8:=hok.len
 have hpl:=hS.sch.blk.lt
 have hfl:=hS.blk.lt
 obtain⟨s0,s1,s2,s3,s4,s5,s6,s7,s9⟩:=Sch.cells hS.sch
 have hnF:n<F.length:=by rw[hS.len];exact hn
 obtain⟨f,hf⟩:∃f,F[n]=f:=⟨_,rfl⟩
 have hfx:=hS.fix n hnF hn
 rw[hf]at hfx
 have f0:w.cell? ⟨fb,n,none⟩=some f.val:=by
  rw[hS.blk.cell n]
  simp[hnF,hf]
 have HS:=qh hS
 have HT:=qh ht
 have HSN:=qh hs
 have HOK:=qh hok
 have HCG:=qh hcg
 have HR:=qh hr
 clear hS ht hs hok hcg hr hf hnF
 rcases hfx with rfl|⟨g,hA,ho,hot⟩
 ·simp only[Fx.val]at f0
  have hnil:(binOp .eql 22 (.slice none 0 0) (.slice none 0 0)).run Tryz.prog w=.ok (.bool true) w:=Lib.run_eql_slice_nil w 22 3 none 0 0 0 0 Tryz.underlying22
  go_enter Tryz.func159,Tryz.ntmps159
  go_upto_region 2 with (fail)
  clear f0 hnil
  refine aJ (S:=fun u=>u.cell? ⟨p,0,none⟩=some (.slice A ts.length c)∧u.cell? ⟨p,1,none⟩=some (.slice o.vA 0 o.vc)∧u.cell? ⟨p,2,none⟩=some (.slice o.iA o.idx.length o.ic)∧u.cell? ⟨p,3,none⟩=some (.slice o.sA o.skt.length o.sc)∧u.cell? ⟨p,4,none⟩=some (.slice o.cA o.cch.length o.cc)∧u.cell? ⟨p,5,none⟩=some (.slice o.rA o.rel.length o.rc)∧u.cell? ⟨p,6,none⟩=some (.slice o.tA o.str.length o.tc)∧u.cell? ⟨p,7,none⟩=some (.slice o.bA o.bak.length o.bc)∧u.cell? ⟨p,9,none⟩=some (.slice (some ⟨fb,0,none⟩) ts.length ts.length)) [12] krA ⟨s0,s1,s2,s3,s4,s5,s6,s7,s9⟩ (fun hHeld =>?_)
  refine tkT 0 hHeld ?_
  refine tkT 1 hHeld ?_
  refine tkT 2 hHeld ?_
  refine tkT 3 hHeld ?_
  refine tkT 4 hHeld ?_
  refine tkT 5 hHeld ?_
  refine tkT 6 hHeld ?_
  refine tkT 7 hHeld ?_
  refine tkT 8 hHeld ?_
  refine tkT 9 hHeld ?_
  refine r1T 10 (fun K hK =>?_)
  go_simp
  (with_reducible refine(Jp A c ts.length ts n _ _ (HT.out.next brf.drew) rfl HSN.out HOK.out (HCG.out.next brf.drew) hn rfl).mono ?_)
  rintro e w5 ⟨⟨v5,out,rfl,hown,hot⟩,hb5⟩
  have jl:Below w.heap.size w w5:=brf.drew.trans hb5
  obtain⟨g,cp,rfl,hgB⟩:=hown.pE (List.length_pos_of_mem ((hot.2 0).2 (.inl spA)))
  have hS5:=HS.out.next jl
  have hz5:=jl.size
  clear s0 s1 s2 s3 s4 s5 s6 s7 s9
  obtain⟨s0,s1,s2,s3,s4,s5,s6,s7,s9⟩:=Sch.cells hS5.sch
  have hnF:n<F.length:=by rw[hS5.len];exact hn
  have HP:=qh (hS5.put hn (hown.mono (show B≤w.heap.size from hB)) hot)
  have hl8:=vK HOK.out hn hot
  have HRC:=qh (Al hot HR.out)
  obtain⟨u,f0⟩:∃u,w5.cell? ⟨fb,n,none⟩=some u:=⟨_,hS5.at hnF rfl⟩
  have fz:w5.frozen? ⟨fb,n,none⟩=false:=hS5.blk.frozen n
  clear hown hot hS5 hb5
  go_wp2_with fail
  refine hK.out _ _ _ ⟨s0,s1,s2,s3,s4,s5,s6,s7,s9⟩ (fun hHeld =>?_)
  clear hK K
  (try simp only[Act.put,gP6])
  refine tkT 11 hHeld ?_
  refine rzT 12 (fun K hK =>?_)
  go_simp
  refine hK.out _ _ _ ?_
  clear hK K
  refine aI krA ?_ _
  clear hHeld s0 s1 s2 s3 s4 s5 s6 s7 s9 f0 fz
  obtain⟨W2,hW2⟩:∃W2:World,W2=w5.setCell ⟨fb,n,none⟩ (.slice (some ⟨g,0,none⟩) out.length cp):=⟨_,rfl⟩
  rw[←hW2]
  have hP:=HP.out
  rw[←hW2]at hP
  obtain⟨hS2,hg2⟩:=hP
  have hnS:n<(F.set n ⟨some ⟨g,0,none⟩,cp,out⟩).length:=by rw[List.length_set];exact hnF
  have f0:=hS2.at hnS (List.getElem_set_self _)
  simp only[Fx.val]at f0
  obtain⟨s0,s1,s2,s3,s4,s5,s6,s7,s9⟩:=Sch.cells hS2.sch
  have HS2:=qh hS2
  have hgw:w.grownBy W2 (some fb):=au (aL jl _) hg2
  have HSL:Hid (ag W2 W2.heap.size intCells 1 (some ⟨g,0,none⟩) out):=qh (by
   rcases hS2.fix n hnS hn with h|⟨g',h1,h2,_⟩
   ·rw[List.getElem_set_self]at h
    cases h
   ·rw[List.getElem_set_self]at h1 h2
    cases h1
    exact Aa h2)
  clear hS2 hg2 hW2 HP hnS
  go_wp2_with (go_at_call 210;(with_reducible refine(oF (some ⟨g,0,none⟩) cp out.length out k _ HSL.out rfl omA HRC.out).mono ?_);rintro e w6 ⟨rfl,rfl⟩)
  go_ret
  exact⟨rfl,⟨_,HS2.out,mQ.set (fun a ha=>by injection ha with ha;rw[←ha];exact hgB)⟩,hgw⟩
 ·have hl8:=vK HOK.out hn hot
  have HRC:=qh (Al hot HR.out)
  obtain⟨A',cp,out⟩:=f
  simp only at hA
  subst hA
  simp only[Fx.val]at f0 ho
  have HSL:=qh (Aa ho)
  have hnil:(binOp .eql 22 (.slice (some ⟨g,0,none⟩) out.length cp) (.slice none 0 0)).run Tryz.prog w=.ok (.bool false) w:=Lib.run_eql_slice_nil w 22 3 (some ⟨g,0,none⟩) out.length cp 0 0 Tryz.underlying22
  simp only at HRC hl8 HSL
  clear ho hot
  go_enter Tryz.func159,Tryz.ntmps159
  go_wp2_with (go_at_call 210;(with_reducible refine(oF (some ⟨g,0,none⟩) cp out.length out k _ HSL.out rfl omA HRC.out).mono ?_);rintro e w6 ⟨rfl,rfl⟩)
  go_ret
  exact⟨rfl,⟨_,HS.out,mQ.refl _ _⟩,World.grownBy.refl _ _⟩
open Go.RowKit Go
variable {o:Oth}
theorem Q0{P:Prop}(h:P:=by
 go_wp2_with (go_at_call 126;(first|(with_reducible refine(iE key _ HVK.out).mono ?_)|(with_reducible refine(iE vl _ HVV.out).mono ?_));rintro e w3 ⟨rfl,hb3⟩;have IQ:=hb3.1;have U6:=IQ.size;have OV:=aa hbx IQ hbx.size;obtain⟨kx3,_,_⟩:=ni hb3 w.heap.size omA;clear hbx;have hbx:=OV;clear OV)
 go_meet
 exact⟨by rw[HB.out],hbx⟩):P:=h
theorem NT{ae:List Col}{x:Chg}(h:dJ ae.length x=true):mr ae x=1:=if_pos h
theorem NR{ae:List Col}{x:Chg}(h:dJ ae.length x=false)(hk:(x.key.kind == 0)=true):mr ae x=6:=by
 unfold mr
 rw[h,if_neg (by decide),if_pos hk]
theorem Gt{ae:List Col}{x:Chg}(h:dJ ae.length x=false)(hk:(x.key.kind == 0)=false)(ht:(!dz x.val (oN ae x.column)||x.key.kind != oN ae 0)=true):mr ae x=5:=by
 unfold mr
 rw[h,if_neg (by decide),hk,if_neg (by decide),if_pos ht]
theorem NS{ae:List Col}{x:Chg}(h:dJ ae.length x=false)(hk:(x.key.kind == 0)=false)(ht:(!dz x.val (oN ae x.column)||x.key.kind != oN ae 0)=false):mr ae x=if pb (dn ae x.column)=true then 11 else 0:=by
 unfold mr
 rw[h,if_neg (by decide),hk,if_neg (by decide),ht,if_neg (by decide)]
theorem xx(B p mb fb:Nat)(A:Option Addr)(c:Nat)(ts:List Tab)(F:List Fx)(CA:Option Addr)(cc:Nat)(ae:List Col)(kd sq dy:Int)(tn:Nat)(A0:Option Addr)(cp:Nat)(row:List Val)(key:Val)(cl:Int)(vl:Val)(w:World)(hS:jq w B p mb fb A c ts o F)(hT:aF w w.heap.size A ts)(hs:aM ts)(hok:aN ts)(hcg:gF w w.heap.size A c ts o)(htn:tn<ts.length)(hcs:ts[tn].ae=ae)(hB:B≤w.heap.size)(ht:ag w w.heap.size Col.cells 7 CA ae)(h0:0<ae.length)(hrl:row.length≤1000000){r:Int}(hr:mr ae ⟨kd,sq,dy,(tn:Int),A0,cp,row,key,cl,vl⟩=r):
 Calls Tryz.prog 120 #[.pointer (some ⟨p,0,none⟩),.slice CA ae.length cc,.agg #[.int .i64 kd,.int .i64 sq,.int .i64 dy,.int .i64 tn,.slice A0 row.length cp,.int .i64 key.kind,.int .i64 key.num,.string key.text,.int .i64 cl,.int .i64 vl.kind,.int .i64 vl.num,.string vl.text]] w fun e w'=>e=.returned (.int .i64 r)∧(∃F',jq w' B p mb fb A c ts o F'∧mQ w.heap.size F F')∧w.grownBy w' (some fb):=by
 subst hr
 have HT:=qh ht
 have HS:=qh hS
 have HTS:=qh hT
 have HSN:=qh hs
 have HOK:=qh hok
 have HCG:=qh hcg
 have HCS:=qh hcs
 clear ht hS hT hs hok hcg hcs
 obtain⟨bi,hbi⟩:∃b,dJ ae.length ⟨kd,sq,dy,(tn:Int),A0,cp,row,key,cl,vl⟩=b:=⟨_,rfl⟩
 have HBI:=qh hbi
 clear hbi
 go_enter Tryz.func120,Tryz.ntmps120
 go_upto_region 1 with (fail)
 refine ah (P:=fun u=>Code.wp _ _ _ _ u) (R:=fun u=>Blk u w.heap.size 52 (Chg.cells ⟨kd,sq,dy,(tn:Int),A0,cp,row,key,cl,vl⟩).toArray∧Below w.heap.size w u) ⟨?_,?_⟩ ?_
 ·exact Blk.new' spA
 ·exact ai
 rintro W ⟨hX,hbW⟩
 have hz:=hX.lt
 have HX:=qh hX
 obtain⟨⟨q0,q1,q2,q3⟩,q4,⟨q5,q6,q7⟩,q8,q9,q10,q11⟩:=Chg.blk hX
 clear hX
 go_cut [34] (fun v wc=>v=.bool bi∧Below W.heap.size W wc)
 case first =>
  have hbx:Below W.heap.size W W:=Below.refl _ _
  have hr:=HBI.out
  by_cases hn:0<row.length
  have hn':decide (0<row.length)=true:=by simpa using hn
  have HB:Hid (bi=true):=qh (by rw[←hr];simp only[dJ,hn'];rfl)
  clear hr hn
  rotate_left
  have hn':decide (0<row.length)=false:=by simpa using hn
  cases hvk:bT key
  have HVK:=qh hvk
  have HB:Hid (bi=true):=qh (by rw[←hr];simp only[dJ,hn',hvk];rfl)
  clear hr hn hvk
  rotate_left
  have HVK:=qh hvk
  by_cases hc:cl<0
  have hc':decide (cl<0)=true:=by simpa using hc
  have hw:aB cl 0 ((ae.length:Int)-1)=false:=by rw[aB,Bool.and_eq_false_iff];left;simpa using hc
  have HB:Hid (bi=true):=qh cP
  clear hr hn hvk hc hw
  rotate_left
  have hc':decide (cl<0)=false:=by simpa using hc
  by_cases hg:(ae.length:Int)≤cl
  have hg':decide ((ae.length:Int)≤cl)=true:=by simpa using hg
  have hw:aB cl 0 ((ae.length:Int)-1)=false:=by rw[aB,Bool.and_eq_false_iff];right;simp;omega
  have HB:Hid (bi=true):=qh cP
  clear hr hn hvk hc hw hg
  rotate_left
  have hg':decide ((ae.length:Int)≤cl)=false:=by simpa using hg
  have hw:aB cl 0 ((ae.length:Int)-1)=true:=by rw[aB,Bool.and_eq_true];simp;omega
  cases hvv:bT vl
  have HVV:=qh hvv
  have HB:Hid (bi=true):=qh cN
  clear hr hn hvk hc hw hg hvv
  rotate_left
  have HVV:=qh hvv
  have HB:Hid (bi=false):=qh cN
  clear hr hn hvk hc hw hg hvv
  rotate_left
  all_goals(
   exact Q0)
 case rest =>
  obtain⟨rfl,hbq⟩:=hcut
  obtain⟨V,rfl⟩:∃V:World,V=wc:=⟨_,rfl⟩
  have hxV:=aa hbW hbq hbW.size
  have hVz:=hxV.size
  have hX:=HX.out.below hbq hz
  have hgl:=hX.lt
  clear q0 q1 q2 q3 q4 q5 q6 q7 q8 q9 q10 q11 hbq hz HX
  obtain⟨⟨_,_,_,q3⟩,_,⟨q5,_,_⟩,q8,q9,q10,q11⟩:=Chg.blk hX
  have HXV:=qh hX
  have HSV:=qh (HS.out.next hxV)
  clear hX
  cases bi
  ·obtain⟨j,hj,hjl⟩:∃j:Nat,cl=(j:Int)∧j<ae.length:=by
    have h:=HBI.out
    unfold dJ at h
    simp only[Bool.or_eq_false_iff,Bool.not_eq_false']at h
    obtain⟨j,h1,h2⟩:=nM h.1.2
    exact⟨j,h1,h2⟩
   subst hj
   obtain⟨cb,co,rfl,hcb,hcc⟩:=(HT.out.below hxV).get hjl
   obtain⟨cb',co',he,_,hc0⟩:=(HT.out.below hxV).get h0
   injection he with he
   injection he with e1 e2
   subst e1 e2
   obtain⟨c0,c1,c2,c3,c4,c5,c6⟩:=Col.dW hcc
   obtain⟨_,k1,_⟩:=Col.dW hc0
   simp only[Nat.zero_mul,Nat.add_zero]at k1
   have ht1:oN ae (j:Int)=ae[j].ty:=kW hjl
   have ht0:oN ae 0=ae[0].ty:=kW (k:= 0) h0
   obtain⟨x,hx⟩:∃x,ae[j]=x:=⟨_,rfl⟩
   obtain⟨t0,hx0⟩:∃t,ae[0].ty=t:=⟨_,rfl⟩
   rw[hx]at c0 c1 c2 c3 c4 c5 c6 ht1
   rw[hx0]at k1 ht0
   have HT1:=qh ht1
   have HT0:=qh ht0
   clear hcc hc0 hx hx0 ht1 ht0
   cases hz0:(key.kind == 0)
   ·have HZ0:=qh hz0
    go_upto_region 5 with (fail)
    clear hz0
    have r0:=az (w:=V) w.heap.size hgl
    have r1:=az (w:=V) cb omA
    cases hv:dz vl x.ty
    ·have HV2:=qh hv
     have HE:=qh (Gt (ae:=ae) HBI.out HZ0.out (by rw[HT1.out,HV2.out];rfl))
     clear hv
     refine af krA krA ?_;(repeat(go_big_quiet_step (((go_at_call 158;with_reducible exact dN (jb vl x _ HV2.out))))));refine wpQuiet_nil ?_;intro wq hq
     go_wp2_with fail
     go_ret
     rw[HE.out]
     exact⟨rfl,⟨_,HSV.out.next hq,mQ.refl _ _⟩,aL (aa hxV hq hxV.size) _⟩
    ·have HV2:=qh hv
     clear hv
     cases hne:(key.kind != t0)
     ·have HE:=qh (NS (ae:=ae) HBI.out HZ0.out (by rw[HT1.out,HV2.out,HT0.out];exact hne))
      refine af krA krA ?_;(repeat(go_big_quiet_step (((go_at_call 158;with_reducible exact dN (jb vl x _ HV2.out))))));refine wpQuiet_nil ?_;intro wq hq
      have hxq:=aa hxV hq hxV.size
      have hXq:=HXV.out.below hq hgl
      clear q3 q5 q8 q9 q10 q11 r0 r1 c0 c1 c2 c3 c4 c5 c6 k1
      obtain⟨⟨_,_,_,q3⟩,_,_,q8,_⟩:=Chg.blk hXq
      have HSQ:=qh (HSV.out.next hq)
      clear hXq
      cases hfx:pb (dn ae (j:Int))
      ·have HFX:=qh hfx
       clear hfx
       go_wp2_with fail
       (with_reducible refine(vW B p mb fb A c ts F tn (j:Int) _ HSQ.out (HTS.out.next hxq) HSN.out HOK.out (HCG.out.next hxq) htn (Nat.le_trans hB hxq.size) (r:=false) (by rw[HCS.out];exact HFX.out)).mono ?_)
       rintro e w6 ⟨rfl,hF6,hg6⟩
       go_wp2_with fail
       go_ret
       rw[HE.out,HFX.out]
       exact⟨rfl,hF6.imp fun _ h=>⟨h.1,h.2.mono hxq.size⟩,au (aL hxq _) hg6⟩
      ·have HFX:=qh hfx
       clear hfx
       go_wp2_with fail
       (with_reducible refine(vW B p mb fb A c ts F tn (j:Int) _ HSQ.out (HTS.out.next hxq) HSN.out HOK.out (HCG.out.next hxq) htn (Nat.le_trans hB hxq.size) (r:=true) (by rw[HCS.out];exact HFX.out)).mono ?_)
       rintro e w6 ⟨rfl,hF6,hg6⟩
       go_wp2_with fail
       go_ret
       rw[HE.out,HFX.out]
       exact⟨rfl,hF6.imp fun _ h=>⟨h.1,h.2.mono hxq.size⟩,au (aL hxq _) hg6⟩
     ·have HE:=qh (Gt (ae:=ae) HBI.out HZ0.out (by rw[HT0.out];simp only[hne,Bool.or_true]))
      refine af krA krA ?_;(repeat(go_big_quiet_step (((go_at_call 158;with_reducible exact dN (jb vl x _ HV2.out))))));refine wpQuiet_nil ?_;intro wq hq
      go_wp2_with fail
      go_ret
      rw[HE.out]
      exact⟨rfl,⟨_,HSV.out.next hq,mQ.refl _ _⟩,aL (aa hxV hq hxV.size) _⟩
   ·have HE:=qh (NR (ae:=ae) HBI.out hz0)
    go_wp2_with fail
    go_ret
    rw[HE.out]
    exact⟨rfl,⟨_,HSV.out,mQ.refl _ _⟩,aL hxV _⟩
  ·have HE:=qh (NT (ae:=ae) HBI.out)
   go_wp2_with fail
   go_ret
   rw[HE.out]
   exact⟨rfl,⟨_,HSV.out,mQ.refl _ _⟩,aL hxV _⟩
open Go.RowKit Go
variable {o:Oth}
theorem sF{P:Prop}(h:P:=by
 refine af krA krA ?_;(repeat(go_big_quiet_step (fail)));refine wpQuiet_nil ?_;intro wq hq
 go_wp2_with fail
 go_meet
 exact⟨rfl,hq⟩):P:=h
theorem sV(B p mb fb:Nat)(A:Option Addr)(c:Nat)(ts:List Tab)(F:List Fx)(kd sq dy tb:Int)(A0:Option Addr)(cp:Nat)(row:List Val)(key:Val)(cl:Int)(vl:Val)(w:World)(hS:jq w B p mb fb A c ts o F)(hT:aF w w.heap.size A ts)(hs:aM ts)(hok:aN ts)(hcg:gF w w.heap.size A c ts o)(hB:B≤w.heap.size)(hR:ag w w.heap.size Val.cells 3 A0 row)(hrl:row.length≤1000000){r:Int}(hr:aV ts ⟨kd,sq,dy,tb,A0,cp,row,key,cl,vl⟩=r):
 Calls Tryz.prog 76 #[.pointer (some ⟨p,0,none⟩),.agg #[.int .i64 kd,.int .i64 sq,.int .i64 dy,.int .i64 tb,.slice A0 row.length cp,.int .i64 key.kind,.int .i64 key.num,.string key.text,.int .i64 cl,.int .i64 vl.kind,.int .i64 vl.num,.string vl.text]] w fun e w'=>e=.returned (.int .i64 r)∧(∃F',jq w' B p mb fb A c ts o F'∧mQ w.heap.size F F')∧w.grownBy w' (some fb):=by
 subst hr
 have h8:ts.length≤8:=hok.len
 have HS:=qh hS
 have HTS:=qh hT
 have HSN:=qh hs
 have HOK:=qh hok
 have HCG:=qh hcg
 have HR:=qh hR
 have hpl:=hS.sch.blk.lt
 clear hS hT hs hok hcg hR
 go_enter Tryz.func76,Tryz.ntmps76
 go_upto_region 1 with (fail)
 refine ah (P:=fun u=>Code.wp _ _ _ _ u) (R:=fun u=>Blk u w.heap.size 52 (Chg.cells ⟨kd,sq,dy,tb,A0,cp,row,key,cl,vl⟩).toArray∧Below w.heap.size w u) ⟨?_,?_⟩ ?_
 ·exact Blk.new' spA
 ·exact ai
 rintro W ⟨hX,hbW⟩
 have hz:=hX.lt
 have HX:=qh hX
 obtain⟨⟨q0,q1,q2,q3⟩,_⟩:=Chg.blk hX
 have hSW:=HS.out.next hbW
 obtain⟨s0,_⟩:=Sch.cells hSW.sch
 clear hX hSW
 obtain⟨r1,hr1⟩:∃b,decide (sq<1)=b:=⟨_,rfl⟩
 obtain⟨r2,hr2⟩:∃b,decide (1073741824<sq)=b:=⟨_,rfl⟩
 obtain⟨r3,hr3⟩:∃b,decide (dy<0)=b:=⟨_,rfl⟩
 obtain⟨r4,hr4⟩:∃b,decide (1048576<dy)=b:=⟨_,rfl⟩
 obtain⟨r5,hr5⟩:∃b,decide (tb<0)=b:=⟨_,rfl⟩
 obtain⟨r6,hr6⟩:∃b,decide ((ts.length:Int)≤tb)=b:=⟨_,rfl⟩
 have HNB:Hid (kQ ts.length ⟨kd,sq,dy,tb,A0,cp,row,key,cl,vl⟩=(r1||(r2||(r3||(r4||(r5||r6)))))):=qh (by unfold kQ;simp only[hr1,hr2,hr3,hr4,hr5,hr6])
 have HR5:=qh hr5
 have HR6:=qh hr6
 go_cut [39] (fun v wc=>v=.bool (r1||(r2||(r3||(r4||(r5||r6)))))∧Below W.heap.size W wc)
 case first =>
  have k0:=az (w:=W) w.heap.size hz
  have k1:=az (w:=W) p omA
  cases r1
  ·cases r2
   ·cases r3
    ·cases r4
     ·cases r5
      ·cases r6
       ·exact sF
       ·exact sF
      ·exact sF
     ·exact sF
    ·exact sF
   ·exact sF
  ·exact sF
 case rest =>
  obtain⟨rfl,hbq⟩:=hcut
  obtain⟨V,rfl⟩:∃V:World,V=wc:=⟨_,rfl⟩
  have hxV:=aa hbW hbq hbW.size
  have hVz:=hxV.size
  have hX:=HX.out.below hbq hz
  have hgl:=hX.lt
  clear q0 q1 q2 q3 s0 hr1 hr2 hr3 hr4 hr5 hr6 hbq hz HX
  have HXV:=qh hX
  have HSV:=qh (HS.out.next hxV)
  clear hX
  obtain⟨nb,hnb⟩:∃b,(r1||(r2||(r3||(r4||(r5||r6)))))=b:=⟨_,rfl⟩
  rw[hnb]at HNB ⊢
  cases nb
  ·simp only[Bool.or_eq_false_iff]at hnb
   obtain⟨_,_,_,_,h5,h6⟩:=hnb
   obtain⟨k,hk⟩:∃k:Nat,tb=(k:Int):=⟨tb.toNat,by
    have h:=HR5.out
    rw[h5,decide_eq_false_iff_not]at h
    omega⟩
   subst hk
   have hkl:k<ts.length:=by
    have h:=HR6.out
    rw[h6,decide_eq_false_iff_not]at h
    omega
   obtain⟨⟨q0,q1,q2,q3⟩,q4,⟨q5,q6,q7⟩,q8,q9,q10,q11⟩:=Chg.blk HXV.out
   obtain⟨s0,_⟩:=Sch.cells HSV.out.sch
   obtain⟨b5,o5,hA5,hb5,hc5⟩:=(HTS.out.1.below hxV).get hkl
   subst hA5
   obtain⟨_,t1,_,_⟩:=Tab.fV hc5
   have eP:=HTS.out.2 ts[k] (lgm hkl)
   have hc0:0<ts[k].ae.length:=(HOK.out.ae hkl).1
   obtain⟨ae,hcs⟩:∃cs,ts[k].ae=cs:=⟨_,rfl⟩
   obtain⟨TA,hTA⟩:∃a,ts[k].A=a:=⟨_,rfl⟩
   obtain⟨tc,htc⟩:∃a,ts[k].cap=a:=⟨_,rfl⟩
   rw[hcs]at eP hc0 t1
   rw[hTA]at eP t1
   rw[htc]at t1
   have Gp:=qh eP.1
   have HCS:=qh hcs
   have k0:=az (w:=V) w.heap.size hgl
   have k1:=az (w:=V) p omA
   have k2:=az (w:=V) b5 omA
   clear hc5 eP hcs hTA htc h5 h6
   go_upto_region 3 with (fail)
   refine af krA krA ?_;(repeat(go_big_quiet_step (fail)));refine wpQuiet_nil ?_;intro wq hq
   have hxq:=aa hxV hq hxV.size
   have hXq:=HXV.out.below hq hgl
   clear q0 q1 q2 q3 q4 q5 q6 q7 q8 q9 q10 q11 s0 t1 k0 k1 k2
   obtain⟨⟨q0,q1,q2,q3⟩,q4,⟨q5,q6,q7⟩,q8,q9,q10,q11⟩:=Chg.blk hXq
   have HSQ:=qh (HSV.out.next hq)
   have HCQ:=qh ((Gp.out.next hxq))
   clear hXq
   by_cases h1:kd=1
   ·have hd1:(kd == 1)=true:=by simpa using h1
    have HE:=qh (Dy (x:=⟨kd,sq,dy,(k:Int),A0,cp,row,key,cl,vl⟩) HNB.out h1 rfl hkl (by rw[HCS.out];exact hc0))
    have H1:=qh h1
    clear h1
    go_wp2_with fail
    (with_reducible refine(xy TA tc ae.length ae kd sq dy (k:Int) A0 cp row key cl vl _ HCQ.out rfl hc0 (HR.out.next hxq) H1.out hrl rfl).mono ?_)
    rintro e w6 ⟨rfl,hb6⟩
    go_wp2_with fail
    go_ret
    rw[HE.out,HCS.out]
    exact⟨rfl,⟨_,HSQ.out.next hb6,mQ.refl _ _⟩,aL (aa hxq hb6 hxq.size) _⟩
   ·have hd1:(kd == 1)=false:=by simpa using h1
    by_cases h2:kd=2
    ·have hd2:(kd == 2)=true:=by simpa using h2
     have HE:=qh (Dx (x:=⟨kd,sq,dy,(k:Int),A0,cp,row,key,cl,vl⟩) HNB.out h2 rfl hkl)
     clear h1 h2
     go_wp2_with fail
     (with_reducible refine(xx B p mb fb _ c ts F TA tc ae kd sq dy k A0 cp row key cl vl _ HSQ.out (HTS.out.next hxq) HSN.out HOK.out (HCG.out.next hxq) hkl HCS.out (Nat.le_trans hB hxq.size) HCQ.out hc0 hrl rfl).mono ?_)
     rintro e w6 ⟨rfl,hF6,hg6⟩
     go_wp2_with fail
     go_ret
     rw[HE.out,HCS.out]
     exact⟨rfl,hF6.imp fun _ h=>⟨h.1,h.2.mono hxq.size⟩,au (aL hxq _) hg6⟩
    ·have hd2:(kd == 2)=false:=by simpa using h2
     by_cases h3:kd=3
     ·have hd3:(kd == 3)=true:=by simpa using h3
      have HE:=qh (Dz (x:=⟨kd,sq,dy,(k:Int),A0,cp,row,key,cl,vl⟩) HNB.out h3 rfl hkl)
      clear h1 h2 h3
      go_wp2_with fail
      (with_reducible refine(xz TA tc ae.length ae kd sq dy (k:Int) A0 cp row key cl vl _ HCQ.out rfl hc0 hrl rfl).mono ?_)
      rintro e w6 ⟨rfl,hb6⟩
      go_wp2_with fail
      go_ret
      rw[HE.out,HCS.out]
      exact⟨rfl,⟨_,HSQ.out.next hb6,mQ.refl _ _⟩,aL (aa hxq hb6 hxq.size) _⟩
     ·have hd3:(kd == 3)=false:=by simpa using h3
      have HE:=qh (I1 (ts:=ts) (x:=⟨kd,sq,dy,(k:Int),A0,cp,row,key,cl,vl⟩) h1 h2 h3)
      clear h1 h2 h3
      go_wp2_with fail
      go_ret
      rw[HE.out]
      exact⟨rfl,⟨_,HSQ.out,mQ.refl _ _⟩,aL hxq _⟩
  ·have HE:=qh (IZ HNB.out)
   go_wp2_with fail
   go_ret
   rw[HE.out]
   exact⟨rfl,⟨_,HSV.out,mQ.refl _ _⟩,aL hxV _⟩
open Go.RowKit Go
variable {o:Oth}
theorem Lr(n:Nat):((List.replicate n (⟨none,0,[]⟩:Fx)).map Fx.val).toArray=madeCells #[Value.slice none 0 0] n:=by
 apply Array.ext
 ·simp[madeCells]
 ·intro i h1 h2
  simp[madeCells,Fx.val,Nat.mod_one]
theorem pg(A:Option Addr)(c m:Nat)(ts:List Tab)(w:World)(ht:aF w w.heap.size A ts)(hm:ts.length=m)(hs:aM ts)(hok:aN ts):
 Calls Tryz.prog 75 #[.agg #[.slice A m c,.slice o.vA 0 o.vc,.slice o.iA o.idx.length o.ic,.slice o.sA o.skt.length o.sc,.slice o.cA o.cch.length o.cc,.slice o.rA o.rel.length o.rc,.slice o.tA o.str.length o.tc,.slice o.bA o.bak.length o.bc]] w fun e w'=>(∃p mb fb,e=.returned (.pointer (some ⟨p,0,none⟩))∧jq w' w.heap.size p mb fb A c ts o (List.replicate ts.length ⟨none,0,[]⟩))∧Below w.heap.size w w':=by
 subst hm
 obtain⟨i7,hi7,hz7,hs7,hb7⟩:=info_parts LV
 have h8:ts.length≤8:=hok.len
 have hmk:∀u:World,(Instr.makeSlice 172 (.int .i64 (ts.length:Int)) (.int .i64 (ts.length:Int))).run Tryz.prog u=.ok (.slice (some ⟨u.heap.size,0,none⟩) ts.length ts.length) (u.alloc (.cells (madeCells (Value.slice none 0 0).cells (ts.length*1)) 22)):=fun u=>by
  have:=iN (P:=Tryz.prog) 172 22 i7 (.slice none 0 0) Tryz.underlying172 hi7 hz7 .i64 .i64 ts.length ts.length nlr (by rw[hb7];omega) omA u
  rw[hs7]at this
  exact this
 have hmm:= @run_makeMap Tryz.prog
 have HT:=qh ht
 have HS:=qh hs
 have HOK:=qh hok
 clear ht hs hok hi7 hz7 hs7 hb7
 go_enter Tryz.func75,Tryz.ntmps75
 go_upto_region 1 with (fail)
 refine ah (P:=fun u=>Code.wp _ _ _ _ u) (R:=fun u=>Blk u w.heap.size 33 #[.slice A ts.length c,.slice o.vA 0 o.vc,.slice o.iA o.idx.length o.ic,.slice o.sA o.skt.length o.sc,.slice o.cA o.cch.length o.cc,.slice o.rA o.rel.length o.rc,.slice o.tA o.str.length o.tc,.slice o.bA o.bak.length o.bc]∧Below w.heap.size w u) ⟨?_,?_⟩ ?_
 ·exact Blk.new _ _ _
 ·exact ai
 rintro W ⟨hB,hbW⟩
 have hzW:=hB.lt
 have HB:=qh hB
 obtain⟨p0,p1,p2,p3,p4,p5,p6,p7⟩:=Cat.fU hB
 clear hB
 go_cut [3] (fun v wc =>∃p mb fb,v=.pointer (some ⟨p,0,none⟩)∧w.heap.size≤p∧w.heap.size≤mb∧w.heap.size≤fb∧wH wc p mb fb 0 A c ts o∧Blk wc fb 22 (madeCells #[Value.slice none 0 0] ts.length)∧Blk wc w.heap.size 33 #[.slice A ts.length c,.slice o.vA 0 o.vc,.slice o.iA o.idx.length o.ic,.slice o.sA o.skt.length o.sc,.slice o.cA o.cch.length o.cc,.slice o.rA o.rel.length o.rc,.slice o.tA o.str.length o.tc,.slice o.bA o.bak.length o.bc]∧Below w.heap.size w wc)
 case first =>
  refine wp_region_held_drew (S:=fun u=>u.cell? ⟨w.heap.size,0,none⟩=some (.slice A ts.length c)∧u.cell? ⟨w.heap.size,1,none⟩=some (.slice o.vA 0 o.vc)∧u.cell? ⟨w.heap.size,2,none⟩=some (.slice o.iA o.idx.length o.ic)∧u.cell? ⟨w.heap.size,3,none⟩=some (.slice o.sA o.skt.length o.sc)∧u.cell? ⟨w.heap.size,4,none⟩=some (.slice o.cA o.cch.length o.cc)∧u.cell? ⟨w.heap.size,5,none⟩=some (.slice o.rA o.rel.length o.rc)∧u.cell? ⟨w.heap.size,6,none⟩=some (.slice o.tA o.str.length o.tc)∧u.cell? ⟨w.heap.size,7,none⟩=some (.slice o.bA o.bak.length o.bc)) krA (Cat.fU HB.out) (fun hHeld =>?_)
  refine tkH 0 hHeld ?_
  refine tkH 2 hHeld ?_
  refine tkH 3 hHeld ?_
  refine tkH 4 hHeld ?_
  refine wpAnyH_ready (rs:= [1,5]) krA spA ?_
  refine AllReadyH.cons rfl (fun K hK =>?_) (AllReadyH.cons rfl (fun K hK =>?_) AllReadyH.nil)
  ·go_simp
   refine hK.out _ _ (Cat.fU (HB.out.below ai hzW)) (fun hHeld =>?_)
   clear hK K
   (try simp only[Act.put,gP6])
   refine wpAnyH_ready (rs:= [5]) krA spA ?_
   refine AllReadyH.cons rfl (fun K hK =>?_) AllReadyH.nil
   go_simp
   refine hK.out _ _ (Cat.fU (HB.out.below ai hzW)) (fun hHeld =>?_)
   clear hK K
   (try simp only[Act.put,gP6])
   refine tkH 6 hHeld ?_
   refine wpAnyH_ready (rs:= [7]) krA spA ?_
   refine AllReadyH.cons rfl (fun K hK =>?_) AllReadyH.nil
   go_simp
   refine hK.out _ _ (Cat.fU (HB.out.below ai hzW)) (fun hHeld =>?_)
   clear hK K
   (try simp only[Act.put,gP6])
   refine tkH 8 hHeld ?_
   refine wpAnyH_done krA ?_ _
   go_wp2_with fail
   go_meet
   exact⟨_,W.heap.size,W.heap.size+1,rfl,by have:=hbW.size;omega,hbW.size,(by have:=hbW.size;omega),⟨(Blk.new' spA).drew,((((vw W ts).alloc _).alloc _).drew)⟩,((Blk.new' spA).alloc _).drew,HB.out.below ai hzW,by exact ai⟩
  ·go_simp
   refine hK.out _ _ (Cat.fU (HB.out.below ai hzW)) (fun hHeld =>?_)
   clear hK K
   (try simp only[Act.put,gP6])
   refine wpAnyH_ready (rs:= [1]) krA spA ?_
   refine AllReadyH.cons rfl (fun K hK =>?_) AllReadyH.nil
   go_simp
   refine hK.out _ _ (Cat.fU (HB.out.below ai hzW)) (fun hHeld =>?_)
   clear hK K
   (try simp only[Act.put,gP6])
   refine tkH 6 hHeld ?_
   refine wpAnyH_ready (rs:= [7]) krA spA ?_
   refine AllReadyH.cons rfl (fun K hK =>?_) AllReadyH.nil
   go_simp
   refine hK.out _ _ (Cat.fU (HB.out.below ai hzW)) (fun hHeld =>?_)
   clear hK K
   (try simp only[Act.put,gP6])
   refine tkH 8 hHeld ?_
   refine wpAnyH_done krA ?_ _
   go_wp2_with fail
   go_meet
   have hmv:=vw (W.alloc (.cells (madeCells #[Value.slice none 0 0] ts.length) 22)) ts
   rw[show (W.alloc (.cells (madeCells #[Value.slice none 0 0] ts.length) 22)).heap.size=W.heap.size+1 by simp]at hmv
   exact⟨_,W.heap.size+1,W.heap.size,rfl,by have:=hbW.size;omega,by have:=hbW.size;omega,hbW.size,⟨(Blk.new' spA).drew,((hmv.alloc _).drew)⟩,(((Blk.new' rfl).alloc _).alloc _).drew,HB.out.below ai hzW,by exact ai⟩
 case rest =>
  obtain⟨p,mb,fb,rfl,hp,hmb,hfb,hS,hF,hB,hbx⟩:=hcut
  obtain⟨W1,rfl⟩:∃W1:World,W1=wc:=⟨_,rfl⟩
  have hz1:=hB.lt
  have HS1:=qh hS
  have HB1:=qh hB
  obtain⟨p0,p1,p2,p3,p4,p5,p6,p7⟩:=Cat.fU hB
  clear hS hB hmk hmm
  go_upto_region 3 with (fail)
  clear p0 p1 p2 p3 p4 p5 p6 p7
  go_loopw [17] (fun vi wr =>∃m:Nat,m≤ts.length∧vi=.int .i64 m∧wH wr p mb fb m A c ts o∧Blk wr fb 22 (madeCells #[Value.slice none 0 0] ts.length)∧Below w.heap.size w wr) (fun vi _=>ts.length-(intOf vi).toNat)
  case atStart=>exact⟨0,Nat.zero_le _,rfl,HS1.out,hF,hbx⟩
  case round =>
   obtain⟨m,hm,rfl,hI,hFr,hbr⟩:=hrel
   have hwz:=hbr.size
   have HI:=qh hI
   clear hI
   by_cases hlt:m<ts.length
   ·obtain⟨b5,o5,rfl,hb5,hc5⟩:=(HT.out.1.below hbr).get hlt
    obtain⟨t0,t1,t2,t3⟩:=Tab.fV hc5
    have hsz:=(HS.out.tabs ts[m] (lgm hlt)).name
    have hnew:=CS hlt (HOK.out.Lf hlt)
    have JY:=qh hnew
    have hfr:=hFr.lt
    have HFR:=qh hFr
    have hwf:(Lit.int .i64 (m:Int)).wf=true:=by(have h1:IntKind.i64.min≤(m:Int):=Int.le_trans (by decide) (Int.natCast_nonneg m);simp[Lit.wf,h1];omega)
    clear hc5 hnew hFr
    go_upto_region 5 with (fail)
    refine ah (P:=fun u=>Code.wp _ _ _ _ u) (R:=fun u=>wH u p mb fb m (some ⟨b5,o5,none⟩) c ts o∧Blk u wr.heap.size 61 (Tab.cells ts[m]).toArray∧Blk u fb 22 (madeCells #[Value.slice none 0 0] ts.length)∧Below w.heap.size w u) ⟨?_,?_,?_,?_⟩ ?_
    ·exact HI.out.next ai
    ·exact Blk.new _ _ _
    ·exact HFR.out.alloc _
    ·exact ai
    rintro V ⟨hI,hB,hFV,hbV⟩
    have q0:=hB.cell 0
    simp only[Tab.cells,gE3]at q0
    obtain⟨s0,s8,s9⟩:=Sch.blk hI.blk
    have HI1:=qh hI
    clear t0 t1 t2 t3 hB
    obtain⟨w2,hrun,hst,hg2⟩:=(dP.drew hI.nums).store kT Tryz.underlying171 (by unfold maxLen;omega) (qo hsz) (Bb hwf)
    have HM2:=qh (hst (nZ ts (m+1)) JY.out fun u hu=>CR hlt hu)
    have hgV:V.grownBy w2 (some mb):=⟨hg2.os,hg2.tape,hg2.output,hg2.size,hg2.block⟩
    have hb2:=hI.blk.grown hgV (fun e=>hI.nums.aY hI.blk (Option.some.inj e).symm)
    have hbw2:Below w.heap.size w w2:=Below.grown hbV hgV hbV.size (fun q e=>by injection e with e;rw[←e];exact hmb)
    have u8:=hb2.cell 8
    simp only[gE3]at u8
    have HB2:=qh hb2
    have HF2:=qh (hFV.grown hgV (fun e=>hI.nums.aY hFV (Option.some.inj e).symm))
    clear hst hI hb2 s0 s9 hFV
    refine aJ (S:=fun u=>u.cell? ⟨p,8,none⟩=some (.map (some mb))∧u.cell? ⟨wr.heap.size,0,none⟩=some (.string ts[m].name)) [7] krA ⟨s8,q0⟩ (fun hHeld =>?_)
    refine tkT 0 hHeld ?_
    refine tkT 1 hHeld ?_
    refine tkT 2 hHeld ?_
    refine tkT 3 hHeld ?_
    refine tkT 4 hHeld ?_
    refine tkT 5 hHeld ?_
    refine tkT 6 hHeld ?_
    refine rzT 7 (fun K hK =>?_)
    go_simp
    refine hK.out _ _ _ ?_
    clear hK K
    refine aI krA ?_ _
    go_wp2_with fail
    go_roundw
    case rel=>exact⟨m+1,by omega,by go_num,⟨HB2.out,HM2.out⟩,HF2.out,hbw2⟩
    case measure=>exact meA
   ·have hlt':decide (m<ts.length)=false:=by simpa using hlt
    obtain rfl:m=ts.length:=by omega
    go_wp2_with fail
    go_ret
    refine⟨⟨p,mb,fb,rfl,HI.out,hp,hmb,hfb,by simp,?_,fun i h k =>?_⟩,hbr⟩
    ·have e:((List.replicate ts.length (⟨none,0,[]⟩:Fx)).map Fx.val).toArray=madeCells #[Value.slice none 0 0] ts.length:=Lr _
     rw[e]
     exact hFr
    ·left
     rw[List.getElem_replicate]
open Go.RowKit Go
theorem Cs(x y:Chg)(w:World){r:Bool}(hr:(decide (x.seq<y.seq)&&decide (x.day≤y.day))=r):
 Calls Tryz.prog 107 #[.agg #[.int .i64 x.kind,.int .i64 x.seq,.int .i64 x.day,.int .i64 x.table,.slice x.A x.row.length x.cap,.int .i64 x.key.kind,.int .i64 x.key.num,.string x.key.text,.int .i64 x.column,.int .i64 x.val.kind,.int .i64 x.val.num,.string x.val.text],.agg #[.int .i64 y.kind,.int .i64 y.seq,.int .i64 y.day,.int .i64 y.table,.slice y.A y.row.length y.cap,.int .i64 y.key.kind,.int .i64 y.key.num,.string y.key.text,.int .i64 y.column,.int .i64 y.val.kind,.int .i64 y.val.num,.string y.val.text]] w fun e w'=>e=.returned (.bool r)∧Below w.heap.size w w':=by
 cases h1:decide (x.seq<y.seq)
 ·have HR:Hid (r=false):=qh (by rw[←hr,h1];rfl)
  clear hr
  go_enter Tryz.func107,Tryz.ntmps107
  go_wp2_with fail
  go_ret
  exact⟨ax HR.out.symm,by exact ai⟩
 ·cases h2:decide (x.day≤y.day)
  ·have HR:Hid (r=false):=qh (by rw[←hr,h1,h2];rfl)
   clear hr
   go_enter Tryz.func107,Tryz.ntmps107
   go_wp2_with fail
   go_ret
   exact⟨ax HR.out.symm,by exact ai⟩
  ·have HR:Hid (r=true):=qh (by rw[←hr,h1,h2];rfl)
   clear hr
   go_enter Tryz.func107,Tryz.ntmps107
   go_wp2_with fail
   go_ret
   exact⟨ax HR.out.symm,by exact ai⟩
theorem ry(RA:Option Addr)(rc n:Nat)(rt:List RTab)(kd sq dy:Int)(k:Nat)(A0:Option Addr)(cp:Nat)(row:List Val)(key:Val)(cl:Int)(vl:Val)(w:World)(hRT:aR w w.heap.size RA rt)(hn:rt.length=n)(hk:k<rt.length)(hn6:rt[k].recs.length≤1000000)(hrl:∀x∈rt[k].recs,x.row.length≤1000000)(ha:Gj rt[k].recs)(hR:ag w w.heap.size Val.cells 3 A0 row)(hrw:row.length≤1000000)(h1:kd=1→0<row.length)(hv:bT (keyOf ⟨kd,sq,dy,(k:Int),A0,cp,row,key,cl,vl⟩)=true){r:Bool}(hr:(dC (rt[k].recs.map aA) (keyOf ⟨kd,sq,dy,(k:Int),A0,cp,row,key,cl,vl⟩)||(kd == 1&&decide (rt[k].recs.length<64)))=r):
 Calls Tryz.prog 77 #[.slice RA n rc,.agg #[.int .i64 kd,.int .i64 sq,.int .i64 dy,.int .i64 k,.slice A0 row.length cp,.int .i64 key.kind,.int .i64 key.num,.string key.text,.int .i64 cl,.int .i64 vl.kind,.int .i64 vl.num,.string vl.text]] w fun e w'=>e=.returned (.bool r)∧Below w.heap.size w w':=by
 subst hr hn
 obtain⟨b5,o5,rfl,hb5,hc5⟩:=hRT.1.get hk
 have dw:=hRT.2 rt[k] (lgm hk)
 obtain⟨⟨TA,tc,recs⟩,ht⟩:∃t,rt[k]=t:=⟨_,rfl⟩
 rw[ht]at hc5 dw hn6 hrl ha ⊢
 simp only at dw hn6 hrl ha ⊢
 have t0:=hc5 0 _ rfl
 simp only[Nat.mul_one,Nat.add_zero]at t0
 have jr:=qh dw
 have HRL:=qh hrl
 have HA:=qh ha
 have HR:=qh hR
 have HV:=qh hv
 have H1:=qh h1
 clear hRT hc5 dw ht hrl ha hR hv h1
 obtain⟨ky,hky⟩:∃v,keyOf ⟨kd,sq,dy,(k:Int),A0,cp,row,key,cl,vl⟩=v:=⟨_,rfl⟩
 rw[hky]at HV ⊢
 obtain⟨f,hf⟩:∃b,dC (recs.map aA) ky=b:=⟨_,rfl⟩
 rw[hf]
 have HKY:=qh hky
 have HF:=qh hf
 clear hky hf
 go_enter Tryz.func77,Tryz.ntmps77
 go_upto_region 1 with (fail)
 refine ah (P:=fun u=>Code.wp _ _ _ _ u) (R:=fun u=>Blk u w.heap.size 52 (Chg.cells ⟨kd,sq,dy,(k:Int),A0,cp,row,key,cl,vl⟩).toArray∧Below w.heap.size w u) ⟨?_,?_⟩ ?_
 ·exact Blk.new' spA
 ·exact ai
 rintro W ⟨hX,hbW⟩
 have hz:=hX.lt
 have HX:=qh hX
 obtain⟨⟨q0,q1,q2,q3⟩,q4,⟨q5,q6,q7⟩,q8,q9,q10,q11⟩:=Chg.blk hX
 replace t0:=(hbW.cell (p:=⟨b5,_,none⟩) hb5).trans t0
 clear hX
 go_upto_region 3 with (first
  | (go_at_call 123;(with_reducible refine(zR ⟨kd,sq,dy,(k:Int),A0,cp,row,key,cl,vl⟩ _ (HR.out.next hbW) hrw H1.out HKY.out).mono ?_);rintro e w1 ⟨rfl,hb1⟩;have hx1:=aa hbW hb1 hbW.size;have hX1:=HX.out.below hb1 hz;clear q0 q1 q2 q3 q4 q5 q6 q7 q8 q9 q10 q11;obtain⟨⟨q0,q1,q2,q3⟩,_⟩:=Chg.blk hX1;have HX1:=qh hX1;have hz1:=hX1.lt;clear hX1)
  | (go_at_call 122;(with_reducible refine(xu TA tc recs.length recs ky _ (jr.out.next hx1) rfl hn6 HRL.out HA.out HV.out rfl HF.out).mono ?_);rintro e w2 ⟨rfl,hb2⟩;have hx2:=aa hx1 hb2 hx1.size;clear q0 q1 q2 q3;obtain⟨⟨q0,q1,q2,q3⟩,_⟩:=Chg.blk (HX1.out.below hb2 hz1)))
 cases f
 ·cases h1:(kd == 1)
  ·go_wp2_with fail
   go_ret
   exact⟨ax (by simp only[h1,Bool.false_or,Bool.false_and]),hx2⟩
  ·go_wp2_with fail
   go_ret
   exact⟨ax (by simp only[h1,Bool.false_or,Bool.true_and];exact decide_eq_decide.2 omA),hx2⟩
 ·go_wp2_with fail
  go_ret
  exact⟨ax rfl,hx2⟩
end Go.Proofs.YtjidligipoldeaaGreat
