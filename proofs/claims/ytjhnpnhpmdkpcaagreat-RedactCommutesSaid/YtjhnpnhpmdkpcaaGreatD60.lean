/-
  Contracts and plain laws of this seat, part 60.
-/
import Derived.Test.YtjhnpnhpmdkpcaaGreatD59
set_option linter.unusedVariables false
set_option linter.unusedSimpArgs false
set_option maxRecDepth 100000
set_option maxHeartbeats 16000000
namespace Go.Proofs.YtjhnpnhpmdkpcaaGreat
open Go.RowKit Go
theorem eR{P:Prop}(h:P:=by rw[eF,HF.out];rfl):P:=h
theorem eS{P:Prop}(h:P:=by rw[hV3];have h:=zz.out;rw[List.flatMap_cons,List.flatMap_nil,List.append_nil,HF.out]at h;rw[HF.out];exact h):P:=h
theorem eV{P:Prop}(h:P:=by injection e with e;exact e.symm):P:=h
theorem eW{P:Prop}(h:P:=by rw[hV3];have h:=zz.out;rw[List.flatMap_cons,List.flatMap_nil,List.append_nil]at h;exact h):P:=h
theorem fc{P:Prop}(h:P:=by have h:=zz.out;rw[List.flatMap_nil,List.append_nil]at h;exact h):P:=h
theorem ff{P:Prop}(h:P:=by rw[HBK.out];exact hg5):P:=h
theorem fg{P:Prop}(h:P:=by rw[hfc,hky];exact hf):P:=h
theorem Oz{x:Val}(h:bL x=true):(-9223372036854775808≤x.kind∧x.kind≤9223372036854775807)∧(-9223372036854775808≤x.num∧x.num≤9223372036854775807)∧x.text.size≤1000000:=by
 have hsz:x.text.toList.isEmpty=true→x.text.size≤1000000:=fun h=>by
  have h2:x.text.toList=[]:=by simpa using h
  have h3:x.text.size=0:=by rw[qm (a:=x.text) (b:=⟨#[]⟩) (by rw[h2];simp)];rfl
  omega
 unfold bL at h
 split at h
 ·rename_i h0
  simp only[Bool.and_eq_true,beq_iff_eq]at h h0
  exact⟨by omega,by omega,hsz h.2⟩
 ·split at h
  ·rename_i h0
   simp only[Bool.and_eq_true,beq_iff_eq,decide_eq_true_eq]at h h0
   exact⟨by omega,by omega,hsz h.2⟩
  ·split at h
   ·rename_i h0
    simp only[Bool.and_eq_true,beq_iff_eq,decide_eq_true_eq]at h h0
    exact⟨by omega,by omega,by omega⟩
   ·cases h
section
variable {al:List dn}{x:Chg}{k c:Nat}{f:Val→Option Int}{ky:Val}
theorem AY(hk:k<al.length)(hfc:al[k]=(f,c))(hky:keyOf x=ky)(ht:x.table=(k:Int))(h1:x.kind=1)(hr:(f ky).isSome=true∨c<64):bY al x=(al.set k (gW f ky (some x.seq),if (f ky).isSome=true then c else c+1),[(x,⟨x.table,x.seq⟩,(f ky).getD 0)]):=by
 have h:=Es hk ht h1 (by rw[hfc,hky];exact hr)
 rw[hfc,hky]at h
 exact h
theorem yR(hk:k<al.length)(hfc:al[k]=(f,c))(hky:keyOf x=ky)(ht:x.table=(k:Int))(hf:f ky=none)(hr:x.kind≠1 ∨ ¬ c<64):bY al x=(al,[]):=
 JJ hk ht fg (by rw[hfc];exact hr)
theorem JK(hk:k<al.length)(hfc:al[k]=(f,c))(hky:keyOf x=ky)(ht:x.table=(k:Int)){s:Int}(hf:f ky=some s)(h3:x.kind=3):bY al x=(al.set k (gW f ky none,c-1),[(x,⟨x.table,s⟩,0)]):=by
 have h:=Et hk ht (s:=s) fg h3
 rw[hfc,hky]at h
 exact h
theorem JH(hk:k<al.length)(hfc:al[k]=(f,c))(hky:keyOf x=ky)(ht:x.table=(k:Int)){s:Int}(hf:f ky=some s)(h1:x.kind≠1)(h3:x.kind≠3):bY al x=(al,[(x,⟨x.table,s⟩,0)]):=
 Ep hk ht fg h1 h3
end
theorem zD.get{al:List dn}(h:zD al){k c:Nat}(hk:k<al.length){f:Val→Option Int}(hfc:al[k]=(f,c)){ky:Val}{s:Int}(hf:f ky=some s):0≤s∧s≤1073741824:=h al[k] (lgm hk) ky s (by rw[hfc];exact hf)
theorem uT(f:Val→Option Int)(x:Val):(mK f (mkV x)).isSome=(f x).isSome:=by
 rw[eF]
 cases f x<;>rfl
theorem kV(u:World):(zeroValue 3).run Tryz.prog u=.ok (.int .i64 0) u:=by kernel_rfl
theorem xP(A0:Option Addr)(n0 c0:Nat)(A1:Option Addr)(n1 c1:Nat)(A2:Option Addr)(n2 c2:Nat)(A3:Option Addr)(n3 c3:Nat)(A4:Option Addr)(n4 c4:Nat)(A5:Option Addr)(n5 c5:Nat)(A6:Option Addr)(n6 c6:Nat)(A7:Option Addr)(n7 c7:Nat)(F:Nat)(Qe:Array Value)(pk:Nat)(V:Eff→List Chg)(LA:Option Addr)(lc n:Nat)(l:List Chg)(KA:Option Addr)(kc:Nat)(kl:List Chg)(w:World)
 (hF:∀args u,Sem.run Tryz.prog (callFunc F args) u=.ok (.enter F args) u) (h06:n0≤1000) (hl:dx w pk LA l) (hn:l.length=n) (hn6:n≤1024) (hx:∀x∈l,Ff n0 x) (hv:Bj F Qe pk w l V) (hk:eT w pk KA kc kl) (hkl:kl.length≤1000):
 Calls Tryz.prog 49 #[.agg #[.slice A0 n0 c0,.slice A1 n1 c1,.slice A2 n2 c2,.slice A3 n3 c3,.slice A4 n4 c4,.slice A5 n5 c5,.slice A6 n6 c6,.slice A7 n7 c7],.slice LA n lc,.func (.func F) #[] Qe] w fun e w'=>e=.returned (.tuple #[])∧(∃KA' kc' kl',eT w' pk KA' kc' kl'∧kl'.map unC=kl.map unC++(ig (List.replicate n0 dQ) l).flatMap V∧kl'.length≤kl.length+n)∧Below pk w w':=by
 subst hn
 obtain⟨im,him,Ti,Tg,Tf⟩:=info_parts Jh
 have hmk:∀u:World,(Instr.makeSlice 133 (.int .i64 (n0:Int)) (.int .i64 (n0:Int))).run Tryz.prog u=.ok (.slice (some ⟨u.heap.size,0,none⟩) n0 n0) (u.alloc (.cells (madeCells #[Value.map none] (n0*1)) 134)):=fun u=>by
  have:=eX (P:=Tryz.prog) 133 134 im (.map none) Tryz.underlying133 him Ti .i64 .i64 n0 n0 nlr (by rw[Tf];omega) omA u
  rw[Tg]at this
  exact this
 have hmm:= @run_makeMap Tryz.prog
 have HL:=qh hl
 have HX:=qh hx
 unfold Bj at hv
 have HV:=qh hv
 have HK:=qh hk
 have hpk:=hk.lt
 clear hl hx hv hk him Ti Tg Tf
 go_enter Tryz.func49,Tryz.ntmps49
 go_upto_region 1 with (fail)
 refine ah (P:=fun u=>Code.wp _ _ _ _ u) (R:=fun u=>Blk u w.heap.size 34 #[.slice A0 n0 c0,.slice A1 n1 c1,.slice A2 n2 c2,.slice A3 n3 c3,.slice A4 n4 c4,.slice A5 n5 c5,.slice A6 n6 c6,.slice A7 n7 c7]∧Below w.heap.size w u) ⟨?_,?_⟩ ?_
 ·exact Blk.new _ _ _
 ·exact ai
 rintro W ⟨hC,hbW⟩
 have p0:=hC.cell 0
 simp only[gE3]at p0
 clear hC
 go_upto_region 2 with (fail)
 clear hmk p0
 obtain⟨q,hq⟩:∃q,W.heap.size=q:=⟨_,rfl⟩
 have hqw:w.heap.size≤q:=by rw[←hq];exact hbW.size
 rw[hq]
 refine ah (P:=fun u=>Code.wp _ _ _ _ u) (R:=fun u=>Blk u q 134 (oH [] n0)∧Below w.heap.size w u) ⟨?_,?_⟩ ?_
 ·rw[←FQ,Nat.mul_one];exact Blk.new' hq
 ·exact hbW.alloc hbW.size _
 rintro Z ⟨hM,hbZ⟩
 clear hq hbW W
 go_wp2_with fail
 go_loopw [21] (fun vi wr =>∃bl:List Nat,bl.length≤n0∧vi=.int .i64 bl.length∧qp wr w.heap.size q bl n0∧Below w.heap.size w wr) (fun vi _=>n0-(intOf vi).toNat)
 case atStart=>exact⟨[],Nat.zero_le _,rfl,qp.zero hM hqw,hbZ⟩
 case round =>
  obtain⟨bl,hbl,rfl,hms,hbr⟩:=hrel
  have hwz:=hbr.size
  have hbz:=hms.sl.lt
  have HMS:=qh hms
  clear hM
  by_cases hlt:bl.length<n0
  ·have hlt':decide (bl.length<n0)=true:=by simpa using hlt
   obtain⟨m,hm⟩:∃m,bl.length=m:=⟨_,rfl⟩
   have HM:=qh hm
   have HLT:=qh hlt
   rw[hm]at hlt hlt' hbl
   rw[hm]
   have hc:=hms.cell HLT.out HM.out
   have hfz:=hms.sl.frozen m
   clear hms hm
   go_wp2_with fail
   go_roundw
   case rel=>exact⟨bl ++ [wr.heap.size],by simp[HM.out];omega,by simp[HM.out],HMS.out.step HLT.out hwz HM.out,(hbr.setCell hqw _).alloc (by simp[World.setCell];omega) _⟩
   case measure=>simp[intOf,HM.out];omega
  have HML:Hid (bl.length=n0):=qh omA
  rw[HML.out]
  have HAL:=qh (HMS.out.done HML.out)
  clear hms HMS hlt hbl
  have hlt':decide (n0<n0)=false:=by simp
  go_upto_region 7 with (fail)
  clear hmm
  go_wp2_with fail
  obtain⟨wo,HWO⟩:∃wo:World,Hid (wo=wr):=⟨_,qh rfl⟩
  go_loopw [31] (fun vi wi =>∃(j:Nat) (al:List dn) (KA':Option Addr) (kc':Nat) (kl':List Chg),j≤l.length∧vi=.int .i64 j∧sW V (kl.map unC) n0 l j al (kl'.map unC)∧oF wi w.heap.size q bl al j∧eT wi pk KA' kc' kl'∧kl'.length≤kl.length+j∧Below pk w wi) (fun vi _=>l.length-(intOf vi).toNat)
  case atStart=>exact⟨0,_,KA,kc,kl,Nat.zero_le _,rfl,sW.zero _ _ _ _,HAL.out,HK.out.below hbr,Nat.le_refl _,hbr.mono (Nat.le_of_lt hpk)⟩
  case round =>
   obtain⟨j,al,KA2,kc2,kl2,hj,rfl,hfr,hal,hkp,hkn,hbi⟩:=hrel
   have hiz:=hbi.size
   have HFR:=qh hfr
   have HAM:=qh hal
   have HKP:=qh hkp
   have HLN:=qh hfr.len
   have hqi:=hal.sl.lt
   have hpi:=hkp.lt
   clear hfr hal hkp
   by_cases hjl:j<l.length
   rotate_left
   ·have M4:decide (j<l.length)=false:=by simpa using hjl
    obtain rfl:j=l.length:=by omega
    have sV:Hid (kl2.map unC=kl.map unC++(ig (List.replicate n0 dQ) l).flatMap V):=qh (by have h:=HFR.out.kept;rwa [List.take_length]at h)
    go_wp2_with fail
    first|go_end0|(refine bodyPost_ret (results_none rfl _ _ _) rfl ?_)
    exact⟨rfl,⟨KA2,kc2,kl2,HKP.out,sV.out,hkn⟩,hbi⟩
   obtain⟨b5,o5,rfl,hb5,hc5⟩:=(HL.out.1.below hbi).get hjl
   have hmem:=lgm hjl
   have hok:=HX.out l[j] hmem
   have HNX:=qh (fun(al':List dn) (es:List Eff) (he:bY al l[j]=(al',es))=>HFR.out.next hjl hok he)
   have hrow:=(HL.out.2 l[j] hmem).below hbi
   obtain⟨⟨kd,sq,dy,tb,XA,xc,row,key,cl,vl⟩,hx⟩:∃x,l[j]=x:=⟨_,rfl⟩
   rw[hx]at hc5 hmem hok HNX hrow
   obtain⟨⟨k,hkt,MX⟩,hrw,hsq,hky,hl8⟩:=hok
   simp only at hkt hrw hsq hky hl8 hrow
   subst hkt
   obtain⟨⟨q0,q1,q2,q3⟩,q4,⟨q5,q6,q7⟩,q8,q9,q10,q11⟩:=Chg.kS hc5
   simp only at q0 q1 q2 q3 q4 q5 q6 q7 q8 q9 q10 q11
   have hka:k<al.length:=by rw[HLN.out];exact MX
   have hkb:k<bl.length:=by rw[HML.out];exact MX
   obtain⟨ky,hkE⟩:∃ky,keyOf ⟨kd,sq,dy,(k:Int),XA,xc,row,key,cl,vl⟩=ky:=⟨_,rfl⟩
   rw[hkE]at hky
   have HKY:=qh hkE
   have hMC:=HAM.out.maps k hkb hka
   have hcl:=HAM.out.cell hkb
   obtain⟨bk,hbk⟩:∃b,bl[k]=b:=⟨_,rfl⟩
   obtain⟨⟨f,c⟩,hfc⟩:∃a,al[k]=a:=⟨_,rfl⟩
   rw[hbk,hfc]at hMC
   rw[hbk]at hcl
   have Ng:=hMC.lt
   have hcj:=hMC.le
   simp only at hMC hcj
   have HBK:=qh hbk
   have HFC:=qh hfc
   have HMC:=qh hMC
   have sU:=qh hmem
   have Pp:(-9223372036854775808≤ky.kind∧ky.kind≤9223372036854775807)∧(-9223372036854775808≤ky.num∧ky.num≤9223372036854775807)∧ky.text.size≤1000000:=Oz hky
   obtain⟨klit,QB⟩:=Oy Pp.2.2 Pp.1 Pp.2.1
   have HKL:=qh QB
   have ku:=qh hrow
   have YP:b5<wr.heap.size:=by omega
   clear hx hc5 hmem hbk hfc hMC hrow QB hkE hky Pp
   go_upto_region 10 with (fail)
   obtain⟨X,hX⟩:∃X,wr.heap.size=X:=⟨_,rfl⟩
   have HXI:=qh hX
   rw[hX]
   refine ah (P:=fun u=>Code.wp _ _ _ _ u) (R:=fun u=>Blk u X 79 #[.int .i64 kd,.int .i64 sq,.int .i64 dy,.int .i64 k,.slice XA row.length xc,.int .i64 key.kind,.int .i64 key.num,.string key.text,.int .i64 cl,.int .i64 vl.kind,.int .i64 vl.num,.string vl.text]∧Below wr.heap.size wr u) ⟨?_,?_⟩ ?_
   ·exact Blk.new' hX
   ·exact ai
   clear hX
   rintro W1 ⟨hX1,hb1⟩
   have YT:=hX1.lt
   have HX1:=qh hX1
   have e3:=hX1.cell 3
   have e5:=hX1.cell 5
   have e6:=hX1.cell 6
   have e7:=hX1.cell 7
   simp only[gE3]at e3 e5 e6 e7
   replace hcl:=(hb1.cell (p:=⟨q,k,none⟩) hqi).trans hcl
   clear hX1 q0 q1 q2 q3 q4 q5 q6 q7 q8 q9 q10 q11
   have hkn':decide (k<n0)=true:=by simpa using MX
   have hq1:q<W1.heap.size:=by have:=hb1.size;omega
   refine bf (S:=fun u=>u.cell? ⟨X,3,none⟩=some (.int .i64 k)∧u.cell? ⟨X,5,none⟩=some (.int .i64 key.kind)∧u.cell? ⟨X,6,none⟩=some (.int .i64 key.num)∧u.cell? ⟨X,7,none⟩=some (.string key.text)∧u.cell? ⟨q,k,none⟩=some (.map (some bk))) [9] krA ⟨e3,e5,e6,e7,hcl⟩ (fun hHeld =>?_)
   refine tkT 0 hHeld ?_
   refine tkT 1 hHeld ?_
   refine tkT 2 hHeld ?_
   refine tkT 3 hHeld ?_
   refine tkT 4 hHeld ?_
   refine tkT 5 hHeld ?_
   refine tkT 6 hHeld ?_
   refine r1T 7 (fun K hK =>?_)
   go_simp
   refine hK.out _ _ _ ⟨?_,?_,?_,?_,?_⟩ (fun hHeld =>?_)
   iterate 5 (go_simp)
   clear hK K
   refine tkT 8 hHeld ?_
   refine rzT 9 (fun K hK =>?_)
   go_simp
   refine hK.out _ _ _ ?_
   clear hK K
   refine bD krA ?_ _
   clear hHeld
   obtain⟨Y,hY⟩:∃Y,W1.heap.size=Y:=⟨_,rfl⟩
   rw[hY]
   go_upto_region 11 with (fail)
   refine ah (P:=fun u=>Code.wp _ _ _ _ u) (R:=fun u=>Blk u X 79 #[.int .i64 kd,.int .i64 sq,.int .i64 dy,.int .i64 k,.slice XA row.length xc,.int .i64 key.kind,.int .i64 key.num,.string key.text,.int .i64 cl,.int .i64 vl.kind,.int .i64 vl.num,.string vl.text]∧Blk u Y 53 #[.int .i64 key.kind,.int .i64 key.num,.string key.text]∧Below wr.heap.size wr u) ⟨?_,?_,?_⟩ ?_
   ·exact(HX1.out.alloc _).drew
   ·exact(Blk.new' hY).drew
   ·exact(hb1.alloc hb1.size _).drew
   have hXY:X≠Y:=by omega
   have hYw:wr.heap.size≤Y:=by have:=hb1.size;omega
   clear hY
   rintro W2 ⟨hX2,hY2,hb2⟩
   have Nr:=hX2.lt
   have R7:=hY2.lt
   have HX2:=qh hX2
   have HY2:=qh hY2
   have Np:=hb2.size
   have g0:=hX2.cell 0
   have g4:=hX2.cell 4
   simp only[gE3]at g0 g4
   have y0:=hY2.cell 0
   have y1:=hY2.cell 1
   have y2:=hY2.cell 2
   simp only[gE3]at y0 y1 y2
   have yf:=fun i=>hY2.frozen i
   clear hX2 hY2 e3 e5 e6 e7 hcl hb1 HX1
   by_cases hk1:kd=1
   ·subst hk1
    have h0r:=hrw rfl
    obtain⟨rb,ro,rfl,hrb,hrc⟩:=ku.out.get h0r
    have MO:rb<wr.heap.size:=by omega
    have HK0:Hid (row[0]=ky):=qh (by have h:=HKY.out;rw[←h];cases row with
     | nil=>simp at h0r
     | cons a t=>rfl)
    have k0:=hrc 0 _ rfl
    have k1:=hrc 1 _ rfl
    have k2:=hrc 2 _ rfl
    rw[HK0.out]at k0 k1 k2
    simp only[Nat.zero_mul,Nat.add_zero]at k0 k1 k2
    have k0':=(hb2.cell (p:=⟨rb,ro,none⟩) MO).trans k0
    have k1':=(hb2.cell (p:=⟨rb,ro+1,none⟩) MO).trans k1
    have k2':=(hb2.cell (p:=⟨rb,ro+2,none⟩) MO).trans k2
    have Xq:decide (0<row.length)=true:=by simpa using h0r
    have Xp:decide ((0:Int)<(row.length:Int))=true:=by simp;omega
    clear hrc k0 k1 k2
    go_upto_region 13 with (fail)
    refine ah (P:=fun u=>Code.wp _ _ _ _ u) (R:=fun u=>Blk u X 79 #[.int .i64 1,.int .i64 sq,.int .i64 dy,.int .i64 k,.slice (some ⟨rb,ro,none⟩) row.length xc,.int .i64 key.kind,.int .i64 key.num,.string key.text,.int .i64 cl,.int .i64 vl.kind,.int .i64 vl.num,.string vl.text]∧Blk u Y 53 #[.int .i64 ky.kind,.int .i64 ky.num,.string ky.text]∧Below wr.heap.size wr u) ⟨?_,?_,?_⟩ ?_
    ·exact((HX2.out.far hXY _).far hXY _).far hXY _
    ·exact ql HY2.out
    ·exact((hb2.setCell omA _).setCell omA _).setCell omA _
    clear g0 g4 y0 y1 y2 yf k0' k1' k2' HX2 HY2 Np Nr R7 hb2
    rintro W3 ⟨hX3,hY3,hb3⟩
    have UU:=hX3.lt
    have UR:=hY3.lt
    have HX3:=qh hX3
    have HY3:=qh hY3
    have PM:=hb3.size
    have HM3:=qh (HMC.out.below hb3 Ng)
    have g0:=hX3.cell 0
    have g3:=hX3.cell 3
    simp only[gE3]at g0 g3
    have y0:=hY3.cell 0
    have y1:=hY3.cell 1
    have y2:=hY3.cell 2
    simp only[gE3]at y0 y1 y2
    clear hX3 hY3
    obtain⟨fr,hfk⟩:∃r,f ky=r:=⟨_,rfl⟩
    have HF:=qh hfk
    clear hfk
    cases fr with
    | some s =>
      go_upto_region 18 with (at_lookup;refine gy _ rfl _ _ _ rfl 53 3 iD Tryz.underlying134 (.int .i64 0) kV bk j c (mK f) rfl HM3.out (mkV ky) klit rfl HKL.out (.int .i64 s) true eR eR ?_)
      refine ah (P:=fun u=>Code.wp _ _ _ _ u) (R:=fun u=>Blk u X 79 #[.int .i64 1,.int .i64 sq,.int .i64 dy,.int .i64 k,.slice (some ⟨rb,ro,none⟩) row.length xc,.int .i64 key.kind,.int .i64 key.num,.string key.text,.int .i64 cl,.int .i64 vl.kind,.int .i64 vl.num,.string vl.text]∧Blk u Y 53 #[.int .i64 ky.kind,.int .i64 ky.num,.string ky.text]∧Below wr.heap.size wr u) ⟨HX3.out.alloc _,HY3.out.alloc _,hb3.alloc PM _⟩ ?_
      clear g0 g3 y0 y1 y2 HX3 HY3 PM UU UR hb3
      rintro W4 ⟨hX4,hY4,hb4⟩
      have HX4:=qh hX4
      have R6:=hb4.size
      have HM4:=qh (HMC.out.below hb4 Ng)
      have g1:=hX4.cell 1
      have y0:=hY4.cell 0
      have y1:=hY4.cell 1
      have y2:=hY4.cell 2
      simp only[gE3]at g1 y0 y1 y2
      clear hX4 hY4
      go_upto_region 19 with (at_mapUpdate;refine rz _ rfl _ _ _ _ rfl 53 3 iD Tryz.underlying134 bk j c (mK f) rfl HM4.out (by unfold maxLen;omega) (mkV ky) klit rfl HKL.out (.int .i64 sq) rfl (mK (gW f ky (some sq))) (by rw[eF,mZ];rfl) (fun u hu=>yj f ky (some sq) hu) ?_;intro W5 hM5 hg5)
      rw[uT]at hM5
      have zA:=qh ((HKP.out.below hb4).map hg5 HM4.out.isMap)
      have Hu:=qh ((HAM.out.below hb4).put (a:=(gW f ky (some sq),if (f ky).isSome=true then c else c+1)) hkb (Nat.le_succ j) ff (by rw[HBK.out];exact hM5))
      have HX5:=qh (HX4.out.grown hg5 fun e=>(HM4.out.nY HX4.out) eV)
      have yM:Below pk w W5:=(hbi.trans (hb4.mono (Nat.le_of_lt hpi))).grown hg5 omA (fun b e=>by injection e with e;rw[←e,←HBK.out];have:=HAM.out.low _ (lgm hkb);omega)
      have zz:=qh (HNX.out _ _ (AY hka HFC.out HKY.out rfl rfl (by rw[HF.out];exact .inl rfl)))
      obtain⟨⟨q0,q1,q2,q3⟩,q4,⟨q5,q6,q7⟩,q8,q9,q10,q11⟩:=Chg.fA (x:=⟨1,sq,dy,(k:Int),some ⟨rb,ro,none⟩,xc,row,key,cl,vl⟩) HX5.out
      simp only at q0 q1 q2 q3 q4 q5 q6 q7 q8 q9 q10 q11
      clear g1 y0 y1 y2 hM5 hg5
      go_wp2_with fail
      (with_reducible refine(HV.out 1 sq dy k (some ⟨rb,ro,none⟩) xc row key cl vl sq s W5 KA2 kc2 kl2 sU.out hsq (HFR.out.bd.get hka HFC.out HF.out) (fun _=>rfl) yM zA.out omA).mono ?_)
      rintro e W6 ⟨rfl,⟨KA3,kc3,kl3,hk3,hV3,hn3⟩,sN⟩
      have Ht:=qh (Hu.out.visit hpk zA.out.own sN.2)
      have Hq:=qh hk3
      have Gl:=yM.trans sN.1
      have zB:Hid (sW V (kl.map unC) n0 l (j+1) (al.set k (gW f ky (some sq),if (f ky).isSome=true then c else c+1)) (kl3.map unC)):=qh eS
      clear hk3 hV3 sN q0 q1 q2 q3 q4 q5 q6 q7 q8 q9 q10 q11
      go_wp2_with fail
      go_roundw
      case rel=>exact⟨j+1,_,KA3,kc3,kl3,by omega,by go_num,zB.out,Ht.out,Hq.out,by omega,Gl⟩
      case measure=>exact meA
    | none =>
      by_cases UG:c<64
      ·have hc':decide (64≤c)=false:=by simp;omega
       have hci:decide ((64:Int)≤(c:Int))=false:=by simp;omega
       have hlen:∀o,(Builtin.len_ #[134] 3 #[.map (some bk)]).run Tryz.prog (W3.alloc o)=.ok (.int .i64 c) (W3.alloc o):=fun o=>(HM3.out.alloc o).len Tryz.underlying134 3
       go_upto_region 18 with (first|(at_lookup;refine gy _ rfl _ _ _ rfl 53 3 iD Tryz.underlying134 (.int .i64 0) kV bk j c (mK f) rfl HM3.out (mkV ky) klit rfl HKL.out (.int .i64 0) false eR eR ?_)|(at_builtin;refine CU _ rfl _ _ rfl 53 3 Tryz.underlying134 bk j c (mK f) rfl (HM3.out.alloc _) ?_))
       refine ah (P:=fun u=>Code.wp _ _ _ _ u) (R:=fun u=>Blk u X 79 #[.int .i64 1,.int .i64 sq,.int .i64 dy,.int .i64 k,.slice (some ⟨rb,ro,none⟩) row.length xc,.int .i64 key.kind,.int .i64 key.num,.string key.text,.int .i64 cl,.int .i64 vl.kind,.int .i64 vl.num,.string vl.text]∧Blk u Y 53 #[.int .i64 ky.kind,.int .i64 ky.num,.string ky.text]∧Below wr.heap.size wr u) ⟨HX3.out.alloc _,HY3.out.alloc _,hb3.alloc PM _⟩ ?_
       clear g0 g3 y0 y1 y2 HX3 HY3 PM UU UR hb3
       rintro W4 ⟨hX4,hY4,hb4⟩
       have HX4:=qh hX4
       have R6:=hb4.size
       have HM4:=qh (HMC.out.below hb4 Ng)
       have g1:=hX4.cell 1
       have y0:=hY4.cell 0
       have y1:=hY4.cell 1
       have y2:=hY4.cell 2
       simp only[gE3]at g1 y0 y1 y2
       clear hX4 hY4
       go_upto_region 19 with (at_mapUpdate;refine rz _ rfl _ _ _ _ rfl 53 3 iD Tryz.underlying134 bk j c (mK f) rfl HM4.out (by unfold maxLen;omega) (mkV ky) klit rfl HKL.out (.int .i64 sq) rfl (mK (gW f ky (some sq))) (by rw[eF,mZ];rfl) (fun u hu=>yj f ky (some sq) hu) ?_;intro W5 hM5 hg5)
       rw[uT]at hM5
       have zA:=qh ((HKP.out.below hb4).map hg5 HM4.out.isMap)
       have Hu:=qh ((HAM.out.below hb4).put (a:=(gW f ky (some sq),if (f ky).isSome=true then c else c+1)) hkb (Nat.le_succ j) ff (by rw[HBK.out];exact hM5))
       have HX5:=qh (HX4.out.grown hg5 fun e=>(HM4.out.nY HX4.out) eV)
       have yM:Below pk w W5:=(hbi.trans (hb4.mono (Nat.le_of_lt hpi))).grown hg5 omA (fun b e=>by injection e with e;rw[←e,←HBK.out];have:=HAM.out.low _ (lgm hkb);omega)
       have zz:=qh (HNX.out _ _ (AY hka HFC.out HKY.out rfl rfl (by exact .inr UG)))
       obtain⟨⟨q0,q1,q2,q3⟩,q4,⟨q5,q6,q7⟩,q8,q9,q10,q11⟩:=Chg.fA (x:=⟨1,sq,dy,(k:Int),some ⟨rb,ro,none⟩,xc,row,key,cl,vl⟩) HX5.out
       simp only at q0 q1 q2 q3 q4 q5 q6 q7 q8 q9 q10 q11
       clear g1 y0 y1 y2 hM5 hg5
       go_wp2_with fail
       (with_reducible refine(HV.out 1 sq dy k (some ⟨rb,ro,none⟩) xc row key cl vl sq 0 W5 KA2 kc2 kl2 sU.out hsq omA (fun _=>rfl) yM zA.out omA).mono ?_)
       rintro e W6 ⟨rfl,⟨KA3,kc3,kl3,hk3,hV3,hn3⟩,sN⟩
       have Ht:=qh (Hu.out.visit hpk zA.out.own sN.2)
       have Hq:=qh hk3
       have Gl:=yM.trans sN.1
       have zB:Hid (sW V (kl.map unC) n0 l (j+1) (al.set k (gW f ky (some sq),if (f ky).isSome=true then c else c+1)) (kl3.map unC)):=qh eS
       clear hk3 hV3 sN q0 q1 q2 q3 q4 q5 q6 q7 q8 q9 q10 q11
       go_wp2_with fail
       go_roundw
       case rel=>exact⟨j+1,_,KA3,kc3,kl3,by omega,by go_num,zB.out,Ht.out,Hq.out,by omega,Gl⟩
       case measure=>exact meA
      ·have hc':decide (64≤c)=true:=by simp;omega
       have hci:decide ((64:Int)≤(c:Int))=true:=by simp;omega
       have hlen:∀o,(Builtin.len_ #[134] 3 #[.map (some bk)]).run Tryz.prog (W3.alloc o)=.ok (.int .i64 c) (W3.alloc o):=fun o=>(HM3.out.alloc o).len Tryz.underlying134 3
       have zz:=qh (HNX.out _ _ (yR hka HFC.out HKY.out rfl HF.out (.inr UG)))
       have zB:Hid (sW V (kl.map unC) n0 l (j+1) al (kl2.map unC)):=qh fc
       go_wp2_with (at_lookup;refine gy _ rfl _ _ _ rfl 53 3 iD Tryz.underlying134 (.int .i64 0) kV bk j c (mK f) rfl HM3.out (mkV ky) klit rfl HKL.out (.int .i64 0) false eR eR ?_)
       go_roundw
       case rel=>exact⟨j+1,al,KA2,kc2,kl2,by omega,by go_num,zB.out,((HAM.out.below hb3).mono (Nat.le_succ j)).below ai,(HKP.out.below hb3).below ai,by omega,(hbi.trans (hb3.mono (Nat.le_of_lt hpi))).alloc omA _⟩
       case measure=>exact meA
   ·have RP:(kd == 1)=false:=by simpa using hk1
    have hke:key=ky:=by have h:=HKY.out;rw[←h];simp[keyOf,RP]
    subst hke
    obtain⟨W3,HW3⟩:∃W3,Hid (W3=W2):=⟨_,qh rfl⟩
    have HM3:=qh (HMC.out.below hb2 Ng)
    have g3:=HX2.out.cell 3
    simp only[gE3]at g3
    obtain⟨fr,hfk⟩:∃r,f key=r:=⟨_,rfl⟩
    have HF:=qh hfk
    clear hfk
    cases fr with
    | none =>
      have zz:=qh (HNX.out _ _ (yR hka HFC.out HKY.out rfl HF.out (.inl hk1)))
      have zB:Hid (sW V (kl.map unC) n0 l (j+1) al (kl2.map unC)):=qh fc
      go_wp2_with (at_lookup;refine gy _ rfl _ _ _ rfl 53 3 iD Tryz.underlying134 (.int .i64 0) kV bk j c (mK f) rfl HM3.out (mkV key) klit rfl HKL.out (.int .i64 0) false eR eR ?_)
      go_roundw
      case rel=>exact⟨j+1,al,KA2,kc2,kl2,by omega,by go_num,zB.out,((HAM.out.below hb2).mono (Nat.le_succ j)).below ai,(HKP.out.below hb2).below ai,by omega,(hbi.trans (hb2.mono (Nat.le_of_lt hpi))).alloc omA _⟩
      case measure=>exact meA
    | some s =>
      have hsb:=HFR.out.bd.get hka HFC.out HF.out
      by_cases hk3:kd=3
      ·subst hk3
       go_upto_region 22 with (at_lookup;refine gy _ rfl _ _ _ rfl 53 3 iD Tryz.underlying134 (.int .i64 0) kV bk j c (mK f) rfl HM3.out (mkV key) klit rfl HKL.out (.int .i64 s) true eR eR ?_)
       obtain⟨S,hS⟩:∃S,W2.heap.size=S:=⟨_,rfl⟩
       rw[hS]
       have hXS:X≠S:=by omega
       refine ah (P:=fun u=>Code.wp _ _ _ _ u) (R:=fun u=>Blk u X 79 #[.int .i64 3,.int .i64 sq,.int .i64 dy,.int .i64 k,.slice XA row.length xc,.int .i64 key.kind,.int .i64 key.num,.string key.text,.int .i64 cl,.int .i64 vl.kind,.int .i64 vl.num,.string vl.text]∧Blk u Y 53 #[.int .i64 key.kind,.int .i64 key.num,.string key.text]∧Blk u S 51 #[.int .i64 k,.int .i64 s]∧Below wr.heap.size wr u) ⟨HX2.out.alloc _,HY2.out.alloc _,Blk.new' hS,hb2.alloc Np _⟩ ?_
       clear hS g0 g3 g4 y0 y1 y2 yf HX2 HY2 Np Nr R7 hb2 HM3
       rintro W4 ⟨hX4,hY4,hS4,hb4⟩
       have R6:=hb4.size
       have HX4:=qh hX4
       have HS4:=qh hS4
       have HM4:=qh (HMC.out.below hb4 Ng)
       have y0:=hY4.cell 0
       have y1:=hY4.cell 1
       have y2:=hY4.cell 2
       simp only[gE3]at y0 y1 y2
       clear hX4 hY4 hS4
       obtain⟨W5,hrun,hdr,hg5⟩:=HM4.out.drop (e:= 3) (t:= 134) iD Tryz.underlying134 (x:= .agg #[.int .i64 key.kind,.int .i64 key.num,.string key.text]) HKL.out 0
       have hM5:=hdr (mK (gW f key none)) (by rw[show (Value.agg #[.int .i64 key.kind,.int .i64 key.num,.string key.text])=mkV key from rfl,eF,mZ];rfl) (fun u hu=>yj f key none hu)
       rw[show (Value.agg #[.int .i64 key.kind,.int .i64 key.num,.string key.text])=mkV key from rfl]at hM5
       clear hdr
       go_upto_region 23 with (fail)
       clear hrun
       rw[uT,HF.out]at hM5
       have zA:=qh ((HKP.out.below hb4).map hg5 HM4.out.isMap)
       have Hu:=qh ((HAM.out.below hb4).put (a:=(gW f key none,c-1)) hkb (Nat.le_succ j) ff (by rw[HBK.out];exact fF.mono hM5 (Nat.le_succ j)))
       have HX5:=qh (HX4.out.grown hg5 fun e=>(HM4.out.nY HX4.out) eV)
       have HS5:=qh (HS4.out.grown hg5 fun e=>(HM4.out.nY HS4.out) eV)
       have yM:Below pk w W5:=(hbi.trans (hb4.mono (Nat.le_of_lt hpi))).grown hg5 omA (fun b e=>by injection e with e;rw[←e,←HBK.out];have:=HAM.out.low _ (lgm hkb);omega)
       have zz:=qh (HNX.out _ _ (JK hka HFC.out HKY.out rfl HF.out rfl))
       clear y0 y1 y2 hM5 hg5
       obtain⟨⟨q0,q1,q2,q3⟩,q4,⟨q5,q6,q7⟩,q8,q9,q10,q11⟩:=Chg.fA (x:=(⟨3,sq,dy,(k:Int),XA,xc,row,key,cl,vl⟩)) HX5.out
       simp only at q0 q1 q2 q3 q4 q5 q6 q7 q8 q9 q10 q11
       have s0:=HS5.out.cell 0
       have s1:=HS5.out.cell 1
       simp only[gE3]at s0 s1
       go_wp2_with fail
       (with_reducible refine(HV.out _ sq dy k XA xc row key cl vl s 0 W5 KA2 kc2 kl2 sU.out hsb ⟨Int.le_refl 0,by decide⟩ (fun h=>absurd rfl h) yM zA.out omA).mono ?_)
       rintro e W6 ⟨rfl,⟨KA3,kc3,kl3,hk3,hV3,hn3⟩,sN⟩
       have Ht:=qh (Hu.out.visit hpk zA.out.own sN.2)
       have Hq:=qh hk3
       have Gl:=yM.trans sN.1
       have zB:Hid (sW V (kl.map unC) n0 l (j+1) (al.set k (gW f key none,c-1)) (kl3.map unC)):=qh eW
       clear hk3 hV3 sN q0 q1 q2 q3 q4 q5 q6 q7 q8 q9 q10 q11 s0 s1
       go_wp2_with fail
       go_roundw
       case rel=>exact⟨j+1,_,KA3,kc3,kl3,by omega,by go_num,zB.out,Ht.out,Hq.out,by omega,Gl⟩
       case measure=>exact meA
      ·have zW:(kd == 3)=false:=by simpa using hk3
       go_upto_region 15 with (at_lookup;refine gy _ rfl _ _ _ rfl 53 3 iD Tryz.underlying134 (.int .i64 0) kV bk j c (mK f) rfl HM3.out (mkV key) klit rfl HKL.out (.int .i64 s) true eR eR ?_)
       obtain⟨S,hS⟩:∃S,W2.heap.size=S:=⟨_,rfl⟩
       rw[hS]
       have hXS:X≠S:=by omega
       refine ah (P:=fun u=>Code.wp _ _ _ _ u) (R:=fun u=>Blk u X 79 #[.int .i64 kd,.int .i64 sq,.int .i64 dy,.int .i64 k,.slice XA row.length xc,.int .i64 key.kind,.int .i64 key.num,.string key.text,.int .i64 cl,.int .i64 vl.kind,.int .i64 vl.num,.string vl.text]∧Blk u Y 53 #[.int .i64 key.kind,.int .i64 key.num,.string key.text]∧Blk u S 51 #[.int .i64 k,.int .i64 s]∧Below wr.heap.size wr u) ⟨HX2.out.alloc _,HY2.out.alloc _,Blk.new' hS,hb2.alloc Np _⟩ ?_
       clear hS g0 g3 g4 y0 y1 y2 yf HX2 HY2 Np Nr R7 hb2 HM3
       rintro W4 ⟨hX4,hY4,hS4,hb4⟩
       have R6:=hb4.size
       have HX4:=qh hX4
       have HS4:=qh hS4
       clear hX4 hY4 hS4
       have zA:=qh (HKP.out.below hb4)
       have Hu:=qh ((HAM.out.below hb4).mono (Nat.le_succ j))
       have yM:Below pk w W4:=hbi.trans (hb4.mono (Nat.le_of_lt hpi))
       have zz:=qh (HNX.out _ _ (JH hka HFC.out HKY.out rfl HF.out hk1 hk3))
       obtain⟨W5,HW5⟩:∃W5:World,W5=W4:=⟨_,rfl⟩
       subst HW5
       have HX5:=HX4
       have HS5:=HS4
       obtain⟨⟨q0,q1,q2,q3⟩,q4,⟨q5,q6,q7⟩,q8,q9,q10,q11⟩:=Chg.fA (x:=(⟨kd,sq,dy,(k:Int),XA,xc,row,key,cl,vl⟩)) HX5.out
       simp only at q0 q1 q2 q3 q4 q5 q6 q7 q8 q9 q10 q11
       have s0:=HS5.out.cell 0
       have s1:=HS5.out.cell 1
       simp only[gE3]at s0 s1
       go_wp2_with fail
       (with_reducible refine(HV.out _ sq dy k XA xc row key cl vl s 0 W5 KA2 kc2 kl2 sU.out hsb ⟨Int.le_refl 0,by decide⟩ (fun h=>absurd rfl h) yM zA.out omA).mono ?_)
       rintro e W6 ⟨rfl,⟨KA3,kc3,kl3,hk3,hV3,hn3⟩,sN⟩
       have Ht:=qh (Hu.out.visit hpk zA.out.own sN.2)
       have Hq:=qh hk3
       have Gl:=yM.trans sN.1
       have zB:Hid (sW V (kl.map unC) n0 l (j+1) al (kl3.map unC)):=qh eW
       clear hk3 hV3 sN q0 q1 q2 q3 q4 q5 q6 q7 q8 q9 q10 q11 s0 s1
       go_wp2_with fail
       go_roundw
       case rel=>exact⟨j+1,_,KA3,kc3,kl3,by omega,by go_num,zB.out,Ht.out,Hq.out,by omega,Gl⟩
       case measure=>exact meA
end Go.Proofs.YtjhnpnhpmdkpcaaGreat
