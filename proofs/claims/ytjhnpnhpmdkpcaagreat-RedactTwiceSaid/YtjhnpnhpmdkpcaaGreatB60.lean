/-
  Contracts and plain laws of this seat, part 60: Fol.
-/
import Derived.Test.YtjhnpnhpmdkpcaaGreatB59
set_option linter.unusedVariables false
set_option linter.unusedSimpArgs false
set_option maxRecDepth 100000
set_option maxHeartbeats 16000000
namespace Go.Proofs.YtjhnpnhpmdkpcaaGreat
open Go.RowKit Go
theorem valB_bd {x:Val} (h:valB x=true):(-9223372036854775808≤x.kind∧x.kind ≤ 9223372036854775807)∧(-9223372036854775808≤x.num∧x.num ≤ 9223372036854775807)∧x.text.size ≤ 1000000:=by
 have hsz:x.text.toList.isEmpty=true→x.text.size ≤ 1000000:=fun h=>by
  have h2:x.text.toList = []:=by simpa using h
  have h3:x.text.size = 0:=by rw [ba_ext (a:=x.text) (b:=⟨#[]⟩) (by rw [h2];simp)];rfl
  omega
 unfold valB at h
 split at h
 ·rename_i h0
  simp only [Bool.and_eq_true,beq_iff_eq] at h h0
  exact ⟨by omega,by omega,hsz h.2⟩
 ·split at h
  ·rename_i h0
   simp only [Bool.and_eq_true,beq_iff_eq,decide_eq_true_eq] at h h0
   exact ⟨by omega,by omega,hsz h.2⟩
  ·split at h
   ·rename_i h0
    simp only [Bool.and_eq_true,beq_iff_eq,decide_eq_true_eq] at h h0
    exact ⟨by omega,by omega,by omega⟩
   ·cases h
section
variable {al:List Alive} {x:Chg} {k c:Nat} {f:Val→Option Int} {ky:Val}
theorem folE_ins' (hk:k<al.length) (hfc:al[k]=(f,c)) (hky:keyOf x=ky) (ht:x.table=(k:Int)) (h1:x.kind = 1) (hr:(f ky).isSome=true∨c < 64):folE al x=(al.set k (putF f ky (some x.seq),if (f ky).isSome=true then c else c + 1),[(x,⟨x.table,x.seq⟩,(f ky).getD 0)]):=by
 have h:=folE_ins hk ht h1 (by rw [hfc,hky];exact hr)
 rw [hfc,hky] at h
 exact h
theorem folE_full' (hk:k<al.length) (hfc:al[k]=(f,c)) (hky:keyOf x=ky) (ht:x.table=(k:Int)) (hf:f ky=none) (hr:x.kind ≠ 1 ∨ ¬ c < 64):folE al x=(al,[]) :=
 folE_full hk ht (by rw [hfc,hky];exact hf) (by rw [hfc];exact hr)
theorem folE_del' (hk:k<al.length) (hfc:al[k]=(f,c)) (hky:keyOf x=ky) (ht:x.table=(k:Int)) {s:Int} (hf:f ky=some s) (h3:x.kind = 3):folE al x=(al.set k (putF f ky none,c - 1),[(x,⟨x.table,s⟩,0)]):=by
 have h:=folE_del hk ht (s:=s) (by rw [hfc,hky];exact hf) h3
 rw [hfc,hky] at h
 exact h
theorem folE_upd' (hk:k<al.length) (hfc:al[k]=(f,c)) (hky:keyOf x=ky) (ht:x.table=(k:Int)) {s:Int} (hf:f ky=some s) (h1:x.kind ≠ 1) (h3:x.kind ≠ 3):folE al x=(al,[(x,⟨x.table,s⟩,0)]) :=
 folE_upd hk ht (by rw [hfc,hky];exact hf) h1 h3
end
theorem AlvBd.get {al:List Alive} (h:AlvBd al) {k c:Nat} (hk:k<al.length) {f:Val→Option Int} (hfc:al[k]=(f,c)) {ky:Val} {s:Int} (hf:f ky=some s) : 0≤s∧s ≤ 1073741824:=h al[k] (lgm hk) ky s (by rw [hfc];exact hf)
theorem mapF_some (f:Val→Option Int) (x:Val):(mapF f (mkV x)).isSome=(f x).isSome:=by
 rw [mapF_get]
 cases f x <;> rfl
theorem zero_intF (u:World):(zeroValue 3).run Tryz.prog u = .ok (.int .i64 0) u:=by kernel_rfl
theorem red_follow (A0:Option Addr) (n0 c0:Nat) (A1:Option Addr) (n1 c1:Nat) (A2:Option Addr) (n2 c2:Nat) (A3:Option Addr) (n3 c3:Nat) (A4:Option Addr) (n4 c4:Nat) (A5:Option Addr) (n5 c5:Nat) (A6:Option Addr) (n6 c6:Nat) (A7:Option Addr) (n7 c7:Nat) (F:Nat) (caps:Array Value) (pk:Nat) (V:Eff→List Chg) (LA:Option Addr) (lc n:Nat) (l:List Chg) (KA:Option Addr) (kc:Nat) (kl:List Chg) (w:World)
 (hF : ∀ args u,Sem.run Tryz.prog (callFunc F args) u = .ok (.enter F args) u) (h06:n0 ≤ 1000) (hl:ChgsIn w pk LA l) (hn:l.length=n) (hn6:n ≤ 1024) (hx : ∀ x∈l,FolOk n0 x) (hv:VisOK F caps pk w l V) (hk:KeptL w pk KA kc kl) (hkl:kl.length ≤ 1000) :
 Calls Tryz.prog 49 #[.agg #[.slice A0 n0 c0, .slice A1 n1 c1, .slice A2 n2 c2, .slice A3 n3 c3, .slice A4 n4 c4, .slice A5 n5 c5, .slice A6 n6 c6, .slice A7 n7 c7], .slice LA n lc, .func (.func F) #[] caps] w fun e w'=>e = .returned (.tuple #[])∧(∃ KA' kc' kl',KeptL w' pk KA' kc' kl'∧kl'.map unC=kl.map unC++(folL (List.replicate n0 Alive0) l).flatMap V∧kl'.length≤kl.length+n)∧Below pk w w':=by
 subst hn
 obtain ⟨im,him,hzm1,hzm2,hzm3⟩:=info_parts infoMapVI
 have hmk : ∀ u:World,(Instr.makeSlice 133 (.int .i64 (n0:Int)) (.int .i64 (n0:Int))).run Tryz.prog u = .ok (.slice (some ⟨u.heap.size,0,none⟩) n0 n0) (u.alloc (.cells (madeCells #[Value.map none] (n0 * 1)) 134)):=fun u=>by
  have:=run_make_rowN (P:=Tryz.prog) 133 134 im (.map none) Tryz.underlying133 him hzm1 .i64 .i64 n0 n0 nlr (by rw [hzm3];omega) omA u
  rw [hzm2] at this
  exact this
 have hmm := @run_makeMap Tryz.prog
 have HL:=qh hl
 have HX:=qh hx
 unfold VisOK at hv
 have HV:=qh hv
 have HK:=qh hk
 have hpk:=hk.lt
 clear hl hx hv hk him hzm1 hzm2 hzm3
 go_enter Tryz.func49,Tryz.ntmps49
 go_upto_region 1 with (fail)
 refine abs_world (P:=fun u=>Code.wp _ _ _ _ u) (R:=fun u=>Blk u w.heap.size 34 #[.slice A0 n0 c0, .slice A1 n1 c1, .slice A2 n2 c2, .slice A3 n3 c3, .slice A4 n4 c4, .slice A5 n5 c5, .slice A6 n6 c6, .slice A7 n7 c7]∧Below w.heap.size w u) ⟨?_,?_⟩ ?_
 ·exact Blk.new _ _ _
 ·exact belA
 rintro W ⟨hC,hbW⟩
 have p0:=hC.cell 0
 simp only [gE3] at p0
 clear hC
 go_upto_region 2 with (fail)
 clear hmk p0
 obtain ⟨q,hq⟩ : ∃ q,W.heap.size=q:=⟨_,rfl⟩
 have hqw:w.heap.size≤q:=by rw [← hq];exact hbW.size
 rw [hq]
 refine abs_world (P:=fun u=>Code.wp _ _ _ _ u) (R:=fun u=>Blk u q 134 (mapsA [] n0)∧Below w.heap.size w u) ⟨?_,?_⟩ ?_
 ·rw [← mapsA_zero,Nat.mul_one];exact Blk.new' hq
 ·exact hbW.alloc hbW.size _
 rintro Z ⟨hM,hbZ⟩
 clear hq hbW W
 go_wp2_with fail
 go_loopw [21] (fun vi wr => ∃ bl:List Nat,bl.length≤n0∧vi = .int .i64 bl.length∧MapsI wr w.heap.size q bl n0∧Below w.heap.size w wr) (fun vi _=>n0 - (intOf vi).toNat)
 case atStart=>exact ⟨[],Nat.zero_le _,rfl,MapsI.zero hM hqw,hbZ⟩
 case round =>
  obtain ⟨bl,hbl,rfl,hms,hbr⟩:=hrel
  have hwz:=hbr.size
  have hbz:=hms.sl.lt
  have HMS:=qh hms
  clear hM
  by_cases hlt:bl.length<n0
  ·have hlt':decide (bl.length<n0)=true:=by simpa using hlt
   obtain ⟨m,hm⟩ : ∃ m,bl.length=m:=⟨_,rfl⟩
   have HM:=qh hm
   have HLT:=qh hlt
   rw [hm] at hlt hlt' hbl
   rw [hm]
   have hc:=hms.cell HLT.out HM.out
   have hfz:=hms.sl.frozen m
   clear hms hm
   go_wp2_with fail
   go_roundw
   case rel=>exact ⟨bl ++ [wr.heap.size],by simp [HM.out];omega,by simp [HM.out],HMS.out.step HLT.out hwz HM.out,(hbr.setCell hqw _).alloc (by simp [World.setCell];omega) _⟩
   case measure=>simp [intOf,HM.out];omega
  have HML:Hid (bl.length=n0):=qh omA
  rw [HML.out]
  have HAL:=qh (HMS.out.done HML.out)
  clear hms HMS hlt hbl
  have hlt':decide (n0<n0)=false:=by simp
  go_upto_region 7 with (fail)
  clear hmm
  go_wp2_with fail
  obtain ⟨wo,HWO⟩ : ∃ wo:World,Hid (wo=wr):=⟨_,qh rfl⟩
  go_loopw [31] (fun vi wi => ∃ (j:Nat) (al:List Alive) (KA':Option Addr) (kc':Nat) (kl':List Chg),j≤l.length∧vi = .int .i64 j∧FolR V (kl.map unC) n0 l j al (kl'.map unC)∧AlvM wi w.heap.size q bl al j∧KeptL wi pk KA' kc' kl'∧kl'.length≤kl.length+j∧Below pk w wi) (fun vi _=>l.length - (intOf vi).toNat)
  case atStart=>exact ⟨0,_,KA,kc,kl,Nat.zero_le _,rfl,FolR.zero _ _ _ _,HAL.out,HK.out.below hbr,Nat.le_refl _,hbr.mono (Nat.le_of_lt hpk)⟩
  case round =>
   obtain ⟨j,al,KA2,kc2,kl2,hj,rfl,hfr,hal,hkp,hkn,hbi⟩:=hrel
   have hiz:=hbi.size
   have HFR:=qh hfr
   have HAM:=qh hal
   have HKP:=qh hkp
   have HLN:=qh hfr.len
   have hqi:=hal.sl.lt
   have hpi:=hkp.lt
   clear hfr hal hkp
   by_cases hjl:j<l.length
   rotate_left
   ·have hjl':decide (j<l.length)=false:=by simpa using hjl
    obtain rfl:j=l.length:=by omega
    have HFIN:Hid (kl2.map unC=kl.map unC++(folL (List.replicate n0 Alive0) l).flatMap V):=qh (by have h:=HFR.out.kept;rwa [List.take_length] at h)
    go_wp2_with fail
    first|go_end0|(refine bodyPost_ret (results_none rfl _ _ _) rfl ?_)
    exact ⟨rfl,⟨KA2,kc2,kl2,HKP.out,HFIN.out,hkn⟩,hbi⟩
   obtain ⟨b5,o5,rfl,hb5,hc5⟩:=(HL.out.1.below hbi).get hjl
   have hmem:=lgm hjl
   have hok:=HX.out l[j] hmem
   have HNX:=qh (fun (al':List Alive) (es:List Eff) (he:folE al l[j]=(al',es))=>HFR.out.next hjl hok he)
   have hrow:=(HL.out.2 l[j] hmem).below hbi
   obtain ⟨⟨kd,sq,dy,tb,XA,xc,row,key,cl,vl⟩,hx⟩ : ∃ x,l[j]=x:=⟨_,rfl⟩
   rw [hx] at hc5 hmem hok HNX hrow
   obtain ⟨⟨k,hkt,hkn0⟩,hrw,hsq,hky,hl8⟩:=hok
   simp only at hkt hrw hsq hky hl8 hrow
   subst hkt
   obtain ⟨⟨q0,q1,q2,q3⟩,q4,⟨q5,q6,q7⟩,q8,q9,q10,q11⟩:=Chg.cells12 hc5
   simp only at q0 q1 q2 q3 q4 q5 q6 q7 q8 q9 q10 q11
   have hka:k<al.length:=by rw [HLN.out];exact hkn0
   have hkb:k<bl.length:=by rw [HML.out];exact hkn0
   obtain ⟨ky,hkE⟩ : ∃ ky,keyOf ⟨kd,sq,dy,(k:Int),XA,xc,row,key,cl,vl⟩=ky:=⟨_,rfl⟩
   rw [hkE] at hky
   have HKY:=qh hkE
   have hMC:=HAM.out.maps k hkb hka
   have hcl:=HAM.out.cell hkb
   obtain ⟨bk,hbk⟩ : ∃ b,bl[k]=b:=⟨_,rfl⟩
   obtain ⟨⟨f,c⟩,hfc⟩ : ∃ a,al[k]=a:=⟨_,rfl⟩
   rw [hbk,hfc] at hMC
   rw [hbk] at hcl
   have hbkl:=hMC.lt
   have hcj:=hMC.le
   simp only at hMC hcj
   have HBK:=qh hbk
   have HFC:=qh hfc
   have HMC:=qh hMC
   have HMEM:=qh hmem
   have hkyb:(-9223372036854775808≤ky.kind∧ky.kind ≤ 9223372036854775807)∧(-9223372036854775808≤ky.num∧ky.num ≤ 9223372036854775807)∧ky.text.size ≤ 1000000:=valB_bd hky
   obtain ⟨klit,hklit⟩:=val_key hkyb.2.2 hkyb.1 hkyb.2.1
   have HKL:=qh hklit
   have HROW:=qh hrow
   have hb5i:b5<wr.heap.size:=by omega
   clear hx hc5 hmem hbk hfc hMC hrow hklit hkE hky hkyb
   go_upto_region 10 with (fail)
   obtain ⟨X,hX⟩ : ∃ X,wr.heap.size=X:=⟨_,rfl⟩
   have HXI:=qh hX
   rw [hX]
   refine abs_world (P:=fun u=>Code.wp _ _ _ _ u) (R:=fun u=>Blk u X 79 #[.int .i64 kd, .int .i64 sq, .int .i64 dy, .int .i64 k, .slice XA row.length xc, .int .i64 key.kind, .int .i64 key.num, .string key.text, .int .i64 cl, .int .i64 vl.kind, .int .i64 vl.num, .string vl.text]∧Below wr.heap.size wr u) ⟨?_,?_⟩ ?_
   ·exact Blk.new' hX
   ·exact belA
   clear hX
   rintro W1 ⟨hX1,hb1⟩
   have hX1l:=hX1.lt
   have HX1:=qh hX1
   have e3:=hX1.cell 3
   have e5:=hX1.cell 5
   have e6:=hX1.cell 6
   have e7:=hX1.cell 7
   simp only [gE3] at e3 e5 e6 e7
   replace hcl:=(hb1.cell (p:=⟨q,k,none⟩) hqi).trans hcl
   clear hX1 q0 q1 q2 q3 q4 q5 q6 q7 q8 q9 q10 q11
   have hkn':decide (k<n0)=true:=by simpa using hkn0
   have hq1:q<W1.heap.size:=by have:=hb1.size;omega
   refine wp_region_T (S:=fun u=>u.cell? ⟨X,3,none⟩=some (.int .i64 k)∧u.cell? ⟨X,5,none⟩=some (.int .i64 key.kind)∧u.cell? ⟨X,6,none⟩=some (.int .i64 key.num)∧u.cell? ⟨X,7,none⟩=some (.string key.text)∧u.cell? ⟨q,k,none⟩=some (.map (some bk))) [9] krA ⟨e3,e5,e6,e7,hcl⟩ (fun hHeld => ?_)
   refine tkT 0 hHeld ?_
   refine tkT 1 hHeld ?_
   refine tkT 2 hHeld ?_
   refine tkT 3 hHeld ?_
   refine tkT 4 hHeld ?_
   refine tkT 5 hHeld ?_
   refine tkT 6 hHeld ?_
   refine r1T 7 (fun K hK => ?_)
   go_simp
   refine hK.out _ _ _ ⟨?_,?_,?_,?_,?_⟩ (fun hHeld => ?_)
   iterate 5 (go_simp)
   clear hK K
   refine tkT 8 hHeld ?_
   refine rzT 9 (fun K hK => ?_)
   go_simp
   refine hK.out _ _ _ ?_
   clear hK K
   refine wpT_done krA ?_ _
   clear hHeld
   obtain ⟨Y,hY⟩ : ∃ Y,W1.heap.size=Y:=⟨_,rfl⟩
   rw [hY]
   go_upto_region 11 with (fail)
   refine abs_world (P:=fun u=>Code.wp _ _ _ _ u) (R:=fun u=>Blk u X 79 #[.int .i64 kd, .int .i64 sq, .int .i64 dy, .int .i64 k, .slice XA row.length xc, .int .i64 key.kind, .int .i64 key.num, .string key.text, .int .i64 cl, .int .i64 vl.kind, .int .i64 vl.num, .string vl.text]∧Blk u Y 53 #[.int .i64 key.kind, .int .i64 key.num, .string key.text]∧Below wr.heap.size wr u) ⟨?_,?_,?_⟩ ?_
   ·exact (HX1.out.alloc _).drew
   ·exact (Blk.new' hY).drew
   ·exact (hb1.alloc hb1.size _).drew
   have hXY:X≠Y:=by omega
   have hYw:wr.heap.size≤Y:=by have:=hb1.size;omega
   clear hY
   rintro W2 ⟨hX2,hY2,hb2⟩
   have hX2l:=hX2.lt
   have hY2l:=hY2.lt
   have HX2:=qh hX2
   have HY2:=qh hY2
   have hb2z:=hb2.size
   have g0:=hX2.cell 0
   have g4:=hX2.cell 4
   simp only [gE3] at g0 g4
   have y0:=hY2.cell 0
   have y1:=hY2.cell 1
   have y2:=hY2.cell 2
   simp only [gE3] at y0 y1 y2
   have yf:=fun i=>hY2.frozen i
   clear hX2 hY2 e3 e5 e6 e7 hcl hb1 HX1
   by_cases hk1:kd = 1
   ·subst hk1
    have h0r:=hrw rfl
    obtain ⟨rb,ro,rfl,hrb,hrc⟩:=HROW.out.get h0r
    have hrb2:rb<wr.heap.size:=by omega
    have HK0:Hid (row[0]=ky):=qh (by have h:=HKY.out;rw [← h];cases row with
     | nil=>simp at h0r
     | cons a t=>rfl)
    have k0:=hrc 0 _ rfl
    have k1:=hrc 1 _ rfl
    have k2:=hrc 2 _ rfl
    rw [HK0.out] at k0 k1 k2
    simp only [Nat.zero_mul,Nat.add_zero] at k0 k1 k2
    have k0':=(hb2.cell (p:=⟨rb,ro,none⟩) hrb2).trans k0
    have k1':=(hb2.cell (p:=⟨rb,ro + 1,none⟩) hrb2).trans k1
    have k2':=(hb2.cell (p:=⟨rb,ro + 2,none⟩) hrb2).trans k2
    have h0r':decide (0<row.length)=true:=by simpa using h0r
    have h0ri:decide ((0:Int)<(row.length:Int))=true:=by simp;omega
    clear hrc k0 k1 k2
    go_upto_region 13 with (fail)
    refine abs_world (P:=fun u=>Code.wp _ _ _ _ u) (R:=fun u=>Blk u X 79 #[.int .i64 1, .int .i64 sq, .int .i64 dy, .int .i64 k, .slice (some ⟨rb,ro,none⟩) row.length xc, .int .i64 key.kind, .int .i64 key.num, .string key.text, .int .i64 cl, .int .i64 vl.kind, .int .i64 vl.num, .string vl.text]∧Blk u Y 53 #[.int .i64 ky.kind, .int .i64 ky.num, .string ky.text]∧Below wr.heap.size wr u) ⟨?_,?_,?_⟩ ?_
    ·exact ((HX2.out.far hXY _).far hXY _).far hXY _
    ·exact blk_put3 HY2.out
    ·exact ((hb2.setCell omA _).setCell omA _).setCell omA _
    clear g0 g4 y0 y1 y2 yf k0' k1' k2' HX2 HY2 hb2z hX2l hY2l hb2
    rintro W3 ⟨hX3,hY3,hb3⟩
    have hX3l:=hX3.lt
    have hY3l:=hY3.lt
    have HX3:=qh hX3
    have HY3:=qh hY3
    have hb3z:=hb3.size
    have HM3:=qh (HMC.out.below hb3 hbkl)
    have g0:=hX3.cell 0
    have g3:=hX3.cell 3
    simp only [gE3] at g0 g3
    have y0:=hY3.cell 0
    have y1:=hY3.cell 1
    have y2:=hY3.cell 2
    simp only [gE3] at y0 y1 y2
    clear hX3 hY3
    obtain ⟨fr,hfk⟩ : ∃ r,f ky=r:=⟨_,rfl⟩
    have HF:=qh hfk
    clear hfk
    cases fr with
    | some s =>
      go_upto_region 18 with (at_lookup;refine wpList_lookOkC _ rfl _ _ _ rfl 53 3 val_keyed Tryz.underlying134 (.int .i64 0) zero_intF bk j c (mapF f) rfl HM3.out (mkV ky) klit rfl HKL.out (.int .i64 s) true (by rw [mapF_get,HF.out];rfl) (by rw [mapF_get,HF.out];rfl) ?_)
      refine abs_world (P:=fun u=>Code.wp _ _ _ _ u) (R:=fun u=>Blk u X 79 #[.int .i64 1, .int .i64 sq, .int .i64 dy, .int .i64 k, .slice (some ⟨rb,ro,none⟩) row.length xc, .int .i64 key.kind, .int .i64 key.num, .string key.text, .int .i64 cl, .int .i64 vl.kind, .int .i64 vl.num, .string vl.text]∧Blk u Y 53 #[.int .i64 ky.kind, .int .i64 ky.num, .string ky.text]∧Below wr.heap.size wr u) ⟨HX3.out.alloc _,HY3.out.alloc _,hb3.alloc hb3z _⟩ ?_
      clear g0 g3 y0 y1 y2 HX3 HY3 hb3z hX3l hY3l hb3
      rintro W4 ⟨hX4,hY4,hb4⟩
      have HX4:=qh hX4
      have hb4z:=hb4.size
      have HM4:=qh (HMC.out.below hb4 hbkl)
      have g1:=hX4.cell 1
      have y0:=hY4.cell 0
      have y1:=hY4.cell 1
      have y2:=hY4.cell 2
      simp only [gE3] at g1 y0 y1 y2
      clear hX4 hY4
      go_upto_region 19 with (at_mapUpdate;refine wpList_storeC _ rfl _ _ _ _ rfl 53 3 val_keyed Tryz.underlying134 bk j c (mapF f) rfl HM4.out (by unfold maxLen;omega) (mkV ky) klit rfl HKL.out (.int .i64 sq) rfl (mapF (putF f ky (some sq))) (by rw [mapF_get,putF_same];rfl) (fun u hu=>mapF_put f ky (some sq) hu) ?_;intro W5 hM5 hg5)
      rw [mapF_some] at hM5
      have HKP5:=qh ((HKP.out.below hb4).map hg5 HM4.out.isMap)
      have HAM5:=qh ((HAM.out.below hb4).put (a:=(putF f ky (some sq),if (f ky).isSome=true then c else c + 1)) hkb (Nat.le_succ j) (by rw [HBK.out];exact hg5) (by rw [HBK.out];exact hM5))
      have HX5:=qh (HX4.out.grown hg5 fun e=>(HM4.out.neCells HX4.out) (by injection e with e;exact e.symm))
      have hbi5:Below pk w W5:=(hbi.trans (hb4.mono (Nat.le_of_lt hpi))).grown hg5 omA (fun b e=>by injection e with e;rw [← e,← HBK.out];have:=HAM.out.low _ (lgm hkb);omega)
      have HNX2:=qh (HNX.out _ _ (folE_ins' hka HFC.out HKY.out rfl rfl (by rw [HF.out];exact .inl rfl)))
      obtain ⟨⟨q0,q1,q2,q3⟩,q4,⟨q5,q6,q7⟩,q8,q9,q10,q11⟩:=Chg.blkE (x:=⟨1,sq,dy,(k:Int),some ⟨rb,ro,none⟩,xc,row,key,cl,vl⟩) HX5.out
      simp only at q0 q1 q2 q3 q4 q5 q6 q7 q8 q9 q10 q11
      clear g1 y0 y1 y2 hM5 hg5
      go_wp2_with fail
      (with_reducible refine (HV.out 1 sq dy k (some ⟨rb,ro,none⟩) xc row key cl vl sq s W5 KA2 kc2 kl2 HMEM.out hsq (HFR.out.bd.get hka HFC.out HF.out) (fun _=>rfl) hbi5 HKP5.out omA).mono ?_)
      rintro e W6 ⟨rfl,⟨KA3,kc3,kl3,hk3,hV3,hn3⟩,hfr3⟩
      have HAM6:=qh (HAM5.out.visit hpk HKP5.out.own hfr3.2)
      have HKP6:=qh hk3
      have hbi6:=hbi5.trans hfr3.1
      have HFR6:Hid (FolR V (kl.map unC) n0 l (j + 1) (al.set k (putF f ky (some sq),if (f ky).isSome=true then c else c + 1)) (kl3.map unC)):=qh (by rw [hV3];have h:=HNX2.out;rw [List.flatMap_cons,List.flatMap_nil,List.append_nil,HF.out] at h;rw [HF.out];exact h)
      clear hk3 hV3 hfr3 q0 q1 q2 q3 q4 q5 q6 q7 q8 q9 q10 q11
      go_wp2_with fail
      go_roundw
      case rel=>exact ⟨j + 1,_,KA3,kc3,kl3,by omega,by go_num,HFR6.out,HAM6.out,HKP6.out,by omega,hbi6⟩
      case measure=>exact meA
    | none =>
      by_cases hc64:c < 64
      ·have hc':decide (64≤c)=false:=by simp;omega
       have hci:decide ((64:Int)≤(c:Int))=false:=by simp;omega
       have hlen : ∀ o,(Builtin.len_ #[134] 3 #[.map (some bk)]).run Tryz.prog (W3.alloc o) = .ok (.int .i64 c) (W3.alloc o):=fun o=>(HM3.out.alloc o).len Tryz.underlying134 3
       go_upto_region 18 with (first|(at_lookup;refine wpList_lookOkC _ rfl _ _ _ rfl 53 3 val_keyed Tryz.underlying134 (.int .i64 0) zero_intF bk j c (mapF f) rfl HM3.out (mkV ky) klit rfl HKL.out (.int .i64 0) false (by rw [mapF_get,HF.out];rfl) (by rw [mapF_get,HF.out];rfl) ?_)|(at_builtin;refine wpList_lenC _ rfl _ _ rfl 53 3 Tryz.underlying134 bk j c (mapF f) rfl (HM3.out.alloc _) ?_))
       refine abs_world (P:=fun u=>Code.wp _ _ _ _ u) (R:=fun u=>Blk u X 79 #[.int .i64 1, .int .i64 sq, .int .i64 dy, .int .i64 k, .slice (some ⟨rb,ro,none⟩) row.length xc, .int .i64 key.kind, .int .i64 key.num, .string key.text, .int .i64 cl, .int .i64 vl.kind, .int .i64 vl.num, .string vl.text]∧Blk u Y 53 #[.int .i64 ky.kind, .int .i64 ky.num, .string ky.text]∧Below wr.heap.size wr u) ⟨HX3.out.alloc _,HY3.out.alloc _,hb3.alloc hb3z _⟩ ?_
       clear g0 g3 y0 y1 y2 HX3 HY3 hb3z hX3l hY3l hb3
       rintro W4 ⟨hX4,hY4,hb4⟩
       have HX4:=qh hX4
       have hb4z:=hb4.size
       have HM4:=qh (HMC.out.below hb4 hbkl)
       have g1:=hX4.cell 1
       have y0:=hY4.cell 0
       have y1:=hY4.cell 1
       have y2:=hY4.cell 2
       simp only [gE3] at g1 y0 y1 y2
       clear hX4 hY4
       go_upto_region 19 with (at_mapUpdate;refine wpList_storeC _ rfl _ _ _ _ rfl 53 3 val_keyed Tryz.underlying134 bk j c (mapF f) rfl HM4.out (by unfold maxLen;omega) (mkV ky) klit rfl HKL.out (.int .i64 sq) rfl (mapF (putF f ky (some sq))) (by rw [mapF_get,putF_same];rfl) (fun u hu=>mapF_put f ky (some sq) hu) ?_;intro W5 hM5 hg5)
       rw [mapF_some] at hM5
       have HKP5:=qh ((HKP.out.below hb4).map hg5 HM4.out.isMap)
       have HAM5:=qh ((HAM.out.below hb4).put (a:=(putF f ky (some sq),if (f ky).isSome=true then c else c + 1)) hkb (Nat.le_succ j) (by rw [HBK.out];exact hg5) (by rw [HBK.out];exact hM5))
       have HX5:=qh (HX4.out.grown hg5 fun e=>(HM4.out.neCells HX4.out) (by injection e with e;exact e.symm))
       have hbi5:Below pk w W5:=(hbi.trans (hb4.mono (Nat.le_of_lt hpi))).grown hg5 omA (fun b e=>by injection e with e;rw [← e,← HBK.out];have:=HAM.out.low _ (lgm hkb);omega)
       have HNX2:=qh (HNX.out _ _ (folE_ins' hka HFC.out HKY.out rfl rfl (by exact .inr hc64)))
       obtain ⟨⟨q0,q1,q2,q3⟩,q4,⟨q5,q6,q7⟩,q8,q9,q10,q11⟩:=Chg.blkE (x:=⟨1,sq,dy,(k:Int),some ⟨rb,ro,none⟩,xc,row,key,cl,vl⟩) HX5.out
       simp only at q0 q1 q2 q3 q4 q5 q6 q7 q8 q9 q10 q11
       clear g1 y0 y1 y2 hM5 hg5
       go_wp2_with fail
       (with_reducible refine (HV.out 1 sq dy k (some ⟨rb,ro,none⟩) xc row key cl vl sq 0 W5 KA2 kc2 kl2 HMEM.out hsq omA (fun _=>rfl) hbi5 HKP5.out omA).mono ?_)
       rintro e W6 ⟨rfl,⟨KA3,kc3,kl3,hk3,hV3,hn3⟩,hfr3⟩
       have HAM6:=qh (HAM5.out.visit hpk HKP5.out.own hfr3.2)
       have HKP6:=qh hk3
       have hbi6:=hbi5.trans hfr3.1
       have HFR6:Hid (FolR V (kl.map unC) n0 l (j + 1) (al.set k (putF f ky (some sq),if (f ky).isSome=true then c else c + 1)) (kl3.map unC)):=qh (by rw [hV3];have h:=HNX2.out;rw [List.flatMap_cons,List.flatMap_nil,List.append_nil,HF.out] at h;rw [HF.out];exact h)
       clear hk3 hV3 hfr3 q0 q1 q2 q3 q4 q5 q6 q7 q8 q9 q10 q11
       go_wp2_with fail
       go_roundw
       case rel=>exact ⟨j + 1,_,KA3,kc3,kl3,by omega,by go_num,HFR6.out,HAM6.out,HKP6.out,by omega,hbi6⟩
       case measure=>exact meA
      ·have hc':decide (64≤c)=true:=by simp;omega
       have hci:decide ((64:Int)≤(c:Int))=true:=by simp;omega
       have hlen : ∀ o,(Builtin.len_ #[134] 3 #[.map (some bk)]).run Tryz.prog (W3.alloc o) = .ok (.int .i64 c) (W3.alloc o):=fun o=>(HM3.out.alloc o).len Tryz.underlying134 3
       have HNX2:=qh (HNX.out _ _ (folE_full' hka HFC.out HKY.out rfl HF.out (.inr hc64)))
       have HFR6:Hid (FolR V (kl.map unC) n0 l (j + 1) al (kl2.map unC)):=qh (by have h:=HNX2.out;rw [List.flatMap_nil,List.append_nil] at h;exact h)
       go_wp2_with (at_lookup;refine wpList_lookOkC _ rfl _ _ _ rfl 53 3 val_keyed Tryz.underlying134 (.int .i64 0) zero_intF bk j c (mapF f) rfl HM3.out (mkV ky) klit rfl HKL.out (.int .i64 0) false (by rw [mapF_get,HF.out];rfl) (by rw [mapF_get,HF.out];rfl) ?_)
       go_roundw
       case rel=>exact ⟨j + 1,al,KA2,kc2,kl2,by omega,by go_num,HFR6.out,((HAM.out.below hb3).mono (Nat.le_succ j)).below belA,(HKP.out.below hb3).below belA,by omega,(hbi.trans (hb3.mono (Nat.le_of_lt hpi))).alloc omA _⟩
       case measure=>exact meA
   ·have hk1':(kd == 1)=false:=by simpa using hk1
    have hke:key=ky:=by have h:=HKY.out;rw [← h];simp [keyOf,hk1']
    subst hke
    obtain ⟨W3,HW3⟩ : ∃ W3,Hid (W3=W2):=⟨_,qh rfl⟩
    have HM3:=qh (HMC.out.below hb2 hbkl)
    have g3:=HX2.out.cell 3
    simp only [gE3] at g3
    obtain ⟨fr,hfk⟩ : ∃ r,f key=r:=⟨_,rfl⟩
    have HF:=qh hfk
    clear hfk
    cases fr with
    | none =>
      have HNX2:=qh (HNX.out _ _ (folE_full' hka HFC.out HKY.out rfl HF.out (.inl hk1)))
      have HFR6:Hid (FolR V (kl.map unC) n0 l (j + 1) al (kl2.map unC)):=qh (by have h:=HNX2.out;rw [List.flatMap_nil,List.append_nil] at h;exact h)
      go_wp2_with (at_lookup;refine wpList_lookOkC _ rfl _ _ _ rfl 53 3 val_keyed Tryz.underlying134 (.int .i64 0) zero_intF bk j c (mapF f) rfl HM3.out (mkV key) klit rfl HKL.out (.int .i64 0) false (by rw [mapF_get,HF.out];rfl) (by rw [mapF_get,HF.out];rfl) ?_)
      go_roundw
      case rel=>exact ⟨j + 1,al,KA2,kc2,kl2,by omega,by go_num,HFR6.out,((HAM.out.below hb2).mono (Nat.le_succ j)).below belA,(HKP.out.below hb2).below belA,by omega,(hbi.trans (hb2.mono (Nat.le_of_lt hpi))).alloc omA _⟩
      case measure=>exact meA
    | some s =>
      have hsb:=HFR.out.bd.get hka HFC.out HF.out
      by_cases hk3:kd = 3
      ·subst hk3
       go_upto_region 22 with (at_lookup;refine wpList_lookOkC _ rfl _ _ _ rfl 53 3 val_keyed Tryz.underlying134 (.int .i64 0) zero_intF bk j c (mapF f) rfl HM3.out (mkV key) klit rfl HKL.out (.int .i64 s) true (by rw [mapF_get,HF.out];rfl) (by rw [mapF_get,HF.out];rfl) ?_)
       obtain ⟨S,hS⟩ : ∃ S,W2.heap.size=S:=⟨_,rfl⟩
       rw [hS]
       have hXS:X≠S:=by omega
       refine abs_world (P:=fun u=>Code.wp _ _ _ _ u) (R:=fun u=>Blk u X 79 #[.int .i64 3, .int .i64 sq, .int .i64 dy, .int .i64 k, .slice XA row.length xc, .int .i64 key.kind, .int .i64 key.num, .string key.text, .int .i64 cl, .int .i64 vl.kind, .int .i64 vl.num, .string vl.text]∧Blk u Y 53 #[.int .i64 key.kind, .int .i64 key.num, .string key.text]∧Blk u S 51 #[.int .i64 k, .int .i64 s]∧Below wr.heap.size wr u) ⟨HX2.out.alloc _,HY2.out.alloc _,Blk.new' hS,hb2.alloc hb2z _⟩ ?_
       clear hS g0 g3 g4 y0 y1 y2 yf HX2 HY2 hb2z hX2l hY2l hb2 HM3
       rintro W4 ⟨hX4,hY4,hS4,hb4⟩
       have hb4z:=hb4.size
       have HX4:=qh hX4
       have HS4:=qh hS4
       have HM4:=qh (HMC.out.below hb4 hbkl)
       have y0:=hY4.cell 0
       have y1:=hY4.cell 1
       have y2:=hY4.cell 2
       simp only [gE3] at y0 y1 y2
       clear hX4 hY4 hS4
       obtain ⟨W5,hrun,hdr,hg5⟩:=HM4.out.drop (e := 3) (t := 134) val_keyed Tryz.underlying134 (x := .agg #[.int .i64 key.kind, .int .i64 key.num, .string key.text]) HKL.out 0
       have hM5:=hdr (mapF (putF f key none)) (by rw [show (Value.agg #[.int .i64 key.kind, .int .i64 key.num, .string key.text])=mkV key from rfl,mapF_get,putF_same];rfl) (fun u hu=>mapF_put f key none hu)
       rw [show (Value.agg #[.int .i64 key.kind, .int .i64 key.num, .string key.text])=mkV key from rfl] at hM5
       clear hdr
       go_upto_region 23 with (fail)
       clear hrun
       rw [mapF_some,HF.out] at hM5
       have HKP5:=qh ((HKP.out.below hb4).map hg5 HM4.out.isMap)
       have HAM5:=qh ((HAM.out.below hb4).put (a:=(putF f key none,c - 1)) hkb (Nat.le_succ j) (by rw [HBK.out];exact hg5) (by rw [HBK.out];exact MapC.mono hM5 (Nat.le_succ j)))
       have HX5:=qh (HX4.out.grown hg5 fun e=>(HM4.out.neCells HX4.out) (by injection e with e;exact e.symm))
       have HS5:=qh (HS4.out.grown hg5 fun e=>(HM4.out.neCells HS4.out) (by injection e with e;exact e.symm))
       have hbi5:Below pk w W5:=(hbi.trans (hb4.mono (Nat.le_of_lt hpi))).grown hg5 omA (fun b e=>by injection e with e;rw [← e,← HBK.out];have:=HAM.out.low _ (lgm hkb);omega)
       have HNX2:=qh (HNX.out _ _ (folE_del' hka HFC.out HKY.out rfl HF.out rfl))
       clear y0 y1 y2 hM5 hg5
       obtain ⟨⟨q0,q1,q2,q3⟩,q4,⟨q5,q6,q7⟩,q8,q9,q10,q11⟩:=Chg.blkE (x:=(⟨3,sq,dy,(k:Int),XA,xc,row,key,cl,vl⟩)) HX5.out
       simp only at q0 q1 q2 q3 q4 q5 q6 q7 q8 q9 q10 q11
       have s0:=HS5.out.cell 0
       have s1:=HS5.out.cell 1
       simp only [gE3] at s0 s1
       go_wp2_with fail
       (with_reducible refine (HV.out _ sq dy k XA xc row key cl vl s 0 W5 KA2 kc2 kl2 HMEM.out hsb ⟨Int.le_refl 0,by decide⟩ (fun h=>absurd rfl h) hbi5 HKP5.out omA).mono ?_)
       rintro e W6 ⟨rfl,⟨KA3,kc3,kl3,hk3,hV3,hn3⟩,hfr3⟩
       have HAM6:=qh (HAM5.out.visit hpk HKP5.out.own hfr3.2)
       have HKP6:=qh hk3
       have hbi6:=hbi5.trans hfr3.1
       have HFR6:Hid (FolR V (kl.map unC) n0 l (j + 1) (al.set k (putF f key none,c - 1)) (kl3.map unC)):=qh (by rw [hV3];have h:=HNX2.out;rw [List.flatMap_cons,List.flatMap_nil,List.append_nil] at h;exact h)
       clear hk3 hV3 hfr3 q0 q1 q2 q3 q4 q5 q6 q7 q8 q9 q10 q11 s0 s1
       go_wp2_with fail
       go_roundw
       case rel=>exact ⟨j + 1,_,KA3,kc3,kl3,by omega,by go_num,HFR6.out,HAM6.out,HKP6.out,by omega,hbi6⟩
       case measure=>exact meA
      ·have hk3':(kd == 3)=false:=by simpa using hk3
       go_upto_region 15 with (at_lookup;refine wpList_lookOkC _ rfl _ _ _ rfl 53 3 val_keyed Tryz.underlying134 (.int .i64 0) zero_intF bk j c (mapF f) rfl HM3.out (mkV key) klit rfl HKL.out (.int .i64 s) true (by rw [mapF_get,HF.out];rfl) (by rw [mapF_get,HF.out];rfl) ?_)
       obtain ⟨S,hS⟩ : ∃ S,W2.heap.size=S:=⟨_,rfl⟩
       rw [hS]
       have hXS:X≠S:=by omega
       refine abs_world (P:=fun u=>Code.wp _ _ _ _ u) (R:=fun u=>Blk u X 79 #[.int .i64 kd, .int .i64 sq, .int .i64 dy, .int .i64 k, .slice XA row.length xc, .int .i64 key.kind, .int .i64 key.num, .string key.text, .int .i64 cl, .int .i64 vl.kind, .int .i64 vl.num, .string vl.text]∧Blk u Y 53 #[.int .i64 key.kind, .int .i64 key.num, .string key.text]∧Blk u S 51 #[.int .i64 k, .int .i64 s]∧Below wr.heap.size wr u) ⟨HX2.out.alloc _,HY2.out.alloc _,Blk.new' hS,hb2.alloc hb2z _⟩ ?_
       clear hS g0 g3 g4 y0 y1 y2 yf HX2 HY2 hb2z hX2l hY2l hb2 HM3
       rintro W4 ⟨hX4,hY4,hS4,hb4⟩
       have hb4z:=hb4.size
       have HX4:=qh hX4
       have HS4:=qh hS4
       clear hX4 hY4 hS4
       have HKP5:=qh (HKP.out.below hb4)
       have HAM5:=qh ((HAM.out.below hb4).mono (Nat.le_succ j))
       have hbi5:Below pk w W4:=hbi.trans (hb4.mono (Nat.le_of_lt hpi))
       have HNX2:=qh (HNX.out _ _ (folE_upd' hka HFC.out HKY.out rfl HF.out hk1 hk3))
       obtain ⟨W5,HW5⟩ : ∃ W5:World,W5=W4:=⟨_,rfl⟩
       subst HW5
       have HX5:=HX4
       have HS5:=HS4
       obtain ⟨⟨q0,q1,q2,q3⟩,q4,⟨q5,q6,q7⟩,q8,q9,q10,q11⟩:=Chg.blkE (x:=(⟨kd,sq,dy,(k:Int),XA,xc,row,key,cl,vl⟩)) HX5.out
       simp only at q0 q1 q2 q3 q4 q5 q6 q7 q8 q9 q10 q11
       have s0:=HS5.out.cell 0
       have s1:=HS5.out.cell 1
       simp only [gE3] at s0 s1
       go_wp2_with fail
       (with_reducible refine (HV.out _ sq dy k XA xc row key cl vl s 0 W5 KA2 kc2 kl2 HMEM.out hsb ⟨Int.le_refl 0,by decide⟩ (fun h=>absurd rfl h) hbi5 HKP5.out omA).mono ?_)
       rintro e W6 ⟨rfl,⟨KA3,kc3,kl3,hk3,hV3,hn3⟩,hfr3⟩
       have HAM6:=qh (HAM5.out.visit hpk HKP5.out.own hfr3.2)
       have HKP6:=qh hk3
       have hbi6:=hbi5.trans hfr3.1
       have HFR6:Hid (FolR V (kl.map unC) n0 l (j + 1) al (kl3.map unC)):=qh (by rw [hV3];have h:=HNX2.out;rw [List.flatMap_cons,List.flatMap_nil,List.append_nil] at h;exact h)
       clear hk3 hV3 hfr3 q0 q1 q2 q3 q4 q5 q6 q7 q8 q9 q10 q11 s0 s1
       go_wp2_with fail
       go_roundw
       case rel=>exact ⟨j + 1,_,KA3,kc3,kl3,by omega,by go_num,HFR6.out,HAM6.out,HKP6.out,by omega,hbi6⟩
       case measure=>exact meA
end Go.Proofs.YtjhnpnhpmdkpcaaGreat
