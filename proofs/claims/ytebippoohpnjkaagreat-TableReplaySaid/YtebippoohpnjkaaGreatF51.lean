/-
  Contracts and plain laws of this seat, part 51.
-/
import Derived.Test.YtebippoohpnjkaaGreatF55
import Derived.Test.YtebippoohpnjkaaGreatF46
import Derived.Test.YtebippoohpnjkaaGreatF53
set_option linter.unusedVariables false
set_option linter.unusedSimpArgs false
set_option maxRecDepth 100000
set_option maxHeartbeats 16000000
namespace Go.Proofs.YtebippoohpnjkaaGreat
open Go.RowKit Go
theorem Ci(A:Option Addr)(c m:Nat)(ts:List Tab)(kd sq2 dy2 tb:Int)(A0:Option Addr)(cp:Nat)(row:List Val)(key:Val)(cl:Int)(vl:Val)(w:World)(ht:aJ w w.heap.size A ts)(hm:ts.length=m)(hs:aI ts)(hok:aV ts)(hR:ah w w.heap.size Val.cells 3 A0 row)(hrl:row.length≤1000000){r:Int}(hr:bq ts ⟨kd,sq2,dy2,tb,A0,cp,row,key,cl,vl⟩=r):
 Calls Tryz.prog 55 #[.agg #[.slice A m c,.slice none 0 0,.slice none 0 0,.slice none 0 0,.slice none 0 0,.slice none 0 0,.slice none 0 0,.slice none 0 0],.agg #[.int .i64 kd,.int .i64 sq2,.int .i64 dy2,.int .i64 tb,.slice A0 row.length cp,.int .i64 key.kind,.int .i64 key.num,.string key.text,.int .i64 cl,.int .i64 vl.kind,.int .i64 vl.num,.string vl.text]] w fun e w'=>e=.returned (.int .i64 r)∧Below w.heap.size w w':=
 kY (o:=Oth.nil) A c m ts kd sq2 dy2 tb A0 cp row key cl vl w ht hm hs hok (dZ.nil ht hs hok) hR hrl hr
theorem ah.rC{α:Type}{enc:α→List Value}{w w':World}{B k:Nat}{A:Option Addr}{l:List α}{row:Option Nat}(h:ah w B enc k A l)(hB:B≤w.heap.size)(hg:w.grownBy w' row)(hne:∀a,A=some a→a.block<B→some a.block≠row):ah w' B enc k A l:=fun hl=>by
 obtain⟨b,o,rfl,hb,hc⟩:=h hl
 exact⟨b,o,rfl,hb,fun i hi j u hu=>(World.cell?_of_block (hg.block b omA (hne _ rfl hb))).trans (hc i hi j u hu)⟩
theorem aR.rC{w w':World}{A:Option Addr}{rt:List RTab}{B T:Nat}{row:Option Nat}(h:aR w B A rt)(hu:RUp T A rt)(hB:B≤w.heap.size)(hr:∀q,row=some q→q<T∨B≤q)(hg:w.grownBy w' row):aR w' B A rt:=by
 have hne:∀ {A:Option Addr},(∀a,A=some a→T≤a.block)→∀a,A=some a→a.block<B→some a.block≠row:=fun h a ha hb e=>by
  have h1:=h a ha
  have h2:=hr a.block e.symm
  omega
 exact⟨h.1.rC hB hg (hne hu.1),fun t ht=>⟨(h.2 t ht).1.rC hB hg (hne (hu.2 t ht).1),fun x hx=>⟨((h.2 t ht).2 x hx).1.rC hB hg (hne ((hu.2 t ht).2 x hx).1),((h.2 t ht).2 x hx).2.rC hB hg (hne ((hu.2 t ht).2 x hx).2)⟩⟩⟩
structure mX (w:World) (g:Nat) (RA:Option Addr) (rt:List RTab) (v:Value) (T B:Nat):Prop where
 read:aR w B RA rt
 up:RUp T RA rt
 tape:g+1≤T
 le:B≤w.heap.size
 apart:∀q,v.ownBlock=some q→q<T∨B≤q
theorem mX.all{w:World}{g:Nat}{RA:Option Addr}{rt:List RTab}{v:Value}{T B:Nat}(h:mX w g RA rt v T B):aR w w.heap.size RA rt∧RUp (g+1) RA rt:=⟨h.read.mono h.le,h.up.mono h.tape⟩
theorem mX.below{w w':World}{g:Nat}{RA:Option Addr}{rt:List RTab}{v:Value}{T B:Nat}(h:mX w g RA rt v T B)(hb:Below w.heap.size w w'):mX w' g RA rt v T B:=⟨h.read.below (hb.mono h.le),h.up,h.tape,Nat.le_trans h.le hb.size,h.apart⟩
theorem mX.call{w w':World}{g:Nat}{RA:Option Addr}{rt:List RTab}{v:Value}{T B:Nat}(h:mX w g RA rt v T B)(hg:w.grownBy w' (some g)):mX w' g RA rt v T B:=
 ⟨h.read.rC h.up h.le (fun q e=>by injection e with e;have:=h.tape;omega) hg,h.up,h.tape,Nat.le_trans h.le hg.size,h.apart⟩
theorem mX.app{w w':World}{g:Nat}{RA:Option Addr}{rt:List RTab}{v v':Value}{T B:Nat}(h:mX w g RA rt v T B)(hg:w.grownBy w' v.ownBlock)(hat:v'.ownBlock=v.ownBlock∨v'.ownBlock=some w.heap.size):mX w' g RA rt v' T B:=
 ⟨h.read.rC h.up h.le h.apart hg,h.up,h.tape,Nat.le_trans h.le hg.size,fun q hq=>by
  rcases hat with h1|h1
  ·exact h.apart q (by rw[←h1];exact hq)
  ·rw[hq]at h1
   injection h1 with h1
   have:=h.le
   exact .inr omA⟩
theorem GY(g b B n:Nat)(A:Option Addr)(c m:Nat)(ts:List Tab)(w:World)(hk:aO w g b)(hgB:g<B)(ht:aJ w w.heap.size A ts)(hu:gN B A ts)(hm:ts.length=m)(hs:aI ts)(hok:aV ts)(h0:0<ts.length)(hn:n≤1000):
 Calls Tryz.prog 24 #[.pointer (some ⟨g,0,none⟩),.agg #[.slice A m c,.slice none 0 0,.slice none 0 0,.slice none 0 0,.slice none 0 0,.slice none 0 0,.slice none 0 0,.slice none 0 0],.int .i64 n] w fun e w' =>
  ∃A' c' l,e=.returned (.slice A' l.length c')∧l.length≤n∧qz w' w.heap.size A' c' l∧aO w' g b∧w.grownBy w' (some g):=by
 subst hm
 have hgl:=hk.ltg
 have hbl:=hk.lt
 obtain⟨ic,hic,sV,sU,sS⟩:=info_parts Ba
 have HK:=qh hk
 have HT:=qh ht
 have HU:=qh (hu.mono (B':=g+1) hgB)
 have HS:=qh hs
 have HOK:=qh hok
 clear hk ht hu hs hok
 go_enter Tryz.func24,Tryz.ntmps24
 go_upto_region 1 with (fail)
 refine ai (P:=fun u=>Code.wp _ _ _ _ u) (R:=fun u=>Blk u w.heap.size 39 #[.slice A ts.length c,.slice none 0 0,.slice none 0 0,.slice none 0 0,.slice none 0 0,.slice none 0 0,.slice none 0 0,.slice none 0 0]∧Below w.heap.size w u) ⟨?_,?_⟩ ?_
 ·exact Blk.new _ _ _
 ·exact ak
 rintro W ⟨hC,hbW⟩
 have hzW:=hC.lt
 have hS0:aL W g b W:=⟨HK.out.below hbW,au _ brf⟩
 have jT:b<W.heap.size:=by omega
 have iZ:g<W.heap.size:=by omega
 have HC:=qh hC
 have HTW:=qh (HT.out.next hbW)
 obtain⟨p0,p1,p2,p3,p4,p5,p6,p7⟩:=Cat.blk hC
 clear hC
 go_wp2_with fail
 (with_reducible refine(wX A c ts.length ts _ HTW.out rfl HS.out HOK.out).mono ?_)
 rintro e w1 ⟨⟨q,rfl,hq,hrt⟩,hb1⟩
 have hS1:=hS0.below hb1
 have MJ:=qh hrt
 clear hrt
 clear p0 p1 p2 p3 p4 p5 p6 p7
 go_wp2_with fail
 go_loopw [7,8,9] (fun v7 v8 v9 wr =>∃(i:Nat) (RA:Option Addr) (rc:Nat) (rt:List RTab) (LA:Option Addr) (lc:Nat) (l:List Chg),i≤n∧v9=.int .i64 i∧v7=.slice RA ts.length rc∧rt.length=ts.length∧(∃T B,mX wr g RA rt (.slice LA l.length lc) T B)∧dX ts rt∧v8=.slice LA l.length lc∧qz wr W.heap.size LA lc l∧l.length≤i∧aL W g b wr) (fun _ _ v9 _=>n-(intOf v9).toNat)
 case atStart=>exact⟨0,_,_,_,none,0,[],Nat.zero_le _,rfl,rfl,by simp,⟨g+1,_,MJ.out,Gc omA _,Nat.le_refl _,Nat.le_refl _,fun q hq=>by simp[Value.ownBlock]at hq⟩,wG ts,rfl,⟨ax.nil,fun x hx=>by simp at hx,fun x hx=>by simp at hx⟩,Nat.zero_le _,hS1⟩
 case round =>
  clear hS1 MJ hb1 hq
  obtain⟨i,RA,rc,rt,LA,lc,l,hi,rfl,rfl,hrl,⟨T,B0,hwt⟩,hsh,rfl,hoc,hln,hSr⟩:=hrel
  have HRL:=qh hrl
  have HWT:=qh hwt
  have HSH:=qh hsh
  have HOC:=qh hoc
  have HSR:=qh hSr
  have hzr:=hSr.size
  have hgw:w.grownBy W (some g):=au _ hbW
  clear hrl hwt hsh hoc
  by_cases h1:i<n
  rotate_left
  ·have h1':decide (i<n)=false:=by simpa using h1
   have h1i:decide ((i:Int)<(n:Int))=false:=by simp;omega
   go_wp2_with fail
   go_ret
   exact⟨LA,lc,l,rfl,by omega,⟨HOC.out.own.mono omA,fun x hx=>(HOC.out.rows x hx).mono omA,HOC.out.len⟩,HSR.out.tape,az hgw HSR.out.grown⟩
  have h1':decide (i<n)=true:=by simpa using h1
  have h1i:decide ((i:Int)<(n:Int))=true:=by simp;omega
  have hC0:=HSR.out.blk HC.out omA
  obtain⟨p0,p1,p2,p3,p4,p5,p6,p7⟩:=Cat.blk hC0
  clear hC0
  go_wp2_with fail
  (with_reducible refine(vg g b (g+1) A c ts.length ts RA rc ts.length rt _ _ _ HSR.out.tape (Nat.lt_succ_self g) (HT.out.grown HU.out (Nat.lt_succ_self g) (az hgw HSR.out.grown)) HU.out rfl HS.out HOK.out h0 HWT.out.all.1 HWT.out.all.2 HRL.out HSH.out).mono ?_)
  intro e w3 hch
  obtain⟨⟨kd,sq2,dy2,tb,A0,cp,row,key,cl,vl⟩,he,NB,NK,EY,hrow,hk3,hg3⟩:=hch
  clear NB NK
  rw[show (Chg.cells ⟨kd,sq2,dy2,tb,A0,cp,row,key,cl,vl⟩).toArray=#[.int .i64 kd,.int .i64 sq2,.int .i64 dy2,.int .i64 tb,.slice A0 row.length cp,.int .i64 key.kind,.int .i64 key.num,.string key.text,.int .i64 cl,.int .i64 vl.kind,.int .i64 vl.num,.string vl.text] from rfl]at he
  subst he
  simp only at EY hrow
  have hS3:=HSR.out.call hk3 hg3
  have HG3:Hid (wr.grownBy w3 (some g)):=qh hg3
  have jy:=qh (hrow.mono (b':=W.heap.size) hzr)
  have HS3:=qh hS3
  have hz3:=hS3.size
  clear p0 p1 p2 p3 p4 p5 p6 p7
  clear hk3 hg3 hrow hS3
  go_upto_region 7 with (fail)
  refine ai (P:=fun u=>Code.wp _ _ _ _ u) (R:=fun u=>Blk u w3.heap.size 64 #[.int .i64 kd,.int .i64 sq2,.int .i64 dy2,.int .i64 tb,.slice A0 row.length cp,.int .i64 key.kind,.int .i64 key.num,.string key.text,.int .i64 cl,.int .i64 vl.kind,.int .i64 vl.num,.string vl.text]∧Below w3.heap.size w3 u) ⟨?_,?_⟩ ?_
  ·exact Blk.new' rfl
  ·exact ak
  rintro w4 ⟨hX4,hb4⟩
  have QJ:=hX4.lt
  have hz4:=hb4.size
  have HX4:=qh hX4
  have HS4:=qh (HS3.out.below hb4)
  have hC4:=HS4.out.blk HC.out omA
  obtain⟨p0,p1,p2,p3,p4,p5,p6,p7⟩:=Cat.blk hC4
  obtain⟨⟨q0,q1,q2,q3⟩,q4,⟨q5,q6,q7⟩,q8,q9,q10,q11⟩:=Chg.dW (x:=⟨kd,sq2,dy2,tb,A0,cp,row,key,cl,vl⟩) hX4
  simp only at q0 q1 q2 q3 q4 q5 q6 q7 q8 q9 q10 q11
  have rO:=qh ((HOC.out.kept HG3.out iZ).below hb4)
  have DX:=qh (jy.out.below hb4 nlr)
  have Vu:=qh ((HWT.out.call HG3.out).below hb4)
  obtain⟨z,hz⟩:∃z,bq ts ⟨kd,sq2,dy2,tb,A0,cp,row,key,cl,vl⟩=z:=⟨_,rfl⟩
  have HZ:=qh hz
  clear hC4 hX4 hz
  go_wp2_with fail
  (with_reducible refine(Ci A c ts.length ts kd sq2 dy2 tb A0 cp row key cl vl _ (HT.out.grown HU.out (Nat.lt_succ_self g) (az hgw HS4.out.grown)) rfl HS.out HOK.out (gQ bP DX.out) omA HZ.out).mono ?_)
  rintro e w5 ⟨rfl,hb5⟩
  have hz5:=hb5.size
  have HS5:=qh (HS4.out.below hb5)
  have rM:=qh (rO.out.below hb5)
  have MK:=qh (DX.out.below hb5 nlr)
  have TC:=qh (Vu.out.below hb5)
  have hX5:=HX4.out.below hb5 QJ
  clear p0 p1 p2 p3 p4 p5 p6 p7
  clear q0 q1 q2 q3 q4 q5 q6 q7 q8 q9 q10 q11
  by_cases hz0:z=0
  rotate_left
  ·have hz0':(z != 0)=true:=by simpa using hz0
   clear hz0 hX5
   go_wp2_with fail
   go_roundw
   case rel=>exact⟨i+1,RA,rc,rt,LA,lc,l,by omega,by go_num,rfl,HRL.out,⟨T,B0,TC.out⟩,HSH.out,rfl,rM.out,by omega,HS5.out⟩
   case measure=>exact meA
  ·have hz0':(z != 0)=false:=by rw[hz0];rfl
   have HX5:=qh hX5
   obtain⟨⟨q0,q1,q2,q3⟩,q4,⟨q5,q6,q7⟩,q8,q9,q10,q11⟩:=Chg.dW (x:=⟨kd,sq2,dy2,tb,A0,cp,row,key,cl,vl⟩) hX5
   simp only at q0 q1 q2 q3 q4 q5 q6 q7 q8 q9 q10 q11
   clear hX5 hz0
   go_upto_region 9 with (at_builtin;go_must (refine aK _ rfl (.tmp 30) (.tmp 32) 44 rfl 64 ic _ Chg.cells 12 128 Tryz.underlying44 hic sV sU sS rfl omA bS tQ W.heap.size (.slice LA l.length lc) l rfl (rM.out.own.alloc _) _ _ _ [(⟨kd,sq2,dy2,tb,A0,cp,row,key,cl,vl⟩:Chg)] rfl rfl (Blk.one (enc:=Chg.cells) (x:=⟨kd,sq2,dy2,tb,A0,cp,row,key,cl,vl⟩) (Blk.new' rfl) spA) smA mxA smA ?_);intro v2 w6 hown6 hg6 Te;obtain⟨LA6,lc6,hv6,_,_⟩:=hown6.form;subst hv6;have Ou:=qh ((rM.out.below (brf.alloc nlr _)).app hg6 hown6 (MK.out.alloc _) EY);have HS6:=qh ((HS5.out.below (brf.alloc nlr _)).app hg6 rM.out.own.row jT iZ);have TB:=qh ((TC.out.below (brf.alloc nlr _)).app hg6 Te);clear hown6)
   clear q0 q1 q2 q3 q4 q5 q6 q7 q8 q9 q10 q11
   have hz6:=HS6.out.size
   have hl6:(l ++ [(⟨kd,sq2,dy2,tb,A0,cp,row,key,cl,vl⟩:Chg)]).length≤i+1:=by simp;omega
   go_wp2_with fail
   (with_reducible refine(aA g b 3 _ HS6.out.tape omA omA).mono ?_)
   rintro e u7 ⟨r7,rfl,hr7,hk7,hg7⟩
   have HS7:=qh (HS6.out.call hk7 hg7)
   have MO:=qh (Ou.out.kept hg7 iZ)
   have Vt:=qh (TB.out.call hg7)
   have hC7:=HS7.out.blk HC.out omA
   obtain⟨p0,p1,p2,p3,p4,p5,p6,p7⟩:=Cat.blk hC7
   clear hk7 hg7 hC7 HS6 Ou TB
   by_cases hr0:r7=0
   ·have ou:decide ((0:Int)<(r7:Int))=false:=by simp;omega
    have La:decide (0<r7)=false:=by simp;omega
    clear hr0
    go_wp2_with fail
    go_roundw
    case rel=>exact⟨i+1,RA,rc,rt,LA6,lc6,l ++ [⟨kd,sq2,dy2,tb,A0,cp,row,key,cl,vl⟩],by omega,by go_num,rfl,HRL.out,⟨T,B0,Vt.out⟩,HSH.out,by simp,MO.out,hl6,HS7.out⟩
    case measure=>exact meA
   ·have ou:decide ((0:Int)<(r7:Int))=true:=by simp;omega
    have La:decide (0<r7)=true:=by simp;omega
    clear hr0
    have HL8:Hid (∀x∈l ++ [(⟨kd,sq2,dy2,tb,A0,cp,row,key,cl,vl⟩:Chg)],x.row.length≤1000000):=qh fun x hx=>by have:=MO.out.len x hx;omega
    go_wp2_with fail
    (with_reducible refine(yV A c ts.length ts LA6 lc6 _ (l ++ [⟨kd,sq2,dy2,tb,A0,cp,row,key,cl,vl⟩]) _ (HT.out.grown HU.out (Nat.lt_succ_self g) (az hgw HS7.out.grown)) rfl HS.out HOK.out MO.out.read spA omA HL8.out).mono ?_)
    rintro e u8 ⟨⟨RA8,rc8,rt8,rfl,OX,RX,RU,RO,_⟩,hb8⟩
    have VJ:=qh OX
    have VA:=qh RO
    have Vs:Hid (mX u8 g RA8 rt8 (.slice LA6 (l ++ [(⟨kd,sq2,dy2,tb,A0,cp,row,key,cl,vl⟩:Chg)]).length lc6) u7.heap.size u8.heap.size):=qh ⟨RX,RU,by have:=HS7.out.size;omega,Nat.le_refl _,fun q hq =>.inl (MO.out.own.lt q hq)⟩
    have HS8:=qh (HS7.out.below hb8)
    have Ot:=qh (MO.out.below hb8)
    clear p0 p1 p2 p3 p4 p5 p6 p7
    clear RX RU RO OX
    go_wp2_with fail
    go_roundw
    case rel=>exact⟨i+1,RA8,rc8,rt8,LA6,lc6,l ++ [⟨kd,sq2,dy2,tb,A0,cp,row,key,cl,vl⟩],by omega,by go_num,rfl,VJ.out,⟨_,_,Vs.out⟩,VA.out,by simp,Ot.out,hl6,HS8.out⟩
    case measure=>exact meA
open Go.RowKit Go
theorem BX(A:Option Addr)(c m:Nat)(oo:Oth)(LA:Option Addr)(lc n:Nat)(w:World)(hx:rP w w.heap.size A c m oo):
 Calls Tryz.prog 26 #[.agg #[.slice A m c,.slice oo.vA 0 oo.vc,.slice oo.iA oo.idx.length oo.ic,.slice oo.sA oo.skt.length oo.sc,.slice oo.cA oo.cch.length oo.cc,.slice oo.rA oo.rel.length oo.rc,.slice oo.tA oo.str.length oo.tc,.slice oo.bA oo.bak.length oo.bc],.slice LA n lc] w fun e w'=>e=.returned (.slice none 0 0)∧Below w.heap.size w w':=by
 have HX:=qh hx
 clear hx
 go_enter_defers Tryz.func26,Tryz.ntmps26
 go_wp2_with (go_at_call 48;(with_reducible refine(HX.out.prog _ ak).mono ?_);rintro e w1 ⟨rfl,hb1⟩;have hx1:Below w.heap.size w w1:=ae ak hb1 leA)
 refine leaves_cons (f:= 62) (args:= #[]) spA (by simp[go_sem]) ?_;refine(nZ _).mono ?_;rintro e u' w'' ⟨rfl,rfl,rfl⟩;refine⟨_,results_tmp rfl _ _ _,?_⟩
 exact⟨rfl,hx1⟩
theorem Ep(A:Option Addr)(c m:Nat)(oo:Oth)(w:World)(hx:rP w w.heap.size A c m oo):
 Calls Tryz.prog 44 #[.agg #[.slice A m c,.slice oo.vA 0 oo.vc,.slice oo.iA oo.idx.length oo.ic,.slice oo.sA oo.skt.length oo.sc,.slice oo.cA oo.cch.length oo.cc,.slice oo.rA oo.rel.length oo.rc,.slice oo.tA oo.str.length oo.tc,.slice oo.bA oo.bak.length oo.bc]] w fun e w'=>e=.returned (.slice none 0 0)∧Below w.heap.size w w':=by
 have HX:=qh hx
 clear hx
 go_enter Tryz.func44,Tryz.ntmps44
 go_wp2_with (go_at_call 37;(with_reducible refine(HX.out.ref _ ak).mono ?_);rintro e w1 ⟨rfl,hb1⟩;have hx1:Below w.heap.size w w1:=ae ak hb1 leA)
 go_ret
 exact⟨rfl,hx1⟩
theorem yU(A:Option Addr)(c m:Nat)(oo:Oth)(LA:Option Addr)(lc n:Nat)(w:World)(hx:rP w w.heap.size A c m oo):
 Calls Tryz.prog 20 #[.agg #[.slice A m c,.slice oo.vA 0 oo.vc,.slice oo.iA oo.idx.length oo.ic,.slice oo.sA oo.skt.length oo.sc,.slice oo.cA oo.cch.length oo.cc,.slice oo.rA oo.rel.length oo.rc,.slice oo.tA oo.str.length oo.tc,.slice oo.bA oo.bak.length oo.bc],.slice LA n lc] w fun e w'=>e=.returned (.slice none 0 0)∧Below w.heap.size w w':=by
 have HV:=qh fun(u:World) (hu:Below w.heap.size w u)=>Ep A c m oo u (hx.next hu)
 clear hx
 have hnil:∀W:World,(binOp .eql 52 (.slice none 0 0) (.slice none 0 0)).run Tryz.prog W=.ok (.bool true) W:=fun W=>Lib.run_eql_slice_nil W 52 127 none 0 0 0 0 Tryz.underlying52
 go_enter Tryz.func20,Tryz.ntmps20
 go_wp2_with (go_at_call 44;(with_reducible refine(HV.out _ ak).mono ?_);rintro e w1 ⟨rfl,hb1⟩;have hx1:Below w.heap.size w w1:=ae ak hb1 leA)
 go_ret
 exact⟨rfl,hx1⟩
def vW(w:World)(pl:List (List bu))(e:Ending)(w':World):Prop:=
 ∃RA rc n rt,e=.returned (.slice RA n rc)∧rt.length=n∧aR w' w'.heap.size RA rt∧iP rt∧rt.map aB=pl
theorem vW.nil(w w':World):vW w [] (.returned (.slice none 0 0)) w':=
 ⟨none,0,0,[],rfl,rfl,⟨ah.nil,fun x hx=>by simp at hx⟩,⟨by simp,by simp,by simp,by simp⟩,rfl⟩
theorem Cg(A:Option Addr)(c m:Nat)(ts:List Tab)(oo:Oth)(LA:Option Addr)(lc n:Nat)(l:List Chg)(w:World)(ht:aJ w w.heap.size A ts)(hm:ts.length=m)(hs:aI ts)(ho:bL w w.heap.size oo)(hso:dN oo)(h16:gV oo)(hl:dh w w.heap.size LA l)(hn:l.length=n)(hn6:n≤1000000)(hrow:∀x∈l,x.row.length≤1000000):
 ∃pl,(∀u,Below w.heap.size w u→Calls Tryz.prog 26 #[.agg #[.slice A m c,.slice oo.vA 0 oo.vc,.slice oo.iA oo.idx.length oo.ic,.slice oo.sA oo.skt.length oo.sc,.slice oo.cA oo.cch.length oo.cc,.slice oo.rA oo.rel.length oo.rc,.slice oo.tA oo.str.length oo.tc,.slice oo.bA oo.bak.length oo.bc],.slice LA n lc] u fun e u'=>vW u pl e u'∧Below u.heap.size u u') ∧
  (∀u,Below w.heap.size w u→Calls Tryz.prog 20 #[.agg #[.slice A m c,.slice oo.vA 0 oo.vc,.slice oo.iA oo.idx.length oo.ic,.slice oo.sA oo.skt.length oo.sc,.slice oo.cA oo.cch.length oo.cc,.slice oo.rA oo.rel.length oo.rc,.slice oo.tA oo.str.length oo.tc,.slice oo.bA oo.bak.length oo.bc],.slice LA n lc] u fun e u'=>vW u pl e u'∧Below u.heap.size u u'):=by
 subst hm
 by_cases hok:dD ts oo
 ·have hcg:=dZ.of (c:=c) ht hs ho hso h16 hok
  have CR:∀rt:List RTab,rt.map aB=aS ts l→iP rt:=fun rt h=>dX.bZ (ts:=ts) (show fK ts (rt.map aB) by rw[h];exact(vD hok.1 l).1) hok.1
  refine⟨aS ts l,fun u hu=>(BV (o:=oo) A c ts.length ts LA lc n l u (ht.next hu) rfl hs hok.1 (hcg.next hu) (hl.next hu) hn hn6 hrow).mono ?_,fun u hu=>(rZ (o:=oo) A c ts.length ts LA lc n l u (ht.next hu) rfl hs hok.1 (hcg.next hu) (hl.next hu) hn hn6 hrow).mono ?_⟩
  ·rintro e u' ⟨⟨q,rt,rfl,hrl,hrt,_,hp⟩,hb⟩
   exact⟨⟨_,_,_,rt,rfl,hrl,hrt,CR rt hp,hp⟩,hb⟩
  ·rintro e u' ⟨⟨RA,rc,rt,rfl,hrl,hrt,_,_,hp⟩,hb⟩
   exact⟨⟨_,_,_,rt,rfl,hrl,hrt,CR rt hp,hp⟩,hb⟩
 ·have hx:=rP.of (c:=c) ht hs ho hso h16 hok
  refine⟨[],fun u hu=>(BX A c ts.length oo LA lc n u (hx.next hu)).mono ?_,fun u hu=>(yU A c ts.length oo LA lc n u (hx.next hu)).mono ?_⟩
  ·rintro e u' ⟨rfl,hb⟩
   exact⟨vW.nil _ _,hb⟩
  ·rintro e u' ⟨rfl,hb⟩
   exact⟨vW.nil _ _,hb⟩
end Go.Proofs.YtebippoohpnjkaaGreat
