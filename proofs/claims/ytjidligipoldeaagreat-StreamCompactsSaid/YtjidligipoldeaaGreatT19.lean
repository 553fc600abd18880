/-
  Contracts and plain laws of this seat, part 19.
-/
import Derived.Test.YtjidligipoldeaaGreatT15
import Derived.Test.YtjidligipoldeaaGreatT17
set_option linter.unusedVariables false
set_option linter.unusedSimpArgs false
set_option maxRecDepth 100000
set_option maxHeartbeats 16000000
namespace Go.Proofs.YtjidligipoldeaaGreat
open Go.RowKit
theorem bo{P:Prop}(h:P:=by rcases iQ with h|h<;>omega):P:=h
theorem bp{P:Prop}(h:P:=by first|exact hS3.call hk4 hg4|exact hS3.call' hk4 hg4):P:=h
theorem br{P:Prop}(h:P:=by first|exact hS2.call hk3 hg3|exact hS2.call' hk3 hg3):P:=h
theorem bs{P:Prop}(h:P:=by first|exact hS3.tape|exact hS3.tape.below ai):P:=h
theorem bt{P:Prop}(h:P:=by first|exact hS2.tape|exact hS2.tape.below ai):P:=h
theorem bw{P:Prop}(h:P:=by have:=hS0.size;omega):P:=h
theorem bx{P:Prop}(h:P:=by simp[results,Tryz.results111,go_sem,c0,c1,c2]):P:=h
theorem ca{P:Prop}(h:P:=by have:=hS1.size;omega):P:=h
theorem cd{P:Prop}(h:P:=by simp[results,Tryz.results67,go_sem,c0,c1,c2,c3,c4,c5,c6,c7,c8,c9,c10,c11]):P:=h
theorem cg{P:Prop}(h:P:=by first|exact hS1.call hk2 hg2|exact hS1.call' hk2 hg2):P:=h
theorem ch{P:Prop}(h:P:=by simp[results,Tryz.results142,go_sem,c0,c1,c2]):P:=h
theorem cj{P:Prop}(h:P:=by first|exact hS1.tape|exact hS1.tape.below ai):P:=h
theorem ck{P:Prop}(h:P:=by have:=hS2.size;omega):P:=h
theorem cm{P:Prop}(h:P:=by simp[results,Tryz.results112,go_sem,c0,c1,c2]):P:=h
def uN(w:World)(g b:Nat)(e:Ending)(w':World):Prop:= ∃v:Val,e=.returned (.agg #[.int .i64 v.kind,.int .i64 v.num,.string v.text])∧aP w' g b∧w.grownBy w' (some g)
theorem sU(g b:Nat)(t:Int)(w:World)(hk:aP w g b):Calls Tryz.prog 112 #[.pointer (some ⟨g,0,none⟩),.int .i64 t] w (uN w g b):=by
 have hgl:=hk.ltg
 have hbl:=hk.lt
 have HK:=qh hk
 clear hk
 by_cases h2:t=2
 ·have h2':(t == 2)=true:=by simpa using h2
  clear h2
  go_enter Tryz.func112,Tryz.ntmps112
  go_wp2_with fail
  (with_reducible refine(aK g b 4 _ ((HK.out.alloc _).alloc _) omA omA).mono ?_)
  rintro e w2 ⟨r2,rfl,hr2,hk2,hg2⟩
  have hr4:r2<4:=by rcases hr2 with h|h<;>omega
  have hR:=Blk.grown (Blk.alloc (Blk.new w 50 #[.int .i64 0,.int .i64 0,.string ⟨#[]⟩]) _) hg2 inA
  have hS:=Blk.grown (Blk.new _ _ _) hg2 (fun e=>by injection e with e;simp at e;omega)
  obtain⟨s,hs⟩:∃s:ByteArray,w2.cell? ⟨w.heap.size+1,r2,none⟩=some (.string s):=by
   have hS':=hS.cell r2
   simp only[World.size_alloc]at hS'
   rw[hS']
   rcases(show r2=0∨r2=1∨r2=2∨r2=3 by omega) with rfl|rfl|rfl|rfl
   all_goals exact⟨_,rfl⟩
  have hG:w.grownBy w2 (some g):=au (aZ _ ai) hg2
  have HK2:=qh hk2
  have c0:=hR.cell 0
  have c1:=hR.cell 1
  have c2:=hR.cell 2
  have f0:=hR.frozen 0
  have f1:=hR.frozen 1
  have f2:=hR.frozen 2
  simp only[gE3]at c0 c1 c2
  clear hk2 hS hr2 hR
  go_wp2_with fail
  refine bodyPost_ret (v:= .agg #[.int .i64 t,.int .i64 0,.string s]) cm rfl ⟨⟨t,0,s⟩,rfl,?_,?_⟩
  ·exact(((HK2.out).far smA smA _).far smA smA _).far smA smA _
  ·exact ak (ak (ak hG (.inr nlr) _) (.inr nlr) _) (.inr nlr) _
 ·have h2':(t == 2)=false:=by simpa using h2
  clear h2
  go_enter Tryz.func112,Tryz.ntmps112
  go_wp2_with fail
  (with_reducible refine(aK g b 4 _ (HK.out.alloc _) omA omA).mono ?_)
  rintro e w2 ⟨r2,rfl,hr2,hk2,hg2⟩
  have hr4:r2<4:=by rcases hr2 with h|h<;>omega
  have hR:=Blk.grown (Blk.new w 50 #[.int .i64 0,.int .i64 0,.string ⟨#[]⟩]) hg2 inA
  have hG:w.grownBy w2 (some g):=au (aZ _ ai) hg2
  have HK2:=qh hk2
  have c0:=hR.cell 0
  have c1:=hR.cell 1
  have c2:=hR.cell 2
  have f0:=hR.frozen 0
  have f1:=hR.frozen 1
  have f2:=hR.frozen 2
  simp only[gE3]at c0 c1 c2
  clear hk2 hr2 hR
  go_wp2_with fail
  refine bodyPost_ret (v:= .agg #[.int .i64 t,.int .i64 (1+(r2:Int)),.string ⟨#[]⟩]) cm rfl ⟨⟨t,(1+(r2:Int)),⟨#[]⟩⟩,rfl,?_,?_⟩
  ·exact(((HK2.out).far smA smA _).far smA smA _).far smA smA _
  ·exact ak (ak (ak hG (.inr nlr) _) (.inr nlr) _) (.inr nlr) _
theorem Hq(g b:Nat)(w:World)(hk:aP w g b):Calls Tryz.prog 187 #[.pointer (some ⟨g,0,none⟩)] w (uN w g b):=by
 have hgl:=hk.ltg
 have hbl:=hk.lt
 have HK:=qh hk
 clear hk
 ·go_enter Tryz.func187,Tryz.ntmps187
  go_wp2_with fail
  (with_reducible refine(aK g b 10 _ ((HK.out.alloc _).alloc _) omA omA).mono ?_)
  rintro e w2 ⟨r2,rfl,hr2,hk2,hg2⟩
  have hr4:r2<10:=by rcases hr2 with h|h<;>omega
  have hR0:=Blk.grown (Blk.alloc (Blk.new w 50 #[.int .i64 0,.int .i64 0,.string ⟨#[]⟩]) _) hg2 inA
  have hS:=Blk.grown (Blk.new _ _ _) hg2 (fun e=>by injection e with e;simp at e;omega)
  obtain⟨s,hs⟩:∃s:ByteArray,w2.cell? ⟨w.heap.size+1,r2,none⟩=some (.string s):=by
   have hS':=hS.cell r2
   simp only[World.size_alloc]at hS'
   rw[hS']
   rcases(show r2=0∨r2=1∨r2=2∨r2=3∨r2=4∨r2=5∨r2=6∨r2=7∨r2=8∨r2=9 by omega) with rfl|rfl|rfl|rfl|rfl|rfl|rfl|rfl|rfl|rfl
   all_goals exact⟨_,rfl⟩
  have hG:w.grownBy w2 (some g):=au (aZ _ ai) hg2
  have HK2:=qh hk2
  have HR0:=qh hR0
  clear hk2 hS hr2 hR0
  go_wp2_with fail
  (with_reducible refine(EM s _).mono ?_)
  rintro e w3 ⟨rfl,hx3⟩
  have hR:=HR0.out.below hx3.1 HR0.out.lt
  have HK3:=qh (HK2.out.below hx3.1)
  have hG3:=au hG (aZ _ hx3.1)
  have hz3:=hx3.1.size
  have hwz:=HR0.out.lt
  have hgz:=hG.size
  obtain⟨⟨vk,vn,vt⟩,hv⟩:∃v:Val,clean ⟨2,0,s⟩=v:=⟨_,rfl⟩
  rw[hv]
  have c0:=hR.cell 0
  have c1:=hR.cell 1
  have c2:=hR.cell 2
  have f0:=hR.frozen 0
  have f1:=hR.frozen 1
  have f2:=hR.frozen 2
  simp only[gE3]at c0 c1 c2
  clear hR hv hx3 HK2 HR0
  go_wp2_with fail
  refine bodyPost_ret (v:= .agg #[.int .i64 vk,.int .i64 vn,.string vt]) (by simp[results,Tryz.results187,go_sem,c0,c1,c2]) rfl ⟨⟨vk,vn,vt⟩,rfl,?_,?_⟩
  ·exact(((HK3.out).far smA smA _).far smA smA _).far smA smA _
  ·exact ak (ak (ak hG3 (.inr nlr) _) (.inr nlr) _) (.inr nlr) _
theorem KL(g b:Nat)(w:World)(hk:aP w g b):Calls Tryz.prog 188 #[.pointer (some ⟨g,0,none⟩)] w (uN w g b):=by
 have hgl:=hk.ltg
 have hbl:=hk.lt
 have HK:=qh hk
 clear hk
 ·go_enter Tryz.func188,Tryz.ntmps188
  go_wp2_with fail
  (with_reducible refine(aK g b 12 _ ((HK.out.alloc _).alloc _) omA omA).mono ?_)
  rintro e w2 ⟨r2,rfl,hr2,hk2,hg2⟩
  have hr4:r2<12:=by rcases hr2 with h|h<;>omega
  have hR0:=Blk.grown (Blk.alloc (Blk.new w 50 #[.int .i64 0,.int .i64 0,.string ⟨#[]⟩]) _) hg2 inA
  have hS:=Blk.grown (Blk.new _ _ _) hg2 (fun e=>by injection e with e;simp at e;omega)
  obtain⟨s,hs⟩:∃s:Int,w2.cell? ⟨w.heap.size+1,r2,none⟩=some (.int .i64 s):=by
   have hS':=hS.cell r2
   simp only[World.size_alloc]at hS'
   rw[hS']
   rcases(show r2=0∨r2=1∨r2=2∨r2=3∨r2=4∨r2=5∨r2=6∨r2=7∨r2=8∨r2=9∨r2=10∨r2=11 by omega) with rfl|rfl|rfl|rfl|rfl|rfl|rfl|rfl|rfl|rfl|rfl|rfl
   all_goals exact⟨_,rfl⟩
  have hG:w.grownBy w2 (some g):=au (aZ _ ai) hg2
  have HK2:=qh hk2
  have HR0:=qh hR0
  clear hk2 hS hr2 hR0
  go_wp2_with fail
  (with_reducible refine(Ib s _).mono ?_)
  rintro e w3 ⟨rfl,hx3⟩
  have hR:=HR0.out.below hx3.1 HR0.out.lt
  have HK3:=qh (HK2.out.below hx3.1)
  have hG3:=au hG (aZ _ hx3.1)
  have hz3:=hx3.1.size
  have hwz:=HR0.out.lt
  have hgz:=hG.size
  obtain⟨⟨vk,vn,vt⟩,hv⟩:∃v:Val,clean ⟨1,s,⟨#[]⟩⟩=v:=⟨_,rfl⟩
  rw[hv]
  have c0:=hR.cell 0
  have c1:=hR.cell 1
  have c2:=hR.cell 2
  have f0:=hR.frozen 0
  have f1:=hR.frozen 1
  have f2:=hR.frozen 2
  simp only[gE3]at c0 c1 c2
  clear hR hv hx3 HK2 HR0
  go_wp2_with fail
  refine bodyPost_ret (v:= .agg #[.int .i64 vk,.int .i64 vn,.string vt]) (by simp[results,Tryz.results188,go_sem,c0,c1,c2]) rfl ⟨⟨vk,vn,vt⟩,rfl,?_,?_⟩
  ·exact(((HK3.out).far smA smA _).far smA smA _).far smA smA _
  ·exact ak (ak (ak hG3 (.inr nlr) _) (.inr nlr) _) (.inr nlr) _
theorem ED(g b:Nat)(t:Int)(w:World)(hk:aP w g b):Calls Tryz.prog 142 #[.pointer (some ⟨g,0,none⟩),.int .i64 t] w (uN w g b):=by
 have hgl:=hk.ltg
 have hbl:=hk.lt
 have HK:=qh hk
 clear hk
 go_enter Tryz.func142,Tryz.ntmps142
 go_wp2_with fail
 (with_reducible refine(aK g b 6 _ (HK.out.alloc _) omA omA).mono ?_)
 rintro e w1 ⟨r1,rfl,hr1,hk1,hg1⟩
 have hR1:=Blk.grown (Blk.new w 50 #[.int .i64 0,.int .i64 0,.string ⟨#[]⟩]) hg1 inA
 have hG1:w.grownBy w1 (some g):=au (aZ _ ai) hg1
 have HK1:=qh hk1
 have HR1:=qh hR1
 clear hk1 hr1 hR1 HK
 by_cases h0:r1=0
 ·subst h0
  have hR:=HR1.out
  have c0:=hR.cell 0
  have c1:=hR.cell 1
  have c2:=hR.cell 2
  have f0:=hR.frozen 0
  have f1:=hR.frozen 1
  have f2:=hR.frozen 2
  simp only[gE3]at c0 c1 c2
  clear hR
  go_wp2_with fail
  refine bodyPost_ret (v:= .agg #[.int .i64 0,.int .i64 0,.string ⟨#[]⟩]) ch rfl ⟨⟨0,0,⟨#[]⟩⟩,rfl,?_,?_⟩
  ·exact(((HK1.out).far smA smA _).far smA smA _).far smA smA _
  ·exact ak (ak (ak hG1 (.inr nlr) _) (.inr nlr) _) (.inr nlr) _
 ·have h0':((r1:Int) == 0)=false:=by simp;omega
  clear h0
  by_cases h2:t=2
  ·have h2':(t == 2)=true:=by simpa using h2
   clear h2
   go_wp2_with fail
   (with_reducible refine(Hq g b _ HK1.out).mono ?_)
   rintro e w2 ⟨⟨vk,vn,vt⟩,rfl,hk2,hg2⟩
   have hR:=HR1.out.grown hg2 inA
   have hG2:=au hG1 hg2
   have HK2:=qh hk2
   have c0:=hR.cell 0
   have c1:=hR.cell 1
   have c2:=hR.cell 2
   have f0:=hR.frozen 0
   have f1:=hR.frozen 1
   have f2:=hR.frozen 2
   simp only[gE3]at c0 c1 c2
   clear hk2 hR
   go_wp2_with fail
   refine bodyPost_ret (v:= .agg #[.int .i64 vk,.int .i64 vn,.string vt]) ch rfl ⟨⟨vk,vn,vt⟩,rfl,?_,?_⟩
   ·exact(((HK2.out).far smA smA _).far smA smA _).far smA smA _
   ·exact ak (ak (ak hG2 (.inr nlr) _) (.inr nlr) _) (.inr nlr) _
  ·have h2':(t == 2)=false:=by simpa using h2
   clear h2
   go_wp2_with fail
   (with_reducible refine(KL g b _ HK1.out).mono ?_)
   rintro e w2 ⟨⟨vk,vn,vt⟩,rfl,hk2,hg2⟩
   have hR:=HR1.out.grown hg2 inA
   have hG2:=au hG1 hg2
   have HK2:=qh hk2
   have c0:=hR.cell 0
   have c1:=hR.cell 1
   have c2:=hR.cell 2
   have f0:=hR.frozen 0
   have f1:=hR.frozen 1
   have f2:=hR.frozen 2
   simp only[gE3]at c0 c1 c2
   clear hk2 hR
   go_wp2_with fail
   refine bodyPost_ret (v:= .agg #[.int .i64 vk,.int .i64 vn,.string vt]) ch rfl ⟨⟨vk,vn,vt⟩,rfl,?_,?_⟩
   ·exact(((HK2.out).far smA smA _).far smA smA _).far smA smA _
   ·exact ak (ak (ak hG2 (.inr nlr) _) (.inr nlr) _) (.inr nlr) _
theorem qY{A:Option Addr}{B g:Nat}(h:∀a,A=some a→B≤a.block)(hg:g<B):∀a,A=some a→some a.block≠some g:=fun a ha e=>by
 have:=h a ha
 injection e with e
 omega
theorem aR.grown{w w':World}{A:Option Addr}{rt:List RTab}{B g:Nat}(h:aR w w.heap.size A rt)(hu:RUp B A rt)(hgB:g<B)(hg:w.grownBy w' (some g)):aR w' w'.heap.size A rt:=
 ⟨ag.grown h.1 hg (qY hu.1 hgB),fun t ht=>⟨ag.grown (h.2 t ht).1 hg (qY (hu.2 t ht).1 hgB),fun x hx=>⟨ag.grown ((h.2 t ht).2 x hx).1 hg (qY ((hu.2 t ht).2 x hx).1 hgB),ag.grown ((h.2 t ht).2 x hx).2 hg (qY ((hu.2 t ht).2 x hx).2 hgB)⟩⟩⟩
theorem uQ(g b B:Nat)(A:Option Addr)(c m:Nat)(ts:List Tab)(RA:Option Addr)(rc n:Nat)(rt:List RTab)(i:Nat)(xn:ByteArray)(xt:Int)(xs xr:ByteArray)(xA:Option Addr)(xc:Nat)(xo:List Int)(xj xd:Int)(w:World)(hk:aP w g b)(hgB:g<B)
 (ht:aF w w.heap.size A ts) (hu:gN B A ts) (hm:ts.length=m) (hs:aM ts) (hok:aN ts) (hr:aR w w.heap.size RA rt) (hru:RUp B RA rt) (hn:rt.length=n) (hsr:mi rt) (hlen:rt.length=ts.length) (hrow:∀t∈rt,∀x∈t.recs,0<x.row.length) (hi:i<ts.length) (hx:(⟨xn,xt,xs,xr,xA,xc,xo,xj,xd⟩:Col)∈ts[i].ae):
 Calls Tryz.prog 111 #[.pointer (some ⟨g,0,none⟩),.agg #[.slice A m c,.slice none 0 0,.slice none 0 0,.slice none 0 0,.slice none 0 0,.slice none 0 0,.slice none 0 0,.slice none 0 0],.slice RA n rc,.agg #[.string xn,.int .i64 xt,.string xs,.string xr,.slice xA xo.length xc,.int .i64 xj,.int .i64 xd]] w (uN w g b):=by
 subst hm hn
 have hgl:=hk.ltg
 have hbl:=hk.lt
 have Ua:=fun h=>hok.ref hi hx h
 have YC:=qh Ua
 have HK:=qh hk
 have HT:=qh ht
 have HU:=qh hu
 have HS:=qh hs
 have HOK:=qh hok
 have HR:=qh hr
 have HRU:=qh hru
 have HSR:=qh hsr
 have iV:=qh hrow
 have hln:=hsr.len
 clear hk ht hu hs hok hr hru hsr hrow Ua hx
 go_enter Tryz.func111,Tryz.ntmps111
 go_upto_region 1 with (fail)
 refine ah (P:=fun u=>Code.wp _ _ _ _ u) (R:=fun u=>Blk u w.heap.size 33 #[.slice A ts.length c,.slice none 0 0,.slice none 0 0,.slice none 0 0,.slice none 0 0,.slice none 0 0,.slice none 0 0,.slice none 0 0]∧Blk u (w.heap.size+1) 109 #[.string xn,.int .i64 xt,.string xs,.string xr,.slice xA xo.length xc,.int .i64 xj,.int .i64 xd]∧Blk u (w.heap.size+2) 50 #[.int .i64 0,.int .i64 0,.string ⟨#[]⟩]∧Below w.heap.size w u) ⟨?_,?_,?_,?_⟩ ?_
 ·exact((Blk.new _ _ _).alloc _).alloc _
 ·exact(Blk.new' spA).alloc _
 ·exact Blk.new' spA
 ·exact ai
 rintro W ⟨hC,hX,hV,hbW⟩
 have hzW:=hV.lt
 have HKW:=qh (HK.out.below hbW)
 have hGW:w.grownBy W (some g):=aZ _ hbW
 go_wp2_with fail
 (with_reducible refine(aK g b 8 _ HKW.out omA omA).mono ?_)
 rintro e w1 ⟨r1,rfl,hr1,hk1,hg1⟩
 have hz1:=hg1.size
 have HC1:=qh (hC.grown hg1 inA)
 have HX1:=qh (hX.grown hg1 inA)
 have HV1:=qh (hV.grown hg1 inA)
 have hG1:=au hGW hg1
 have HK1:=qh hk1
 clear hC hX hV hk1 hr1
 by_cases h0:r1=0
 ·subst h0
  have hV1:=HV1.out
  have c0:=hV1.cell 0
  have c1:=hV1.cell 1
  have c2:=hV1.cell 2
  have f0:=hV1.frozen 0
  have f1:=hV1.frozen 1
  have f2:=hV1.frozen 2
  simp only[gE3]at c0 c1 c2
  clear hV1
  go_wp2_with fail
  refine bodyPost_ret (v:= .agg #[.int .i64 0,.int .i64 0,.string ⟨#[]⟩]) bx rfl ⟨⟨0,0,⟨#[]⟩⟩,rfl,?_,?_⟩
  ·exact(((HK1.out).far smA smA _).far smA smA _).far smA smA _
  ·exact ak (ak (ak hG1 (.inr smA) _) (.inr smA) _) (.inr smA) _
 have h0':((r1:Int) == 0)=false:=by simp;omega
 clear h0
 have hX1:=HX1.out
 obtain⟨x0,x1,x2,x3,x4,x5,x6⟩:=Col.blk hX1
 clear hX1
 by_cases he:xr=⟨#[]⟩
 ·have he':=wP he
  clear he
  cases hns:xs.toList.isEmpty
  ·go_wp2_with fail
   (with_reducible refine(sU g b xt _ HK1.out).mono ?_)
   rintro e w2 ⟨⟨vk,vn,vt⟩,rfl,hk2,hg2⟩
   have hz2:=hg2.size
   have hV2:=HV1.out.grown hg2 inA
   have hG2:=au hG1 hg2
   have HK2:=qh hk2
   have c0:=hV2.cell 0
   have c1:=hV2.cell 1
   have c2:=hV2.cell 2
   have f0:=hV2.frozen 0
   have f1:=hV2.frozen 1
   have f2:=hV2.frozen 2
   simp only[gE3]at c0 c1 c2
   clear hk2 hV2 x0 x1 x2 x3 x4 x5 x6
   go_wp2_with fail
   refine bodyPost_ret (v:= .agg #[.int .i64 vk,.int .i64 vn,.string vt]) bx rfl ⟨⟨vk,vn,vt⟩,rfl,?_,?_⟩
   ·exact(((HK2.out).far smA smA _).far smA smA _).far smA smA _
   ·exact ak (ak (ak hG2 (.inr smA) _) (.inr smA) _) (.inr smA) _
  ·go_wp2_with fail
   (with_reducible refine(ED g b xt _ HK1.out).mono ?_)
   rintro e w2 ⟨⟨vk,vn,vt⟩,rfl,hk2,hg2⟩
   have hz2:=hg2.size
   have hV2:=HV1.out.grown hg2 inA
   have hG2:=au hG1 hg2
   have HK2:=qh hk2
   have c0:=hV2.cell 0
   have c1:=hV2.cell 1
   have c2:=hV2.cell 2
   have f0:=hV2.frozen 0
   have f1:=hV2.frozen 1
   have f2:=hV2.frozen 2
   simp only[gE3]at c0 c1 c2
   clear hk2 hV2 x0 x1 x2 x3 x4 x5 x6
   go_wp2_with fail
   refine bodyPost_ret (v:= .agg #[.int .i64 vk,.int .i64 vn,.string vt]) bx rfl ⟨⟨vk,vn,vt⟩,rfl,?_,?_⟩
   ·exact(((HK2.out).far smA smA _).far smA smA _).far smA smA _
   ·exact ak (ak (ak hG2 (.inr smA) _) (.inr smA) _) (.inr smA) _
 obtain⟨k,hk,hki,hname,_⟩:=YC.out he
 have he':=oD he
 have hfi:kK (ts.map Tab.name) xr ts.length=(k:Int):=by
  have h:=HOK.out.find hk
  have hname:ts[k].name=xr:=hname
  rwa [hname]at h
 have HFI:=qh hfi
 have hC1:=HC1.out
 obtain⟨p0,p1,p2,p3,p4,p5,p6,p7⟩:=Cat.blk hC1
 clear he hname hC1 hfi
 have HT1:=qh (HT.out.grown HU.out hgB hG1)
 have HR1:=qh (HR.out.grown HRU.out hgB hG1)
 have hkr:k<rt.length:=by omega
 go_wp2_with fail
 (with_reducible refine(EL A c ts.length ts xr _ HT1.out rfl HS.out HOK.out HFI.out).mono ?_)
 rintro e w2 ⟨rfl,hb2⟩
 have hz2:=hb2.size
 have HR2:=qh (HR1.out.next hb2)
 have HV2:=qh (HV1.out.below hb2 omA)
 have hG2:=au hG1 (aZ (some g) hb2)
 have HK2:=qh (HK1.out.below hb2)
 obtain⟨rb,ro,rfl,hrb,hrc⟩:=HR2.out.1.get hkr
 have d0:=hrc 0 _ rfl
 have dw:=HR2.out.2 rt[k] (lgm hkr)
 have hrows:=iV.out rt[k] (lgm hkr)
 have uB:=(HRU.out.2 rt[k] (lgm hkr))
 have nk:=HSR.out.recs rt[k] (lgm hkr)
 obtain⟨⟨TA,tc,recs⟩,hy⟩:∃x:RTab,rt[k]=x:=⟨_,rfl⟩
 rw[hy]at d0 dw hrows uB nk
 simp only[Nat.mul_one,Nat.add_zero]at d0 dw hrows uB nk
 have HRE:=qh dw
 have HRO:=qh hrows
 have HUP:=qh uB
 have OL:decide (k<rt.length)=true:=by simpa using hkr
 clear hrc hy dw hrows uB x0 x1 x2 x3 x4 x5 x6 p0 p1 p2 p3 p4 p5 p6 p7
 by_cases hl0:recs.length=0
 ·have hl0':((recs.length:Int) == 0)=true:=by rw[hl0];rfl
  have hV2:=HV2.out
  have c0:=hV2.cell 0
  have c1:=hV2.cell 1
  have c2:=hV2.cell 2
  have f0:=hV2.frozen 0
  have f1:=hV2.frozen 1
  have f2:=hV2.frozen 2
  simp only[gE3]at c0 c1 c2
  clear hV2 hl0
  go_wp2_with fail
  refine bodyPost_ret (v:= .agg #[.int .i64 0,.int .i64 0,.string ⟨#[]⟩]) bx rfl ⟨⟨0,0,⟨#[]⟩⟩,rfl,?_,?_⟩
  ·exact(((HK2.out).far smA smA _).far smA smA _).far smA smA _
  ·exact ak (ak (ak hG2 (.inr smA) _) (.inr smA) _) (.inr smA) _
 have hl0':((recs.length:Int) == 0)=false:=by simp;exact fun h=>hl0 (by rw[h];rfl)
 go_wp2_with fail
 (with_reducible refine(aK g b (recs.length:Int) _ HK2.out omA omA).mono ?_)
 rintro e w3 ⟨r3,rfl,hr3,hk3,hg3⟩
 have Bt:r3<recs.length:=by rcases hr3 with h|h<;>omega
 have hz3:=hg3.size
 have hG3:=au hG2 hg3
 have HK3:=qh hk3
 have hV3:=HV2.out.grown hg3 inA
 obtain⟨b5,o5,he5,hb5,hc5⟩:=(ag.grown HRE.out.1 hg3 (qY HUP.out.1 hgB)).get Bt
 subst he5
 obtain⟨y0,_,_⟩:=Rcd.cells3 hc5
 have eO:=HRO.out recs[r3] (lgm Bt)
 have hsl:=ag.grown (HRE.out.2 recs[r3] (lgm Bt)).1 hg3 (qY (HUP.out.2 recs[r3] (lgm Bt)).1 hgB)
 obtain⟨⟨QA,qc,row,SA,sc,sq,dy⟩,hq⟩:∃x:Rcd,recs[r3]=x:=⟨_,rfl⟩
 rw[hq]at y0 eO hsl
 simp only at y0 eO hsl
 obtain⟨b6,o6,rfl,hb6,hc6⟩:=hsl.get eO
 obtain⟨v0,v1,v2⟩:=Val.cells3 hc6
 simp only[Nat.zero_mul,Nat.add_zero]at v0 v1 v2
 obtain⟨⟨vk,vn,vt⟩,hv⟩:∃v:Val,row[0]=v:=⟨_,rfl⟩
 rw[hv]at v0 v1 v2
 simp only at v0 v1 v2
 have Fq:decide (0<row.length)=true:=by simpa using eO
 have Y4:decide (r3<recs.length)=true:=by simpa using Bt
 have c0:=hV3.cell 0
 have c1:=hV3.cell 1
 have c2:=hV3.cell 2
 have f0:=hV3.frozen 0
 have f1:=hV3.frozen 1
 have f2:=hV3.frozen 2
 simp only[gE3]at c0 c1 c2
 clear hk3 hr3 hV3 hc5 hq hsl hc6 hv d0 hl0
 go_wp2_with fail
 refine bodyPost_ret (v:= .agg #[.int .i64 vk,.int .i64 vn,.string vt]) bx rfl ⟨⟨vk,vn,vt⟩,rfl,?_,?_⟩
 ·exact(((HK3.out).far smA smA _).far smA smA _).far smA smA _
 ·exact ak (ak (ak hG3 (.inr smA) _) (.inr smA) _) (.inr smA) _
open Go.RowKit Go
structure aC (W:World) (g b:Nat) (v:World):Prop where
 tape:aP v g b
 grown:W.grownBy v (some g)
section
variable {W u v:World}{g b x:Nat}{t:TypeId}{cs:Array Value}
theorem aC.size(h:aC W g b v):W.heap.size≤v.heap.size:=h.grown.size
theorem aC.below(h:aC W g b u)(hb:Below u.heap.size u v):aC W g b v:=⟨h.tape.below hb,au h.grown (aZ _ hb)⟩
theorem aC.call(h:aC W g b u)(hk:aP v g b)(hg:u.grownBy v (some g)):aC W g b v:=⟨hk,au h.grown hg⟩
theorem aC.call'(h:aC W g b u)(hk:aP v g b)(hg:(World.drew u).grownBy v (some g)):aC W g b v:=⟨hk,au h.grown (au (aZ _ brf.drew) hg)⟩
theorem aC.blk(h:aC W g b v)(hb:Blk W x t cs)(hx:x≠g):Blk v x t cs:=hb.grown h.grown (fun e=>hx (by injection e))
theorem aC.far(h:aC W g b v){p:Addr}(hp:W.heap.size≤p.block)(hb:b<W.heap.size)(hg:g<W.heap.size)(y:Value):aC W g b (v.setCell p y):=⟨h.tape.far omA omA y,ak h.grown (.inr hp) y⟩
theorem yj(hg:u.grownBy v (some g))(x:Nat)(hx:x<u.heap.size)(hne:x≠g):∀o,v.cell? ⟨x,o,none⟩=u.cell? ⟨x,o,none⟩:=fun o=>World.cell?_of_block (hg.block x hx (fun e=>hne (by injection e)))
theorem bJ(hb:Blk u x t cs)(hg:u.grownBy v (some g))(hx:x≠g):Blk v x t cs:=hb.grown hg (fun e=>hx (by injection e))
end
section
variable {P:Program}{ops:Array Oper}{Q:Exit→Act→World→Prop}{md:Region.Mode}{S S':World→Prop}{Z:List Nat}
theorem fw(hs:∀w,S' w→S w):∀ {n:Nat}{listed:Array Bool}{a:Act}{w:World},wpT P md ops Q S' Z n listed a w→wpT P md ops Q S Z n listed a w
 | 0,_,_,_,h=>h
 | n+1,_,_,_,h=>⟨h.1,fun i hi=>wpOp_mono (fun a' w' h'=>⟨fun hz=>hs _ (h'.1 hz),fw hs h'.2⟩) (h.2 i hi)⟩
end
def pF(w:World)(g:Nat)(a0 a1 a2 a3 a4 a5 a6 a7 a8 a9 a10 a11:Value):World:=(((((((((((w.setCell ⟨g,0,none⟩ a0).setCell ⟨g,1,none⟩ a1).setCell ⟨g,2,none⟩ a2).setCell ⟨g,3,none⟩ a3).setCell ⟨g,4,none⟩ a4).setCell ⟨g,5,none⟩ a5).setCell ⟨g,6,none⟩ a6).setCell ⟨g,7,none⟩ a7).setCell ⟨g,8,none⟩ a8).setCell ⟨g,9,none⟩ a9).setCell ⟨g,10,none⟩ a10).setCell ⟨g,11,none⟩ a11
section
variable {W w:World}{g g' b:Nat}{a0 a1 a2 a3 a4 a5 a6 a7 a8 a9 a10 a11:Value}
theorem RF:∀h,h≠g'→(pF w g' a0 a1 a2 a3 a4 a5 a6 a7 a8 a9 a10 a11).heap[h]?=w.heap[h]?:= fun h hne=>by
 unfold pF
 iterate 12 rw[Below.heap_setCell _ _ _ _ (by exact hne)]
theorem aC.xR(h:aC W g b w)(hg':W.heap.size≤g')(hb:b<W.heap.size)(hg:g<W.heap.size):aC W g b (pF w g' a0 a1 a2 a3 a4 a5 a6 a7 a8 a9 a10 a11):=by
 unfold pF
 iterate 12 (refine aC.far ?_ (by exact hg') hb hg _)
 exact h
theorem qJ{t:TypeId}{b0 b1 b2 b3 b4 b5 b6 b7 b8 b9 b10 b11:Value}(h:Blk w g t #[b0,b1,b2,b3,b4,b5,b6,b7,b8,b9,b10,b11]):Blk (pF w g a0 a1 a2 a3 a4 a5 a6 a7 a8 a9 a10 a11) g t #[a0,a1,a2,a3,a4,a5,a6,a7,a8,a9,a10,a11]:=by
 have:=(((((((((((h.aH 0 a0).aH 1 a1).aH 2 a2).aH 3 a3).aH 4 a4).aH 5 a5).aH 6 a6).aH 7 a7).aH 8 a8).aH 9 a9).aH 10 a10).aH 11 a11
 unfold pF
 refine Blk.eq this ?_
 simp
end
theorem um{r:Nat}(h:Nq 6 r):r<6 ∧ ∃kd:Int,(#[.int .i64 1,.int .i64 1,.int .i64 1,.int .i64 2,.int .i64 2,.int .i64 3]:Array Value)[r]?=some (.int .i64 kd)∧(kd=1∨kd=2∨kd=3):=by
 have h6:r<6:=by rcases h with h|h<;>omega
 refine⟨h6,?_⟩
 obtain rfl|rfl|rfl|rfl|rfl|rfl:r=0∨r=1∨r=2∨r=3∨r=4∨r=5:=by omega
 all_goals exact⟨_,rfl,by omega⟩
section
variable {W u v:World}{g b:Nat}
theorem aP.same(h:aP u g b)(h1:v.heap[g]?=u.heap[g]?)(h2:v.heap[b]?=u.heap[b]?)(hs:u.heap.size≤v.heap.size):aP v g b:=by
 obtain⟨n,c,a,zs,hB,k1,k2,k3,k4⟩:=h.is
 exact⟨h.ne,Nat.lt_of_lt_of_le h.lt hs,n,c,a,zs,h1.trans hB,k1,k2,k3,fun i hi=>(World.cell?_of_block h2).trans (k4 i hi)⟩
theorem aC.app(h:aC W g b u){row:Option Nat}(hg:u.grownBy v row)(hrow:∀q,row=some q→W.heap.size≤q)(hbW:b<W.heap.size)(hgW:g<W.heap.size):aC W g b v:=by
 have hz:=h.size
 have hne:∀i,i<W.heap.size→some i≠row:=fun i hi e=>by have:=hrow i e.symm;omega
 exact⟨h.tape.same (hg.block g omA (hne g hgW)) (hg.block b omA (hne b hbW)) hg.size,⟨hg.os.trans h.grown.os,hg.tape.trans h.grown.tape,hg.output.trans h.grown.output,Nat.le_trans h.grown.size hg.size,fun i hi hn=>(hg.block i omA (hne i hi)).trans (h.grown.block i hi hn)⟩⟩
theorem aC.trans(h:aC W g b u)(h':aC u g b v):aC W g b v:=⟨h'.tape,au h.grown h'.grown⟩
theorem aC.own(h:aC u g b v){α:Type}{enc:α→List Value}{k base:Nat}{e:TypeId}{y:Value}{l:List α}(ho:aj u base e enc k y l)(hg:g<base):aj v base e enc k y l:=ho.kept h.grown fun q hq e=>by have:=ho.row q hq;injection e with e;omega
end
def G8(w:World)(g b:Nat)(seq day:Int)(e:Ending)(w':World):Prop:=
 ∃x:Chg,e=.returned (.agg x.cells.toArray)∧x.seq=seq∧x.day=day∧x.row.length≤8∧aj w' w.heap.size 50 Val.cells 3 (.slice x.A x.row.length x.cap) x.row∧aP w' g b∧w.grownBy w' (some g)
theorem AQ{w W u:World}{g b:Nat}{x:Chg}{e:Ending}{seq day:Int}{a0 a1 a2 a3 a4 a5 a6 a7 a8 a9 a10 a11:Value}(hbW:Below w.heap.size w W)(hz:w.heap.size+2≤W.heap.size)(hg:g<w.heap.size)(hb:b<w.heap.size)(hS:aC W g b u)(ho:aj u W.heap.size 50 Val.cells 3 (.slice x.A x.row.length x.cap) x.row)
 (he:e=.returned (.agg x.cells.toArray)) (hs:x.seq=seq) (hd:x.day=day) (hr:x.row.length≤8):G8 w g b seq day e (pF u (w.heap.size+1) a0 a1 a2 a3 a4 a5 a6 a7 a8 a9 a10 a11):=by
 have hsz:(pF u (w.heap.size+1) a0 a1 a2 a3 a4 a5 a6 a7 a8 a9 a10 a11).heap.size=u.heap.size:=by
  unfold pF
  simp
 have ho2:aj (pF u (w.heap.size+1) a0 a1 a2 a3 a4 a5 a6 a7 a8 a9 a10 a11) W.heap.size 50 Val.cells 3 (.slice x.A x.row.length x.cap) x.row:=ho.same fun q hq=>RF q (by have:=ho.row q hq;omega)
 have hG:aC w g b u:=⟨hS.tape,au (aZ _ hbW) hS.grown⟩
 have hG2:aC w g b (pF u (w.heap.size+1) a0 a1 a2 a3 a4 a5 a6 a7 a8 a9 a10 a11):=hG.xR omA hb hg
 exact⟨x,he,hs,hd,hr,ho2.mono omA,hG2.tape,hG2.grown⟩
theorem Fb{P:Prop}(h:P:=by
 (
 have y0:=hY9.cell 0
 have y1:=hY9.cell 1
 have y2:=hY9.cell 2
 have y3:=hY9.cell 3
 have y4:=hY9.cell 4
 have y5:=hY9.cell 5
 have y6:=hY9.cell 6
 have y7:=hY9.cell 7
 have y8:=hY9.cell 8
 have y9:=hY9.cell 9
 have y10:=hY9.cell 10
 have y11:=hY9.cell 11
 have yf:=hY9.frozen
 simp only[gE3]at y0 y1 y2 y3 y4 y5 y6 y7 y8 y9 y10 y11
 have fO:=(hU9).blk HX.out omA
 have c0:=fO.cell 0
 have c1:=fO.cell 1
 have c2:=fO.cell 2
 have c3:=fO.cell 3
 have c4:=fO.cell 4
 have c5:=fO.cell 5
 have c6:=fO.cell 6
 have c7:=fO.cell 7
 have c8:=fO.cell 8
 have c9:=fO.cell 9
 have c10:=fO.cell 10
 have c11:=fO.cell 11
 have cf:=fO.frozen
 simp only[gE3]at c0 c1 c2 c3 c4 c5 c6 c7 c8 c9 c10 c11
 clear fO
 go_wp2_with fail
 refine bodyPost_ret (v:= .agg #[.int .i64 3,.int .i64 seq,.int .i64 day,.int .i64 (tb:Int),.slice none 0 0,.int .i64 kk,.int .i64 kn,.string kt,.int .i64 0,.int .i64 0,.int .i64 0,.string ⟨#[]⟩]) cd rfl ?_
 exact AQ (x:=⟨3,seq,day,tb,none,0,[],⟨kk,kn,kt⟩,0,⟨0,0,⟨#[]⟩⟩⟩) hbW omA omA omA hU9 aj.nil rfl rfl rfl spA)):P:=h
theorem Fa{P:Prop}(h:P:=by
 (
 have y0:=hY9.cell 0
 have y1:=hY9.cell 1
 have y2:=hY9.cell 2
 have y3:=hY9.cell 3
 have y4:=hY9.cell 4
 have y5:=hY9.cell 5
 have y6:=hY9.cell 6
 have y7:=hY9.cell 7
 have y8:=hY9.cell 8
 have y9:=hY9.cell 9
 have y10:=hY9.cell 10
 have y11:=hY9.cell 11
 have yf:=hY9.frozen
 simp only[gE3]at y0 y1 y2 y3 y4 y5 y6 y7 y8 y9 y10 y11
 go_wp2_with fail
 (with_reducible refine(aK g b (ae.length:Int) _ hU9.tape omA omA).mono ?_)
 rintro e ua ⟨r7,rfl,hr7,hka,hga⟩
 have Ro:r7<ae.length:=by rcases hr7 with h|h<;>omega
 have hUa:=hU9.call hka hga
 have hYa:=bJ hY9 hga omA
 clear y0 y1 y2 y3 y4 y5 y6 y7 y8 y9 y10 y11 yf
 have y8:=hYa.cell 8
 have yf:=hYa.frozen
 simp only[gE3]at y8
 go_upto_region 18 with (fail)
 refine ah (P:=fun u=>Code.wp _ _ _ _ u) (R:=fun v=>aC W g b v∧Blk v Y 52 #[.int .i64 2,.int .i64 seq,.int .i64 day,.int .i64 (tb:Int),.slice none 0 0,.int .i64 kk,.int .i64 kn,.string kt,.int .i64 (r7:Int),.int .i64 0,.int .i64 0,.string ⟨#[]⟩]) ⟨hUa.far hY j3 iZ _,Blk.eq (hYa.aH 8 _) spA⟩ ?_
 clear y8 yf hUa hYa hka hga hU9 hY9
 rintro wr ⟨hSr,hYr⟩
 have hzr:=hSr.size
 have hYl:=hYr.lt
 have hgr:g<wr.heap.size:=by omega
 have hC1:=hSr.blk HC.out omA
 obtain⟨p0,p1,p2,p3,p4,p5,p6,p7⟩:=Cat.blk hC1
 have hGw:=HG.out wr hSr
 have HGR:Hid (∀v,aC wr g b v→w.grownBy v (some g)):=qh fun v h=>au hGw h.grown
 have hTr:aF wr wr.heap.size (some ⟨cb,co,none⟩) ts:=HT.out.grown HU.out hgB hGw
 have hcr:iM wr wr.heap.size (some ⟨xb,xo',none⟩) ae:=by
  have h:=hTr.2 ts[tb] (lgm htb)
  rw[HY.out]at h
  exact h
 obtain⟨xb2,xo2,R7,WM,hxc⟩:=hcr.1.get Ro
 injection R7 with R7
 injection R7 with Yb Ya
 subst Yb Ya
 have Zv:decide (r7<ae.length)=true:=by simpa using Ro
 have y8:=hYr.cell 8
 simp only[gE3]at y8
 obtain⟨x0,x1,x2,x3,x4,x5,x6⟩:=Col.dW hxc
 obtain⟨⟨xn,xt,xs,xr,xA,xc,xo,xj,xd⟩,hxe⟩:∃x:Col,ae[r7]=x:=⟨_,rfl⟩
 have HX1:Hid ((⟨xn,xt,xs,xr,xA,xc,xo,xj,xd⟩:Col)∈ts[tb].ae):=qh (zP.out _ (by rw[←hxe];exact lgm Ro))
 rw[hxe]at x0 x1 x2 x3 x4 x5 x6
 simp only at x0 x1 x2 x3 x4 x5 x6
 have RY:aC wr g b wr:=⟨hSr.tape,aZ _ brf⟩
 have Py:=qh hSr
 have HYR:=qh hYr
 clear hTr hcr hxc hxe hYr
 refine aJ (S:=(fun v=>aC wr g b v)) [10] krA (RY.below brf.drew) (fun hHeld =>?_)
 refine tkT 0 hHeld ?_
 refine tkT 1 hHeld ?_ (hy:=by intro v hSv;(try dsimp only at hSv);have k0:=yj hSv.grown w.heap.size omA omA;go_simp;first|done|with_reducible rfl)
 refine tkT 2 hHeld ?_
 refine tkT 3 hHeld ?_
 refine tkT 4 hHeld ?_
 refine tkT 5 hHeld ?_ (hy:=by intro v hSv;(try dsimp only at hSv);have k1:=yj hSv.grown Y hYl omA;go_simp;first|done|with_reducible rfl)
 refine tkT 6 hHeld ?_
 refine tkT 7 hHeld ?_ (hy:=by intro v hSv;(try dsimp only at hSv);have k1:=yj hSv.grown xb WM hxg;go_simp;first|done|with_reducible rfl)
 refine ah (P:=fun v=>wpT _ _ _ _ _ _ _ _ _ v) (R:=fun v=>aC wr g b v) hHeld ?_
 clear hHeld
 rintro u0 hU0
 have hHeld:=hU0
 refine r1T 8 (fun K hK =>?_)
 go_simp
 (go_at_call 111;(with_reducible refine(uQ g b B (some ⟨cb,co,none⟩) c ts.length ts _ rc rt.length rt tb xn xt xs xr xA xc xo xj xd u0 (hU0).tape hgB (HT.out.grown HU.out hgB (HGR.out u0 hU0)) HU.out rfl HS.out HOK.out (HR.out.grown HRU.out hgB (HGR.out u0 hU0)) HRU.out rfl (HSH.out.wJ HOK.out) HSH.out.len (HSH.out.row HOK.out) htb HX1.out).mono ?_))
 rintro e ub ⟨⟨vk,vn,vt⟩,rfl,hkb,hgb⟩
 have hUb:=hU0.call hkb hgb
 have hUw:=Py.out.trans hUb
 refine hK.out _ _ _ hUb (fun hHeld =>?_)
 clear hK K
 refine tkT 9 hHeld ?_
 have hYb:=hUb.blk HYR.out omA
 have y9:=hYb.cell 9
 have y10:=hYb.cell 10
 have y11:=hYb.cell 11
 have yf:=hYb.frozen
 simp only[gE3]at y9 y10 y11
 refine rzT 10 (fun K hK =>?_)
 go_simp
 refine hK.out _ _ _ ?_
 clear hK K
 refine aI krA ?_ _
 clear hHeld x0 x1 x2 x3 x4 x5 x6 y8
 clear p0 p1 p2 p3 p4 p5 p6 p7
 go_upto_region 19 with (fail)
 refine ah (P:=fun u=>Code.wp _ _ _ _ u) (R:=fun v=>aC W g b v∧Blk v Y 52 #[.int .i64 2,.int .i64 seq,.int .i64 day,.int .i64 (tb:Int),.slice none 0 0,.int .i64 kk,.int .i64 kn,.string kt,.int .i64 (r7:Int),.int .i64 vk,.int .i64 vn,.string vt]) ⟨((hUw.far hY j3 iZ _).far hY j3 iZ _).far hY j3 iZ _,Blk.eq (((hYb.aH 9 _).aH 10 _).aH 11 _) spA⟩ ?_
 clear hYb hUw hUb hkb hgb hU0 y9 y10 y11 yf
 rintro u9 ⟨hU9,hY9⟩
 have y0:=hY9.cell 0
 have y1:=hY9.cell 1
 have y2:=hY9.cell 2
 have y3:=hY9.cell 3
 have y4:=hY9.cell 4
 have y5:=hY9.cell 5
 have y6:=hY9.cell 6
 have y7:=hY9.cell 7
 have y8:=hY9.cell 8
 have y9:=hY9.cell 9
 have y10:=hY9.cell 10
 have y11:=hY9.cell 11
 have yf:=hY9.frozen
 simp only[gE3]at y0 y1 y2 y3 y4 y5 y6 y7 y8 y9 y10 y11
 have fO:=(hU9).blk HX.out omA
 have c0:=fO.cell 0
 have c1:=fO.cell 1
 have c2:=fO.cell 2
 have c3:=fO.cell 3
 have c4:=fO.cell 4
 have c5:=fO.cell 5
 have c6:=fO.cell 6
 have c7:=fO.cell 7
 have c8:=fO.cell 8
 have c9:=fO.cell 9
 have c10:=fO.cell 10
 have c11:=fO.cell 11
 have cf:=fO.frozen
 simp only[gE3]at c0 c1 c2 c3 c4 c5 c6 c7 c8 c9 c10 c11
 clear fO
 go_wp2_with fail
 refine bodyPost_ret (v:= .agg #[.int .i64 2,.int .i64 seq,.int .i64 day,.int .i64 (tb:Int),.slice none 0 0,.int .i64 kk,.int .i64 kn,.string kt,.int .i64 (r7:Int),.int .i64 vk,.int .i64 vn,.string vt]) cd rfl ?_
 exact AQ (x:=⟨2,seq,day,tb,none,0,[],⟨kk,kn,kt⟩,r7,⟨vk,vn,vt⟩⟩) hbW omA omA omA hU9 aj.nil rfl rfl rfl spA)):P:=h
theorem E9{P:Prop}(h:P:=by
 refine rzT 14 (fun K hK =>?_)
 have y0:=hD4.cell 0
 have y1:=hD4.cell 1
 have y2:=hD4.cell 2
 have y3:=hD4.cell 3
 have y4:=hD4.cell 4
 have y5:=hD4.cell 5
 have y6:=hD4.cell 6
 have y7:=hD4.cell 7
 have y8:=hD4.cell 8
 have y9:=hD4.cell 9
 have y10:=hD4.cell 10
 have y11:=hD4.cell 11
 have yf:=hD4.frozen
 simp only[gE3]at y0 y1 y2 y3 y4 y5 y6 y7 y8 y9 y10 y11
 go_simp
 refine hK.out _ _ _ ?_
 clear hK K
 refine aI krA ?_ _
 clear hHeld
 go_wp2_with fail
 go_meet
 exact⟨u3.heap.size,kd,rt6,rfl,hS3.size,hrt,hkk,hS4.xR hS3.size j3 iZ,qJ hD4⟩):P:=h
theorem E8{P:Prop}(h:P:=by
 refine rzT 14 (fun K hK =>?_)
 have y0:=hD4.cell 0
 have y1:=hD4.cell 1
 have y2:=hD4.cell 2
 have y3:=hD4.cell 3
 have y4:=hD4.cell 4
 have y5:=hD4.cell 5
 have y6:=hD4.cell 6
 have y7:=hD4.cell 7
 have y8:=hD4.cell 8
 have y9:=hD4.cell 9
 have y10:=hD4.cell 10
 have y11:=hD4.cell 11
 have yf:=hD4.frozen
 simp only[gE3]at y0 y1 y2 y3 y4 y5 y6 y7 y8 y9 y10 y11
 go_simp
 refine hK.out _ _ _ ?_
 clear hK K
 refine aI krA ?_ _
 clear hHeld
 go_wp2_with fail
 go_meet
 exact⟨u2.heap.size,kd,rt6,rfl,hS2.size,hrt,hkk,hS4.xR hS2.size j3 iZ,qJ hD4⟩):P:=h
theorem E5{P:Prop}(h:P:=by
 refine rzT 14 (fun K hK =>?_)
 have y0:=hD4.cell 0
 have y1:=hD4.cell 1
 have y2:=hD4.cell 2
 have y3:=hD4.cell 3
 have y4:=hD4.cell 4
 have y5:=hD4.cell 5
 have y6:=hD4.cell 6
 have y7:=hD4.cell 7
 have y8:=hD4.cell 8
 have y9:=hD4.cell 9
 have y10:=hD4.cell 10
 have y11:=hD4.cell 11
 have yf:=hD4.frozen
 simp only[gE3]at y0 y1 y2 y3 y4 y5 y6 y7 y8 y9 y10 y11
 go_simp
 refine hK.out _ _ _ ?_
 clear hK K
 refine aI krA ?_ _
 clear hHeld
 go_wp2_with fail
 go_meet
 exact⟨u1.heap.size,kd,rt6,rfl,hS1.size,hrt,hkk,hS4.xR hS1.size j3 iZ,qJ hD4⟩):P:=h
theorem EZ{P:Prop}(h:P:=by
 refine rzT 14 (fun K hK =>?_)
 have y0:=hD4.cell 0
 have y1:=hD4.cell 1
 have y2:=hD4.cell 2
 have y3:=hD4.cell 3
 have y4:=hD4.cell 4
 have y5:=hD4.cell 5
 have y6:=hD4.cell 6
 have y7:=hD4.cell 7
 have y8:=hD4.cell 8
 have y9:=hD4.cell 9
 have y10:=hD4.cell 10
 have y11:=hD4.cell 11
 have yf:=hD4.frozen
 simp only[gE3]at y0 y1 y2 y3 y4 y5 y6 y7 y8 y9 y10 y11
 go_simp
 refine hK.out _ _ _ ?_
 clear hK K
 refine aI krA ?_ _
 clear hHeld
 go_wp2_with fail
 go_meet
 exact⟨W.heap.size,kd,rt6,rfl,hS0.size,hrt,hkk,hS4.xR hS0.size j3 iZ,qJ hD4⟩):P:=h
theorem vV(g b B:Nat)(A:Option Addr)(c m:Nat)(ts:List Tab)(RA:Option Addr)(rc n:Nat)(rt:List RTab)(seq day:Int)(w:World)(hk:aP w g b)(hgB:g<B)
 (ht:aF w w.heap.size A ts) (hu:gN B A ts) (hm:ts.length=m) (hs:aM ts) (hok:aN ts) (h0:0<ts.length) (hr:aR w w.heap.size RA rt) (hru:RUp B RA rt) (hn:rt.length=n) (hsh:eU ts rt):
 Calls Tryz.prog 67 #[.pointer (some ⟨g,0,none⟩),.agg #[.slice A m c,.slice none 0 0,.slice none 0 0,.slice none 0 0,.slice none 0 0,.slice none 0 0,.slice none 0 0,.slice none 0 0],.slice RA n rc,.int .i64 seq,.int .i64 day] w fun e w' =>
  G8 w g b seq day e w':=by
 subst hm hn
 have hgl:=hk.ltg
 have hbl:=hk.lt
 have hm8:=hok.len
 have HK:=qh hk
 have HT:=qh ht
 have HU:=qh hu
 have HS:=qh hs
 have HOK:=qh hok
 have HR:=qh hr
 have HRU:=qh hru
 have HSH:=qh hsh
 obtain⟨iv,hiv,Bn,Bl,Bj⟩:=info_parts uo
 clear hk ht hu hs hok hr hru hsh
 go_enter Tryz.func67,Tryz.ntmps67
 go_upto_region 1 with (fail)
 refine ah (P:=fun u=>Code.wp _ _ _ _ u) (R:=fun u=>Blk u w.heap.size 33 #[.slice A ts.length c,.slice none 0 0,.slice none 0 0,.slice none 0 0,.slice none 0 0,.slice none 0 0,.slice none 0 0,.slice none 0 0]∧Blk u (w.heap.size+1) 52 #[.int .i64 0,.int .i64 0,.int .i64 0,.int .i64 0,.slice none 0 0,.int .i64 0,.int .i64 0,.string ⟨#[]⟩,.int .i64 0,.int .i64 0,.int .i64 0,.string ⟨#[]⟩]∧Below w.heap.size w u) ⟨?_,?_,?_⟩ ?_
 ·exact(Blk.new _ _ _).alloc _
 ·exact Blk.new' spA
 ·exact ai
 rintro W ⟨hC,hX,hbW⟩
 have hzW:=hX.lt
 have hS0:aC W g b W:=⟨HK.out.below hbW,aZ _ brf⟩
 have j3:b<W.heap.size:=by omega
 have iZ:g<W.heap.size:=by omega
 have p0:=(Cat.blk hC).1
 have HC:=qh hC
 have HX:=qh hX
 clear hC hX
 go_cut [11] from 16 to 28 (fun v11 wx =>∃(Y:Nat) (kd:Int) (tb:Nat),v11=.pointer (some ⟨Y,0,none⟩)∧W.heap.size≤Y∧tb<ts.length∧(kd=1∨kd=2∨kd=3)∧aC W g b wx∧Blk wx Y 52 #[.int .i64 kd,.int .i64 seq,.int .i64 day,.int .i64 (tb:Int),.slice none 0 0,.int .i64 0,.int .i64 0,.string ⟨#[]⟩,.int .i64 0,.int .i64 0,.int .i64 0,.string ⟨#[]⟩])
 case first =>
  refine aJ (S:=(fun v=>aC W g b v)) [14] krA (hS0.below brf.drew) (fun hHeld =>?_)
  refine tkT 1 hHeld ?_
  refine tkT 5 hHeld ?_
  refine tkT 6 hHeld ?_
  refine tkT 7 hHeld ?_
  refine tkT 8 hHeld ?_
  refine tkT 9 hHeld ?_ (hy:=by intro v hSv;(try dsimp only at hSv);have c9:=(yj hSv.grown w.heap.size omA omA 0).trans p0;go_simp;first|done|with_reducible rfl)
  refine tkT 10 hHeld ?_
  refine kS (rs:= [0,2,13]) krA spA ?_
  refine jv.cons rfl (fun K hK =>?_) (jv.cons rfl (fun K hK =>?_) (jv.cons rfl (fun K hK =>?_) jv.nil))
  ·skip
   go_simp
   refine hK.out _ _ _ (hS0.below ai) (fun hHeld =>?_)
   clear hK K
   refine ah (P:=fun v=>wpT _ _ _ _ _ _ _ _ _ v) (R:=fun v=>aC W g b v∧Blk v (W.heap.size) 3 #[.int .i64 1,.int .i64 1,.int .i64 1,.int .i64 2,.int .i64 2,.int .i64 3]) ⟨hS0.below ai,Blk.new' rfl⟩ ?_
   clear hHeld
   rintro u1 ⟨hS1,hA1⟩
   have hHeld:aC W g b u1:=hS1
   refine r2T 2 13 (fun K hK =>?_) (fun K hK =>?_)
   ·skip
    go_simp
    (go_at_call 26;(with_reducible refine(aK g b 6 _ cj omA omA).mono ?_))
    rintro e u2 ⟨r6,rfl,Bo,hk2,hg2⟩
    have hS2:aC W g b u2:=cg
    have hA2:=bJ hA1 hg2 bw
    obtain⟨Mk,kd,hkd,hkk⟩:=um Bo;have GM:(r6:Int)<6:=omA
    refine hK.out _ _ _ hS2 (fun hHeld =>?_)
    clear hK K
    refine fw (S':=fun v=>aC W g b v∧Blk v W.heap.size 3 #[.int .i64 1,.int .i64 1,.int .i64 1,.int .i64 2,.int .i64 2,.int .i64 3]) (fun v h=>h.1) ?_
    have hHeld:aC W g b u2∧Blk u2 W.heap.size 3 #[.int .i64 1,.int .i64 1,.int .i64 1,.int .i64 2,.int .i64 2,.int .i64 3]:=⟨hS2,hA2⟩
    refine tkT 3 hHeld ?_
    refine tkT 4 hHeld ?_ (hy:=by intro v hSv;(try dsimp only at hSv);have c4:=(hSv.2.cell r6).trans hkd;go_simp;first|done|with_reducible rfl)
    refine r2T 11 13 (fun K hK =>?_) (fun K hK =>?_)
    ·skip
     go_simp
     (go_at_call 26;(with_reducible refine(aK g b (ts.length:Int) _ bt omA omA).mono ?_))
     rintro e u3 ⟨rt6,rfl,iQ,hk3,hg3⟩
     have hS3:aC W g b u3:=br
     have hA3:=bJ hA2 hg3 bw
     have hrt:rt6<ts.length:=bo
     refine hK.out _ _ _ ⟨hS3,hA3⟩ (fun hHeld =>?_)
     clear hK K
     refine tkT 12 hHeld ?_
     refine r1T 13 (fun K hK =>?_)
     go_simp
     refine hK.out _ _ _ ⟨hS3.below ai,hA3.below (B:=u3.heap.size) ai hA3.lt⟩ (fun hHeld =>?_)
     clear hK K
     refine ah (P:=fun v=>wpT _ _ _ _ _ _ _ _ _ v) (R:=fun v=>aC W g b v∧Blk v (u3.heap.size) 52 #[.int .i64 0,.int .i64 0,.int .i64 0,.int .i64 0,.slice none 0 0,.int .i64 0,.int .i64 0,.string ⟨#[]⟩,.int .i64 0,.int .i64 0,.int .i64 0,.string ⟨#[]⟩]∧Blk v (W.heap.size) 3 #[.int .i64 1,.int .i64 1,.int .i64 1,.int .i64 2,.int .i64 2,.int .i64 3]) ⟨hS3.below ai,Blk.new' rfl,hA3.below (B:=u3.heap.size) ai hA3.lt⟩ ?_
     clear hHeld
     rintro u4 ⟨hS4,hD4,hA4⟩
     have hHeld:aC W g b u4∧Blk u4 W.heap.size 3 #[.int .i64 1,.int .i64 1,.int .i64 1,.int .i64 2,.int .i64 2,.int .i64 3]:=⟨hS4,hA4⟩
     exact E9
    ·skip
     go_simp
     refine hK.out _ _ _ ⟨hS2.below ai,hA2.below (B:=u2.heap.size) ai hA2.lt⟩ (fun hHeld =>?_)
     clear hK K
     refine ah (P:=fun v=>wpT _ _ _ _ _ _ _ _ _ v) (R:=fun v=>aC W g b v∧Blk v (u2.heap.size) 52 #[.int .i64 0,.int .i64 0,.int .i64 0,.int .i64 0,.slice none 0 0,.int .i64 0,.int .i64 0,.string ⟨#[]⟩,.int .i64 0,.int .i64 0,.int .i64 0,.string ⟨#[]⟩]∧Blk v (W.heap.size) 3 #[.int .i64 1,.int .i64 1,.int .i64 1,.int .i64 2,.int .i64 2,.int .i64 3]) ⟨hS2.below ai,Blk.new' rfl,hA2.below (B:=u2.heap.size) ai hA2.lt⟩ ?_
     clear hHeld
     rintro u3 ⟨hS3,hD3,hA3⟩
     have hHeld:aC W g b u3∧Blk u3 W.heap.size 3 #[.int .i64 1,.int .i64 1,.int .i64 1,.int .i64 2,.int .i64 2,.int .i64 3]:=⟨hS3,hA3⟩
     refine r1T 11 (fun K hK =>?_)
     go_simp
     (go_at_call 26;(with_reducible refine(aK g b (ts.length:Int) _ bs omA omA).mono ?_))
     rintro e u4 ⟨rt6,rfl,iQ,hk4,hg4⟩
     have hS4:aC W g b u4:=bp
     have hA4:=bJ hA3 hg4 bw
     have hD4:=bJ hD3 hg4 ck
     have hrt:rt6<ts.length:=bo
     refine hK.out _ _ _ ⟨hS4,hA4⟩ (fun hHeld =>?_)
     clear hK K
     refine tkT 12 hHeld ?_
     exact E8
   ·skip
    go_simp
    refine hK.out _ _ _ (hS1.below ai) (fun hHeld =>?_)
    clear hK K
    refine ah (P:=fun v=>wpT _ _ _ _ _ _ _ _ _ v) (R:=fun v=>aC W g b v∧Blk v (u1.heap.size) 52 #[.int .i64 0,.int .i64 0,.int .i64 0,.int .i64 0,.slice none 0 0,.int .i64 0,.int .i64 0,.string ⟨#[]⟩,.int .i64 0,.int .i64 0,.int .i64 0,.string ⟨#[]⟩]∧Blk v (W.heap.size) 3 #[.int .i64 1,.int .i64 1,.int .i64 1,.int .i64 2,.int .i64 2,.int .i64 3]) ⟨hS1.below ai,Blk.new' rfl,hA1.below (B:=u1.heap.size) ai hA1.lt⟩ ?_
    clear hHeld
    rintro u2 ⟨hS2,hD2,hA2⟩
    have hHeld:aC W g b u2:=hS2
    refine r1T 2 (fun K hK =>?_)
    go_simp
    (go_at_call 26;(with_reducible refine(aK g b 6 _ bt omA omA).mono ?_))
    rintro e u3 ⟨r6,rfl,Bo,hk3,hg3⟩
    have hS3:aC W g b u3:=br
    have hA3:=bJ hA2 hg3 bw
    have hD3:=bJ hD2 hg3 ca
    obtain⟨Mk,kd,hkd,hkk⟩:=um Bo;have GM:(r6:Int)<6:=omA
    refine hK.out _ _ _ hS3 (fun hHeld =>?_)
    clear hK K
    refine fw (S':=fun v=>aC W g b v∧Blk v W.heap.size 3 #[.int .i64 1,.int .i64 1,.int .i64 1,.int .i64 2,.int .i64 2,.int .i64 3]) (fun v h=>h.1) ?_
    have hHeld:aC W g b u3∧Blk u3 W.heap.size 3 #[.int .i64 1,.int .i64 1,.int .i64 1,.int .i64 2,.int .i64 2,.int .i64 3]:=⟨hS3,hA3⟩
    refine tkT 3 hHeld ?_
    refine tkT 4 hHeld ?_ (hy:=by intro v hSv;(try dsimp only at hSv);have c4:=(hSv.2.cell r6).trans hkd;go_simp;first|done|with_reducible rfl)
    refine r1T 11 (fun K hK =>?_)
    go_simp
    (go_at_call 26;(with_reducible refine(aK g b (ts.length:Int) _ bs omA omA).mono ?_))
    rintro e u4 ⟨rt6,rfl,iQ,hk4,hg4⟩
    have hS4:aC W g b u4:=bp
    have hA4:=bJ hA3 hg4 bw
    have hD4:=bJ hD3 hg4 ca
    have hrt:rt6<ts.length:=bo
    refine hK.out _ _ _ ⟨hS4,hA4⟩ (fun hHeld =>?_)
    clear hK K
    refine tkT 12 hHeld ?_
    exact E5
  ·skip
   go_simp
   (go_at_call 26;(with_reducible refine(aK g b 6 _ (by first|exact hS0.tape|exact hS0.tape.below ai) omA omA).mono ?_))
   rintro e u1 ⟨r6,rfl,Bo,hk1,hg1⟩
   have hS1:aC W g b u1:=(by first|exact hS0.call hk1 hg1|exact hS0.call' hk1 hg1)
   obtain⟨Mk,kd,hkd,hkk⟩:=um Bo;have GM:(r6:Int)<6:=omA
   refine hK.out _ _ _ hS1 (fun hHeld =>?_)
   clear hK K
   refine kS (rs:= [0,11,13]) krA spA ?_
   refine jv.cons rfl (fun K hK =>?_) (jv.cons rfl (fun K hK =>?_) (jv.cons rfl (fun K hK =>?_) jv.nil))
   ·skip
    go_simp
    refine hK.out _ _ _ (hS1.below ai) (fun hHeld =>?_)
    clear hK K
    refine ah (P:=fun v=>wpT _ _ _ _ _ _ _ _ _ v) (R:=fun v=>aC W g b v∧Blk v (u1.heap.size) 3 #[.int .i64 1,.int .i64 1,.int .i64 1,.int .i64 2,.int .i64 2,.int .i64 3]) ⟨hS1.below ai,Blk.new' rfl⟩ ?_
    clear hHeld
    rintro u2 ⟨hS2,hA2⟩
    have hHeld:aC W g b u2:=hS2
    refine fw (S':=fun v=>aC W g b v∧Blk v u1.heap.size 3 #[.int .i64 1,.int .i64 1,.int .i64 1,.int .i64 2,.int .i64 2,.int .i64 3]) (fun v h=>h.1) ?_
    have hHeld:aC W g b u2∧Blk u2 u1.heap.size 3 #[.int .i64 1,.int .i64 1,.int .i64 1,.int .i64 2,.int .i64 2,.int .i64 3]:=⟨hS2,hA2⟩
    refine tkT 3 hHeld ?_
    refine tkT 4 hHeld ?_ (hy:=by intro v hSv;(try dsimp only at hSv);have c4:=(hSv.2.cell r6).trans hkd;go_simp;first|done|with_reducible rfl)
    refine r2T 11 13 (fun K hK =>?_) (fun K hK =>?_)
    ·skip
     go_simp
     (go_at_call 26;(with_reducible refine(aK g b (ts.length:Int) _ bt omA omA).mono ?_))
     rintro e u3 ⟨rt6,rfl,iQ,hk3,hg3⟩
     have hS3:aC W g b u3:=br
     have hA3:=bJ hA2 hg3 ca
     have hrt:rt6<ts.length:=bo
     refine hK.out _ _ _ ⟨hS3,hA3⟩ (fun hHeld =>?_)
     clear hK K
     refine tkT 12 hHeld ?_
     refine r1T 13 (fun K hK =>?_)
     go_simp
     refine hK.out _ _ _ ⟨hS3.below ai,hA3.below (B:=u3.heap.size) ai hA3.lt⟩ (fun hHeld =>?_)
     clear hK K
     refine ah (P:=fun v=>wpT _ _ _ _ _ _ _ _ _ v) (R:=fun v=>aC W g b v∧Blk v (u3.heap.size) 52 #[.int .i64 0,.int .i64 0,.int .i64 0,.int .i64 0,.slice none 0 0,.int .i64 0,.int .i64 0,.string ⟨#[]⟩,.int .i64 0,.int .i64 0,.int .i64 0,.string ⟨#[]⟩]∧Blk v (u1.heap.size) 3 #[.int .i64 1,.int .i64 1,.int .i64 1,.int .i64 2,.int .i64 2,.int .i64 3]) ⟨hS3.below ai,Blk.new' rfl,hA3.below (B:=u3.heap.size) ai hA3.lt⟩ ?_
     clear hHeld
     rintro u4 ⟨hS4,hD4,hA4⟩
     have hHeld:aC W g b u4∧Blk u4 u1.heap.size 3 #[.int .i64 1,.int .i64 1,.int .i64 1,.int .i64 2,.int .i64 2,.int .i64 3]:=⟨hS4,hA4⟩
     exact E9
    ·skip
     go_simp
     refine hK.out _ _ _ ⟨hS2.below ai,hA2.below (B:=u2.heap.size) ai hA2.lt⟩ (fun hHeld =>?_)
     clear hK K
     refine ah (P:=fun v=>wpT _ _ _ _ _ _ _ _ _ v) (R:=fun v=>aC W g b v∧Blk v (u2.heap.size) 52 #[.int .i64 0,.int .i64 0,.int .i64 0,.int .i64 0,.slice none 0 0,.int .i64 0,.int .i64 0,.string ⟨#[]⟩,.int .i64 0,.int .i64 0,.int .i64 0,.string ⟨#[]⟩]∧Blk v (u1.heap.size) 3 #[.int .i64 1,.int .i64 1,.int .i64 1,.int .i64 2,.int .i64 2,.int .i64 3]) ⟨hS2.below ai,Blk.new' rfl,hA2.below (B:=u2.heap.size) ai hA2.lt⟩ ?_
     clear hHeld
     rintro u3 ⟨hS3,hD3,hA3⟩
     have hHeld:aC W g b u3∧Blk u3 u1.heap.size 3 #[.int .i64 1,.int .i64 1,.int .i64 1,.int .i64 2,.int .i64 2,.int .i64 3]:=⟨hS3,hA3⟩
     refine r1T 11 (fun K hK =>?_)
     go_simp
     (go_at_call 26;(with_reducible refine(aK g b (ts.length:Int) _ bs omA omA).mono ?_))
     rintro e u4 ⟨rt6,rfl,iQ,hk4,hg4⟩
     have hS4:aC W g b u4:=bp
     have hA4:=bJ hA3 hg4 ca
     have hD4:=bJ hD3 hg4 ck
     have hrt:rt6<ts.length:=bo
     refine hK.out _ _ _ ⟨hS4,hA4⟩ (fun hHeld =>?_)
     clear hK K
     refine tkT 12 hHeld ?_
     exact E8
   ·skip
    go_simp
    (go_at_call 26;(with_reducible refine(aK g b (ts.length:Int) _ cj omA omA).mono ?_))
    rintro e u2 ⟨rt6,rfl,iQ,hk2,hg2⟩
    have hS2:aC W g b u2:=cg
    have hrt:rt6<ts.length:=bo
    refine hK.out _ _ _ hS2 (fun hHeld =>?_)
    clear hK K
    refine r2T 0 13 (fun K hK =>?_) (fun K hK =>?_)
    ·skip
     go_simp
     refine hK.out _ _ _ (hS2.below ai) (fun hHeld =>?_)
     clear hK K
     refine ah (P:=fun v=>wpT _ _ _ _ _ _ _ _ _ v) (R:=fun v=>aC W g b v∧Blk v (u2.heap.size) 3 #[.int .i64 1,.int .i64 1,.int .i64 1,.int .i64 2,.int .i64 2,.int .i64 3]) ⟨hS2.below ai,Blk.new' rfl⟩ ?_
     clear hHeld
     rintro u3 ⟨hS3,hA3⟩
     have hHeld:aC W g b u3:=hS3
     refine fw (S':=fun v=>aC W g b v∧Blk v u2.heap.size 3 #[.int .i64 1,.int .i64 1,.int .i64 1,.int .i64 2,.int .i64 2,.int .i64 3]) (fun v h=>h.1) ?_
     have hHeld:aC W g b u3∧Blk u3 u2.heap.size 3 #[.int .i64 1,.int .i64 1,.int .i64 1,.int .i64 2,.int .i64 2,.int .i64 3]:=⟨hS3,hA3⟩
     refine tkT 3 hHeld ?_
     refine tkT 4 hHeld ?_ (hy:=by intro v hSv;(try dsimp only at hSv);have c4:=(hSv.2.cell r6).trans hkd;go_simp;first|done|with_reducible rfl)
     refine tkT 12 hHeld ?_
     refine r1T 13 (fun K hK =>?_)
     go_simp
     refine hK.out _ _ _ ⟨hS3.below ai,hA3.below (B:=u3.heap.size) ai hA3.lt⟩ (fun hHeld =>?_)
     clear hK K
     refine ah (P:=fun v=>wpT _ _ _ _ _ _ _ _ _ v) (R:=fun v=>aC W g b v∧Blk v (u3.heap.size) 52 #[.int .i64 0,.int .i64 0,.int .i64 0,.int .i64 0,.slice none 0 0,.int .i64 0,.int .i64 0,.string ⟨#[]⟩,.int .i64 0,.int .i64 0,.int .i64 0,.string ⟨#[]⟩]∧Blk v (u2.heap.size) 3 #[.int .i64 1,.int .i64 1,.int .i64 1,.int .i64 2,.int .i64 2,.int .i64 3]) ⟨hS3.below ai,Blk.new' rfl,hA3.below (B:=u3.heap.size) ai hA3.lt⟩ ?_
     clear hHeld
     rintro u4 ⟨hS4,hD4,hA4⟩
     have hHeld:aC W g b u4∧Blk u4 u2.heap.size 3 #[.int .i64 1,.int .i64 1,.int .i64 1,.int .i64 2,.int .i64 2,.int .i64 3]:=⟨hS4,hA4⟩
     exact E9
    ·skip
     go_simp
     refine hK.out _ _ _ (hS2.below ai) (fun hHeld =>?_)
     clear hK K
     refine ah (P:=fun v=>wpT _ _ _ _ _ _ _ _ _ v) (R:=fun v=>aC W g b v∧Blk v (u2.heap.size) 52 #[.int .i64 0,.int .i64 0,.int .i64 0,.int .i64 0,.slice none 0 0,.int .i64 0,.int .i64 0,.string ⟨#[]⟩,.int .i64 0,.int .i64 0,.int .i64 0,.string ⟨#[]⟩]) ⟨hS2.below ai,Blk.new' rfl⟩ ?_
     clear hHeld
     rintro u3 ⟨hS3,hD3⟩
     have hHeld:aC W g b u3:=hS3
     refine r1T 0 (fun K hK =>?_)
     go_simp
     refine hK.out _ _ _ (hS3.below ai) (fun hHeld =>?_)
     clear hK K
     refine ah (P:=fun v=>wpT _ _ _ _ _ _ _ _ _ v) (R:=fun v=>aC W g b v∧Blk v (u3.heap.size) 3 #[.int .i64 1,.int .i64 1,.int .i64 1,.int .i64 2,.int .i64 2,.int .i64 3]∧Blk v (u2.heap.size) 52 #[.int .i64 0,.int .i64 0,.int .i64 0,.int .i64 0,.slice none 0 0,.int .i64 0,.int .i64 0,.string ⟨#[]⟩,.int .i64 0,.int .i64 0,.int .i64 0,.string ⟨#[]⟩]) ⟨hS3.below ai,Blk.new' rfl,hD3.below (B:=u3.heap.size) ai hD3.lt⟩ ?_
     clear hHeld
     rintro u4 ⟨hS4,hA4,hD4⟩
     have hHeld:aC W g b u4:=hS4
     refine fw (S':=fun v=>aC W g b v∧Blk v u3.heap.size 3 #[.int .i64 1,.int .i64 1,.int .i64 1,.int .i64 2,.int .i64 2,.int .i64 3]) (fun v h=>h.1) ?_
     have hHeld:aC W g b u4∧Blk u4 u3.heap.size 3 #[.int .i64 1,.int .i64 1,.int .i64 1,.int .i64 2,.int .i64 2,.int .i64 3]:=⟨hS4,hA4⟩
     refine tkT 3 hHeld ?_
     refine tkT 4 hHeld ?_ (hy:=by intro v hSv;(try dsimp only at hSv);have c4:=(hSv.2.cell r6).trans hkd;go_simp;first|done|with_reducible rfl)
     refine tkT 12 hHeld ?_
     exact E8
   ·skip
    go_simp
    refine hK.out _ _ _ (hS1.below ai) (fun hHeld =>?_)
    clear hK K
    refine ah (P:=fun v=>wpT _ _ _ _ _ _ _ _ _ v) (R:=fun v=>aC W g b v∧Blk v (u1.heap.size) 52 #[.int .i64 0,.int .i64 0,.int .i64 0,.int .i64 0,.slice none 0 0,.int .i64 0,.int .i64 0,.string ⟨#[]⟩,.int .i64 0,.int .i64 0,.int .i64 0,.string ⟨#[]⟩]) ⟨hS1.below ai,Blk.new' rfl⟩ ?_
    clear hHeld
    rintro u2 ⟨hS2,hD2⟩
    have hHeld:aC W g b u2:=hS2
    refine r2T 0 11 (fun K hK =>?_) (fun K hK =>?_)
    ·skip
     go_simp
     refine hK.out _ _ _ (hS2.below ai) (fun hHeld =>?_)
     clear hK K
     refine ah (P:=fun v=>wpT _ _ _ _ _ _ _ _ _ v) (R:=fun v=>aC W g b v∧Blk v (u2.heap.size) 3 #[.int .i64 1,.int .i64 1,.int .i64 1,.int .i64 2,.int .i64 2,.int .i64 3]∧Blk v (u1.heap.size) 52 #[.int .i64 0,.int .i64 0,.int .i64 0,.int .i64 0,.slice none 0 0,.int .i64 0,.int .i64 0,.string ⟨#[]⟩,.int .i64 0,.int .i64 0,.int .i64 0,.string ⟨#[]⟩]) ⟨hS2.below ai,Blk.new' rfl,hD2.below (B:=u2.heap.size) ai hD2.lt⟩ ?_
     clear hHeld
     rintro u3 ⟨hS3,hA3,hD3⟩
     have hHeld:aC W g b u3:=hS3
     refine fw (S':=fun v=>aC W g b v∧Blk v u2.heap.size 3 #[.int .i64 1,.int .i64 1,.int .i64 1,.int .i64 2,.int .i64 2,.int .i64 3]) (fun v h=>h.1) ?_
     have hHeld:aC W g b u3∧Blk u3 u2.heap.size 3 #[.int .i64 1,.int .i64 1,.int .i64 1,.int .i64 2,.int .i64 2,.int .i64 3]:=⟨hS3,hA3⟩
     refine tkT 3 hHeld ?_
     refine tkT 4 hHeld ?_ (hy:=by intro v hSv;(try dsimp only at hSv);have c4:=(hSv.2.cell r6).trans hkd;go_simp;first|done|with_reducible rfl)
     refine r1T 11 (fun K hK =>?_)
     go_simp
     (go_at_call 26;(with_reducible refine(aK g b (ts.length:Int) _ bs omA omA).mono ?_))
     rintro e u4 ⟨rt6,rfl,iQ,hk4,hg4⟩
     have hS4:aC W g b u4:=bp
     have hA4:=bJ hA3 hg4 ck
     have hD4:=bJ hD3 hg4 ca
     have hrt:rt6<ts.length:=bo
     refine hK.out _ _ _ ⟨hS4,hA4⟩ (fun hHeld =>?_)
     clear hK K
     refine tkT 12 hHeld ?_
     exact E5
    ·skip
     go_simp
     (go_at_call 26;(with_reducible refine(aK g b (ts.length:Int) _ bt omA omA).mono ?_))
     rintro e u3 ⟨rt6,rfl,iQ,hk3,hg3⟩
     have hS3:aC W g b u3:=br
     have hD3:=bJ hD2 hg3 ca
     have hrt:rt6<ts.length:=bo
     refine hK.out _ _ _ hS3 (fun hHeld =>?_)
     clear hK K
     refine r1T 0 (fun K hK =>?_)
     go_simp
     refine hK.out _ _ _ (hS3.below ai) (fun hHeld =>?_)
     clear hK K
     refine ah (P:=fun v=>wpT _ _ _ _ _ _ _ _ _ v) (R:=fun v=>aC W g b v∧Blk v (u3.heap.size) 3 #[.int .i64 1,.int .i64 1,.int .i64 1,.int .i64 2,.int .i64 2,.int .i64 3]∧Blk v (u1.heap.size) 52 #[.int .i64 0,.int .i64 0,.int .i64 0,.int .i64 0,.slice none 0 0,.int .i64 0,.int .i64 0,.string ⟨#[]⟩,.int .i64 0,.int .i64 0,.int .i64 0,.string ⟨#[]⟩]) ⟨hS3.below ai,Blk.new' rfl,hD3.below (B:=u3.heap.size) ai hD3.lt⟩ ?_
     clear hHeld
     rintro u4 ⟨hS4,hA4,hD4⟩
     have hHeld:aC W g b u4:=hS4
     refine fw (S':=fun v=>aC W g b v∧Blk v u3.heap.size 3 #[.int .i64 1,.int .i64 1,.int .i64 1,.int .i64 2,.int .i64 2,.int .i64 3]) (fun v h=>h.1) ?_
     have hHeld:aC W g b u4∧Blk u4 u3.heap.size 3 #[.int .i64 1,.int .i64 1,.int .i64 1,.int .i64 2,.int .i64 2,.int .i64 3]:=⟨hS4,hA4⟩
     refine tkT 3 hHeld ?_
     refine tkT 4 hHeld ?_ (hy:=by intro v hSv;(try dsimp only at hSv);have c4:=(hSv.2.cell r6).trans hkd;go_simp;first|done|with_reducible rfl)
     refine tkT 12 hHeld ?_
     exact E5
  ·skip
   go_simp
   refine hK.out _ _ _ (hS0.below ai) (fun hHeld =>?_)
   clear hK K
   refine ah (P:=fun v=>wpT _ _ _ _ _ _ _ _ _ v) (R:=fun v=>aC W g b v∧Blk v (W.heap.size) 52 #[.int .i64 0,.int .i64 0,.int .i64 0,.int .i64 0,.slice none 0 0,.int .i64 0,.int .i64 0,.string ⟨#[]⟩,.int .i64 0,.int .i64 0,.int .i64 0,.string ⟨#[]⟩]) ⟨hS0.below ai,Blk.new' rfl⟩ ?_
   clear hHeld
   rintro u1 ⟨hS1,hD1⟩
   have hHeld:aC W g b u1:=hS1
   refine r2T 0 2 (fun K hK =>?_) (fun K hK =>?_)
   ·skip
    go_simp
    refine hK.out _ _ _ (hS1.below ai) (fun hHeld =>?_)
    clear hK K
    refine ah (P:=fun v=>wpT _ _ _ _ _ _ _ _ _ v) (R:=fun v=>aC W g b v∧Blk v (u1.heap.size) 3 #[.int .i64 1,.int .i64 1,.int .i64 1,.int .i64 2,.int .i64 2,.int .i64 3]∧Blk v (W.heap.size) 52 #[.int .i64 0,.int .i64 0,.int .i64 0,.int .i64 0,.slice none 0 0,.int .i64 0,.int .i64 0,.string ⟨#[]⟩,.int .i64 0,.int .i64 0,.int .i64 0,.string ⟨#[]⟩]) ⟨hS1.below ai,Blk.new' rfl,hD1.below (B:=u1.heap.size) ai hD1.lt⟩ ?_
    clear hHeld
    rintro u2 ⟨hS2,hA2,hD2⟩
    have hHeld:aC W g b u2:=hS2
    refine r1T 2 (fun K hK =>?_)
    go_simp
    (go_at_call 26;(with_reducible refine(aK g b 6 _ bt omA omA).mono ?_))
    rintro e u3 ⟨r6,rfl,Bo,hk3,hg3⟩
    have hS3:aC W g b u3:=br
    have hA3:=bJ hA2 hg3 ca
    have hD3:=bJ hD2 hg3 bw
    obtain⟨Mk,kd,hkd,hkk⟩:=um Bo;have GM:(r6:Int)<6:=omA
    refine hK.out _ _ _ hS3 (fun hHeld =>?_)
    clear hK K
    refine fw (S':=fun v=>aC W g b v∧Blk v u1.heap.size 3 #[.int .i64 1,.int .i64 1,.int .i64 1,.int .i64 2,.int .i64 2,.int .i64 3]) (fun v h=>h.1) ?_
    have hHeld:aC W g b u3∧Blk u3 u1.heap.size 3 #[.int .i64 1,.int .i64 1,.int .i64 1,.int .i64 2,.int .i64 2,.int .i64 3]:=⟨hS3,hA3⟩
    refine tkT 3 hHeld ?_
    refine tkT 4 hHeld ?_ (hy:=by intro v hSv;(try dsimp only at hSv);have c4:=(hSv.2.cell r6).trans hkd;go_simp;first|done|with_reducible rfl)
    refine r1T 11 (fun K hK =>?_)
    go_simp
    (go_at_call 26;(with_reducible refine(aK g b (ts.length:Int) _ bs omA omA).mono ?_))
    rintro e u4 ⟨rt6,rfl,iQ,hk4,hg4⟩
    have hS4:aC W g b u4:=bp
    have hA4:=bJ hA3 hg4 ca
    have hD4:=bJ hD3 hg4 bw
    have hrt:rt6<ts.length:=bo
    refine hK.out _ _ _ ⟨hS4,hA4⟩ (fun hHeld =>?_)
    clear hK K
    refine tkT 12 hHeld ?_
    exact EZ
   ·skip
    go_simp
    (go_at_call 26;(with_reducible refine(aK g b 6 _ cj omA omA).mono ?_))
    rintro e u2 ⟨r6,rfl,Bo,hk2,hg2⟩
    have hS2:aC W g b u2:=cg
    have hD2:=bJ hD1 hg2 bw
    obtain⟨Mk,kd,hkd,hkk⟩:=um Bo;have GM:(r6:Int)<6:=omA
    refine hK.out _ _ _ hS2 (fun hHeld =>?_)
    clear hK K
    refine r2T 0 11 (fun K hK =>?_) (fun K hK =>?_)
    ·skip
     go_simp
     refine hK.out _ _ _ (hS2.below ai) (fun hHeld =>?_)
     clear hK K
     refine ah (P:=fun v=>wpT _ _ _ _ _ _ _ _ _ v) (R:=fun v=>aC W g b v∧Blk v (u2.heap.size) 3 #[.int .i64 1,.int .i64 1,.int .i64 1,.int .i64 2,.int .i64 2,.int .i64 3]∧Blk v (W.heap.size) 52 #[.int .i64 0,.int .i64 0,.int .i64 0,.int .i64 0,.slice none 0 0,.int .i64 0,.int .i64 0,.string ⟨#[]⟩,.int .i64 0,.int .i64 0,.int .i64 0,.string ⟨#[]⟩]) ⟨hS2.below ai,Blk.new' rfl,hD2.below (B:=u2.heap.size) ai hD2.lt⟩ ?_
     clear hHeld
     rintro u3 ⟨hS3,hA3,hD3⟩
     have hHeld:aC W g b u3:=hS3
     refine fw (S':=fun v=>aC W g b v∧Blk v u2.heap.size 3 #[.int .i64 1,.int .i64 1,.int .i64 1,.int .i64 2,.int .i64 2,.int .i64 3]) (fun v h=>h.1) ?_
     have hHeld:aC W g b u3∧Blk u3 u2.heap.size 3 #[.int .i64 1,.int .i64 1,.int .i64 1,.int .i64 2,.int .i64 2,.int .i64 3]:=⟨hS3,hA3⟩
     refine tkT 3 hHeld ?_
     refine tkT 4 hHeld ?_ (hy:=by intro v hSv;(try dsimp only at hSv);have c4:=(hSv.2.cell r6).trans hkd;go_simp;first|done|with_reducible rfl)
     refine r1T 11 (fun K hK =>?_)
     go_simp
     (go_at_call 26;(with_reducible refine(aK g b (ts.length:Int) _ bs omA omA).mono ?_))
     rintro e u4 ⟨rt6,rfl,iQ,hk4,hg4⟩
     have hS4:aC W g b u4:=bp
     have hA4:=bJ hA3 hg4 ck
     have hD4:=bJ hD3 hg4 bw
     have hrt:rt6<ts.length:=bo
     refine hK.out _ _ _ ⟨hS4,hA4⟩ (fun hHeld =>?_)
     clear hK K
     refine tkT 12 hHeld ?_
     exact EZ
    ·skip
     go_simp
     (go_at_call 26;(with_reducible refine(aK g b (ts.length:Int) _ bt omA omA).mono ?_))
     rintro e u3 ⟨rt6,rfl,iQ,hk3,hg3⟩
     have hS3:aC W g b u3:=br
     have hD3:=bJ hD2 hg3 bw
     have hrt:rt6<ts.length:=bo
     refine hK.out _ _ _ hS3 (fun hHeld =>?_)
     clear hK K
     refine r1T 0 (fun K hK =>?_)
     go_simp
     refine hK.out _ _ _ (hS3.below ai) (fun hHeld =>?_)
     clear hK K
     refine ah (P:=fun v=>wpT _ _ _ _ _ _ _ _ _ v) (R:=fun v=>aC W g b v∧Blk v (u3.heap.size) 3 #[.int .i64 1,.int .i64 1,.int .i64 1,.int .i64 2,.int .i64 2,.int .i64 3]∧Blk v (W.heap.size) 52 #[.int .i64 0,.int .i64 0,.int .i64 0,.int .i64 0,.slice none 0 0,.int .i64 0,.int .i64 0,.string ⟨#[]⟩,.int .i64 0,.int .i64 0,.int .i64 0,.string ⟨#[]⟩]) ⟨hS3.below ai,Blk.new' rfl,hD3.below (B:=u3.heap.size) ai hD3.lt⟩ ?_
     clear hHeld
     rintro u4 ⟨hS4,hA4,hD4⟩
     have hHeld:aC W g b u4:=hS4
     refine fw (S':=fun v=>aC W g b v∧Blk v u3.heap.size 3 #[.int .i64 1,.int .i64 1,.int .i64 1,.int .i64 2,.int .i64 2,.int .i64 3]) (fun v h=>h.1) ?_
     have hHeld:aC W g b u4∧Blk u4 u3.heap.size 3 #[.int .i64 1,.int .i64 1,.int .i64 1,.int .i64 2,.int .i64 2,.int .i64 3]:=⟨hS4,hA4⟩
     refine tkT 3 hHeld ?_
     refine tkT 4 hHeld ?_ (hy:=by intro v hSv;(try dsimp only at hSv);have c4:=(hSv.2.cell r6).trans hkd;go_simp;first|done|with_reducible rfl)
     refine tkT 12 hHeld ?_
     exact EZ
 case rest =>
  obtain⟨Y,kd,tb,rfl,hY,htb,hkk,hSu,hYb⟩:=hcut
  have hzu:=hSu.size
  have hgw:w.grownBy W (some g):=aZ _ hbW
  have HGW:=qh hgw
  have hTc:aF wc wc.heap.size A ts:=HT.out.grown HU.out hgB (au hgw hSu.grown)
  obtain⟨cb,co,rfl,hcb,hcc⟩:=hTc.1.get htb
  obtain⟨t0,t1,t2,t3⟩:=Tab.fV hcc
  have eP:=(hTc.2 ts[tb] (lgm htb))
  have hcn:=HOK.out.ae htb
  have hmem:∀x∈ts[tb].ae,x∈ts[tb].ae:=fun x h=>h
  have OP:=(HU.out.2 ts[tb] (lgm htb))
  obtain⟨⟨tn,CA,cc,ae,ter,trt⟩,hy⟩:∃x:Tab,ts[tb]=x:=⟨_,rfl⟩
  have HY:=qh hy
  have zP:Hid (∀x∈ae,x∈ts[tb].ae):=qh (by rw[hy];exact fun x h=>h)
  rw[hy]at t0 t1 t2 t3 eP hcn OP
  simp only at t0 t1 t2 t3 eP hcn OP
  have Dn:=hcn.1
  have aac:=hcn.2
  have Eu:=qh eP
  have SN:=qh OP
  have Zn:decide (tb<ts.length)=true:=by simpa using htb
  have hC1:=hSu.blk HC.out omA
  obtain⟨p0,p1,p2,p3,p4,p5,p6,p7⟩:=Cat.blk hC1
  have HSU:=qh hSu
  have HYB:=qh hYb
  have HG:Hid (∀v,aC W g b v→w.grownBy v (some g)):=qh fun v h=>au hgw h.grown
  have Rz:g<w.heap.size:=hgl
  have y0:=hYb.cell 0
  have y1:=hYb.cell 1
  have y2:=hYb.cell 2
  have y3:=hYb.cell 3
  have y4:=hYb.cell 4
  have y5:=hYb.cell 5
  have y6:=hYb.cell 6
  have y7:=hYb.cell 7
  have y8:=hYb.cell 8
  have y9:=hYb.cell 9
  have y10:=hYb.cell 10
  have y11:=hYb.cell 11
  have yf:=hYb.frozen
  simp only[gE3]at y0 y1 y2 y3 y4 y5 y6 y7 y8 y9 y10 y11
  clear hcc hTc eP OP hcn hy hC1 hSu hYb hgw hmem
  rcases hkk with rfl|rfl|rfl
  ·(
   go_wp2_with fail
   clear y0 y1 y2 y3 y4 y5 y6 y7 y8 y9 y10 y11 yf
   clear p0 p1 p2 p3 p4 p5 p6 p7
   clear t0 t1 t2 t3
   go_loopw [13] (fun vi wr =>∃(i:Nat) (RA2:Option Addr) (rc2:Nat) (row:List Val),i≤ae.length∧vi=.int .i64 i∧row.length=i∧aj wr W.heap.size 50 Val.cells 3 (.slice RA2 i rc2) row∧aC W g b wr∧Blk wr Y 52 #[.int .i64 1,.int .i64 seq,.int .i64 day,.int .i64 (tb:Int),.slice RA2 i rc2,.int .i64 0,.int .i64 0,.string ⟨#[]⟩,.int .i64 0,.int .i64 0,.int .i64 0,.string ⟨#[]⟩]) (fun vi _=>ae.length-(intOf vi).toNat)
   case atStart=>exact⟨0,none,0,[],Nat.zero_le _,rfl,rfl,aj.nil,HSU.out,HYB.out⟩
   case round =>
    obtain⟨i,RA2,rc2,row,hi,rfl,hrl,how,hSr,hYr⟩:=hrel
    have hzr:=hSr.size
    have HRL:=qh hrl
    have HOW:=qh how
    have Py:=qh hSr
    have HYR:=qh hYr
    have hYl:=hYr.lt
    have hgr:g<wr.heap.size:=by omega
    have HBR:=qh (hSr.blk HX.out omA)
    clear hrl how
    by_cases hlt:i<ae.length
    ·have hlt':decide (i<ae.length)=true:=by simpa using hlt
     have hC1:=hSr.blk HC.out omA
     obtain⟨p0,p1,p2,p3,p4,p5,p6,p7⟩:=Cat.blk hC1
     have HGR:Hid (∀v,aC wr g b v→w.grownBy v (some g)):=qh fun v h=>au (HG.out wr Py.out) h.grown
     have hTr:aF wr wr.heap.size (some ⟨cb,co,none⟩) ts:=HT.out.grown HU.out hgB (HG.out wr hSr)
     have hcr:iM wr wr.heap.size CA ae:=by
      have h:=hTr.2 ts[tb] (lgm htb)
      rw[HY.out]at h
      exact h
     obtain⟨xb,xo',hCe,hxb,hxc⟩:=hcr.1.get hlt
     have hxg:xb≠g:=by
      have:B≤xb:=SN.out.1 _ hCe
      omega
     obtain⟨x0,x1,x2,x3,x4,x5,x6⟩:=Col.dW hxc
     obtain⟨⟨xn,xt,xs,xr,xA,xc,xo,xj,xd⟩,hxe⟩:∃x:Col,ae[i]=x:=⟨_,rfl⟩
     have HX1:Hid ((⟨xn,xt,xs,xr,xA,xc,xo,xj,xd⟩:Col)∈ts[tb].ae):=qh (zP.out _ (by rw[←hxe];exact lgm hlt))
     rw[hxe]at x0 x1 x2 x3 x4 x5 x6
     simp only at x0 x1 x2 x3 x4 x5 x6
     subst hCe
     have RY:aC wr g b wr:=⟨hSr.tape,aZ _ brf⟩
     clear hTr hcr hxc hxe
     go_upto_region 7 with (fail)
     go_cut [14] from 45 to 52 (fun v14 wx =>∃(Z:Nat) (v:Val),v14=.pointer (some ⟨Z,0,none⟩)∧wr.heap.size≤Z∧aC wr g b wx∧Blk wx Z 50 (Val.cells v).toArray)
     case first =>
      refine aJ (S:=(fun v=>aC wr g b v)) [9] krA (RY.below brf.drew) (fun hHeld =>?_)
      refine tkT 0 hHeld ?_
      refine tkT 1 hHeld ?_ (hy:=by intro v hSv;(try dsimp only at hSv);have k0:=yj hSv.grown w.heap.size omA omA;go_simp;first|done|with_reducible rfl)
      refine tkT 2 hHeld ?_
      refine tkT 3 hHeld ?_
      refine tkT 4 hHeld ?_
      refine tkT 5 hHeld ?_
      refine tkT 6 hHeld ?_ (hy:=by intro v hSv;(try dsimp only at hSv);have k1:=yj hSv.grown xb hxb hxg;go_simp;first|done|with_reducible rfl)
      refine ah (P:=fun v=>wpT _ _ _ _ _ _ _ _ _ v) (R:=fun v=>aC wr g b v) hHeld ?_
      clear hHeld
      rintro u0 hU0
      have hHeld:=hU0
      refine r2T 7 8 (fun K hK =>?_) (fun K hK =>?_)
      ·go_simp
       (go_at_call 111;(with_reducible refine(uQ g b B (some ⟨cb,co,none⟩) c ts.length ts _ rc rt.length rt tb xn xt xs xr xA xc xo xj xd u0 (hU0).tape hgB (HT.out.grown HU.out hgB (HGR.out u0 hU0)) HU.out rfl HS.out HOK.out (HR.out.grown HRU.out hgB (HGR.out u0 hU0)) HRU.out rfl (HSH.out.wJ HOK.out) HSH.out.len (HSH.out.row HOK.out) htb HX1.out).mono ?_))
       rintro e u1 ⟨⟨vk,vn,vt⟩,rfl,hk1,hg1⟩
       have hU1:=hU0.call hk1 hg1
       refine hK.out _ _ _ hU1 (fun hHeld =>?_)
       clear hK K
       refine r1T 8 (fun K hK =>?_)
       go_simp
       refine hK.out _ _ _ (hU1.below ai) (fun hHeld =>?_)
       clear hK K
       refine ah (P:=fun v=>wpT _ _ _ _ _ _ _ _ _ v) (R:=fun v=>aC wr g b v∧Blk v u1.heap.size 50 #[.int .i64 0,.int .i64 0,.string ⟨#[]⟩]) ⟨hU1.below ai,Blk.new' rfl⟩ ?_
       clear hHeld
       rintro u2 ⟨hU2,hD2⟩
       have hHeld:=hU2
       refine rzT 9 (fun K hK =>?_)
       have z0:=hD2.cell 0
       have z1:=hD2.cell 1
       have z2:=hD2.cell 2
       have zf:=hD2.frozen
       simp only[gE3]at z0 z1 z2
       go_simp
       refine hK.out _ _ _ ?_
       clear hK K
       refine aI krA ?_ _
       clear hHeld
       go_wp2_with fail
       go_meet
       exact⟨u1.heap.size,⟨vk,vn,vt⟩,rfl,hU1.size,((hU2.far hU1.size omA omA _).far hU1.size omA omA _).far hU1.size omA omA _,uL hD2⟩
      ·go_simp
       refine hK.out _ _ _ (hU0.below ai) (fun hHeld =>?_)
       clear hK K
       refine ah (P:=fun v=>wpT _ _ _ _ _ _ _ _ _ v) (R:=fun v=>aC wr g b v∧Blk v u0.heap.size 50 #[.int .i64 0,.int .i64 0,.string ⟨#[]⟩]) ⟨hU0.below ai,Blk.new' rfl⟩ ?_
       clear hHeld
       rintro u1 ⟨hU1,hD1⟩
       have hHeld:=hU1
       refine r1T 7 (fun K hK =>?_)
       go_simp
       (go_at_call 111;(with_reducible refine(uQ g b B (some ⟨cb,co,none⟩) c ts.length ts _ rc rt.length rt tb xn xt xs xr xA xc xo xj xd u1 (hU1).tape hgB (HT.out.grown HU.out hgB (HGR.out u1 hU1)) HU.out rfl HS.out HOK.out (HR.out.grown HRU.out hgB (HGR.out u1 hU1)) HRU.out rfl (HSH.out.wJ HOK.out) HSH.out.len (HSH.out.row HOK.out) htb HX1.out).mono ?_))
       rintro e u2 ⟨⟨vk,vn,vt⟩,rfl,hk2,hg2⟩
       have hU2:=hU1.call hk2 hg2
       have hD2:=bJ hD1 hg2 (by have:=hU0.size;omega)
       refine hK.out _ _ _ hU2 (fun hHeld =>?_)
       clear hK K
       refine rzT 9 (fun K hK =>?_)
       have z0:=hD2.cell 0
       have z1:=hD2.cell 1
       have z2:=hD2.cell 2
       have zf:=hD2.frozen
       simp only[gE3]at z0 z1 z2
       go_simp
       refine hK.out _ _ _ ?_
       clear hK K
       refine aI krA ?_ _
       clear hHeld
       go_wp2_with fail
       go_meet
       exact⟨u0.heap.size,⟨vk,vn,vt⟩,rfl,hU0.size,((hU2.far hU0.size omA omA _).far hU0.size omA omA _).far hU0.size omA omA _,uL hD2⟩
     case rest =>
     obtain⟨Z,v,rfl,hZ,hSx,hZb⟩:=hcut
     clear p0 p1 p2 p3 p4 p5 p6 p7
     obtain⟨wx,rfl⟩:∃wx:World,wx=wc:=⟨_,rfl⟩
     have hzx:=hSx.size
     have k1:=yj hSx.grown xb hxb hxg
     go_upto_if 54 with (fail)
     go_cut [] (fun wy =>∃v:Val,aC wr g b wy∧Blk wy Z 50 (Val.cells v).toArray)
     case first =>
      by_cases hi0:i=0
      ·have OM:((i:Int) == 0)=true:=by simpa using hi0
       subst hi0
       simp only[Nat.zero_mul,Nat.add_zero]at x0 x1 x2 x3 x4 x5 x6
       have Qg:decide (0<ae.length)=true:=by simpa using Dn
       go_wp2_with fail
       (with_reducible refine(sU g b xt _ hSx.tape).mono ?_)
       rintro e u1 ⟨⟨vk,vn,vt⟩,rfl,hk1,hg1⟩
       have hZ1:=bJ hZb hg1 omA
       have hU1:=hSx.call hk1 hg1
       have z0:=hZ1.cell 0
       have z1:=hZ1.cell 1
       have z2:=hZ1.cell 2
       have zf:=hZ1.frozen
       simp only[gE3,Val.cells]at z0 z1 z2
       go_wp2_with fail
       go_meet
       exact⟨⟨vk,vn,vt⟩,((hU1.far hZ omA omA _).far hZ omA omA _).far hZ omA omA _,uL hZ1⟩
      ·have OM:((i:Int) == 0)=false:=by simp;omega
       clear hi0
       go_wp2_with fail
       go_meet
       exact⟨v,hSx,hZb⟩
     case rest =>
     clear hSx hZb v hzx k1
     obtain⟨⟨vk,vn,vt⟩,hSy,hZy⟩:=hcut
     have hzy:=hSy.size
     have hYy:=hSy.blk hYr omA
     have y4:=hYy.cell 4
     have yf:=hYy.frozen
     simp only[gE3]at y4
     have z0:=hZy.cell 0
     have z1:=hZy.cell 1
     have z2:=hZy.cell 2
     simp only[gE3,Val.cells]at z0 z1 z2
     have SB:=qh (hSy.own HOW.out iZ)
     have HYY:=qh hYy
     have HSY:=qh (Py.out.trans hSy)
     clear x0 x1 x2 x3 x4 x5 x6 hYy hSy hZy
     go_wp2_with (at_builtin;go_must (refine aO _ rfl (.tmp 62) (.tmp 64) 48 rfl 50 iv _ Val.cells 3 32 Tryz.underlying48 hiv Bn Bl Bj rfl omA bC val_one W.heap.size (.slice RA2 i rc2) row rfl (SB.out.alloc _) _ _ _ [(⟨vk,vn,vt⟩:Val)] rfl rfl (Blk.one (enc:=Val.cells) (x:=⟨vk,vn,vt⟩) (Blk.new' rfl) spA) (by have:=HRL.out;simp;omega) (by have:=HRL.out;simp[maxLen];omega) smA ?_);intro v2 w2 hown2 hg2 Du;obtain⟨RA3,rc3,hv2,_,_⟩:=hown2.form;rw[show (row ++ [(⟨vk,vn,vt⟩:Val)]).length=i+1 by simp[HRL.out]]at hv2;subst hv2;have hY2:=(HYY.out.alloc _).grown hg2 (fun e=>SB.out.aY HYY.out (by decide) Y e.symm rfl);have y4:=hY2.cell 4;have yf:=hY2.frozen;simp only[gE3]at y4;have HY2:=qh hY2;have SC:=qh hown2;have HS2:=qh ((HSY.out.below (brf.alloc nlr _)).app hg2 SB.out.row j3 iZ);clear hY2 hown2)
     go_roundw
     case rel=>exact⟨i+1,RA3,rc3,row ++ [⟨vk,vn,vt⟩],by omega,by go_num,by simp[HRL.out],SC.out.jy (by have h:=HY2.out;unfold Blk at h;exact h) (by decide) _,HS2.out.far hY j3 iZ _,HY2.out.aH 4 _⟩
     case measure=>exact meA
    ·have hlt':decide (i<ae.length)=false:=by simpa using hlt
     have hie:i=ae.length:=by omega
     subst hie
     have hX1:=HBR.out
     have y0:=hYr.cell 0
     have y1:=hYr.cell 1
     have y2:=hYr.cell 2
     have y3:=hYr.cell 3
     have y4:=hYr.cell 4
     have y5:=hYr.cell 5
     have y6:=hYr.cell 6
     have y7:=hYr.cell 7
     have y8:=hYr.cell 8
     have y9:=hYr.cell 9
     have y10:=hYr.cell 10
     have y11:=hYr.cell 11
     have yf:=hYr.frozen
     simp only[gE3]at y0 y1 y2 y3 y4 y5 y6 y7 y8 y9 y10 y11
     clear hYr hX1
     have fO:=(hSr).blk HX.out omA
     have c0:=fO.cell 0
     have c1:=fO.cell 1
     have c2:=fO.cell 2
     have c3:=fO.cell 3
     have c4:=fO.cell 4
     have c5:=fO.cell 5
     have c6:=fO.cell 6
     have c7:=fO.cell 7
     have c8:=fO.cell 8
     have c9:=fO.cell 9
     have c10:=fO.cell 10
     have c11:=fO.cell 11
     have cf:=fO.frozen
     simp only[gE3]at c0 c1 c2 c3 c4 c5 c6 c7 c8 c9 c10 c11
     clear fO
     go_wp2_with fail
     refine bodyPost_ret (v:= .agg #[.int .i64 1,.int .i64 seq,.int .i64 day,.int .i64 (tb:Int),.slice RA2 ae.length rc2,.int .i64 0,.int .i64 0,.string ⟨#[]⟩,.int .i64 0,.int .i64 0,.int .i64 0,.string ⟨#[]⟩]) cd rfl ?_
     have how:=HOW.out
     rw[←HRL.out]at how
     exact AQ (x:=⟨1,seq,day,tb,RA2,rc2,row,⟨0,0,⟨#[]⟩⟩,0,⟨0,0,⟨#[]⟩⟩⟩) hbW omA omA omA hSr how (by simp[Chg.cells,HRL.out]) rfl rfl (by have:=HRL.out;simp only;omega))
  ·(
   go_upto_region 12 with (fail)
   have Qg:decide (0<ae.length)=true:=by simpa using Dn
   have hcw:iM wc wc.heap.size CA ae:=Eu.out
   obtain⟨xb,xo',hCe,hxb,hxc⟩:=hcw.1.get Dn
   have hxg:xb≠g:=by
    have:B≤xb:=SN.out.1 _ hCe
    omega
   obtain⟨x0,x1,_,_,_,_,_⟩:=Col.dW hxc
   subst hCe
   simp only[Nat.zero_mul,Nat.add_zero]at x0 x1
   clear hxc hcw
   go_wp2_with fail
   (with_reducible refine(sU g b ae[0].ty _ HSU.out.tape).mono ?_)
   rintro e u1 ⟨⟨kk,kn,kt⟩,rfl,hk1,hg1⟩
   have hU1:=HSU.out.call hk1 hg1
   have hY1:=bJ HYB.out hg1 omA
   clear y0 y1 y2 y3 y4 y5 y6 y7 y8 y9 y10 y11 yf
   clear p0 p1 p2 p3 p4 p5 p6 p7
   clear x0 x1
   have y5:=hY1.cell 5
   have y6:=hY1.cell 6
   have y7:=hY1.cell 7
   have yf:=hY1.frozen
   simp only[gE3]at y5 y6 y7
   go_upto_region 13 with (fail)
   refine ah (P:=fun u=>Code.wp _ _ _ _ u) (R:=fun v=>aC W g b v∧Blk v Y 52 #[.int .i64 2,.int .i64 seq,.int .i64 day,.int .i64 (tb:Int),.slice none 0 0,.int .i64 kk,.int .i64 kn,.string kt,.int .i64 0,.int .i64 0,.int .i64 0,.string ⟨#[]⟩]) ⟨((hU1.far hY j3 iZ _).far hY j3 iZ _).far hY j3 iZ _,Blk.eq (((hY1.aH 5 _).aH 6 _).aH 7 _) spA⟩ ?_
   clear y5 y6 y7 yf hU1 hY1 hk1 hg1
   rintro u2 ⟨hU2,hY2⟩
   have Q4:=hU2.size
   have y3:=hY2.cell 3
   simp only[gE3]at y3
   have hR1:aR u2 u2.heap.size RA rt:=HR.out.grown HRU.out hgB (HG.out u2 hU2)
   have hkr:tb<rt.length:=by rw[HSH.out.len];exact htb
   obtain⟨rb,ro,hRe,hrb,hrc⟩:=hR1.1.get hkr
   have d0:=hrc 0 _ rfl
   have dw:=hR1.2 rt[tb] (lgm hkr)
   have hrows:=HSH.out.row HOK.out rt[tb] (lgm hkr)
   have uB:=HRU.out.2 rt[tb] (lgm hkr)
   have nk:=(HSH.out.tab hkr htb).1
   obtain⟨⟨TA,tc,recs⟩,hyr⟩:∃x:RTab,rt[tb]=x:=⟨_,rfl⟩
   rw[hyr]at d0 dw hrows uB nk
   simp only[Nat.mul_one,Nat.add_zero]at d0 dw hrows uB nk
   have HRE:=qh dw
   have HRO:=qh hrows
   have HUP:=qh uB
   have OL:decide (tb<rt.length)=true:=by simpa using hkr
   subst hRe
   clear hR1 hrc hyr dw hrows uB
   by_cases hl0:recs.length=0
   ·have hl0':decide (0<recs.length)=false:=by rw[hl0];rfl
    have Ru:decide ((0:Int)<(recs.length:Int))=false:=by rw[hl0];rfl
    clear hl0
    go_upto_region 16 with (fail)
    refine ah (P:=fun u=>Code.wp _ _ _ _ u) (R:=fun v=>aC W g b v∧Blk v Y 52 #[.int .i64 2,.int .i64 seq,.int .i64 day,.int .i64 (tb:Int),.slice none 0 0,.int .i64 kk,.int .i64 kn,.string kt,.int .i64 0,.int .i64 0,.int .i64 0,.string ⟨#[]⟩]) ?_ ?_
    ·exact⟨by first|exact hU2|exact hU2.below ai,by first|exact hY2|exact hY2.below (B:=u2.heap.size) ai hY2.lt⟩
    rintro u9 ⟨hU9,hY9⟩
    clear y3 d0
    exact Fa
   ·have hl0':decide (0<recs.length)=true:=by simp;omega
    have Ru:decide ((0:Int)<(recs.length:Int))=true:=by simp;omega
    go_wp2_with fail
    (with_reducible refine(aK g b 8 _ hU2.tape omA omA).mono ?_)
    rintro e u3 ⟨r8,rfl,hr8,hk3,hg3⟩
    have hU3:=hU2.call hk3 hg3
    have hY3:=bJ hY2 hg3 omA
    by_cases hr0:r8=0
    ·have mM:decide ((0:Int)<(r8:Int))=false:=by rw[hr0];rfl
     have Ml:decide (0<r8)=false:=by rw[hr0];rfl
     clear hr0
     go_upto_region 16 with (fail)
     refine ah (P:=fun u=>Code.wp _ _ _ _ u) (R:=fun v=>aC W g b v∧Blk v Y 52 #[.int .i64 2,.int .i64 seq,.int .i64 day,.int .i64 (tb:Int),.slice none 0 0,.int .i64 kk,.int .i64 kn,.string kt,.int .i64 0,.int .i64 0,.int .i64 0,.string ⟨#[]⟩]) ?_ ?_
     ·exact⟨by first|exact hU3|exact hU3.below ai,by first|exact hY3|exact hY3.below (B:=u3.heap.size) ai hY3.lt⟩
     rintro u9 ⟨hU9,hY9⟩
     clear y3 d0
     exact Fa
    ·have mM:decide ((0:Int)<(r8:Int))=true:=by simp;omega
     have Ml:decide (0<r8)=true:=by simp;omega
     go_wp2_with fail
     (with_reducible refine(aK g b (recs.length:Int) _ hU3.tape omA omA).mono ?_)
     rintro e u4 ⟨r9,rfl,hr9,hk4,hg4⟩
     have yB:r9<recs.length:=by rcases hr9 with h|h<;>omega
     have hU4:=hU3.call hk4 hg4
     have hY4:=bJ hY3 hg4 omA
     have Fw:u2.grownBy u4 (some g):=au hg3 hg4
     obtain⟨b5,o5,he5,hb5,hc5⟩:=(ag.grown HRE.out.1 Fw (qY HUP.out.1 hgB)).get yB
     subst he5
     obtain⟨e0,_,_⟩:=Rcd.cells3 hc5
     have eO:=HRO.out recs[r9] (lgm yB)
     have hsl:=ag.grown (HRE.out.2 recs[r9] (lgm yB)).1 Fw (qY (HUP.out.2 recs[r9] (lgm yB)).1 hgB)
     obtain⟨⟨QA,qc,fM,QS,qs,qsq,qd⟩,hq⟩:∃x:Rcd,recs[r9]=x:=⟨_,rfl⟩
     rw[hq]at e0 eO hsl
     simp only at e0 eO hsl
     obtain⟨b6,o6,hQe,hb6,hc6⟩:=hsl.get eO
     obtain⟨v0,v1,v2⟩:=Val.cells3 hc6
     simp only[Nat.zero_mul,Nat.add_zero]at v0 v1 v2
     obtain⟨⟨k2,n2,t2'⟩,hv⟩:∃v:Val,fM[0]=v:=⟨_,rfl⟩
     rw[hv]at v0 v1 v2
     simp only at v0 v1 v2
     subst hQe
     have Fq:decide (0<fM.length)=true:=by simpa using eO
     have Ud:decide (r9<recs.length)=true:=by simpa using yB
     have y5:=hY4.cell 5
     have y6:=hY4.cell 6
     have y7:=hY4.cell 7
     have yf:=hY4.frozen
     simp only[gE3]at y5 y6 y7
     clear hk3 hk4 hc5 hq hsl hc6 hv y3 d0
     go_upto_region 16 with (fail)
     refine ah (P:=fun u=>Code.wp _ _ _ _ u) (R:=fun v=>aC W g b v∧Blk v Y 52 #[.int .i64 2,.int .i64 seq,.int .i64 day,.int .i64 (tb:Int),.slice none 0 0,.int .i64 k2,.int .i64 n2,.string t2',.int .i64 0,.int .i64 0,.int .i64 0,.string ⟨#[]⟩]) ⟨((hU4.far hY j3 iZ _).far hY j3 iZ _).far hY j3 iZ _,Blk.eq (((hY4.aH 5 _).aH 6 _).aH 7 _) spA⟩ ?_
     clear y5 y6 y7 yf hU4 hY4 Fw v0 v1 v2 e0 hU3 hY3 hU2 hY2
     obtain⟨kk,rfl⟩:∃kk:Int,kk=k2:=⟨_,rfl⟩
     obtain⟨kn,rfl⟩:∃kn:Int,kn=n2:=⟨_,rfl⟩
     obtain⟨kt,rfl⟩:∃kt:ByteArray,kt=t2':=⟨_,rfl⟩
     rintro u9 ⟨hU9,hY9⟩
     exact Fa)
  ·(
   go_upto_region 12 with (fail)
   have Qg:decide (0<ae.length)=true:=by simpa using Dn
   have hcw:iM wc wc.heap.size CA ae:=Eu.out
   obtain⟨xb,xo',hCe,hxb,hxc⟩:=hcw.1.get Dn
   have hxg:xb≠g:=by
    have:B≤xb:=SN.out.1 _ hCe
    omega
   obtain⟨x0,x1,_,_,_,_,_⟩:=Col.dW hxc
   subst hCe
   simp only[Nat.zero_mul,Nat.add_zero]at x0 x1
   clear hxc hcw
   go_wp2_with fail
   (with_reducible refine(sU g b ae[0].ty _ HSU.out.tape).mono ?_)
   rintro e u1 ⟨⟨kk,kn,kt⟩,rfl,hk1,hg1⟩
   have hU1:=HSU.out.call hk1 hg1
   have hY1:=bJ HYB.out hg1 omA
   clear y0 y1 y2 y3 y4 y5 y6 y7 y8 y9 y10 y11 yf
   clear p0 p1 p2 p3 p4 p5 p6 p7
   clear x0 x1
   have y5:=hY1.cell 5
   have y6:=hY1.cell 6
   have y7:=hY1.cell 7
   have yf:=hY1.frozen
   simp only[gE3]at y5 y6 y7
   go_upto_region 13 with (fail)
   refine ah (P:=fun u=>Code.wp _ _ _ _ u) (R:=fun v=>aC W g b v∧Blk v Y 52 #[.int .i64 3,.int .i64 seq,.int .i64 day,.int .i64 (tb:Int),.slice none 0 0,.int .i64 kk,.int .i64 kn,.string kt,.int .i64 0,.int .i64 0,.int .i64 0,.string ⟨#[]⟩]) ⟨((hU1.far hY j3 iZ _).far hY j3 iZ _).far hY j3 iZ _,Blk.eq (((hY1.aH 5 _).aH 6 _).aH 7 _) spA⟩ ?_
   clear y5 y6 y7 yf hU1 hY1 hk1 hg1
   rintro u2 ⟨hU2,hY2⟩
   have Q4:=hU2.size
   have y3:=hY2.cell 3
   simp only[gE3]at y3
   have hR1:aR u2 u2.heap.size RA rt:=HR.out.grown HRU.out hgB (HG.out u2 hU2)
   have hkr:tb<rt.length:=by rw[HSH.out.len];exact htb
   obtain⟨rb,ro,hRe,hrb,hrc⟩:=hR1.1.get hkr
   have d0:=hrc 0 _ rfl
   have dw:=hR1.2 rt[tb] (lgm hkr)
   have hrows:=HSH.out.row HOK.out rt[tb] (lgm hkr)
   have uB:=HRU.out.2 rt[tb] (lgm hkr)
   have nk:=(HSH.out.tab hkr htb).1
   obtain⟨⟨TA,tc,recs⟩,hyr⟩:∃x:RTab,rt[tb]=x:=⟨_,rfl⟩
   rw[hyr]at d0 dw hrows uB nk
   simp only[Nat.mul_one,Nat.add_zero]at d0 dw hrows uB nk
   have HRE:=qh dw
   have HRO:=qh hrows
   have HUP:=qh uB
   have OL:decide (tb<rt.length)=true:=by simpa using hkr
   subst hRe
   clear hR1 hrc hyr dw hrows uB
   by_cases hl0:recs.length=0
   ·have hl0':decide (0<recs.length)=false:=by rw[hl0];rfl
    have Ru:decide ((0:Int)<(recs.length:Int))=false:=by rw[hl0];rfl
    clear hl0
    go_upto_region 16 with (fail)
    refine ah (P:=fun u=>Code.wp _ _ _ _ u) (R:=fun v=>aC W g b v∧Blk v Y 52 #[.int .i64 3,.int .i64 seq,.int .i64 day,.int .i64 (tb:Int),.slice none 0 0,.int .i64 kk,.int .i64 kn,.string kt,.int .i64 0,.int .i64 0,.int .i64 0,.string ⟨#[]⟩]) ?_ ?_
    ·exact⟨by first|exact hU2|exact hU2.below ai,by first|exact hY2|exact hY2.below (B:=u2.heap.size) ai hY2.lt⟩
    rintro u9 ⟨hU9,hY9⟩
    clear y3 d0
    exact Fb
   ·have hl0':decide (0<recs.length)=true:=by simp;omega
    have Ru:decide ((0:Int)<(recs.length:Int))=true:=by simp;omega
    go_wp2_with fail
    (with_reducible refine(aK g b 8 _ hU2.tape omA omA).mono ?_)
    rintro e u3 ⟨r8,rfl,hr8,hk3,hg3⟩
    have hU3:=hU2.call hk3 hg3
    have hY3:=bJ hY2 hg3 omA
    by_cases hr0:r8=0
    ·have mM:decide ((0:Int)<(r8:Int))=false:=by rw[hr0];rfl
     have Ml:decide (0<r8)=false:=by rw[hr0];rfl
     clear hr0
     go_upto_region 16 with (fail)
     refine ah (P:=fun u=>Code.wp _ _ _ _ u) (R:=fun v=>aC W g b v∧Blk v Y 52 #[.int .i64 3,.int .i64 seq,.int .i64 day,.int .i64 (tb:Int),.slice none 0 0,.int .i64 kk,.int .i64 kn,.string kt,.int .i64 0,.int .i64 0,.int .i64 0,.string ⟨#[]⟩]) ?_ ?_
     ·exact⟨by first|exact hU3|exact hU3.below ai,by first|exact hY3|exact hY3.below (B:=u3.heap.size) ai hY3.lt⟩
     rintro u9 ⟨hU9,hY9⟩
     clear y3 d0
     exact Fb
    ·have mM:decide ((0:Int)<(r8:Int))=true:=by simp;omega
     have Ml:decide (0<r8)=true:=by simp;omega
     go_wp2_with fail
     (with_reducible refine(aK g b (recs.length:Int) _ hU3.tape omA omA).mono ?_)
     rintro e u4 ⟨r9,rfl,hr9,hk4,hg4⟩
     have yB:r9<recs.length:=by rcases hr9 with h|h<;>omega
     have hU4:=hU3.call hk4 hg4
     have hY4:=bJ hY3 hg4 omA
     have Fw:u2.grownBy u4 (some g):=au hg3 hg4
     obtain⟨b5,o5,he5,hb5,hc5⟩:=(ag.grown HRE.out.1 Fw (qY HUP.out.1 hgB)).get yB
     subst he5
     obtain⟨e0,_,_⟩:=Rcd.cells3 hc5
     have eO:=HRO.out recs[r9] (lgm yB)
     have hsl:=ag.grown (HRE.out.2 recs[r9] (lgm yB)).1 Fw (qY (HUP.out.2 recs[r9] (lgm yB)).1 hgB)
     obtain⟨⟨QA,qc,fM,QS,qs,qsq,qd⟩,hq⟩:∃x:Rcd,recs[r9]=x:=⟨_,rfl⟩
     rw[hq]at e0 eO hsl
     simp only at e0 eO hsl
     obtain⟨b6,o6,hQe,hb6,hc6⟩:=hsl.get eO
     obtain⟨v0,v1,v2⟩:=Val.cells3 hc6
     simp only[Nat.zero_mul,Nat.add_zero]at v0 v1 v2
     obtain⟨⟨k2,n2,t2'⟩,hv⟩:∃v:Val,fM[0]=v:=⟨_,rfl⟩
     rw[hv]at v0 v1 v2
     simp only at v0 v1 v2
     subst hQe
     have Fq:decide (0<fM.length)=true:=by simpa using eO
     have Ud:decide (r9<recs.length)=true:=by simpa using yB
     have y5:=hY4.cell 5
     have y6:=hY4.cell 6
     have y7:=hY4.cell 7
     have yf:=hY4.frozen
     simp only[gE3]at y5 y6 y7
     clear hk3 hk4 hc5 hq hsl hc6 hv y3 d0
     go_upto_region 16 with (fail)
     refine ah (P:=fun u=>Code.wp _ _ _ _ u) (R:=fun v=>aC W g b v∧Blk v Y 52 #[.int .i64 3,.int .i64 seq,.int .i64 day,.int .i64 (tb:Int),.slice none 0 0,.int .i64 k2,.int .i64 n2,.string t2',.int .i64 0,.int .i64 0,.int .i64 0,.string ⟨#[]⟩]) ⟨((hU4.far hY j3 iZ _).far hY j3 iZ _).far hY j3 iZ _,Blk.eq (((hY4.aH 5 _).aH 6 _).aH 7 _) spA⟩ ?_
     clear y5 y6 y7 yf hU4 hY4 Fw v0 v1 v2 e0 hU3 hY3 hU2 hY2
     obtain⟨kk,rfl⟩:∃kk:Int,kk=k2:=⟨_,rfl⟩
     obtain⟨kn,rfl⟩:∃kn:Int,kn=n2:=⟨_,rfl⟩
     obtain⟨kt,rfl⟩:∃kt:ByteArray,kt=t2':=⟨_,rfl⟩
     rintro u9 ⟨hU9,hY9⟩
     exact Fb)
end Go.Proofs.YtjidligipoldeaaGreat
