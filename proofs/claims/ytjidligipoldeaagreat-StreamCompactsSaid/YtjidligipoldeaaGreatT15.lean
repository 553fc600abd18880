/-
  Contracts and plain laws of this seat, part 15.
-/
import Derived.Test.YtjidligipoldeaaGreatT5
import Derived.Test.YtjidligipoldeaaGreatT7
set_option linter.unusedVariables false
set_option linter.unusedSimpArgs false
set_option maxRecDepth 100000
set_option maxHeartbeats 16000000
namespace Go.Proofs.YtjidligipoldeaaGreat
open Go.RowKit
theorem aw{P:Prop}(h:P:=by simp[results,Tryz.results64,go_sem,Col.cells,c0,c1,c2,c3,c4,c5,c6,hlr,hlx,hxr]):P:=h
theorem LM(nm:ByteArray)(A:Option Addr)(c n:Nat)(ae:List Col)(er rt:Int)(w:World)(hc:ag w w.heap.size Col.cells 7 A ae)(hn:ae.length=n)(hl:n≤1000000):
 Calls Tryz.prog 108 #[.agg #[.string nm,.slice A n c,.int .i64 er,.int .i64 rt]] w fun e w' =>
  (∃A' c' out,e=.returned (.slice A' out.length c')∧out.length≤c'∧out.length≤n∧ag w' w'.heap.size intCells 1 A' out∧(∀a,A'=some a→w.heap.size≤a.block))∧Below w.heap.size w w':=by
 subst hn
 obtain⟨i0,hi0,hz0,hz1,hz2⟩:=info_parts kY
 have HT:=qh hc
 clear hc
 go_enter Tryz.func108,Tryz.ntmps108
 go_upto_region 1 with (fail)
 refine ah (P:=fun u=>Code.wp _ _ _ _ u) (R:=fun u=>Blk u w.heap.size 61 #[.string nm,.slice A ae.length c,.int .i64 er,.int .i64 rt]∧Below w.heap.size w u) ⟨?_,?_⟩ ?_
 ·exact Blk.new _ _ _
 ·exact ai
 rintro W ⟨hB,hbW⟩
 have hzW:=hB.lt
 have HB:=qh hB
 clear hB
 go_wp2_with fail
 go_loopw [3,4] (fun vo vi wr =>∃(m:Nat) (l:List Int),m≤ae.length∧vi=.int .i64 m∧aj wr W.heap.size 3 intCells 1 vo l∧l.length≤m∧Below W.heap.size W wr) (fun _ vi _=>ae.length-(intOf vi).toNat)
 case atStart=>exact⟨0,[],Nat.zero_le _,rfl,aj.nil,by simp,Below.refl _ _⟩
 case round =>
  obtain⟨m,l,hm,rfl,hown,hll,hbr⟩:=hrel
  have hwz:=hbr.size
  have hxr:=aa hbW hbr hbW.size
  obtain⟨q0,q1,q2,q3⟩:=Tab.blk (HB.out.below hbr hzW)
  by_cases hlt:m<ae.length
  ·obtain⟨b5,o5,rfl,hb5,hc5⟩:=(HT.out.below hxr).get hlt
   obtain⟨h0,h1,h2,h3,h4,h5,h6⟩:=Col.dW hc5
   clear hc5
   by_cases hx:ae[m].ns=⟨#[]⟩
   ·by_cases hy:ae[m].refs=⟨#[]⟩
    ·rw[hx]at h2
     rw[hy]at h3
     go_wp2_with fail
     go_roundw
     case rel=>exact⟨m+1,l,by omega,by go_num,hown,by omega,hbr⟩
     case measure=>exact meA
    ·rw[hx]at h2
     obtain⟨t,ht⟩:∃t,ae[m].refs=t:=⟨_,rfl⟩
     rw[ht]at h3 hy
     have he:=oD hy
     clear hy ht hx
     have HOWN:=qh hown
     have hrow:=hown.row
     clear hown
     go_upto_region 6 with (fail)
     have hO2:=qh (HOWN.out.alloc (.cells (intCells m).toArray 3))
     go_wp2_with (at_builtin;go_must ((refine aO _ rfl (.tmp 28) (.tmp 30) 22 rfl 3 i0 _ intCells 1 8 Tryz.underlying22 hi0 hz0 hz1 hz2 rfl omA bE dZ W.heap.size u3 l rfl hO2.out _ _ _ [(m:Int)] rfl rfl (Blk.one (enc:=intCells) (x:=(m:Int)) (Blk.new' rfl) spA) smA mxA smA ?_);intro v' w3 hown' hg' hat';have HOWN':=qh hown';clear hown';have hbel:Below W.heap.size W w3:=Below.grown (hbr.alloc omA _) hg' smA hrow))
     go_roundw
     case rel=>exact⟨m+1,l ++ [(m:Int)],by omega,by go_num,HOWN'.out,by simp;omega,hbel⟩
     case measure=>exact meA
   ·obtain⟨t,ht⟩:∃t,ae[m].ns=t:=⟨_,rfl⟩
    rw[ht]at h2 hx
    have he:=oD hx
    clear hx ht
    have HOWN:=qh hown
    have hrow:=hown.row
    clear hown
    go_upto_region 6 with (fail)
    have hO2:=qh (HOWN.out.alloc (.cells (intCells m).toArray 3))
    go_wp2_with (at_builtin;go_must ((refine aO _ rfl (.tmp 28) (.tmp 30) 22 rfl 3 i0 _ intCells 1 8 Tryz.underlying22 hi0 hz0 hz1 hz2 rfl omA bE dZ W.heap.size u3 l rfl hO2.out _ _ _ [(m:Int)] rfl rfl (Blk.one (enc:=intCells) (x:=(m:Int)) (Blk.new' rfl) spA) smA mxA smA ?_);intro v' w3 hown' hg' hat';have HOWN':=qh hown';clear hown';have hbel:Below W.heap.size W w3:=Below.grown (hbr.alloc omA _) hg' smA hrow))
    go_roundw
    case rel=>exact⟨m+1,l ++ [(m:Int)],by omega,by go_num,HOWN'.out,by simp;omega,hbel⟩
    case measure=>exact meA
  ·have hlt':decide (m<ae.length)=false:=by simpa using hlt
   obtain⟨A9,c9,rfl,hc9,hs9,hA9⟩:=hown.slice bE
   go_wp2_with fail
   go_ret
   exact⟨⟨A9,c9,l,rfl,hc9,by omega,hs9,fun a ha=>by have:=(hA9 a ha).1;have:=hbW.size;omega⟩,hxr⟩
def gN(B:Nat)(A:Option Addr)(ts:List Tab):Prop:=(∀a,A=some a→B≤a.block) ∧ ∀t∈ts,(∀a,t.A=some a→B≤a.block) ∧ ∀x∈t.ae,∀a,x.A=some a→B≤a.block
theorem aF.grown{w w':World}{A:Option Addr}{ts:List Tab}{B g:Nat}(h:aF w w.heap.size A ts)(hu:gN B A ts)(hgB:g<B)(hg:w.grownBy w' (some g)):aF w' w'.heap.size A ts:=by
 refine⟨ag.grown h.1 hg fun a ha e =>?_,fun t ht=>⟨ag.grown (h.2 t ht).1 hg fun a ha e =>?_,fun x hx=>ag.grown ((h.2 t ht).2 x hx) hg fun a ha e =>?_⟩⟩
 ·have:=hu.1 a ha
  injection e with e
  omega
 ·have:=(hu.2 t ht).1 a ha
  injection e with e
  omega
 ·have:=(hu.2 t ht).2 x hx a ha
  injection e with e
  omega
structure Gq (x:Col):Prop where
 own:x.own=[]
 A:x.A=none
 cap:x.cap=0
 name:x.name.size≤1000000
 ns:x.ns.size≤1000000
 refs:x.refs.size≤1000000
theorem yh{P:Prop}(h:P:=by
 go_wp2_with fail
 refine bodyPost_ret (v:= .agg (Col.cells ⟨nx,1,⟨#[112,101,114,115,111,110]⟩,⟨#[]⟩,none,0,[],0,0⟩).toArray) aw rfl ⟨⟨nx,1,⟨#[112,101,114,115,111,110]⟩,⟨#[]⟩,none,0,[],0,0⟩,rfl,⟨rfl,rfl,rfl,show nx.size≤1000000 by omega,show (⟨#[112,101,114,115,111,110]⟩:ByteArray).size≤1000000 by decide,show (⟨#[]⟩:ByteArray).size≤1000000 by decide⟩,?_,?_⟩
 ·repeat(first|with_reducible exact HK4.out|(with_reducible refine aP.alloc ?_ _)|(with_reducible refine aP.far ?_ smA smA _))
 ·repeat(first|with_reducible exact BB|(with_reducible refine bP ?_ _)|(with_reducible refine ak ?_ (.inr smA) _))):P:=h
theorem yg{P:Prop}(h:P:=by
 go_wp2_with fail
 refine bodyPost_ret (v:= .agg (Col.cells ⟨nx,2,⟨#[109,97,105,108]⟩,⟨#[]⟩,none,0,[],0,0⟩).toArray) aw rfl ⟨⟨nx,2,⟨#[109,97,105,108]⟩,⟨#[]⟩,none,0,[],0,0⟩,rfl,⟨rfl,rfl,rfl,show nx.size≤1000000 by omega,show (⟨#[109,97,105,108]⟩:ByteArray).size≤1000000 by decide,show (⟨#[]⟩:ByteArray).size≤1000000 by decide⟩,?_,?_⟩
 ·repeat(first|with_reducible exact HK4.out|(with_reducible refine aP.alloc ?_ _)|(with_reducible refine aP.far ?_ smA smA _))
 ·repeat(first|with_reducible exact BB|(with_reducible refine bP ?_ _)|(with_reducible refine ak ?_ (.inr smA) _))):P:=h
theorem uk{P:Prop}(h:P:=by
 go_wp2_with fail
 refine bodyPost_ret (v:= .agg (Col.cells ⟨nx,kk,⟨#[]⟩,⟨#[]⟩,none,0,[],0,0⟩).toArray) aw rfl ⟨⟨nx,kk,⟨#[]⟩,⟨#[]⟩,none,0,[],0,0⟩,rfl,⟨rfl,rfl,rfl,show nx.size≤1000000 by omega,show (⟨#[]⟩:ByteArray).size≤1000000 by decide,show (⟨#[]⟩:ByteArray).size≤1000000 by decide⟩,?_,?_⟩
 ·repeat(first|with_reducible exact HK4.out|(with_reducible refine aP.alloc ?_ _)|(with_reducible refine aP.far ?_ smA smA _))
 ·repeat(first|with_reducible exact BB|(with_reducible refine bP ?_ _)|(with_reducible refine ak ?_ (.inr smA) _))):P:=h
theorem Co(g b B:Nat)(A:Option Addr)(c m:Nat)(ts:List Tab)(tv:Array Value)(i:Nat)(w:World)(hk:aP w g b)(ht:aF w w.heap.size A ts)(hm:ts.length=m)(hup:gN B A ts)(hgB:g<B)(hl:m≤1000)(eP:∀t∈ts,0<t.ae.length)(hsn:aM ts)(hi:i<10)(htv:∃(nm:ByteArray) (s:Value) (e r:Int),s.oneCell'=true∧tv=#[.string nm,s,.int .i64 e,.int .i64 r]):
 Calls Tryz.prog 64 #[.pointer (some ⟨g,0,none⟩),.agg #[.slice A m c,.slice none 0 0,.slice none 0 0,.slice none 0 0,.slice none 0 0,.slice none 0 0,.slice none 0 0,.slice none 0 0],.agg tv,.int .i64 i] w fun e w' =>
  ∃x:Col,e=.returned (.agg x.cells.toArray)∧Gq x∧aP w' g b∧w.grownBy w' (some g):=by
 subst hm
 obtain⟨nm,sv,te,tr,hsv,rfl⟩:=htv
 have HK:=qh hk
 have HT:=qh ht
 have HU:=qh hup
 have HC:=qh eP
 have HS:=qh hsn
 have hgl:=hk.ltg
 have hbl:=hk.lt
 clear hk ht hup eP hsn
 go_enter Tryz.func64,Tryz.ntmps64
 go_upto_region 1 with (fail)
 refine ah (P:=fun u=>Code.wp _ _ _ _ u) (R:=fun u=>Blk u w.heap.size 33 #[.slice A ts.length c,.slice none 0 0,.slice none 0 0,.slice none 0 0,.slice none 0 0,.slice none 0 0,.slice none 0 0,.slice none 0 0]∧Blk u (w.heap.size+2) 109 #[.string ⟨#[]⟩,.int .i64 (0),.string ⟨#[]⟩,.string ⟨#[]⟩,.slice none 0 0,.int .i64 0,.int .i64 0]∧Below w.heap.size w u) ⟨?_,?_,?_⟩ ?_
 ·exact((Blk.new _ _ _).alloc _).alloc _
 ·exact Blk.new' spA
 ·exact ai
 rintro W ⟨hB,hR,hbW⟩
 have hzW:=hR.lt
 have hgW:w.grownBy W (some g):=aZ _ hbW
 have HB:=qh hB
 have HR:=qh hR
 have HKW:=qh (HK.out.below hbW)
 clear hB hR hbW
 go_wp2_with fail
 (with_reducible refine(Ah ⟨#[99]⟩ i hi (by decide) _).mono ?_)
 rintro e w1 ⟨rfl,hb1⟩
 have hs1:=hb1.size
 have HK1:=qh (HKW.out.below hb1)
 have HB1:=qh (HB.out.below hb1 omA)
 have HR1:=qh (HR.out.below hb1 omA)
 have hg1:w.grownBy w1 (some g):=au hgW (aZ _ hb1)
 obtain⟨nx,hnx⟩:∃nx:ByteArray,(⟨#[99]⟩++⟨#[yO i]⟩:ByteArray)=nx:=⟨_,rfl⟩
 have Xe:nx.size≤2:=by rw[←hnx,ByteArray.size_append];exact Nat.le_refl 2
 rw[hnx]
 clear hnx hb1 HKW HB HR
 go_wp2_with fail
 (with_reducible refine(aK g b 2 _ HK1.out omA omA).mono ?_)
 rintro e w2 ⟨r2,rfl,hr2,hk2,hg2⟩
 have hs2:=hg2.size
 have HB2:=qh (HB1.out.grown hg2 inA)
 have HR2:=qh (HR1.out.grown hg2 inA)
 have hgx2:w.grownBy w2 (some g):=au hg1 hg2
 have HK2:=qh hk2
 clear hk2 hg2 hg1 HK1 HB1 HR1
 have Zx:r2<2:=by rcases hr2 with h|h<;>omega
 by_cases hi0:i=0
 ·subst hi0
  go_wp2_with fail
  (with_reducible refine(aK g b 4 _ (HK2.out.alloc _) omA omA).mono ?_)
  rintro e w3 ⟨r3,rfl,hr3,hk3,hg3⟩
  have hs3:=hg3.size
  simp at hs3
  have HX3:=qh ((Blk.new w2 109 #[.string nx,.int .i64 (1+(r2:Int)),.string ⟨#[]⟩,.string ⟨#[]⟩,.slice none 0 0,.int .i64 0,.int .i64 0]).grown hg3 inA)
  have x3:=HX3.out.cell 1
  have f3:=HX3.out.frozen 1
  have HB3:=qh ((HB2.out.alloc _).grown hg3 inA)
  have HR3:=qh ((HR2.out.alloc _).grown hg3 inA)
  have XB:w.grownBy w3 (some g):=au (bP hgx2 _) hg3
  have HK3:=qh hk3
  clear hk3 hg3
  have Bt:r3<4:=by rcases hr3 with h|h<;>omega
  go_wp2_with fail
  obtain⟨kk,hkk,zG⟩:∃kk:Int,1+(r3:Int) / 3=kk∧(kk=1∨kk=2):=⟨_,rfl,by omega⟩
  rw[hkk]
  clear hkk x3
  (with_reducible refine(aK g b 5 _ (HK3.out.far smA smA _) omA omA).mono ?_)
  rintro e w4 ⟨r4,rfl,hr4,hk4,hg4⟩
  have hX:=HX3.out.aH 1 (.int .i64 kk)
  simp only[List.setIfInBounds_toArray,List.set_cons_zero,List.set_cons_succ]at hX
  have HX4:=qh (hX.grown hg4 inA)
  have HB4:=qh ((HB3.out.far smA _).grown hg4 inA)
  have HR4:=qh ((HR3.out.far smA _).grown hg4 inA)
  have BB:w.grownBy w4 (some g):=au (ak XB (.inr smA) _) hg4
  have HK4:=qh hk4
  have hs4:=hg4.size
  simp at hs4
  clear hk4 hg4 hX
  obtain⟨x0,x1,x2,x3,x4,x5,x6⟩:=Col.blk HX4.out
  obtain⟨c0,c1,c2,c3,c4,c5,c6⟩:=Col.blk HR4.out
  have d0:=HR4.out.frozen 0
  have d1:=HR4.out.frozen 1
  have d2:=HR4.out.frozen 2
  have d3:=HR4.out.frozen 3
  have d4:=HR4.out.frozen 4
  have d5:=HR4.out.frozen 5
  have d6:=HR4.out.frozen 6
  have e2:=HX4.out.frozen 2
  have b0:=HB4.out.cell 0
  simp at b0
  have hlx:w2.heap.size<w4.heap.size:=by omega
  have hlr:w.heap.size+1+1<w4.heap.size:=by omega
  have hlb:w.heap.size<w4.heap.size:=by omega
  have hxr:w2.heap.size≠w.heap.size+1+1:=by omega
  by_cases h4:r4=0
  ·subst h4
   rcases zG with rfl|rfl
   ·exact yh
   ·exact yg
  ·have h4':((r4:Int) == 0)=false:=by simp;omega
   by_cases ht0:ts.length=0
   ·have ht0':((ts.length:Int) == 0)=true:=by simp[ht0]
    rcases zG with rfl|rfl
    ·exact yh
    ·exact yg
   ·have ht0':((ts.length:Int) == 0)=false:=by simpa using ht0
    have ht1':decide (0<ts.length)=true:=by simp;omega
    by_cases h42:r4≤2
    ·have Sd:decide ((r4:Int)≤2)=true:=by simp;omega
     exact uk
    ·have Sd:decide ((r4:Int)≤2)=false:=by simp;omega
     exact uk
 ·have OM:((i:Int) == 0)=false:=by simp;omega
  have UK:decide (0<(i:Int))=true:=by simp;omega
  have UJ:decide (0<i)=true:=by simp;omega
  obtain⟨kk,hkk,zG⟩:∃kk:Int,1+(r2:Int)=kk∧(kk=1∨kk=2):=⟨_,rfl,by omega⟩
  go_wp2_with fail
  clear hkk
  (with_reducible refine(aK g b 5 _ (HK2.out.alloc _) omA omA).mono ?_)
  rintro e w4 ⟨r4,rfl,hr4,hk4,hg4⟩
  have hs4:=hg4.size
  simp at hs4
  have HX4:=qh ((Blk.new w2 109 #[.string nx,.int .i64 (kk),.string ⟨#[]⟩,.string ⟨#[]⟩,.slice none 0 0,.int .i64 0,.int .i64 0]).grown hg4 inA)
  have HB4:=qh ((HB2.out.alloc _).grown hg4 inA)
  have HR4:=qh ((HR2.out.alloc _).grown hg4 inA)
  have BB:w.grownBy w4 (some g):=au (bP hgx2 _) hg4
  have HK4:=qh hk4
  clear hk4 hg4
  obtain⟨x0,x1,x2,x3,x4,x5,x6⟩:=Col.blk HX4.out
  obtain⟨c0,c1,c2,c3,c4,c5,c6⟩:=Col.blk HR4.out
  have d0:=HR4.out.frozen 0
  have d1:=HR4.out.frozen 1
  have d2:=HR4.out.frozen 2
  have d3:=HR4.out.frozen 3
  have d4:=HR4.out.frozen 4
  have d5:=HR4.out.frozen 5
  have d6:=HR4.out.frozen 6
  have e2:=HX4.out.frozen 2
  have b0:=HB4.out.cell 0
  simp at b0
  have hlx:w2.heap.size<w4.heap.size:=by omega
  have hlr:w.heap.size+1+1<w4.heap.size:=by omega
  have hlb:w.heap.size<w4.heap.size:=by omega
  have hxr:w2.heap.size≠w.heap.size+1+1:=by omega
  by_cases h4:r4=0
  ·subst h4
   rcases zG with rfl|rfl
   ·exact yh
   ·exact yg
  ·have h4':((r4:Int) == 0)=false:=by simp;omega
   by_cases h42:r4≤2
   ·have Sd:decide ((r4:Int)≤2)=true:=by simp;omega
    by_cases ht0:ts.length=0
    ·have ht1':decide (0<ts.length)=false:=by simp[ht0]
     exact uk
    ·have ht1':decide (0<ts.length)=true:=by simp;omega
     have hT4:aF w4 w4.heap.size A ts:=HT.out.grown HU.out hgB BB
     obtain⟨bA,oA,rfl,hbA,_⟩:=hT4.1.get (show 0<ts.length by omega)
     clear hT4
     go_upto_region 8 with (fail)
     go_cut [11] (fun v wc =>∃(X r:Nat) (hr:r<ts.length),v=.pointer (some ⟨X,0,none⟩)∧w2.heap.size<X∧Blk wc X 61 (Tab.cells ts[r]).toArray∧Blk wc w2.heap.size 109 #[.string nx,.int .i64 (kk),.string ⟨#[]⟩,.string ⟨#[]⟩,.slice none 0 0,.int .i64 0,.int .i64 0]∧Blk wc (w.heap.size+2) 109 #[.string ⟨#[]⟩,.int .i64 (0),.string ⟨#[]⟩,.string ⟨#[]⟩,.slice none 0 0,.int .i64 0,.int .i64 0]∧aP wc g b∧w.grownBy wc (some g))
     case first =>
      refine aJ (S:=(fun w'=>w'.cell? ⟨w.heap.size,0,none⟩=some (.slice (some ⟨bA,oA,none⟩) ts.length c))) [10] krA b0 (fun hHeld =>?_)
      refine tkT 0 hHeld ?_
      refine tkT 1 hHeld ?_
      refine tkT 2 hHeld ?_
      refine tkT 3 hHeld ?_
      refine tkT 4 hHeld ?_
      refine tkT 5 hHeld ?_
      refine r2T 6 9 (fun K hK =>?_) (fun K hK =>?_)
      ·go_simp
       (go_at_call 26;(with_reducible refine(aK g b (ts.length:Int) _ ?_ omA omA).mono ?_))
       focus (first|with_reducible exact HK4.out|with_reducible exact HK4.out.alloc _|(with_reducible refine aP.below (w:=w4) HK4.out ?_;exact ai))
       rintro e w5 ⟨r5,rfl,hr5,hk5,hg5⟩
       have vC:w4.grownBy w5 (some g):=au (aZ _ ai) hg5
       have IC:r5<ts.length:=by rcases hr5 with h|h<;>omega
       obtain⟨b5,o5,he5,hb5,hc5⟩:=(HT.out.grown HU.out hgB (au BB vC)).1.get IC
       injection he5 with he5
       injection he5 with he6 he7
       subst he6 he7
       obtain⟨t0,t1,t2,t3⟩:=Tab.fV hc5
       have hs5:=hg5.size
       have b5':=(HB4.out.grown vC inA).cell 0
       simp at b5'
       have hz5:=vC.size
       have HX5:=qh (HX4.out.grown vC inA)
       have HR5:=qh (HR4.out.grown vC inA)
       have HK5:=qh hk5
       have OO:=au BB vC
       have hw5:w.heap.size<w5.heap.size:=by omega
       clear hk5 hr5 hc5
       skip
       go_wp2_with fail
       refine hK.out _ _ _ ?_ (fun hHeld =>?_)
       ·go_simp
       clear hK K
       refine tkT 7 hHeld ?_
       refine r2T 8 9 (fun K hK =>?_) (fun K hK =>?_)
       ·go_simp
        refine hK.out _ _ _ ?_ (fun hHeld =>?_)
        ·go_simp
        clear hK K
        refine r1T 9 (fun K hK =>?_)
        go_simp
        refine hK.out _ _ _ ?_ (fun hHeld =>?_)
        ·go_simp
        clear hK K
        refine rzT 10 (fun K hK =>?_)
        go_simp
        refine hK.out _ _ _ ?_
        clear hK K
        refine aI krA ?_ _
        clear hHeld
        go_wp2_with fail
        go_meet
        refine⟨w5.heap.size,r5,IC,rfl,by omega,?_,?_,?_,?_,?_⟩
        ·first
          | exact Blk.new' rfl
          | (with_reducible refine Blk.eq ((((HN5.out.aH 0 _).aH 1 _).aH 2 _).aH 3 _) ?_;simp[Tab.cells])
        ·repeat(first|with_reducible exact HX5.out|with_reducible refine Blk.alloc ?_ _|with_reducible refine Blk.far ?_ (show _≠_ by simp;omega) _)
        ·repeat(first|with_reducible exact HR5.out|with_reducible refine Blk.alloc ?_ _|with_reducible refine Blk.far ?_ (show _≠_ by simp;omega) _)
        ·repeat(first|with_reducible exact HK5.out|with_reducible refine aP.alloc ?_ _|with_reducible refine aP.far ?_ (show _≠_ by simp;omega) (show _≠_ by simp;omega) _)
        ·repeat(first|with_reducible exact OO|with_reducible refine bP ?_ _|with_reducible refine ak ?_ (.inr smA) _)
       ·go_simp
        refine hK.out _ _ _ ?_ (fun hHeld =>?_)
        ·go_simp
        clear hK K
        refine r1T 8 (fun K hK =>?_)
        go_simp
        refine hK.out _ _ _ ?_ (fun hHeld =>?_)
        ·go_simp
        clear hK K
        refine rzT 10 (fun K hK =>?_)
        go_simp
        refine hK.out _ _ _ ?_
        clear hK K
        refine aI krA ?_ _
        clear hHeld
        go_wp2_with fail
        go_meet
        refine⟨w5.heap.size,r5,IC,rfl,by omega,?_,?_,?_,?_,?_⟩
        ·first
          | exact Blk.new' rfl
          | (with_reducible refine Blk.eq ((((HN5.out.aH 0 _).aH 1 _).aH 2 _).aH 3 _) ?_;simp[Tab.cells])
        ·repeat(first|with_reducible exact HX5.out|with_reducible refine Blk.alloc ?_ _|with_reducible refine Blk.far ?_ (show _≠_ by simp;omega) _)
        ·repeat(first|with_reducible exact HR5.out|with_reducible refine Blk.alloc ?_ _|with_reducible refine Blk.far ?_ (show _≠_ by simp;omega) _)
        ·repeat(first|with_reducible exact HK5.out|with_reducible refine aP.alloc ?_ _|with_reducible refine aP.far ?_ (show _≠_ by simp;omega) (show _≠_ by simp;omega) _)
        ·repeat(first|with_reducible exact OO|with_reducible refine bP ?_ _|with_reducible refine ak ?_ (.inr smA) _)
      ·go_simp
       refine hK.out _ _ _ ?_ (fun hHeld =>?_)
       ·go_simp
       clear hK K
       refine r1T 6 (fun K hK =>?_)
       go_simp
       (go_at_call 26;(with_reducible refine(aK g b (ts.length:Int) _ ?_ omA omA).mono ?_))
       focus (first|with_reducible exact HK4.out|with_reducible exact HK4.out.alloc _|(with_reducible refine aP.below (w:=w4) HK4.out ?_;exact ai))
       rintro e w5 ⟨r5,rfl,hr5,hk5,hg5⟩
       have vC:w4.grownBy w5 (some g):=au (aZ _ ai) hg5
       have IC:r5<ts.length:=by rcases hr5 with h|h<;>omega
       obtain⟨b5,o5,he5,hb5,hc5⟩:=(HT.out.grown HU.out hgB (au BB vC)).1.get IC
       injection he5 with he5
       injection he5 with he6 he7
       subst he6 he7
       obtain⟨t0,t1,t2,t3⟩:=Tab.fV hc5
       have hs5:=hg5.size
       have b5':=(HB4.out.grown vC inA).cell 0
       simp at b5'
       have hz5:=vC.size
       have HX5:=qh (HX4.out.grown vC inA)
       have HR5:=qh (HR4.out.grown vC inA)
       have HK5:=qh hk5
       have OO:=au BB vC
       have hw5:w.heap.size<w5.heap.size:=by omega
       clear hk5 hr5 hc5
       have hN5:Blk w5 w4.heap.size 61 #[.string ⟨#[]⟩,.slice none 0 0,.int .i64 0,.int .i64 0]:=Blk.grown (by first|exact Blk.new' rfl|exact(Blk.new' rfl).drew|exact Blk.new' spA) hg5 inA
       have n0:=hN5.frozen 0
       have n1:=hN5.frozen 1
       have n2:=hN5.frozen 2
       have n3:=hN5.frozen 3
       obtain⟨m0,m1,m2,m3⟩:=Tab.blk hN5
       have HN5:=qh hN5
       clear hN5
       go_wp2_with fail
       refine hK.out _ _ _ ?_ (fun hHeld =>?_)
       ·go_simp
       clear hK K
       refine tkT 7 hHeld ?_
       refine r1T 8 (fun K hK =>?_)
       go_simp
       refine hK.out _ _ _ ?_ (fun hHeld =>?_)
       ·go_simp
       clear hK K
       refine rzT 10 (fun K hK =>?_)
       go_simp
       refine hK.out _ _ _ ?_
       clear hK K
       refine aI krA ?_ _
       clear hHeld
       go_wp2_with fail
       go_meet
       refine⟨w4.heap.size,r5,IC,rfl,by omega,?_,?_,?_,?_,?_⟩
       ·first
         | exact Blk.new' rfl
         | (with_reducible refine Blk.eq ((((HN5.out.aH 0 _).aH 1 _).aH 2 _).aH 3 _) ?_;simp[Tab.cells])
       ·repeat(first|with_reducible exact HX5.out|with_reducible refine Blk.alloc ?_ _|with_reducible refine Blk.far ?_ (show _≠_ by simp;omega) _)
       ·repeat(first|with_reducible exact HR5.out|with_reducible refine Blk.alloc ?_ _|with_reducible refine Blk.far ?_ (show _≠_ by simp;omega) _)
       ·repeat(first|with_reducible exact HK5.out|with_reducible refine aP.alloc ?_ _|with_reducible refine aP.far ?_ (show _≠_ by simp;omega) (show _≠_ by simp;omega) _)
       ·repeat(first|with_reducible exact OO|with_reducible refine bP ?_ _|with_reducible refine ak ?_ (.inr smA) _)
     case rest =>
      obtain⟨X,r,hr,rfl,hX2,hBX,hBC,hBR,hKc,hgc⟩:=hcut
      have hTc:aF wc wc.heap.size (some ⟨bA,oA,none⟩) ts:=HT.out.grown HU.out hgB hgc
      have hcl:=HC.out ts[r] (lgm hr)
      obtain⟨cb,co,hce,hcb,hcc⟩:=(hTc.2 ts[r] (lgm hr)).1.get hcl
      obtain⟨z0,z1,_⟩:=Col.dW hcc
      have aaf:cb<w.heap.size:=by
       obtain⟨cb',co',OT,aag,_⟩:=(HT.out.2 ts[r] (lgm hr)).1.get hcl
       rw[hce]at OT
       injection OT with OT
       injection OT with aae _
       omega
      have hcw:cb≠w2.heap.size:=by omega
      have hXw:X≠w2.heap.size:=by omega
      have q0:=hBX.cell 0
      have q1:=hBX.cell 1
      simp only[Tab.cells,gE3,hce]at q0 q1
      simp only[Nat.zero_mul,Nat.add_zero]at z1
      have hsn:=HS.out.tabs ts[r] (lgm hr)
      have hsr:=hsn.name
      obtain⟨tn,htn⟩:∃n,ts[r].name=n:=⟨_,rfl⟩
      obtain⟨cs,hcs⟩:∃l,ts[r].ae=l:=⟨_,rfl⟩
      obtain⟨ty,hty⟩:∃t:Int,ts[r].ae[0].ty=t:=⟨_,rfl⟩
      rw[hty]at z1
      rw[htn]at q0 hsr
      obtain⟨cl,ML⟩:∃n:Nat,ts[r].ae.length=n:=⟨_,rfl⟩
      rw[ML]at q1 hcl
      obtain⟨x0,x1,x2,x3,x4,x5,x6⟩:=Col.blk hBC
      have e1:=hBC.frozen 1
      have e3:=hBC.frozen 3
      have hlx:=hBC.lt
      have hlr:=hBR.lt
      have hcl':decide (0<cl)=true:=by simpa using hcl
      have HBC:=qh hBC
      have HBR:=qh hBR
      have HKC:=qh hKc
      clear hBX hBC hBR hKc hTc hce hcc z0 htn hcs hty ML hsn hcb
      go_upto_region 9 with (fail)
      refine aJ (S:=(fun w'=>w'.cell? ⟨X,0,none⟩=some (.string tn)∧w'.cell? ⟨X,1,none⟩=some (.slice (some ⟨cb,co,none⟩) cl ts[r].cap)∧w'.cell? ⟨cb,co+1,none⟩=some (.int .i64 ty))) [] krA ⟨q0,q1,z1⟩ (fun hHeld =>?_)
      refine tkT 0 hHeld ?_
      refine tkT 1 hHeld ?_
      refine tkT 2 hHeld ?_
      refine tkT 3 hHeld ?_
      refine tkT 4 hHeld ?_
      refine tkT 5 hHeld ?_
      refine tkT 6 hHeld ?_
      refine tkT 7 hHeld ?_
      refine r1T 8 (fun K hK =>?_)
      go_simp
      refine hK.out _ _ _ ⟨?_,?_,?_⟩ (fun hHeld =>?_)
      iterate 3 (go_simp)
      clear hK K
      refine tkT 9 hHeld ?_
      refine r1T 10 (fun K hK =>?_)
      go_simp
      refine hK.out _ _ _ ⟨?_,?_,?_⟩ (fun hHeld =>?_)
      iterate 3 (go_simp)
      clear hK K
      refine aI krA ?_ _
      clear hHeld q0 q1 z1 x0 x1 x2 x3 x4 x5 x6 e1 e3
      go_upto_region 10 with (fail)
      refine ah (P:=fun u=>Code.wp _ _ _ _ u) (R:=fun u=>Blk u w2.heap.size 109 #[.string nx,.int .i64 (ty),.string ⟨#[]⟩,.string tn,.slice none 0 0,.int .i64 0,.int .i64 0]∧Blk u (w.heap.size+2) 109 #[.string ⟨#[]⟩,.int .i64 (0),.string ⟨#[]⟩,.string ⟨#[]⟩,.slice none 0 0,.int .i64 0,.int .i64 0]∧aP u g b∧w.grownBy u (some g)) ⟨?_,?_,?_,?_⟩ ?_
      ·refine Blk.drew ?_
       refine Blk.eq ((HBC.out.aH 3 _).aH 1 _) ?_
       simp
      ·exact((HBR.out.far smA _).far smA _).drew
      ·exact((HKC.out.far smA smA _).far smA smA _).below (brf.drew)
      ·exact sK (ak (ak hgc (.inr smA) _) (.inr smA) _)
      clear HBC HBR HKC
      rintro U ⟨hBU,hRU,hKU,hGU⟩
      obtain⟨x0,x1,x2,x3,x4,x5,x6⟩:=Col.blk hBU
      obtain⟨c0,c1,c2,c3,c4,c5,c6⟩:=Col.blk hRU
      have d0:=hRU.frozen 0
      have d1:=hRU.frozen 1
      have d2:=hRU.frozen 2
      have d3:=hRU.frozen 3
      have d4:=hRU.frozen 4
      have d5:=hRU.frozen 5
      have d6:=hRU.frozen 6
      have hlx:=hBU.lt
      have hlr:=hRU.lt
      have HKU:=qh hKU
      clear hBU hRU hKU
      go_wp2_with fail
      refine bodyPost_ret (v:= .agg (Col.cells ⟨nx,ty,⟨#[]⟩,tn,none,0,[],0,0⟩).toArray) aw rfl ⟨⟨nx,ty,⟨#[]⟩,tn,none,0,[],0,0⟩,rfl,⟨rfl,rfl,rfl,show nx.size≤1000000 by omega,show (⟨#[]⟩:ByteArray).size≤1000000 by decide,hsr⟩,?_,?_⟩
      ·repeat(first|with_reducible exact HKU.out|(with_reducible refine aP.alloc ?_ _)|(with_reducible refine aP.far ?_ smA smA _))
      ·repeat(first|with_reducible exact hGU|(with_reducible refine bP ?_ _)|(with_reducible refine ak ?_ (.inr smA) _))
   ·have Sd:decide ((r4:Int)≤2)=false:=by simp;omega
    exact uk
end Go.Proofs.YtjidligipoldeaaGreat
