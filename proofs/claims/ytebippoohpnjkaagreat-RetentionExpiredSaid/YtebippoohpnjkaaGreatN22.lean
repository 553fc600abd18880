/-
  Contracts and plain laws of this seat, part 22.
-/
import Derived.Test.YtebippoohpnjkaaGreatN20
set_option linter.unusedVariables false
set_option linter.unusedSimpArgs false
set_option maxRecDepth 100000
set_option maxHeartbeats 16000000
namespace Go.Proofs.YtebippoohpnjkaaGreat
open Go.RowKit
theorem JW{P:Prop}(h:P:=by
 (
 refine aT (S:=(fun _=>True)) [] krA trivial (fun hHeld =>?_)
 refine tkT 0 hHeld ?_
 refine tkT 1 hHeld ?_
 refine tkT 2 hHeld ?_
 refine tkT 3 hHeld ?_
 refine tkT 4 hHeld ?_
 refine tkT 5 hHeld ?_
 refine tkT 6 hHeld ?_
 refine r1T 7 (fun K hK =>?_)
 (refine ak _ rfl (.tmp 117) (.tmp 121) 41 rfl 27 i0 _ aF.cells 8 72 Tryz.underlying41 hi0 hz0 hz1 hz2 rfl omA aX gH w.heap.size (.slice (some ⟨b1,0,none⟩) r1 cap) (l.take r1) rfl (by first|exact HT3.out|exact HT3.out.drew) _ _ _ (l.drop (r1+1)) rfl spA (by first|exact hcut|exact(hcut).next av) smA mxA (by first|omega|(simp;omega)) ?_;intro v6 w6 hown' hg' hat')
 have hg6:w3.grownBy w6 (some b1):=by first|exact hg'|exact ax (ay _ brf.drew) hg'
 obtain⟨A6,c6,hv6,_,_⟩:=hown'.form
 obtain⟨n6,hn6⟩:∃n6,n6=(l.take r1++l.drop (r1+1)).length:=⟨_,rfl⟩
 rw[←hn6]at hv6
 subst hv6
 have HN6:=qh hn6
 clear hn6
 have HOWN':=qh hown'
 have HG6:=qh hg6
 clear hown' hg' hat' hg6
 refine hK.out _ _ _ trivial (fun hHeld =>?_)
 clear hK K
 refine tkT 8 hHeld ?_
 refine bf krA ?_ _
 clear hHeld
 go_wp2_with fail
 go_ret
 have hgw:w.grownBy w6 (some g):=dJ hG3 HG6.out (aV hbb (o:= 0) (n:= 0) (c:= 0))
 have hn6:=HN6.out
 subst hn6
 exact⟨A6,c6,l.take r1++l.drop (r1+1),rfl,⟨HOWN'.out.mono hbase,fun x hx=>by
  have hin:x∈l:=by
   rcases List.mem_append.1 hx with h|h
   ·exact List.mem_of_mem_take h
   ·exact List.mem_of_mem_drop h
  exact HE.out _ hgw x hin⟩,by simp;omega,HK3.out.oC HG6.out (fun e=>by injection e with e;omega) (fun e=>by injection e with e;omega),hgw⟩)):P:=h
structure zO (w:World) (base:Nat) (A:Option Addr) (c:Nat) (o:List aF):Prop where
 own:aB w base 27 aF.cells 8 (.slice A o.length c) o
 each:∀x∈o,(aB w base 85 Ident.cells 4 (.slice x.A x.own.length x.cap) x.own∧x.own.length≤1000000) ∧ 0≤x.record∧x.record≤1073741824
section
variable {w w':World}{base c N:Nat}{A:Option Addr}{o:List aF}
theorem fe.out(h:fe w base A c o N):zO w base A c o:=⟨h.own,fun x hx=>⟨⟨(h.each x hx).1,by have:=(h.each x hx).2;omega⟩,by have:=(h.each x hx).2;omega⟩⟩
theorem zO.kept{g:Nat}(h:zO w base A c o)(hg:w.grownBy w' (some g))(hb:g<base):zO w' base A c o:=
 ⟨h.own.kept hg fun q hq e=>by have:=h.own.row q hq;injection e with e;omega,fun x hx=>⟨⟨(h.each x hx).1.1.kept hg fun q hq e=>by have:=(h.each x hx).1.1.row q hq;injection e with e;omega,(h.each x hx).1.2⟩,(h.each x hx).2⟩⟩
theorem zO.read(h:zO w base A c o):ah w w.heap.size aF.cells 8 A o∧Ed w w.heap.size o:=
 ⟨bJ aX h.own,fun x hx=>⟨bJ bM (h.each x hx).1.1,(h.each x hx).1.2⟩⟩
end
theorem FX:27≠85:=by decide
theorem zO.set1{w:World}{base B b1 cap r1 j p:Nat}{l:List aF}{u:Value}(h:aB w B 27 aF.cells 8 (.slice (some ⟨b1,0,none⟩) l.length cap) l)(hE:∀x∈l,(aB w base 85 Ident.cells 4 (.slice x.A x.own.length x.cap) x.own∧x.own.length≤1000000) ∧ 0≤x.record∧x.record≤1073741824)(hb:base≤B)(hi:r1<l.length)(x:aF)(hj:j<8)(ho:p=r1*8+j)(hx:aF.cells x=(aF.cells l[r1]).set j u)(hown:(aB w base 85 Ident.cells 4 (.slice x.A x.own.length x.cap) x.own∧x.own.length≤1000000) ∧ 0≤x.record∧x.record≤1073741824):
 zO (w.setCell ⟨b1,p,none⟩ u) base (some ⟨b1,0,none⟩) cap (l.set r1 x):=by
 obtain⟨cs,hc⟩:=h.typ (q:=b1) rfl
 have h1:=h.gp aX rfl hi x hj ho hx
 refine⟨by simpa using h1.mono hb,fun y hy =>?_⟩
 rcases List.mem_or_eq_of_mem_set hy with h2|rfl
 ·exact⟨⟨(hE y h2).1.1.di hc FX _,(hE y h2).1.2⟩,(hE y h2).2⟩
 ·exact⟨⟨hown.1.1.di hc FX _,hown.1.2⟩,hown.2⟩
theorem JH{α:Type}{enc:α→List Value}{s c base g m:Nat}{w:World}{e:TypeId}{l:List α}(hk:∀x,(enc x).length=s)(h:aB w base e enc s (.slice (some ⟨g,0,none⟩) l.length c) l)(hm:m≤l.length):aB w base e enc s (.slice (some ⟨g,0,none⟩) m c) (l.take m):=by
 have hml:(l.take m).length=m:=by rw[List.length_take];omega
 have hf:(l.take m).flatMap enc=(l.flatMap enc).take (m*s):=by
  have h1:l.flatMap enc=(l.take m).flatMap enc++(l.drop m).flatMap enc:=by rw[←List.flatMap_append,List.take_append_drop]
  rw[h1,List.take_left' (by rw[dD hk,hml])]
 refine⟨by rw[dD hk],?_⟩
 rcases h.2 with ⟨h1,_⟩|⟨g',cap,cur,hv,hb,hg,hn,hmx,hs,ht⟩
 ·cases h1
 ·injection hv with h1 h2 h3
  injection h1 with h1
  injection h1 with h1
  subst h1 h3
  refine .inr ⟨g,c,cur,by rw[hml],hb,hg,by rw[hml];omega,hmx,hs,?_⟩
  rw[hml,hf,←ht,List.take_take,Nat.min_eq_left (Nat.mul_le_mul_right _ hm)]
def gK(w:World)(base g b n:Nat)(e:Ending)(w':World):Prop:= ∃A' c' out,e=.returned (.slice A' out.length c')∧zO w' base A' c' out∧out.length≤n+1∧aO w' g b∧w.grownBy w' (some g)
theorem gK.set{w w4:World}{base g b b1 cap r1 j p:Nat}{l:List aF}{u:Value}(h:aB w4 w.heap.size 27 aF.cells 8 (.slice (some ⟨b1,0,none⟩) l.length cap) l)(hE:∀x∈l,(aB w4 base 85 Ident.cells 4 (.slice x.A x.own.length x.cap) x.own∧x.own.length≤1000000) ∧ 0≤x.record∧x.record≤1073741824)(hb:base≤w.heap.size)(hi:r1<l.length)(hk:aO w4 g b)(hg:w.grownBy w4 (some g))(hgl:g<w.heap.size)(hbl:b<w.heap.size)(x:aF)(hj:j<8)(ho:p=r1*8+j)(hx:aF.cells x=(aF.cells l[r1]).set j u)(hown:(aB w4 base 85 Ident.cells 4 (.slice x.A x.own.length x.cap) x.own∧x.own.length≤1000000) ∧ 0≤x.record∧x.record≤1073741824):
 gK w base g b l.length (.returned (.slice (some ⟨b1,0,none⟩) l.length cap)) (w4.setCell ⟨b1,p,none⟩ u):=by
 have hb1:=h.row b1 rfl
 exact⟨_,cap,l.set r1 x,by simp,zO.set1 h hE hb hi x hj ho hx hown,by simp,hk.far (by show g≠b1;omega) (by show b≠b1;omega) _,ai hg (.inr (by show w.heap.size≤b1;exact hb1)) _⟩
theorem gK.Tu{w w3:World}{base g b b1 cap r1 j p:Nat}{l:List aF}{u:Value}{ob:Obj}(h:aB w3 w.heap.size 27 aF.cells 8 (.slice (some ⟨b1,0,none⟩) l.length cap) l)(hE:∀x∈l,(aB w3 base 85 Ident.cells 4 (.slice x.A x.own.length x.cap) x.own∧x.own.length≤1000000) ∧ 0≤x.record∧x.record≤1073741824)(hb:base≤w.heap.size)(hi:r1<l.length)(hk:aO w3 g b)(hg:w.grownBy w3 (some g))(hgl:g<w.heap.size)(hbl:b<w.heap.size)(x:aF)(hj:j<8)(ho:p=r1*8+j)(hx:aF.cells x=(aF.cells l[r1]).set j u)(hown:(aB ((w3.setCell ⟨b1,p,none⟩ u).alloc ob) base 85 Ident.cells 4 (.slice x.A x.own.length x.cap) x.own∧x.own.length≤1000000) ∧ 0≤x.record∧x.record≤1073741824):
 gK w base g b l.length (.returned (.slice (some ⟨b1,0,none⟩) l.length cap)) ((w3.setCell ⟨b1,p,none⟩ u).alloc ob):=by
 have hb1:=h.row b1 rfl
 obtain⟨cs,hc⟩:=h.typ (q:=b1) rfl
 have h1:=h.gp aX rfl hi x hj ho hx
 refine⟨some ⟨b1,0,none⟩,cap,l.set r1 x,by simp,⟨by simpa using(h1.alloc ob).mono hb,fun y hy =>?_⟩,by simp,(hk.far (by show g≠b1;omega) (by show b≠b1;omega) _).alloc _,aU (ai hg (.inr (by show w.heap.size≤b1;exact hb1)) _) _⟩
 rcases List.mem_or_eq_of_mem_set hy with h2|rfl
 ·exact⟨⟨((hE y h2).1.1.di hc FX _).alloc _,(hE y h2).1.2⟩,(hE y h2).2⟩
 ·exact hown
theorem wC(g b base N:Nat)(A:Option Addr)(c n:Nat)(l:List aF)(w:World)(hk:aO w g b)(hl:fe w base A c l N)(hgb:g<base)(hbase:base≤w.heap.size)(hln:l.length=n)(hn:n≤100000):
 Calls Tryz.prog 10 #[.pointer (some ⟨g,0,none⟩),.slice A n c] w (gK w base g b n):=by
 subst hln
 obtain⟨i0,hi0,hz0,hz1,hz2⟩:=info_parts Ab
 have hgl:=hk.ltg
 have hbl:=hk.lt
 have HK:=qh hk
 have HI:=qh hl
 have HE:Hid (∀v,w.grownBy v (some g)→∀x∈l,(aB v base 85 Ident.cells 4 (.slice x.A x.own.length x.cap) x.own∧x.own.length≤1000000) ∧ 0≤x.record∧x.record≤1073741824):=qh fun v hv=>(hl.out.kept hv hgb).each
 have HL:=qh hl.read.1
 clear hk hl
 by_cases h0:l.length=0
 ·have h0':((l.length:Int) == 0)=true:=by rw[h0];rfl
  clear hi0 hz0 hz1 hz2
  go_enter Tryz.func10,Tryz.ntmps10
  go_wp2
  go_ret
  refine⟨_,_,[⟨0,0,0,0,0,none,0,[],false,false⟩],rfl,⟨(aB.one (Blk.new' rfl) nlr aX).mono hbase,fun x hx =>?_⟩,by simp,HK.out.alloc _,bu av _⟩
  obtain rfl:=List.mem_singleton.1 hx
  exact⟨⟨aB.nil,Nat.zero_le _⟩,by decide,by decide⟩
 ·have h0':((l.length:Int) == 0)=false:=by rw[beq_eq_false_iff_ne];omega
  have hA:∃b5 o5,A=some ⟨b5,o5,none⟩:=by
   obtain⟨b5,o5,h,_⟩:=HL.out omA
   exact⟨b5,o5,h⟩
  go_enter Tryz.func10,Tryz.ntmps10
  go_upto_region 3 with (fail)
  go_wp2_with ((at_builtin;go_must (refine aJ _ rfl (.tmp 13) (.tmp 14) 41 rfl 27 i0 _ aF.cells 8 72 Tryz.underlying41 hi0 hz0 hz1 hz2 rfl omA aX gH w.heap.size (.slice (some ⟨w.heap.size,0,none⟩) 0 0) [] rfl (aB.empty (Blk.new' rfl) nlr) _ _ _ l rfl rfl (HL.out.next av) smA mxA spA ?_);intro v' w1 hown' hg' hat';have hbel:Below w.heap.size w w1:=Below.grown av hg' spA (aV nlr);rw[List.nil_append]at hown';obtain⟨b1,cap,rfl,hbb⟩:=hat'.elim (fun h=>hown'.eG h) (fun h=>hown'.eG h);have HOWN':=qh hown';clear hown'))
  have HK1:Hid (aO w1 g b):=HK.out.below hbel
  have hG1:w.grownBy w1 (some g):=bu hbel _
  clear hg' hat' HK HL
  with_reducible refine(aD g b (l.length:Int) _ HK1.out omA omA).mono ?_
  rintro e w2 ⟨r1,rfl,hr1,hk2,hg2⟩
  have hr1':r1<l.length:=by rcases hr1 with h|h<;>omega
  have HO2:=qh (HOWN'.out.grown hg2 omA)
  have hG2:=ax hG1 hg2
  have HK2:=qh hk2
  clear HOWN' hg2 hk2 HK1 hG1 hr1
  go_wp2_with fail
  with_reducible refine(aD g b 10 _ HK2.out omA omA).mono ?_
  rintro e w3 ⟨r2,rfl,hr2,hk3,hg3⟩
  have hr2':r2<10:=by rcases hr2 with h|h<;>omega
  have HO3:=qh (HO2.out.grown hg3 omA)
  have hG3:=ax hG2 hg3
  have HK3:=qh hk3
  have hb1:=HO3.out.qw
  have hz3:=hG3.size
  clear HO2 hg3 hk3 HK2 hG2 hr2
  rcases(show r2=0∨r2=1∨r2=2∨r2=3∨r2=4∨r2=5∨r2=6∨r2=7∨r2=8∨r2=9 by omega) with rfl|rfl|rfl|rfl|rfl|rfl|rfl|rfl|rfl|rfl
  ·go_wp2_with fail
   refine(aD g b 5 _ HK3.out omA omA).mono ?_
   rintro e w4 ⟨r3,rfl,hr3,hk4,hg4⟩
   have eT:r3<5:=by rcases hr3 with h|h<;>omega
   have HO4:=qh (HO3.out.grown hg4 omA)
   have hG4:=ax hG3 hg4
   have HK4:=qh hk4
   obtain⟨a0,a1,a2,a3,a4,a5,a6,a7⟩:=aF.iQ (b:=b1) (o:=r1*8) (x:=l[r1]) (fun j u hu=>HO4.out.gW aX hr1' hu)
   have hfz:∀j,(w4).frozen? ⟨b1,j,none⟩=false:=fun j=>HO4.out.frz j
   clear hk4 hr3 hg4
   go_wp2_with fail
   go_ret
   exact gK.set HO4.out (HE.out _ hG4) hbase hr1' HK4.out hG4 hgl hbl ⟨(r3:Int)-1,l[r1].col,l[r1].seq,l[r1].record,l[r1].day,l[r1].A,l[r1].cap,l[r1].own,l[r1].null,l[r1].last⟩ (j:= 0) omA rfl rfl (HE.out _ hG4 l[r1] (lgm hr1'))
  ·go_wp2_with fail
   refine(aD g b 6 _ HK3.out omA omA).mono ?_
   rintro e w4 ⟨r3,rfl,hr3,hk4,hg4⟩
   have eT:r3<6:=by rcases hr3 with h|h<;>omega
   have HO4:=qh (HO3.out.grown hg4 omA)
   have hG4:=ax hG3 hg4
   have HK4:=qh hk4
   obtain⟨a0,a1,a2,a3,a4,a5,a6,a7⟩:=aF.iQ (b:=b1) (o:=r1*8) (x:=l[r1]) (fun j u hu=>HO4.out.gW aX hr1' hu)
   have hfz:∀j,(w4).frozen? ⟨b1,j,none⟩=false:=fun j=>HO4.out.frz j
   clear hk4 hr3 hg4
   go_wp2_with fail
   go_ret
   exact gK.set HO4.out (HE.out _ hG4) hbase hr1' HK4.out hG4 hgl hbl ⟨l[r1].table,(r3:Int)-1,l[r1].seq,l[r1].record,l[r1].day,l[r1].A,l[r1].cap,l[r1].own,l[r1].null,l[r1].last⟩ (j:= 1) omA rfl rfl (HE.out _ hG4 l[r1] (lgm hr1'))
  ·go_wp2_with fail
   refine(aD g b 4 _ (HK3.out.alloc _) omA omA).mono ?_
   rintro e w4 ⟨r3,rfl,hr3,hk4,hg4⟩
   have eT:r3<4:=by rcases hr3 with h|h<;>omega
   have HO4:=qh ((HO3.out.alloc _).grown hg4 omA)
   have hG4:=ax (aU hG3 _) hg4
   have HK4:=qh hk4
   have hS4:=Blk.grown (Blk.new _ _ _) hg4 (fun e=>by injection e with e;have:=hG3.size;omega)
   have hz4:=hS4.lt
   obtain⟨a0,a1,a2,a3,a4,a5,a6,a7⟩:=aF.iQ (b:=b1) (o:=r1*8) (x:=l[r1]) (fun j u hu=>HO4.out.gW aX hr1' hu)
   have hfz:∀j,(w4).frozen? ⟨b1,j,none⟩=false:=fun j=>HO4.out.frz j
   clear hk4 hr3
   obtain⟨z,hz⟩:∃z:Int,w4.cell? ⟨w3.heap.size,r3,none⟩=some (.int .i64 z):=(by rw[hS4.cell];rcases(show r3=0∨r3=1∨r3=2∨r3=3 by omega) with rfl|rfl|rfl|rfl<;>exact⟨_,rfl⟩)
   clear hS4 hg4
   go_wp2_with fail
   go_ret
   exact gK.set HO4.out (HE.out _ hG4) hbase hr1' HK4.out hG4 hgl hbl ⟨l[r1].table,l[r1].col,z,l[r1].record,l[r1].day,l[r1].A,l[r1].cap,l[r1].own,l[r1].null,l[r1].last⟩ (j:= 2) omA rfl rfl (HE.out _ hG4 l[r1] (lgm hr1'))
  ·go_wp2_with fail
   refine(aD g b 4 _ (HK3.out.alloc _) omA omA).mono ?_
   rintro e w4 ⟨r3,rfl,hr3,hk4,hg4⟩
   have eT:r3<4:=by rcases hr3 with h|h<;>omega
   have HO4:=qh ((HO3.out.alloc _).grown hg4 omA)
   have hG4:=ax (aU hG3 _) hg4
   have HK4:=qh hk4
   have hS4:=Blk.grown (Blk.new _ _ _) hg4 (fun e=>by injection e with e;have:=hG3.size;omega)
   have hz4:=hS4.lt
   obtain⟨a0,a1,a2,a3,a4,a5,a6,a7⟩:=aF.iQ (b:=b1) (o:=r1*8) (x:=l[r1]) (fun j u hu=>HO4.out.gW aX hr1' hu)
   have hfz:∀j,(w4).frozen? ⟨b1,j,none⟩=false:=fun j=>HO4.out.frz j
   clear hk4 hr3
   obtain⟨z,hz,hzr⟩:∃z:Int,w4.cell? ⟨w3.heap.size,r3,none⟩=some (.int .i64 z) ∧ 0≤z∧z≤1073741824:=by
    rw[hS4.cell]
    rcases(show r3=0∨r3=1∨r3=2∨r3=3 by omega) with rfl|rfl|rfl|rfl
    all_goals exact⟨_,rfl,by decide,by decide⟩
   clear hS4 hg4
   have HZR:=qh hzr
   clear hzr
   go_wp2_with fail
   go_ret
   exact gK.set HO4.out (HE.out _ hG4) hbase hr1' HK4.out hG4 hgl hbl ⟨l[r1].table,l[r1].col,l[r1].seq,z,l[r1].day,l[r1].A,l[r1].cap,l[r1].own,l[r1].null,l[r1].last⟩ (j:= 3) omA rfl rfl ⟨(HE.out _ hG4 l[r1] (lgm hr1')).1,HZR.out⟩
  ·go_wp2_with fail
   refine(aD g b 3 _ (HK3.out.alloc _) omA omA).mono ?_
   rintro e w4 ⟨r3,rfl,hr3,hk4,hg4⟩
   have eT:r3<3:=by rcases hr3 with h|h<;>omega
   have HO4:=qh ((HO3.out.alloc _).grown hg4 omA)
   have hG4:=ax (aU hG3 _) hg4
   have HK4:=qh hk4
   have hS4:=Blk.grown (Blk.new _ _ _) hg4 (fun e=>by injection e with e;have:=hG3.size;omega)
   have hz4:=hS4.lt
   obtain⟨a0,a1,a2,a3,a4,a5,a6,a7⟩:=aF.iQ (b:=b1) (o:=r1*8) (x:=l[r1]) (fun j u hu=>HO4.out.gW aX hr1' hu)
   have hfz:∀j,(w4).frozen? ⟨b1,j,none⟩=false:=fun j=>HO4.out.frz j
   clear hk4 hr3
   obtain⟨z,hz⟩:∃z:Int,w4.cell? ⟨w3.heap.size,r3,none⟩=some (.int .i64 z):=by
    rw[hS4.cell]
    rcases(show r3=0∨r3=1∨r3=2 by omega) with rfl|rfl|rfl
    all_goals exact⟨_,rfl⟩
   clear hS4 hg4
   go_wp2_with fail
   go_ret
   exact gK.set HO4.out (HE.out _ hG4) hbase hr1' HK4.out hG4 hgl hbl ⟨l[r1].table,l[r1].col,l[r1].seq,l[r1].record,z,l[r1].A,l[r1].cap,l[r1].own,l[r1].null,l[r1].last⟩ (j:= 4) omA rfl rfl (HE.out _ hG4 l[r1] (lgm hr1'))
  ·obtain⟨ii,hii,zy,zx,zw⟩:=info_parts Ac
   have hown3:=(HE.out _ hG3 _ (lgm hr1')).1
   have SH:=qh (bJ bM hown3.1)
   have TW:=(HI.out.each _ (lgm hr1')).2
   clear hown3
   obtain⟨a0,a1,a2,a3,a4,a5,a6,a7⟩:=aF.iQ (b:=b1) (o:=r1*8) (x:=l[r1]) (fun j u hu=>HO3.out.gW aX hr1' hu)
   have hfz:∀j,(w3).frozen? ⟨b1,j,none⟩=false:=fun j=>HO3.out.frz j
   obtain⟨oA,hoA⟩:∃a,l[r1].A=a:=⟨_,rfl⟩
   obtain⟨oc,hoc⟩:∃a,l[r1].cap=a:=⟨_,rfl⟩
   obtain⟨ol,hol⟩:∃a,l[r1].own=a:=⟨_,rfl⟩
   rw[hoA,hoc,hol]at a5
   rw[hol]at TW
   have Vh:Hid (ah w3 w3.heap.size Ident.cells 4 oA ol):=qh (by rw[←hoA,←hol];exact SH.out)
   clear hoA hoc hol SH
   go_wp2_with ((at_builtin;go_must (refine aJ _ rfl (.tmp 84) (.tmp 88) 25 rfl 85 ii _ Ident.cells 4 48 Tryz.underlying25 hii zy zx zw rfl omA bM eH w3.heap.size (.slice (some ⟨w3.heap.size,0,none⟩) 0 0) [] rfl (aB.empty (Blk.new' rfl) nlr) _ _ _ ol rfl rfl (Vh.out.next av) smA mxA spA ?_);intro v5 w5 hown5 hg5 RO;have DW:Below w3.heap.size w3 w5:=Below.grown av hg5 spA (aV nlr);rw[List.nil_append]at hown5;clear hg5 RO))
   with_reducible refine(wD g b w5 (HK3.out.below DW)).mono ?_
   rintro e w6 ⟨⟨xs,⟨xk,xn,xt⟩⟩,rfl,_,_,hk6,hg6⟩
   have hz5:=DW.size
   have HK6:=qh hk6
   have hown6:=hown5.kept hg6 (fun q hq e=>by have:=hown5.row q hq;injection e with e;omega)
   have hG6:=ax hG3 (ax (ay _ DW) hg6)
   have HO6:=qh ((HO3.out.below DW nlr).grown hg6 omA)
   have hz6:=hg6.size
   clear hg6 hk6 hown5 DW HO3 HK3 a0 a1 a2 a3 a4 a5 a6 a7 hfz
   go_wp2_with ((at_builtin;go_must (refine aJ _ rfl (.tmp 89) (.tmp 92) 25 rfl 85 ii _ Ident.cells 4 48 Tryz.underlying25 hii zy zx zw rfl omA bM eH w3.heap.size v5 ol rfl (hown6.alloc _) _ _ _ [⟨xs,⟨xk,xn,xt⟩⟩] rfl rfl (Blk.one (enc:=Ident.cells) (x:=⟨xs,⟨xk,xn,xt⟩⟩) (Blk.new' rfl) spA) smA mxA smA ?_);intro v7 w7 Kt hg7 O1;obtain⟨A7,c7,hv7,_,_⟩:=Kt.form;obtain⟨n7,hn7⟩:∃n7,n7=(ol ++ [(⟨xs,⟨xk,xn,xt⟩⟩:Ident)]).length:=⟨_,rfl⟩;rw[←hn7]at hv7;subst hv7;have HN7:=qh hn7;have SE:=qh Kt;clear hn7 Kt;have HO7:Hid (aB w7 w.heap.size 27 aF.cells 8 (.slice (some ⟨b1,0,none⟩) l.length cap) l):=qh ((HO6.out.alloc _).kept hg7 (HO6.out.dH hown6 FX));have HK7:Hid (aO w7 g b):=qh ((HK6.out.alloc _).oC hg7 (fun e=>by have:=hown6.row g e.symm;omega) (fun e=>by have:=hown6.row b e.symm;omega));have HG7:Hid (w.grownBy w7 (some g)):=qh (dJ (aU hG6 _) hg7 (fun q hq=>by have:=hown6.row q hq;omega));have hfz:∀j,w7.frozen? ⟨b1,j,none⟩=false:=(fun j=>HO7.out.frz j);obtain⟨a0,a1,a2,a3,a4,a5,a6,a7⟩:=aF.iQ (b:=b1) (o:=r1*8) (x:=l[r1]) (fun j u hu=>HO7.out.gW aX hr1' hu);clear hg7 O1))
   go_ret
   have hn:=HN7.out
   subst hn
   exact gK.set HO7.out (HE.out _ HG7.out) hbase hr1' HK7.out HG7.out hgl hbl ⟨l[r1].table,l[r1].col,l[r1].seq,l[r1].record,l[r1].day,A7,c7,ol ++ [⟨xs,⟨xk,xn,xt⟩⟩],l[r1].null,l[r1].last⟩ (j:= 5) omA rfl rfl ⟨⟨SE.out.mono omA,by simp;omega⟩,(HE.out _ HG7.out l[r1] (lgm hr1')).2⟩
  ·obtain⟨a0,a1,a2,a3,a4,a5,a6,a7⟩:=aF.iQ (b:=b1) (o:=r1*8) (x:=l[r1]) (fun j u hu=>HO3.out.gW aX hr1' hu)
   have hfz:∀j,(w3).frozen? ⟨b1,j,none⟩=false:=fun j=>HO3.out.frz j
   go_wp2_with fail
   go_ret
   exact gK.Tu HO3.out (HE.out _ hG3) hbase hr1' HK3.out hG3 hgl hbl ⟨l[r1].table,l[r1].col,l[r1].seq,l[r1].record,l[r1].day,some ⟨w3.heap.size,0,none⟩,1,[⟨⟨#[112,101,114,115,111,110]⟩,⟨0,0,⟨#[]⟩⟩⟩],l[r1].null,l[r1].last⟩ (j:= 5) omA rfl rfl ⟨⟨(aB.one (enc:=Ident.cells) (Blk.new' spA) nlr bM).mono omA,by simp⟩,(HE.out _ hG3 l[r1] (lgm hr1')).2⟩
  ·obtain⟨a0,a1,a2,a3,a4,a5,a6,a7⟩:=aF.iQ (b:=b1) (o:=r1*8) (x:=l[r1]) (fun j u hu=>HO3.out.gW aX hr1' hu)
   have hfz:∀j,(w3).frozen? ⟨b1,j,none⟩=false:=fun j=>HO3.out.frz j
   go_wp2_with fail
   go_ret
   exact gK.set HO3.out (HE.out _ hG3) hbase hr1' HK3.out hG3 hgl hbl ⟨l[r1].table,l[r1].col,l[r1].seq,l[r1].record,l[r1].day,l[r1].A,l[r1].cap,l[r1].own,l[r1].null,!l[r1].last⟩ (j:= 7) omA rfl rfl (HE.out _ hG3 l[r1] (lgm hr1'))
  ·have hcap:=iK HO3.out
   have HT3:Hid (aB w3 w.heap.size 27 aF.cells 8 (.slice (some ⟨b1,0,none⟩) r1 cap) (l.take r1)):=qh (JH aX HO3.out omA)
   have hrc:r1≤cap:=by omega
   have Wj:r1+1≤cap:=by omega
   have hjw:IntKind.i64.wrap ((r1:Int)+1)=((r1+1:Nat):Int):=by rw[show (r1:Int)+1=((r1+1:Nat):Int) by omega];exact IntWalk.i64_in _ omA
   have hi1:(r1:Int)≤(r1:Int)+1:=by omega
   have hi2:(0:Int)≤(r1:Int)+1:=by omega
   have hi3:(r1:Int)+1≤(l.length:Int):=by omega
   have HR3:=qh (bJ aX HO3.out)
   go_upto_region 25 with (fail)
   by_cases hcm:cap=r1+1
   ·have hcut:ah w3 w3.heap.size aF.cells 8 (some ⟨b1,0,none⟩) (l.drop (r1+1)):=by
     rw[List.drop_eq_nil_of_le omA]
     exact ah.nil
    have hcm':=eq_true hcm
    clear hcm
    exact JW
   ·have hcut:ah w3 w3.heap.size aF.cells 8 (some ⟨b1,(r1+1)*8,none⟩) (l.drop (r1+1)):=by have h:=HR3.out.cut (c:=cap) (r1+1) omA;rw[if_neg hcm]at h;simpa using h
    exact JW
  ·obtain⟨a0,a1,a2,a3,a4,a5,a6,a7⟩:=aF.iQ (b:=b1) (o:=r1*8) (x:=l[r1]) (fun j u hu=>HO3.out.gW aX hr1' hu)
   have hfz:∀j,(w3).frozen? ⟨b1,j,none⟩=false:=fun j=>HO3.out.frz j
   go_wp2_with (at_builtin;go_must (refine aJ _ rfl (.tmp 25) (.tmp 30) 41 rfl 27 i0 _ aF.cells 8 72 Tryz.underlying41 hi0 hz0 hz1 hz2 rfl omA aX gH w.heap.size (.slice (some ⟨b1,0,none⟩) l.length cap) l rfl (HO3.out.alloc _) _ _ _ [l[r1]] rfl rfl (Blk.one (enc:=aF.cells) (x:=l[r1]) (Blk.new' spA) spA) smA mxA (by have:=hG3.size;simp at this ⊢;omega) ?_);intro v' w6 hown' hg' hat';obtain⟨A6,c6,rfl,_,_⟩:=hown'.form;have HOWN':=qh hown';clear hown';have HK6:Hid (aO w6 g b):=(HK3.out.alloc _).oC hg' (dx omA) (dx omA);have HG6:Hid (w.grownBy w6 (some g)):=dJ (aU hG3 _) hg' (aV hbb))
   go_ret
   refine⟨A6,c6,l ++ [l[r1]],congrArg (fun n=>Ending.returned (Value.slice A6 n c6)) spA,⟨HOWN'.out.mono hbase,fun x hx =>?_⟩,by simp,HK6.out,HG6.out⟩
   have hin:x∈l:=by
    rcases List.mem_append.1 hx with hx|hx
    ·exact hx
    ·obtain rfl:=List.mem_singleton.1 hx
     exact lgm hr1'
   exact HE.out _ HG6.out x hin
end Go.Proofs.YtebippoohpnjkaaGreat
