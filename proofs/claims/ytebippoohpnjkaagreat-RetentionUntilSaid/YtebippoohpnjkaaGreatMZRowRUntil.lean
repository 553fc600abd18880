/-
  For every list of numbers, every owned version and every day the law RetentionUntil returns true: Until and Kept agree with the definitions for built and arbitrary versions. No condition.
-/
import Derived.Test.YtebippoohpnjkaaGreatM27
import Derived.Test.YtebippoohpnjkaaGreatM21
import Derived.Test.YtebippoohpnjkaaGreatM16
import Derived.Test.YtebippoohpnjkaaGreatM20
import Derived.Test.YtebippoohpnjkaaGreatM22
import Derived.Test.YtebippoohpnjkaaGreatM2
import Derived.Test.YtebippoohpnjkaaGreatM44
import Derived.Test.YtebippoohpnjkaaGreatM45
import Derived.Test.YtebippoohpnjkaaGreatM42
import Derived.Test.YtebippoohpnjkaaGreatRows
import Derived.WalkKit
import Derived.ProofKit
import Derived.OpenShut
import Derived.ShutString
import Derived.ChangeOld
import Derived.Below
import Derived.SizedLaws
import Derived.Deep.Slices
import Derived.Deep.Strs
import Derived.Lib.SmallJoins
set_option linter.unusedVariables false
set_option linter.unusedSimpArgs false
set_option maxRecDepth 100000
set_option maxHeartbeats 16000000
namespace Go.Proofs.YtebippoohpnjkaaGreat
open Go.RowKit Go
structure vC (W u:World) (g b:Nat):Prop where
 tape:aP u g b
 grown:W.grownBy u (some g)
theorem vC.call {W u v:World} {g b:Nat} (h:vC W u g b) (hg:u.grownBy v (some g)) (hk:aP v g b):vC W v g b:=⟨hk,aC h.grown hg⟩
theorem vC.below {W u v:World} {g b:Nat} (h:vC W u g b) (hb:Below u.heap.size u v):vC W v g b:=⟨h.tape.below hb,aC h.grown (ax _ hb)⟩
def KS (W:World) (g p:Nat) (x:aG) (cat:Value):Nat→Value→World→Prop
 | 0,v,_=>v = .pointer (some ⟨g,0,none⟩)
 | 1,v,_=>v=cat
 | 2,v,_=>v = .pointer (some ⟨g,0,none⟩)
 | 3,v,_=>v=cat
 | 4,v,u => ∃ LA lc l,v = .slice LA l.length lc∧l.length ≤ 8∧tC u W.heap.size LA lc l
 | 5,v,u => ∃ OA oc o,v = .slice OA o.length oc∧ek u W.heap.size OA oc o 64
 | 6,v,u => ∃ OA oc o,v = .slice OA o.length oc∧AQ u W.heap.size OA oc o∧o.length ≤ 65
 | 7,v,_=>v = .agg #[.int .i64 x.table, .int .i64 x.col, .int .i64 x.seq, .int .i64 x.record, .int .i64 x.day, .slice x.A x.own.length x.cap, .bool x.null, .bool x.last]
 | 8,v,u => ∃ B,W.heap.size≤B∧v = .slice (some ⟨B,0,none⟩) 1 1∧Blk u B 27 (aG.cells x).toArray
 | _,_,_=>True
theorem KS.grown {W u u':World} {g p:Nat} {x:aG} {cat:Value} {k:Nat} {v:Value} (h:KS W g p x cat k v u) (hg:u.grownBy u' (some g)) (hgW:g<W.heap.size):KS W g p x cat k v u':=by
 rcases k with _|_|_|_|_|_|_|_|_|k
 ·exact h
 ·exact h
 ·exact h
 ·exact h
 ·obtain ⟨a,c,l,h1,h2,h3⟩:=h;exact ⟨a,c,l,h1,h2,h3.kept hg hgW⟩
 ·obtain ⟨a,c,l,h1,h3⟩:=h;exact ⟨a,c,l,h1,h3.kept hg hgW⟩
 ·obtain ⟨a,c,l,h1,h3,h2⟩:=h;exact ⟨a,c,l,h1,h3.kept hg hgW,h2⟩
 ·exact h
 ·obtain ⟨B,h1,h2,h3⟩:=h;exact ⟨B,h1,h2,h3.grown hg (fun e=>by injection e with e;omega)⟩
 ·trivial
def Pj (W:World) (g b:Nat) (x:aG) (v:Value) (u:World):Prop := ∃ A' c' l,v = .slice A' l.length c'∧l.length ≤ 100∧vC W u g b∧ah u u.heap.size aG.cells 8 A' l ∧ ∀ a,A'=some a→W.heap.size≤a.block
theorem BJ (A:Option Addr) (c:Nat) (t:List Int) (x:aG) (day:Int) (w:World) (hl:ah w w.heap.size intCells 1 A t) (hn:t.length * 8 ≤ 140737488351232) :
 Calls Tryz.prog 3 #[.slice A t.length c, .agg #[.int .i64 x.table, .int .i64 x.col, .int .i64 x.seq, .int .i64 x.record, .int .i64 x.day, .slice x.A x.own.length x.cap, .bool x.null, .bool x.last], .int .i64 day] w fun e w'=>e = .returned (.bool true)∧Below w.heap.size w w':=by
 obtain ⟨i0,hi0,hy0,hy1,hy2⟩:=info_parts uo
 have HL0:=qh hl
 clear hl
 go_enter Tryz.func3,Tryz.ntmps3
 go_upto_region 1 with (fail)
 refine ai (P:=fun u=>Code.wp _ _ _ _ u) (R:=fun u=>Blk u w.heap.size 27 #[.int .i64 x.table, .int .i64 x.col, .int .i64 x.seq, .int .i64 x.record, .int .i64 x.day, .slice x.A x.own.length x.cap, .bool x.null, .bool x.last]∧Below w.heap.size w u) ⟨?_,?_⟩ ?_
 ·exact Blk.new' rfl
 ·exact ay
 rintro W0 ⟨hO,hb0⟩
 have HO:=qh hO
 have hzO:=hO.lt
 clear hO
 go_wp2_with fail
 refine (IG A c t _ (HL0.out.next hb0) hn).mono ?_
 rintro e w1 ⟨⟨g,b,rfl,hg1,hb1,hk1⟩,hx1⟩
 have HK1:=qh hk1
 have JN:=hk1.ltg
 have HO1:=qh (HO.out.below hx1 hzO)
 have hx0:=ae hb0 hx1 hb0.size
 have hgO:g≠w.heap.size:=by omega
 clear hk1 HL0 HO hx1
 go_wp2_with fail
 refine (BC g b 3 _ HK1.out (by omega) (by omega)).mono ?_
 rintro e w2 ⟨CA,cc,ts,rfl,ht2,hu2,QF,hs2,hok2,h02,Vs,hk2,hg2⟩
 have HK2:=qh hk2
 have HT2:=qh ht2
 have HU:=qh hu2
 have HS:=qh hs2
 have HOK:=qh hok2
 have HO2:=qh (HO1.out.grown hg2 (fun e=>by injection e with e;omega))
 have hx2:Below w.heap.size w w2:=Below.grown hx0 hg2 hx0.size (fun q e=>by injection e with e;have:=hb0.size;omega)
 have hz2:=hg2.size
 clear hk2 ht2 hu2 QF hs2 hok2 hg2 HK1 HO1
 go_upto_region 3 with (fail)
 refine ai (P:=fun u=>Code.wp _ _ _ _ u) (R:=fun u=>Blk u w2.heap.size 39 #[.slice CA ts.length cc, .slice none 0 0, .slice none 0 0, .slice none 0 0, .slice none 0 0, .slice none 0 0, .slice none 0 0, .slice none 0 0]∧Below w2.heap.size w2 u) ⟨?_,?_⟩ ?_
 ·exact Blk.new' rfl
 ·exact ay
 rintro W ⟨hC,hbW⟩
 have HC:=qh hC
 have hzC:=hC.lt
 have HKW:=qh (HK2.out.below hbW)
 have hxW:Below w.heap.size w W:=ae hx2 hbW hx2.size
 have HTW:=qh (HT2.out.next hbW)
 have HOW:=qh (HO2.out.below hbW HO2.out.lt)
 have hgW:g<W.heap.size:=by omega
 have hgp:g≠w2.heap.size:=by omega
 clear hC HK2 HT2 HO2
 refine AY 9 (fun u=>vC W u g b) (fun u u'=>u.grownBy u' (some g)) (Pj W g b x) (Pj W g b x) (KS W g w2.heap.size x (.agg #[.slice CA ts.length cc, .slice none 0 0, .slice none 0 0, .slice none 0 0, .slice none 0 0, .slice none 0 0, .slice none 0 0, .slice none 0 0]))
  (by kernel_rfl) (by kernel_rfl) (by kernel_rfl) (by kernel_rfl) (by kernel_rfl) (fun o ho=>by injection ho with ho;subst ho;kernel_rfl) (by kernel_rfl) (fun k v u u' h _ hg=>h.grown hg hgW) ⟨HKW.out.below brf.drew,ax _ brf.drew⟩ ?_ ?_ ?_ ?_
 ·intro i hi o ho e u hR hev
  have hz:=hR.grown.size
  have hCu:=HC.out.grown hR.grown (fun e=>hgp (by injection e with e;exact e.symm))
  have hOu:=HOW.out.grown hR.grown (fun e=>hgO (by injection e with e;exact e.symm))
  have hTu:=HTW.out.grown HU.out JN hR.grown
  rcases i with _|_|_|_|_|_|_|_|_|i
  ·(simp only [gE3,Option.some.injEq] at ho;subst ho;refine ⟨rfl,?_⟩;have hec:=hev.const;have hef:=hev.func)
   have he7:e (.tmp 7) = .pointer (some ⟨g,0,none⟩):=(hev.far 7 (by kernel_rfl)).trans rfl
   clear hev
   go_simp
   exact ⟨hR,ax _ brf,rfl⟩
  ·(simp only [gE3,Option.some.injEq] at ho;subst ho;refine ⟨rfl,?_⟩;have hec:=hev.const;have hef:=hev.func)
   have he8:e (.tmp 8) = .pointer (some ⟨w2.heap.size,0,none⟩):=(hev.far 8 (by kernel_rfl)).trans rfl
   obtain ⟨p0,p1,p2,p3,p4,p5,p6,p7⟩:=Cat.blk hCu
   clear hev
   go_simp
   exact ⟨hR,ax _ brf,rfl⟩
  ·(simp only [gE3,Option.some.injEq] at ho;subst ho;refine ⟨rfl,?_⟩;have hec:=hev.const;have hef:=hev.func)
   have he7:e (.tmp 7) = .pointer (some ⟨g,0,none⟩):=(hev.far 7 (by kernel_rfl)).trans rfl
   clear hev
   go_simp
   exact ⟨hR,ax _ brf,rfl⟩
  ·(simp only [gE3,Option.some.injEq] at ho;subst ho;refine ⟨rfl,?_⟩;have hec:=hev.const;have hef:=hev.func)
   have he8:e (.tmp 8) = .pointer (some ⟨w2.heap.size,0,none⟩):=(hev.far 8 (by kernel_rfl)).trans rfl
   obtain ⟨p0,p1,p2,p3,p4,p5,p6,p7⟩:=Cat.blk hCu
   clear hev
   go_simp
   exact ⟨hR,ax _ brf,rfl⟩
  ·(simp only [gE3,Option.some.injEq] at ho;subst ho;refine ⟨rfl,?_⟩;have hec:=hev.const;have hef:=hev.func)
   have d1:e (.tmp 19)=_:=hev.dep 2 19 (by kernel_rfl) (by rfl)
   have d2:e (.tmp 20)=_:=hev.dep 3 20 (by kernel_rfl) (by rfl)
   clear hev
   go_simp
   simp only [uponI]
   refine (zD g b w1.heap.size 8 CA cc ts.length ts u hR.tape JN hTu HU.out rfl HS.out HOK.out h02 (by omega)).mono ?_
   rintro y u' ⟨LA,lc,l,rfl,hll,hoc,hk',hg'⟩
   exact ⟨_,rfl,hR.call hg' hk',hg',LA,lc,l,rfl,hll,⟨hoc.own.mono hz,fun x hx=>(hoc.rows x hx).mono hz,hoc.len⟩⟩
  ·(simp only [gE3,Option.some.injEq] at ho;subst ho;refine ⟨rfl,?_⟩;have hec:=hev.const;have hef:=hev.func)
   have d1:e (.tmp 18)=_:=hev.dep 1 18 (by kernel_rfl) (by rfl)
   obtain ⟨LA,lc,l,d2,hll,hoc⟩:=hev.dep 4 21 (by kernel_rfl) (by rfl)
   clear hev
   go_simp
   simp only [uponI]
   refine (wE CA cc ts.length ts LA lc l.length l u hTu rfl HS.out HOK.out (by omega) hoc.read rfl (by omega) hoc.len).mono ?_
   rintro y u' ⟨⟨OA,oc,o,rfl,hoi⟩,hb⟩
   exact ⟨_,rfl,hR.below hb,ax _ hb,OA,oc,o,rfl,(hoi.lift hz).mono (by omega)⟩
  ·(simp only [gE3,Option.some.injEq] at ho;subst ho;refine ⟨rfl,?_⟩;have hec:=hev.const;have hef:=hev.func)
   have d1:e (.tmp 17)=_:=hev.dep 0 17 (by kernel_rfl) (by rfl)
   obtain ⟨OA,oc,o,d2,hoi⟩:=hev.dep 5 22 (by kernel_rfl) (by rfl)
   have hol:=hoi.len
   clear hev
   go_simp
   simp only [uponI]
   refine (vF g b W.heap.size 64 OA oc o.length o u hR.tape hoi hgW hz rfl (by omega)).mono ?_
   rintro y u' ⟨A',c',out,rfl,hoo,hlo,hk',hg'⟩
   exact ⟨_,rfl,hR.call hg' hk',hg',A',c',out,rfl,hoo,by omega⟩
  ·(simp only [gE3,Option.some.injEq] at ho;subst ho;refine ⟨rfl,?_⟩;have hec:=hev.const;have hef:=hev.func)
   have he4:e (.tmp 4) = .pointer (some ⟨w.heap.size,0,none⟩):=(hev.far 4 (by kernel_rfl)).trans rfl
   obtain ⟨q0,q1,q2,q3,q4,q5,q6,q7⟩:=aG.blk hOu
   clear hev
   go_simp
   exact ⟨hR,ax _ brf,rfl⟩
  ·(simp only [gE3,Option.some.injEq] at ho;subst ho;refine ⟨rfl,?_⟩;have hec:=hev.const;have hef:=hev.func)
   have d1:e (.tmp 24)=_:=hev.dep 7 24 (by kernel_rfl) (by rfl)
   clear hev
   go_simp
   exact ⟨hR.below (brf.alloc nlr _),ax _ (brf.alloc nlr _),u.heap.size,hz,rfl,Blk.new _ _ _⟩
  ·omega
 ·intro o ho e u hR hev
  (simp only [gE3,Option.some.injEq] at ho;subst ho;refine ⟨rfl,?_⟩)
  obtain ⟨OA,oc,o,d1,hoo,hol⟩:=hev.dep 6 23 (by kernel_rfl) (by rfl)
  obtain ⟨B,hB,d2,hBB⟩:=hev.dep 8 25 (by kernel_rfl) (by rfl)
  have hz:=hR.grown.size
  refine tK u (.tmp 23) (.tmp 25) 41 rfl 27 i0 _ aG.cells 8 72 Tryz.underlying41 hi0 hy0 hy1 hy2 rfl (by omega) aU fA W.heap.size _ o d1 hoo.own (some ⟨B,0,none⟩) 1 1 [x] d2 rfl (Blk.one (enc:=aG.cells) hBB hBB.lt) (by simp;omega) (by simp [maxLen];omega) hz ?_
  intro v' w' hown' hg' hat'
  obtain ⟨A',c',rfl,_,hs',hA'⟩:=hown'.slice aU
  have hrow:=hoo.own.row
  exact ⟨A',c',o ++ [x],rfl,by simp;omega,⟨hR.tape.oN hg' (fun e=>by have:=hrow g e.symm;omega) (fun e=>by have:=hrow b e.symm;have:=HKW.out.lt;omega),dO hR.grown hg' hrow⟩,hs',fun a ha=>(hA' a ha).1⟩
 ·intro o ho e u v hL hec hval
  (simp only [gE3,Option.some.injEq] at ho;subst ho;refine ⟨rfl,?_⟩)
  have d1:=hval 26 (by rfl)
  go_simp
  exact hL
 ·rintro x0 u ⟨OA,oc,l,hx0,UF,hR,hS,hA⟩
  simp only [putX,cz,gE3,Option.bind_some,Act.put,List.setIfInBounds_toArray,List.set_cons_zero,List.set_cons_succ]
  rw [hx0]
  have HC3:=qh (HC.out.grown hR.grown (fun e=>hgp (by injection e with e;exact e.symm)))
  have HT3:=qh (HTW.out.grown HU.out JN hR.grown)
  have HNE:Hid (nJ g CA ts):=qh (HU.out.ne JN)
  have HR:=qh hR
  have HSL:=qh hS
  have HA:Hid (∀ a,OA=some a→some a.block≠some g):=qh fun a ha e=>by have:=hA a ha;injection e with e;omega
  have hx3:Below w.heap.size w u:=Below.grown hxW hR.grown hxW.size (fun q e=>by injection e with e;have:=hb0.size;omega)
  have hzu:=hR.grown.size
  obtain ⟨p0,p1,p2,p3,p4,p5,p6,p7⟩:=Cat.blk HC3.out
  clear hR hS hA HC HTW HOW HKW
  go_wp2_with fail
  refine (Dw g b CA cc ts.length ts u HR.out.tape HT3.out HNE.out rfl HS.out HOK.out h02).mono ?_
  rintro e u4 ⟨DA,dc,td,od,rfl,hTd,hNd,hSd,hOd,QZ,QU,Q4,hk4,hg4⟩
  have HC4:=qh (HC3.out.grown hg4 (fun e=>by injection e with e;omega))
  have HT4:=qh (HT3.out.grown HU.out JN hg4)
  have HS4:=qh (HSL.out.grown hg4 HA.out)
  have HTD:=qh hTd
  have HND:=qh hNd
  have HSD:=qh hSd
  have HOD:=qh hOd
  have Uh:=qh QZ
  have Rf:=qh QU
  have RX:=qh Q4
  have HK4:=qh hk4
  have hz4:=hg4.size
  have hx4:Below w.heap.size w u4:=Below.grown hx3 hg4 hx3.size (fun q e=>by injection e with e;have:=hb0.size;omega)
  have Sz:w2.heap.size<u4.heap.size:=by omega
  have Vz:g<u4.heap.size:=by omega
  clear hTd hNd hSd hOd QZ QU Q4 hk4 hg4 HC3 HT3 HSL HR p0 p1 p2 p3 p4 p5 p6 p7
  go_upto_region 5 with (fail)
  refine ai (P:=fun u=>Code.wp _ _ _ _ u) (R:=fun u=>Blk u u4.heap.size 39 #[.slice DA td.length dc, .slice od.vA 0 od.vc, .slice od.iA od.idx.length od.ic, .slice od.sA od.skt.length od.sc, .slice od.cA od.cch.length od.cc, .slice od.rA od.rel.length od.rc, .slice od.tA od.str.length od.tc, .slice od.bA od.bak.length od.bc]∧Below u4.heap.size u4 u) ⟨?_,?_⟩ ?_
  ·exact Blk.new' rfl
  ·exact ay
  rintro u5 ⟨hD,hb5⟩
  have HD:=qh hD
  have hzD:=hD.lt
  have hz5:=hb5.size
  have HC5:=qh (HC4.out.below hb5 Sz)
  have HT5:=qh (HT4.out.next hb5)
  have HS5:=qh (HS4.out.next hb5)
  have TR:=qh (HTD.out.next hb5)
  have Uj:=qh (HOD.out.next hb5)
  have HK5:=qh (HK4.out.below hb5)
  have hx5:=ae hx4 hb5 hx4.size
  have hgD:g≠u4.heap.size:=by omega
  have Vy:g<u5.heap.size:=by omega
  clear hD HC4 HT4 HS4 HTD HOD HK4 hb5
  go_wp2_with fail
  go_loopw [11] (fun vi wr => ∃ i:Nat,i≤l.length∧vi = .int .i64 i∧aP wr g b∧u5.grownBy wr (some g)) (fun vi _=>l.length - (intOf vi).toNat)
  case atStart=>exact ⟨0,Nat.zero_le _,rfl,HK5.out,ax _ brf⟩
  case round =>
   obtain ⟨i,hi,rfl,hki,hgi⟩:=hrel
   have HKi:=qh hki
   have HGi:=qh hgi
   have hzi:=hgi.size
   clear hki hgi
   by_cases hlt:i<l.length
   ·go_wp2_with fail
    refine (aD g b 60 _ HKi.out (by omega) (by omega)).mono ?_
    rintro e u6 ⟨n,rfl,hn6,hk6,hg6⟩
    have hG6:=aC HGi.out hg6
    have HG6:=qh hG6
    have HK6:=qh hk6
    have hz6:=hG6.size
    have hC6:=HC5.out.grown hG6 (fun e=>hgp (by injection e with e;exact e.symm))
    have hD6:=HD.out.grown hG6 (fun e=>hgD (by injection e with e;exact e.symm))
    have HT6:=qh (HT5.out.gK hG6 HNE.out)
    have Ra:=qh (TR.out.gK hG6 HND.out)
    have RF:=qh (Uj.out.gK hG6 Uh.out)
    obtain ⟨b9,o9,rfl,hb9,hc9⟩:=(HS5.out.grown hG6 HA.out).get hlt
    obtain ⟨y,hy⟩ : ∃ y,l[i]=y:=⟨_,rfl⟩
    rw [hy] at hc9
    obtain ⟨y0,y1,y2,y3,y4,y5,y6,y7⟩:=aG.iF hc9
    obtain ⟨p0,p1,p2,p3,p4,p5,p6,p7⟩:=Cat.blk hC6
    obtain ⟨q0,q1,q2,q3,q4,q5,q6,q7⟩:=Cat.bJ hD6
    have hkp:=aK (w:=u6) w2.heap.size (by omega)
    have hkd:=aK (w:=u6) u4.heap.size (by omega)
    have hky:=aK (w:=u6) b9 hb9
    have SN:(i:Int)<(l.length:Int):=by omega
    obtain ⟨v1,hv1⟩ : ∃ v,utE ts Oth.nil y=v:=⟨_,rfl⟩
    obtain ⟨v2,hv2⟩ : ∃ v,utE td od y=v:=⟨_,rfl⟩
    obtain ⟨k1,hk1⟩ : ∃ v,dB v1 n=v:=⟨_,rfl⟩
    obtain ⟨k2,hk2⟩ : ∃ v,dB v1 day=v:=⟨_,rfl⟩
    have HP1:=qh fun (u:World) (hu:Below u6.heap.size u6 u)=>qK CA cc ts.length ts Oth.nil y u (HT6.out.next hu) rfl HS.out (bM.nil _ _) dh.nil eU.nil hv1
    have HR1:=qh fun (u:World) (hu:Below u6.heap.size u6 u)=>nk CA cc ts.length ts Oth.nil y u (HT6.out.next hu) rfl HS.out (bM.nil _ _) dh.nil eU.nil hv1
    have HP2:=qh fun (u:World) (hu:Below u6.heap.size u6 u)=>qK DA dc td.length td od y u (Ra.out.next hu) rfl HSD.out (RF.out.next hu) Rf.out RX.out hv2
    have HR2:=qh fun (u:World) (hu:Below u6.heap.size u6 u)=>nk DA dc td.length td od y u (Ra.out.next hu) rfl HSD.out (RF.out.next hu) Rf.out RX.out hv2
    have HP3:=qh fun (u:World) (hu:Below u6.heap.size u6 u)=>tT CA cc ts.length ts Oth.nil y n u (HT6.out.next hu) rfl HS.out (bM.nil _ _) dh.nil eU.nil (show dB (utE ts Oth.nil y) n=k1 from hv1▸hk1)
    have HR3:=qh fun (u:World) (hu:Below u6.heap.size u6 u)=>uR CA cc ts.length ts Oth.nil y n u (HT6.out.next hu) rfl HS.out (bM.nil _ _) dh.nil eU.nil (show dB (utE ts Oth.nil y) n=k1 from hv1▸hk1)
    have HP4:=qh fun (u:World) (hu:Below u6.heap.size u6 u)=>tT CA cc ts.length ts Oth.nil y day u (HT6.out.next hu) rfl HS.out (bM.nil _ _) dh.nil eU.nil (show dB (utE ts Oth.nil y) day=k2 from hv1▸hk2)
    have HR4:=qh fun (u:World) (hu:Below u6.heap.size u6 u)=>uR CA cc ts.length ts Oth.nil y day u (HT6.out.next hu) rfl HS.out (bM.nil _ _) dh.nil eU.nil (show dB (utE ts Oth.nil y) day=k2 from hv1▸hk2)
    clear hn6 hk6 hg6 hG6 hC6 hD6 hc9 hy hv1 hv2 hk1 hk2
    go_upto_region 9 with (fail)
    refine ag (by kernel_rfl) (by kernel_rfl) ?_;(repeat (go_big_quiet_step ((first
     | (go_at_call 15;with_reducible exact bI (HP1.out _ (bF.h _)))
     | (go_at_call 15;with_reducible exact bI (HP2.out _ (bF.h _)))
     | (go_at_call 16;with_reducible exact bI (HR1.out _ (bF.h _)))
     | (go_at_call 16;with_reducible exact bI (HR2.out _ (bF.h _)))
     | (go_at_call 17;with_reducible exact bI (HP3.out _ (bF.h _)))
     | (go_at_call 17;with_reducible exact bI (HP4.out _ (bF.h _)))
     | (go_at_call 18;with_reducible exact bI (HR3.out _ (bF.h _)))
     | (go_at_call 18;with_reducible exact bI (HR4.out _ (bF.h _)))))));refine wpQuiet_nil ?_;intro wq hq
    clear hkp hkd hky p0 p1 p2 p3 p4 p5 p6 p7 q0 q1 q2 q3 q4 q5 q6 q7 y0 y1 y2 y3 y4 y5 y6 y7
    go_wp2_with fail
    go_roundw
    case rel=>exact ⟨i + 1,by omega,by go_num,HK6.out.below hq,aC HG6.out (ax _ hq)⟩
    case measure=>exact meA
   ·have hlt':decide (i<l.length)=false:=by simpa using hlt
    have hxi:Below w.heap.size w wr:=Below.grown hx5 HGi.out hx5.size (fun q e=>by injection e with e;have:=hb0.size;omega)
    go_wp2_with fail
    refine (Cq _).mono ?_
    rintro e w8 ⟨rfl,hb8⟩
    go_wp2_with fail
    go_ret
    exact ⟨rfl,ae hxi hb8 hxi.size⟩
end Go.Proofs.YtebippoohpnjkaaGreat
namespace Go.Proofs.YtebippoohpnjkaaGreat.retentionUntil
open Go.ChangeShapes Go.WideShapes Go.ChangeAt Go.RowKit
section
variable {H:Type} {enc:TypeId × Value→H} {w:World} {base:Nat} {spare:Nat→Bool} {held:Bool} {fuel:Nat} {cs:List Value} {x:DataW H × List MemPlace}
theorem Pp (h:cs.length = 4) : ∃ a b c d,cs = [a,b,c,d]:=by
 match cs,h with
 | [a,b,c,d],_=>exact ⟨a,b,c,d,rfl⟩
theorem Po (h:cs.length = 8) : ∃ a b c d e f g i,cs = [a,b,c,d,e,f,g,i]:=by
 match cs,h with
 | [a,b,c,d,e,f,g,i],_=>exact ⟨a,b,c,d,e,f,g,i,rfl⟩
theorem UC (h:cs.length = 3) : ∃ a b c,cs = [a,b,c]:=by
 match cs,h with
 | [a,b,c],_=>exact ⟨a,b,c,rfl⟩
theorem zB {P:Program} {t:TypeId} {f0 f1 f2 f3 f4 f5:Field} {fuel:Nat} {cs:List Value} {x:DataW H × List MemPlace} (ht:P.underlying t=some (.struct #[f0,f1,f2,f3,f4,f5])) (h:DataW.trod enc P w base spare held fuel t cs=some x) :
 ∃ y0 y1 y2 y3 y4 y5 n,cs.length=P.cellsOf t∧DataW.trod enc P w base spare held n f0.type ((cs.drop f0.offset).take (P.cellsOf f0.type))=some y0 ∧
  DataW.trod enc P w base spare held n f1.type ((cs.drop f1.offset).take (P.cellsOf f1.type))=some y1∧DataW.trod enc P w base spare held n f2.type ((cs.drop f2.offset).take (P.cellsOf f2.type))=some y2 ∧
  DataW.trod enc P w base spare held n f3.type ((cs.drop f3.offset).take (P.cellsOf f3.type))=some y3∧DataW.trod enc P w base spare held n f4.type ((cs.drop f4.offset).take (P.cellsOf f4.type))=some y4 ∧
  DataW.trod enc P w base spare held n f5.type ((cs.drop f5.offset).take (P.cellsOf f5.type))=some y5:=by
 obtain ⟨xs,n,_,rfl,hl,hlen,hf⟩:=DataW.trod_struct ht h
 match xs,hlen with
 | [y0,y1,y2,y3,y4,y5],_=>exact ⟨y0,y1,y2,y3,y4,y5,n,hl,by simpa using hf 0 f0 rfl,by simpa using hf 1 f1 rfl,by simpa using hf 2 f2 rfl,by simpa using hf 3 f3 rfl,by simpa using hf 4 f4 rfl,by simpa using hf 5 f5 rfl⟩
def GR (x:Ident):DataW H := .agg [.lit (.string x.ns.data.toList), .agg [.lit (.int .i64 x.val.kind), .lit (.int .i64 x.val.num), .lit (.string x.val.text.data.toList)]]
theorem De:Tryz.prog.cellsOf 85 = 4:=by kernel_rfl
theorem Hq:Tryz.prog.cellsOf 62 = 3:=by kernel_rfl
theorem Db:Tryz.prog.cellsOf 27 = 8:=by kernel_rfl
theorem yP:Tryz.prog.cellsOf 24 = 3:=by kernel_rfl
theorem Hr:Tryz.prog.cellsOf 25 = 1:=by kernel_rfl
theorem zq:Tryz.prog.cellsOf 9 = 1:=by kernel_rfl
theorem uH:Tryz.prog.cellsOf 3 = 1:=by kernel_rfl
theorem Dc:Tryz.prog.cellsOf 2 = 1:=by kernel_rfl
theorem EG:Tryz.prog.cellsOf 4 = 1:=by kernel_rfl
theorem El (h:DataW.trod enc Tryz.prog w base spare held fuel 85 cs=some x) : ∃ id:Ident,cs=id.cells∧x.1=GR id:=by
 obtain ⟨y0,y1,n,rfl,hl,h0,h1⟩:=trod_struct2 Tryz.underlying85 h
 rw [De] at hl
 obtain ⟨c0,c1,c2,c3,rfl⟩:=Pp hl
 simp only [zq,Hq,List.drop_zero,List.take_succ_cons,List.take_zero,List.drop_succ_cons] at h0 h1
 obtain ⟨s,e0,rfl,_⟩:=DataW.trod_string Tryz.underlying9 h0
 obtain ⟨z0,z1,z2,m,rfl,_,g0,g1,g2⟩:=Go.Deep.trod_struct3 Tryz.underlying62 h1
 simp only [zq,uH,Dc,List.drop_zero,List.take_succ_cons,List.take_zero,List.drop_succ_cons] at g0 g1 g2
 obtain ⟨k,e1,rfl,_⟩:=DataW.trod_int Tryz.underlying3 g0
 obtain ⟨i,e2,rfl,_⟩:=DataW.trod_int Tryz.underlying2 g1
 obtain ⟨t,e3,rfl,_⟩:=DataW.trod_string Tryz.underlying9 g2
 simp only [List.cons.injEq,and_true] at e0 e1 e2 e3
 subst e0 e1 e2 e3
 exact ⟨⟨s,⟨k,i,t⟩⟩,rfl,rfl⟩
theorem KZ {α : Type} {n:Nat} {Q:Nat → α → Prop} (h : ∀ i,i<n → ∃ y,Q i y) : ∃ l:List α,l.length=n ∧ ∀ i (hi:i<l.length),Q i l[i]:=by
 induction n with
 | zero=>exact ⟨[],rfl,fun i hi=>by simp at hi⟩
 | succ n ih =>
   obtain ⟨l,hl,hq⟩:=ih fun i hi=>h i (by omega)
   obtain ⟨y,hy⟩:=h n (by omega)
   refine ⟨l ++ [y],by simp [hl],fun i hi => ?_⟩
   rcases Nat.lt_or_ge i n with h1|h1
   ·rw [List.getElem_append_left (by omega)];exact hq i (by omega)
   ·have e:i=n:=by simp at hi;omega
    subst e
    rw [List.getElem_append_right (by omega)]
    simpa [hl] using hy
theorem Ck {α : Type} {f:Nat→Option α} : ∀ {l:List Nat} {r:List α},l.mapM f=some r → ∀ j:Nat,j<l.length→(l[j]?.bind f)=r[j]?
 | [],r,_,j,hj=>by simp at hj
 | a::l,r,h,j,hj=>by
   rw [List.mapM_cons] at h
   cases ha:f a with
   | none=>simp [ha] at h
   | some v =>
     cases hm:l.mapM f with
     | none=>simp [ha,hm] at h
     | some vs =>
       simp [ha,hm] at h
       subst h
       cases j with
       | zero=>simp [ha]
       | succ j=>simpa using Ck hm j (by simpa using hj)
theorem Ht {a:Addr} {n:Nat} {r:List Value} (h:w.cells? base a n=some r) (j:Nat) (hj:j<n):w.cell? (a.add j)=r[j]? := by
 unfold World.cells? at h
 split at h
 ·have:=Ck h j (by simpa using hj)
  simpa [hj] using this
 ·cases h
theorem Gh {a:Addr} {v:Value} (h:w.cell? a=some v):a.spot=none:=by
 cases hs:a.spot with
 | none=>rfl
 | some y =>
   simp only [World.cell?,hs,Option.isSome_some,if_true] at h
   split at h <;> simp at h
theorem add_eq (b o n:Nat):(Addr.mk b o none).add n=⟨b,o+n,none⟩:=by
 unfold Addr.add
 split
 ·rename_i h;subst h;rfl
 ·rfl
theorem Jr {a:Option Addr} {len cap:Nat} (h:DataW.trod enc Tryz.prog w base spare held fuel 25 [.slice a len cap]=some x) : ∃ l:List Ident,l.length=len∧ah w w.heap.size Ident.cells 4 a l:=by
 rcases Go.Deep.open_slice Tryz.underlying25 h with ⟨hcs,_⟩|⟨a',len',cap',m,n,D,Pl,hcs,_,hl,_,hm,_,hel⟩
 ·simp only [List.cons.injEq,Value.slice.injEq,and_true] at hcs
  obtain ⟨rfl,rfl,rfl⟩:=hcs
  exact ⟨[],rfl,ah.nil⟩
 ·simp only [List.cons.injEq,Value.slice.injEq,and_true] at hcs
  obtain ⟨rfl,rfl,rfl⟩:=hcs
  have hlm:len≤m:=by rw [hm];split <;> omega
  obtain ⟨l,hll,hq⟩:=KZ (n:=len) (Q:=fun i (y:Ident) => ∀ j,j < 4→w.cell? ((a'.add (i * 4)).add j)=y.cells[j]?) (fun i hi=>by
   obtain ⟨cs',h1,h2⟩:=hel i (by omega)
   obtain ⟨y,rfl,_⟩:=El h2
   rw [De] at h1
   exact ⟨y,fun j hj=>Ht h1 j hj⟩)
  refine ⟨l,hll,fun h0 => ?_⟩
  obtain ⟨xb,xo,xs⟩:=a'
  have hc0:=hq 0 h0 0 (by omega)
  rw [show (l[0].cells)[0]? = some (.string l[0].ns) from rfl] at hc0
  have hsp:xs=none:=by
   have:=Gh hc0
   simpa [Addr.add] using this
  subst hsp
  simp only [add_eq] at hq hc0
  have hlt:xb<w.heap.size:=by
   rcases Nat.lt_or_ge xb w.heap.size with h|h
   ·exact h
   ·simp [World.cell?,Array.getElem?_eq_none h] at hc0
  refine ⟨xb,xo,rfl,hlt,fun i hi j u hu => ?_⟩
  have hj:j < 4:=by have:=(List.getElem?_eq_some_iff.1 hu).1;simpa [Ident.cells] using this
  rw [← Nat.add_assoc,hq i hi j hj]
  exact hu
theorem DW (h:DataW.trod enc Tryz.prog w base spare held fuel 27 cs=some x) : ∃ y:aG,cs=y.cells∧ah w w.heap.size Ident.cells 4 y.A y.own:=by
 obtain ⟨y0,y1,y2,y3,y4,y5,n,hl,h0,h1,h2,h3,h4,h5⟩:=zB Tryz.underlying27 h
 rw [Db] at hl
 obtain ⟨c0,c1,c2,c3,c4,c5,c6,c7,rfl⟩:=Po hl
 simp only [yP,Hr,uH,EG,List.drop_zero,List.take_succ_cons,List.take_zero,List.drop_succ_cons] at h0 h1 h2 h3 h4 h5
 obtain ⟨z0,z1,z2,m,_,_,g0,g1,g2⟩:=Go.Deep.trod_struct3 Tryz.underlying24 h0
 simp only [uH,List.drop_zero,List.take_succ_cons,List.take_zero,List.drop_succ_cons] at g0 g1 g2
 obtain ⟨a0,e0,_,_⟩:=DataW.trod_int Tryz.underlying3 g0
 obtain ⟨a1,e1,_,_⟩:=DataW.trod_int Tryz.underlying3 g1
 obtain ⟨a2,e2,_,_⟩:=DataW.trod_int Tryz.underlying3 g2
 obtain ⟨a3,e3,_,_⟩:=DataW.trod_int Tryz.underlying3 h1
 obtain ⟨a4,e4,_,_⟩:=DataW.trod_int Tryz.underlying3 h2
 obtain ⟨b6,e6,_⟩:=DataW.trod_bool Tryz.underlying4 h4
 obtain ⟨b7,e7,_⟩:=DataW.trod_bool Tryz.underlying4 h5
 have hsl : ∃ a len cap,[c5] = [Value.slice a len cap]:=by
  rcases Go.Deep.open_slice Tryz.underlying25 h3 with ⟨hcs,_⟩|⟨a',len',cap',m',n',D,Pl,hcs,_⟩
  ·exact ⟨_,_,_,hcs⟩
  ·exact ⟨_,_,_,hcs⟩
 obtain ⟨a,len,cap,e5⟩:=hsl
 simp only [List.cons.injEq,and_true] at e0 e1 e2 e3 e4 e5 e6 e7
 subst e0 e1 e2 e3 e4 e5 e6 e7
 obtain ⟨l,hll,hs⟩:=Jr h3
 subst hll
 exact ⟨⟨a0,a1,a2,a3,a4,a,cap,l,b6,b7⟩,rfl,hs⟩
end
theorem own:ownKnob Tryz.prog.godebug=none:=by kernel_rfl
theorem laidOut:laidOutB Tryz.prog=true:=by kernel_rfl
theorem bytesInt:Tryz.prog.bytesOf 3 = 8:=by kernel_rfl
theorem lifted (os:Os) (started:os.Started) (H:Type) (enc:TypeId × Value→H) :
 ReturnsInHanded {} Tryz.checked os 3 .any (Rows.retentionUntilSpec.pre6 enc Tryz.prog Tryz.f3 Rows.retentionUntilRow.domain false) (Rows.retentionUntilSpec.post enc Tryz.prog Tryz.f3 false true false false):=by
 refine returnsInHanded_of_change_sized (C:=Tryz.checked) own started (by kernel_rfl) Tryz.func3
  (ChangeSpec.witness6 (enc:=enc) (C:=Tryz.checked) false ⟨#[],#[.slice none 0 0, .agg #[.int .i64 0, .int .i64 0, .int .i64 0, .int .i64 0, .int .i64 0, .slice none 0 0, .bool false, .bool false], .int .i64 0],[]⟩ 8 (by kernel_rfl) (by kernel_rfl) (by kernel_rfl) (by kernel_rfl)) ?_
 intro W base args ds gs before hval0 hW hcnd hsz0 _
 have hval : ∀ (j:Nat) t v,Tryz.f3.params[j]? = some t→args[j]? = some v→Value.okWide Tryz.prog W .any base t v:=hval0
 have hsz:(DataW.weightsEach Tryz.prog (Tryz.f3.params.toList++Rows.retentionUntilSpec.plain.varTypes Tryz.prog) (ds++gs)).all (· ≤ reachBytes)=true:=hsz0
 have hW':=hW
 obtain ⟨p,q,hA0,hV,rfl,hfz,hnd⟩:=hW
 have hA:DataW.TrodAll enc Tryz.prog W 0 (fun _=>true) true Tryz.f3.params.toList args.toList ds p:=hA0
 rw [Tryz.params3] at hA hval hsz
 obtain ⟨v0,vs0,d0,ds0,p0,q0,hargs,rfl,rfl,h0,r0⟩:=trodAll_cons hA
 obtain ⟨v1,vs1,d1,ds1,p1,q1,rfl,rfl,rfl,h1,r1⟩:=trodAll_cons r0
 obtain ⟨v2,vs2,d2,ds2,p2,q2,rfl,rfl,rfl,h2,r2⟩:=trodAll_cons r1
 obtain ⟨rfl,rfl,rfl⟩:=trodAll_nil r2
 obtain rfl:args = #[v0,v1,v2]:=by cases args;simp_all
 obtain ⟨rfl,rfl⟩:=trodVars_none hV
 obtain ⟨a0,Pq,cap0,rfl⟩:=okWide_slice Tryz.underlying22 (hval 0 22 v0 rfl rfl)
 obtain ⟨cs1,rfl,_⟩:=okWide_struct Tryz.underlying27 (hval 1 27 v1 rfl rfl)
 obtain ⟨day,rfl,rfl,rfl,w2⟩:=open_int Tryz.underlying3 (hval 2 3 v2 rfl rfl) h2
 have k0:=h0
 have k1:=h1
 have lt0 : ∀ x∈p0,x.block<W.heap.size:=by obtain ⟨m,hm⟩:=k0;exact DataW.trod_lt m _ _ _ hm
 have lt1 : ∀ x∈p1,x.block<W.heap.size:=by obtain ⟨m,hm⟩:=k1;exact DataW.trod_lt m _ _ _ hm
 obtain ⟨t,htl,hts,ht8⟩ : ∃ t:List Int,t.length=Pq∧ah W W.heap.size intCells 1 a0 t∧t.length * 8 ≤ 140737488351232:=by
  obtain ⟨fuel,hf⟩:=h0
  rcases open_ints Tryz.underlying22 Tryz.underlying3 (by kernel_rfl) hf with ⟨hcs,_⟩|⟨x,l,c,zs,hcs,_,hl,hm,hz,hx,hcell,hwz⟩
  ·simp [Value.cells] at hcs
   obtain ⟨rfl,rfl,rfl⟩:=hcs
   exact ⟨[],rfl,ah.nil,by simp⟩
  ·simp [Value.cells] at hcs
   obtain ⟨rfl,rfl,rfl⟩:=hcs
   simp only [Prod.mk.injEq] at hx
   obtain ⟨rfl,_⟩:=hx
   have hs:=sized_slice hsz (j := 0) (t := 22) (e := 3) rfl rfl Tryz.underlying22
   rw [bytesInt] at hs
   simp only [lits,List.length_map,List.length_take,List.length_drop,reachBytes] at hs
   have hzl:zs.length=cap0:=by simpa using hz
   refine ⟨zs.take Pq,by simp;omega,fun h => ?_,by simp;omega⟩
   have h1 : 0<zs.length:=by simp at h;omega
   obtain ⟨xb,xo,xs⟩:=x
   have hc0:=hcell 0 h1
   have hsp:xs=none:=by
    cases xs with
    | none=>rfl
    | some y =>
      simp only [Addr.add,World.cell?,Option.isSome_some,if_true] at hc0
      split at hc0 <;> simp at hc0
   subst hsp
   have hlt:xb<W.heap.size:=by
    rcases Nat.lt_or_ge xb W.heap.size with h|h
    ·exact h
    ·simp [Addr.add,World.cell?,Array.getElem?_eq_none h] at hc0
   refine ⟨xb,xo,rfl,hlt,fun i hi j u hu => ?_⟩
   have hj:j = 0:=by have:=(List.getElem?_eq_some_iff.1 hu).1;simp [intCells] at this;omega
   subst hj
   have hil:i<zs.length:=by simp at hi;omega
   have:=hcell i hil
   simp only [intCells,List.getElem?_cons_zero,Option.some.injEq] at hu
   subst hu
   rw [List.getElem_take]
   rw [List.getD_eq_getElem?_getD,List.getElem?_eq_getElem hil] at this
   unfold Addr.add at this
   split at this
   ·rename_i h0;subst h0;simpa using this
   ·simpa using this
 obtain ⟨x,ex,hx⟩ : ∃ x:aG,cs1.toList=x.cells∧ah W W.heap.size Ident.cells 4 x.A x.own:=by
  obtain ⟨fuel,hf⟩:=h1
  exact DW (by simpa [Value.cells] using hf)
 obtain rfl:cs1=x.cells.toArray:=by rw [← ex]
 clear hA0 hval0
 subst htl
 refine (BJ a0 cap0 t x day W hts ht8).mono fun e W' ⟨he,bel⟩ => ?_
 subst he
 exact ⟨_,rfl,_,_,_,[],_,[],hW',trodAll_mk1 (shut_bool Tryz.underlying4 _),(trodAll_cons_mk (Below.trod laidOut (by kernel_rfl) (of_decide_eq_true (by kernel_rfl)) k0 bel lt0) (trodAll_cons_mk (Below.trod laidOut (by kernel_rfl) (of_decide_eq_true (by kernel_rfl)) k1 bel lt1) (trodAll_cons_mk (shut_int Tryz.underlying3 w2) trodAll_mk0))),rfl,bel.frame _,fun h=>by cases h⟩
theorem facts:joinedFacts Tryz.pinned.checked.prog 3 Tryz.f3 Rows.retentionUntilSpec Rows.retentionUntilRow=true:=by
 unfold joinedFacts
 repeat' (with_reducible refine (Bool.and_eq_true _ _).mpr ⟨?_,?_⟩)
 all_goals (as_aux_lemma=>kernel_rfl)
theorem over:Rows.retentionUntilRow.holds Tryz.pinned (OpenSpec.ofChange Rows.retentionUntilSpec) :=
 OpenClaim.holds_of_wide 3 Tryz.f3 rfl rfl rfl rfl rfl rfl rfl ⟨rfl,rfl,rfl,rfl,rfl⟩ rfl rfl rfl rfl rfl (by kernel_rfl) Tryz.func3 facts
  (of_decide_eq_true (by kernel_rfl)) (by unfold Func.isWrapper;first|(rw [if_pos (by decide +kernel)];kernel_rfl)|(rw [if_neg (by decide +kernel)];exact ⟨rfl,rfl⟩))
  (fun os started H enc _=>lifted os started H enc)
theorem proved:Rows.RetentionUntilSaid:=over
#print axioms proved
end Go.Proofs.YtebippoohpnjkaaGreat.retentionUntil
