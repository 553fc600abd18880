/-
  Contracts and plain laws of this seat, part 11: ORef5, ORef6, ORef7.
-/
import Derived.Test.YtjhnpnhpmdkpcaaGreatB10
set_option linter.unusedVariables false
set_option linter.unusedSimpArgs false
set_option maxRecDepth 100000
set_option maxHeartbeats 16000000
namespace Go.Proofs.YtjhnpnhpmdkpcaaGreat
open Go.RowKit Go
def sktB (x:Skt):Bool:=(((!withinB x.kind 0 2 || !withinB x.width 1 1024) || !withinB x.depth 1 8)||(x.kind == 2&&x.depth != 1))||decide (1024<x.width*x.depth)
def sktErr (ts:List Tab) (x:Skt):Int:=if (srcE ts x.src x.col).2 = 0 then (if sktB x=true then 1 else 0) else (srcE ts x.src x.col).2
theorem ref04_sketchO (A:Option Addr) (c m:Nat) (ts:List Tab) (o:Oth) (x:Skt) (w:World) (ht:TabsIn w w.heap.size A ts) (ho:OthIn w w.heap.size o) (hso:SaneO o) (hm:ts.length=m) (hs:SaneCat ts) {r:Int} (hr:sktErr ts x=r) :
 Calls Tryz.prog 138 #[.agg #[.slice A m c, .slice o.vA 0 o.vc, .slice o.iA o.idx.length o.ic, .slice o.sA o.skt.length o.sc, .slice o.cA o.cch.length o.cc, .slice o.rA o.rel.length o.rc, .slice o.tA o.str.length o.tc, .slice o.bA o.bak.length o.bc], .agg #[.string x.name, .string x.src, .int .i64 x.col, .int .i64 x.kind, .int .i64 x.width, .int .i64 x.depth]] w fun e w'=>e = .returned (.int .i64 r)∧Below w.heap.size w w':=by
 subst hm
 have HT:=qh ht
 have HO:=qh ho
 have HSO:=qh hso
 have HS:=qh hs
 obtain ⟨r1,r2,h12⟩ : ∃ r1 r2,srcE ts x.src x.col=(r1,r2):=⟨_,_,rfl⟩
 have he:(srcE ts x.src x.col).2=r2:=by rw [h12]
 have H12:=qh h12
 have HE:=qh he
 have HR:=qh hr
 clear ht ho hso hs h12 he hr
 go_enter Tryz.func138,Tryz.ntmps138
 go_upto_region 1 with (fail)
 refine abs_world (P:=fun u=>Code.wp _ _ _ _ u) (R:=fun u=>Blk u w.heap.size 34 #[.slice A ts.length c, .slice o.vA 0 o.vc, .slice o.iA o.idx.length o.ic, .slice o.sA o.skt.length o.sc, .slice o.cA o.cch.length o.cc, .slice o.rA o.rel.length o.rc, .slice o.tA o.str.length o.tc, .slice o.bA o.bak.length o.bc]∧Blk u (w.heap.size + 1) 182 (Skt.cells x).toArray∧Below w.heap.size w u) ⟨?_,?_,?_⟩ ?_
 ·exact (Blk.new _ _ _).alloc _
 ·exact Blk.new' spA
 ·exact belA
 rintro W ⟨hB,hK,hbW⟩
 have hzK:=hK.lt
 have HK:=qh hK
 obtain ⟨q0,q1,q2,q3,q4,q5,q6,q7⟩:=Cat.blkO hB
 have k1:=hK.cell 1
 have k2:=hK.cell 2
 simp only [Skt.cells,gE3] at k1 k2
 clear hB hK
 go_upto_region 2 with (go_at_call 137;(with_reducible refine (ref04_sourceO A c ts.length ts o x.src x.col _ (HT.out.next hbW) (HO.out.next hbW) HSO.out rfl HS.out H12.out).mono ?_);rintro e w1 ⟨rfl,hb1⟩)
 have hx1:=below_nextN hbW hb1 hbW.size
 clear q0 q1 q2 q3 q4 q5 q6 q7 k1 k2
 by_cases h0:r2 = 0
 rotate_left
 ·have h0':(r2 != 0)=true:=by simpa using h0
  have HR0:Hid (r=r2):=qh (by rw [← HR.out];unfold sktErr;rw [HE.out,if_neg h0])
  clear h0
  go_wp2_with fail
  go_ret
  exact ⟨ret_int HR0.out.symm,hx1⟩
 subst h0
 have hK1:=HK.out.below hb1 hzK
 have k3:=hK1.cell 3
 have k4:=hK1.cell 4
 have k5:=hK1.cell 5
 simp only [Skt.cells,gE3] at k3 k4 k5
 clear hK1
 obtain ⟨a1,h1⟩ : ∃ b,withinB x.kind 0 2=b:=⟨_,rfl⟩
 obtain ⟨a2,h2⟩ : ∃ b,withinB x.width 1 1024=b:=⟨_,rfl⟩
 obtain ⟨a3,h3⟩ : ∃ b,withinB x.depth 1 8=b:=⟨_,rfl⟩
 have H1:=qh h1
 have H2:=qh h2
 have H3:=qh h3
 clear h1 h2 h3
 cases a1
 ·go_wp2_with (go_at_call 127;(first|(with_reducible refine (ref04_within x.kind 0 2 _ H1.out).mono ?_)|(with_reducible refine (ref04_within x.width 1 1024 _ H2.out).mono ?_)|(with_reducible refine (ref04_within x.depth 1 8 _ H3.out).mono ?_));rintro e w3 ⟨rfl,rfl⟩)
  go_ret
  exact ⟨ret_int (by rw [← HR.out];simp [sktErr,HE.out,sktB,H1.out,H2.out,H3.out, *]),hx1⟩
 cases a2
 ·go_wp2_with (go_at_call 127;(first|(with_reducible refine (ref04_within x.kind 0 2 _ H1.out).mono ?_)|(with_reducible refine (ref04_within x.width 1 1024 _ H2.out).mono ?_)|(with_reducible refine (ref04_within x.depth 1 8 _ H3.out).mono ?_));rintro e w3 ⟨rfl,rfl⟩)
  go_ret
  exact ⟨ret_int (by rw [← HR.out];simp [sktErr,HE.out,sktB,H1.out,H2.out,H3.out, *]),hx1⟩
 cases a3
 ·go_wp2_with (go_at_call 127;(first|(with_reducible refine (ref04_within x.kind 0 2 _ H1.out).mono ?_)|(with_reducible refine (ref04_within x.width 1 1024 _ H2.out).mono ?_)|(with_reducible refine (ref04_within x.depth 1 8 _ H3.out).mono ?_));rintro e w3 ⟨rfl,rfl⟩)
  go_ret
  exact ⟨ret_int (by rw [← HR.out];simp [sktErr,HE.out,sktB,H1.out,H2.out,H3.out, *]),hx1⟩
 have hmul : 0≤x.width*x.depth∧x.width*x.depth ≤ 1024 * 8:=by
  have h2:=H2.out
  have h3:=H3.out
  unfold withinB at h2 h3
  rw [Bool.and_eq_true,decide_eq_true_eq,decide_eq_true_eq] at h2 h3
  exact ⟨Int.mul_nonneg omA omA,Int.mul_le_mul h2.2 h3.2 omA omA⟩
 have hwr:IntKind.i64.wrap (x.width*x.depth)=x.width*x.depth:=IntWalk.i64_in _ omA
 clear hmul
 cases e1:(x.kind == 2)
 ·cases e3:decide (1024<x.width*x.depth)
  ·go_wp2_with (go_at_call 127;(first|(with_reducible refine (ref04_within x.kind 0 2 _ H1.out).mono ?_)|(with_reducible refine (ref04_within x.width 1 1024 _ H2.out).mono ?_)|(with_reducible refine (ref04_within x.depth 1 8 _ H3.out).mono ?_));rintro e w3 ⟨rfl,rfl⟩)
   go_ret
   exact ⟨ret_int (by rw [← HR.out];simp [sktErr,HE.out,sktB,H1.out,H2.out,H3.out, *]),hx1⟩
  ·go_wp2_with (go_at_call 127;(first|(with_reducible refine (ref04_within x.kind 0 2 _ H1.out).mono ?_)|(with_reducible refine (ref04_within x.width 1 1024 _ H2.out).mono ?_)|(with_reducible refine (ref04_within x.depth 1 8 _ H3.out).mono ?_));rintro e w3 ⟨rfl,rfl⟩)
   go_ret
   exact ⟨ret_int (by rw [← HR.out];simp [sktErr,HE.out,sktB,H1.out,H2.out,H3.out, *]),hx1⟩
 ·cases e2:(x.depth != 1)
  ·cases e3:decide (1024<x.width*x.depth)
   ·go_wp2_with (go_at_call 127;(first|(with_reducible refine (ref04_within x.kind 0 2 _ H1.out).mono ?_)|(with_reducible refine (ref04_within x.width 1 1024 _ H2.out).mono ?_)|(with_reducible refine (ref04_within x.depth 1 8 _ H3.out).mono ?_));rintro e w3 ⟨rfl,rfl⟩)
    go_ret
    exact ⟨ret_int (by rw [← HR.out];simp [sktErr,HE.out,sktB,H1.out,H2.out,H3.out, *]),hx1⟩
   ·go_wp2_with (go_at_call 127;(first|(with_reducible refine (ref04_within x.kind 0 2 _ H1.out).mono ?_)|(with_reducible refine (ref04_within x.width 1 1024 _ H2.out).mono ?_)|(with_reducible refine (ref04_within x.depth 1 8 _ H3.out).mono ?_));rintro e w3 ⟨rfl,rfl⟩)
    go_ret
    exact ⟨ret_int (by rw [← HR.out];simp [sktErr,HE.out,sktB,H1.out,H2.out,H3.out, *]),hx1⟩
  ·go_wp2_with (go_at_call 127;(first|(with_reducible refine (ref04_within x.kind 0 2 _ H1.out).mono ?_)|(with_reducible refine (ref04_within x.width 1 1024 _ H2.out).mono ?_)|(with_reducible refine (ref04_within x.depth 1 8 _ H3.out).mono ?_));rintro e w3 ⟨rfl,rfl⟩)
   go_ret
   exact ⟨ret_int (by rw [← HR.out];simp [sktErr,HE.out,sktB,H1.out,H2.out,H3.out, *]),hx1⟩
theorem ref04_releaseO (A:Option Addr) (c m:Nat) (ts:List Tab) (o:Oth) (x:Rel) (w:World) (ht:TabsIn w w.heap.size A ts) (ho:OthIn w w.heap.size o) (hso:SaneO o) (hm:ts.length=m) (hs:SaneCat ts) :
 Calls Tryz.prog 139 #[.agg #[.slice A m c, .slice o.vA 0 o.vc, .slice o.iA o.idx.length o.ic, .slice o.sA o.skt.length o.sc, .slice o.cA o.cch.length o.cc, .slice o.rA o.rel.length o.rc, .slice o.tA o.str.length o.tc, .slice o.bA o.bak.length o.bc], .agg #[.string x.name, .string x.src, .int .i64 x.thr]] w fun e w'=>e = .returned (.int .i64 7)∧Below w.heap.size w w':=by
 subst hm
 have hlen:=hs.len
 have HT1:=qh ht.1
 have HO:=qh ho
 have HSO:=qh hso
 obtain ⟨k,hk⟩ : ∃ k,findI (ts.map Tab.name) x.src ts.length=k:=⟨_,rfl⟩
 have hkl:k<(ts.length:Int):=by
  rcases Int.lt_or_le k 0 with h|h
  ·omega
  ·obtain ⟨j,hj,e1,e2,_⟩:=findI_get (l:=ts.map Tab.name) (s:=x.src) (n:=(ts.length:Int)) omA
   omega
 have HK:=qh hk
 clear ht ho hso hs hk
 go_enter Tryz.func139,Tryz.ntmps139
 go_upto_region 1 with (fail)
 refine abs_world (P:=fun u=>Code.wp _ _ _ _ u) (R:=fun u=>Blk u w.heap.size 34 #[.slice A ts.length c, .slice o.vA 0 o.vc, .slice o.iA o.idx.length o.ic, .slice o.sA o.skt.length o.sc, .slice o.cA o.cch.length o.cc, .slice o.rA o.rel.length o.rc, .slice o.tA o.str.length o.tc, .slice o.bA o.bak.length o.bc]∧Blk u (w.heap.size + 1) 186 (Rel.cells x).toArray∧Below w.heap.size w u) ⟨?_,?_,?_⟩ ?_
 ·exact (Blk.new _ _ _).alloc _
 ·exact Blk.new' spA
 ·exact belA
 rintro W ⟨hB,hK,hbW⟩
 have hzB:=hB.lt
 have HB:=qh hB
 obtain ⟨q0,q1,q2,q3,q4,q5,q6,q7⟩:=Cat.blkO hB
 have k1:=hK.cell 1
 simp only [Rel.cells,gE3] at k1
 clear hB hK
 go_upto_region 2 with (go_at_call 129;(with_reducible refine (ref04_findO A c ts.length ts x.src _ o _ (HT1.out.next hbW) (HO.out.next hbW) HSO.out rfl hlen HK.out).mono ?_);rintro e w1 ⟨rfl,hb1⟩)
 have hx1:=below_nextN hbW hb1 hbW.size
 clear q0 q1 q2 q3 q4 q5 q6 q7 k1
 obtain ⟨q0,q1,q2,q3,q4,q5,q6,q7⟩:=Cat.blkO (HB.out.below hb1 hzB)
 have hkl':decide (k<(ts.length:Int))=true:=by simpa using hkl
 clear hkl
 go_wp2_with fail
 go_ret
 exact ⟨rfl,hx1⟩
open Go.RowKit Go
def idxErr (ts:List Tab) (x:Idx):Int:=if (srcE ts x.src x.col).2 = 0 then (if (srcE ts x.src x.col).1 = 2 then 0 else 5) else (srcE ts x.src x.col).2
def cchErr (ts:List Tab) (x:Cch):Int:=if (srcE ts x.src x.col).2 = 0 then (if withinB x.ttl 1 1048576=true then 0 else 1) else (srcE ts x.src x.col).2
def restE (ts:List Tab) (o:Oth) (n:Nat):Int:=match o.idx[n]? with
 | some x=>idxErr ts x
 | none=>match o.skt[n - o.idx.length]? with
   | some x=>sktErr ts x
   | none=>match o.cch[n - o.idx.length - o.skt.length]? with
     | some x=>cchErr ts x
     | none => 7
theorem restE_idx {ts:List Tab} {o:Oth} {n:Nat} (h:n<o.idx.length):restE ts o n=idxErr ts o.idx[n]:=by
 unfold restE
 rw [List.getElem?_eq_getElem h]
theorem restE_skt {ts:List Tab} {o:Oth} {n:Nat} (h0 : ¬ n<o.idx.length) (h:n - o.idx.length<o.skt.length):restE ts o n=sktErr ts o.skt[n - o.idx.length]:=by
 unfold restE
 rw [List.getElem?_eq_none omA,List.getElem?_eq_getElem h]
theorem restE_cch {ts:List Tab} {o:Oth} {n:Nat} (h0 : ¬ n<o.idx.length) (h1 : ¬ n - o.idx.length<o.skt.length) (h:n - o.idx.length - o.skt.length<o.cch.length):restE ts o n=cchErr ts o.cch[n - o.idx.length - o.skt.length]:=by
 unfold restE
 rw [List.getElem?_eq_none omA,List.getElem?_eq_none omA,List.getElem?_eq_getElem h]
theorem restE_rel {ts:List Tab} {o:Oth} {n:Nat} (h0 : ¬ n<o.idx.length) (h1 : ¬ n - o.idx.length<o.skt.length) (h2 : ¬ n - o.idx.length - o.skt.length<o.cch.length):restE ts o n = 7:=by
 unfold restE
 rw [List.getElem?_eq_none omA,List.getElem?_eq_none omA,List.getElem?_eq_none omA]
theorem restE_skt' {ts:List Tab} {o:Oth} {n n1:Nat} (h0 : ¬ n<o.idx.length) (e1:n - o.idx.length=n1) (h:n1<o.skt.length):restE ts o n=sktErr ts o.skt[n1]:=by
 subst e1
 exact restE_skt h0 h
theorem restE_cch' {ts:List Tab} {o:Oth} {n n2:Nat} (h0 : ¬ n<o.idx.length) (h1 : ¬ n - o.idx.length<o.skt.length) (e2:n - o.idx.length - o.skt.length=n2) (h:n2<o.cch.length):restE ts o n=cchErr ts o.cch[n2]:=by
 subst e2
 exact restE_cch h0 h1 h
theorem ref04_restO (A:Option Addr) (c m:Nat) (ts:List Tab) (o:Oth) (n:Nat) (w:World) (ht:TabsIn w w.heap.size A ts) (ho:OthIn w w.heap.size o) (hso:SaneO o) (hm:ts.length=m) (hs:SaneCat ts) (hn:n<o.idx.length+o.skt.length+o.cch.length+o.rel.length) {r:Int} (hr:restE ts o n=r) :
 Calls Tryz.prog 96 #[.agg #[.slice A m c, .slice o.vA 0 o.vc, .slice o.iA o.idx.length o.ic, .slice o.sA o.skt.length o.sc, .slice o.cA o.cch.length o.cc, .slice o.rA o.rel.length o.rc, .slice o.tA o.str.length o.tc, .slice o.bA o.bak.length o.bc], .int .i64 n] w fun e w'=>e = .returned (.int .i64 r)∧Below w.heap.size w w':=by
 subst hm
 have s1:=hso.idx
 have s2:=hso.skt
 have s3:=hso.cch
 have s4:=hso.rel
 have HT:=qh ht
 have HO:=qh ho
 have HSO:=qh hso
 have HS:=qh hs
 have HR:=qh hr
 have HN:=qh hn
 clear ht ho hso hs hr hn
 go_enter Tryz.func96,Tryz.ntmps96
 go_upto_region 1 with (fail)
 refine abs_world (P:=fun u=>Code.wp _ _ _ _ u) (R:=fun u=>Blk u w.heap.size 34 #[.slice A ts.length c, .slice o.vA 0 o.vc, .slice o.iA o.idx.length o.ic, .slice o.sA o.skt.length o.sc, .slice o.cA o.cch.length o.cc, .slice o.rA o.rel.length o.rc, .slice o.tA o.str.length o.tc, .slice o.bA o.bak.length o.bc]∧Below w.heap.size w u) ⟨?_,?_⟩ ?_
 ·exact Blk.new _ _ _
 ·exact belA
 rintro W ⟨hB,hbW⟩
 have hzW:=hB.lt
 have HOW:=qh (HO.out.below hbW)
 obtain ⟨q0,q1,q2,q3,q4,q5,q6,q7⟩:=Cat.blkO hB
 have hk0:=keepQ (w:=W) w.heap.size hzW
 have hbz:=hbW.size
 clear hB
 by_cases h1:n<o.idx.length
 ·have h1':decide (n<o.idx.length)=true:=by simpa using h1
  have HRE:=qh (HR.out.symm.trans (restE_idx h1))
  obtain ⟨b5,o5,he5,hb5,hc5⟩:=HOW.out.idx.get h1
  have x1:=hc5 1 _ rfl
  have x2:=hc5 2 _ rfl
  rw [he5] at q2
  obtain ⟨x,hx⟩ : ∃ x,o.idx[n]=x:=⟨_,rfl⟩
  rw [hx] at x1 x2 HRE
  obtain ⟨r1,r2,h12⟩ : ∃ r1 r2,srcE ts x.src x.col=(r1,r2):=⟨_,_,rfl⟩
  have H12:=qh h12
  have HSC:Hid (∀ y:BelOf W,Calls Tryz.prog 137 #[.agg #[.slice A ts.length c, .slice o.vA 0 o.vc, .slice o.iA o.idx.length o.ic, .slice o.sA o.skt.length o.sc, .slice o.cA o.cch.length o.cc, .slice o.rA o.rel.length o.rc, .slice o.tA o.str.length o.tc, .slice o.bA o.bak.length o.bc], .string x.src, .int .i64 x.col] y.u fun e w'=>e = .returned (.tuple #[.int .i64 r1, .int .i64 r2])∧Below y.u.heap.size y.u w'):=qh (fun y=>ref04_sourceO A c ts.length ts o x.src x.col _ (HT.out.next (below_nextN hbW y.h hbW.size)) (HO.out.next (below_nextN hbW y.h hbW.size)) HSO.out rfl HS.out H12.out)
  have HRI:Hid (r=if r2 = 0 then (if r1 = 2 then 0 else 5) else r2):=qh (by rw [HRE.out];unfold idxErr;rw [h12])
  rw [he5] at HSC
  have hk1:=keepQ (w:=W) b5 omA
  clear hc5 he5 hx h12
  go_upto_region 2 with (fail)
  refine wp_region_bel krA krA ?_;(repeat (go_big_quiet_step ((go_at_call 137;with_reducible exact bel_of (HSC.out _)))));refine wpQuiet_nil ?_;intro wq hq
  have hxq:=below_nextN hbW hq hbz
  clear q0 q1 q2 q3 q4 q5 q6 q7 hk0 hk1 x1 x2 HSC
  by_cases h0:r2 = 0
  ·subst h0
   by_cases h2:r1 = 2
   ·have h2':(r1 != 2)=false:=by simpa using h2
    have HR0:Hid (r = 0):=qh (by rw [HRI.out,if_pos rfl,if_pos h2])
    clear h2
    go_wp2_with fail
    go_ret
    exact ⟨ret_int HR0.out.symm,hxq⟩
   ·have h2':(r1 != 2)=true:=by simpa using h2
    have HR0:Hid (r = 5):=qh (by rw [HRI.out,if_pos rfl,if_neg h2])
    clear h2
    go_wp2_with fail
    go_ret
    exact ⟨ret_int HR0.out.symm,hxq⟩
  ·have h0':(r2 == 0)=false:=by simpa using h0
   have HR0:Hid (r=r2):=qh (by rw [HRI.out,if_neg h0])
   clear h0
   go_wp2_with fail
   go_ret
   exact ⟨ret_int HR0.out.symm,hxq⟩
 have h1':decide (n<o.idx.length)=false:=by simpa using h1
 have hnb:=HN.out
 obtain ⟨n1,hn1⟩ : ∃ n1,n - o.idx.length=n1:=⟨_,rfl⟩
 have hw1:IntKind.i64.wrap ((n:Int) - (o.idx.length:Int))=(n1:Int):=by rw [show (n:Int) - (o.idx.length:Int)=(n1:Int) by omega];exact IntWalk.i64_in _ omA
 have hn1b:n1<o.skt.length+o.cch.length+o.rel.length:=by omega
 have HN1:=qh hn1
 have H1N:=qh h1
 clear h1 hnb
 by_cases h2:n1<o.skt.length
 ·have h2':decide (n1<o.skt.length)=true:=by simpa using h2
  have HRE:=qh (HR.out.symm.trans (restE_skt' H1N.out hn1 h2))
  clear hn1
  obtain ⟨b5,o5,he5,hb5,hc5⟩:=HOW.out.skt.get h2
  have x0:=hc5 0 _ rfl
  have x1:=hc5 1 _ rfl
  have x2:=hc5 2 _ rfl
  have x3:=hc5 3 _ rfl
  have x4:=hc5 4 _ rfl
  have x5:=hc5 5 _ rfl
  rw [he5] at q3
  obtain ⟨x,hx⟩ : ∃ x,o.skt[n1]=x:=⟨_,rfl⟩
  rw [hx] at x0 x1 x2 x3 x4 x5 HRE
  simp only [Nat.add_zero] at x0
  have HSC:Hid (∀ y:BelOf W,Calls Tryz.prog 138 #[.agg #[.slice A ts.length c, .slice o.vA 0 o.vc, .slice o.iA o.idx.length o.ic, .slice o.sA o.skt.length o.sc, .slice o.cA o.cch.length o.cc, .slice o.rA o.rel.length o.rc, .slice o.tA o.str.length o.tc, .slice o.bA o.bak.length o.bc], .agg #[.string x.name, .string x.src, .int .i64 x.col, .int .i64 x.kind, .int .i64 x.width, .int .i64 x.depth]] y.u fun e w'=>e = .returned (.int .i64 r)∧Below y.u.heap.size y.u w'):=qh fun y=>by
   have hb:=below_nextN hbW y.h hbW.size
   exact ref04_sketchO A c ts.length ts o x _ (HT.out.next hb) (HO.out.next hb) HSO.out rfl HS.out HRE.out.symm
  rw [he5] at HSC
  have hk1:=keepQ (w:=W) b5 omA
  clear hc5 he5 hx
  go_upto_region 8 with (fail)
  refine wp_region_bel krA krA ?_;(repeat (go_big_quiet_step ((go_at_call 138;with_reducible exact bel_of (HSC.out _)))));refine wpQuiet_nil ?_;intro wq hq
  have hxq:=below_nextN hbW hq hbz
  clear q0 q1 q2 q3 q4 q5 q6 q7 hk0 hk1 x0 x1 x2 x3 x4 x5 HSC
  go_wp2_with fail
  go_ret
  exact ⟨rfl,hxq⟩
 have h2':decide (n1<o.skt.length)=false:=by simpa using h2
 obtain ⟨n2,hn2⟩ : ∃ n2,n1 - o.skt.length=n2:=⟨_,rfl⟩
 have hw2:IntKind.i64.wrap ((n1:Int) - (o.skt.length:Int))=(n2:Int):=by rw [show (n1:Int) - (o.skt.length:Int)=(n2:Int) by omega];exact IntWalk.i64_in _ omA
 have hn2b:n2<o.cch.length+o.rel.length:=by omega
 have HN2:=qh hn2
 have H2N:Hid (¬ n - o.idx.length<o.skt.length):=qh (by rw [hn1];exact h2)
 have HNN:Hid (n - o.idx.length - o.skt.length=n2):=qh (by rw [hn1,hn2])
 clear h2 hn1b hn1
 by_cases h3:n2<o.cch.length
 ·have h3':decide (n2<o.cch.length)=true:=by simpa using h3
  have HRE:=qh (HR.out.symm.trans (restE_cch' H1N.out H2N.out HNN.out h3))
  clear hn2
  obtain ⟨b5,o5,he5,hb5,hc5⟩:=HOW.out.cch.get h3
  have x1:=hc5 1 _ rfl
  have x2:=hc5 2 _ rfl
  have x3:=hc5 3 _ rfl
  rw [he5] at q4
  obtain ⟨x,hx⟩ : ∃ x,o.cch[n2]=x:=⟨_,rfl⟩
  rw [hx] at x1 x2 x3 HRE
  obtain ⟨r1,r2,h12⟩ : ∃ r1 r2,srcE ts x.src x.col=(r1,r2):=⟨_,_,rfl⟩
  have H12:=qh h12
  have HSC:Hid (∀ y:BelOf W,Calls Tryz.prog 137 #[.agg #[.slice A ts.length c, .slice o.vA 0 o.vc, .slice o.iA o.idx.length o.ic, .slice o.sA o.skt.length o.sc, .slice o.cA o.cch.length o.cc, .slice o.rA o.rel.length o.rc, .slice o.tA o.str.length o.tc, .slice o.bA o.bak.length o.bc], .string x.src, .int .i64 x.col] y.u fun e w'=>e = .returned (.tuple #[.int .i64 r1, .int .i64 r2])∧Below y.u.heap.size y.u w'):=qh (fun y=>ref04_sourceO A c ts.length ts o x.src x.col _ (HT.out.next (below_nextN hbW y.h hbW.size)) (HO.out.next (below_nextN hbW y.h hbW.size)) HSO.out rfl HS.out H12.out)
  have HRI:Hid (r=if r2 = 0 then (if withinB x.ttl 1 1048576=true then 0 else 1) else r2):=qh (by rw [HRE.out];unfold cchErr;rw [h12])
  rw [he5] at HSC
  have hk1:=keepQ (w:=W) b5 omA
  have HE5:=qh he5
  have HX3:=qh x3
  have HQ4:=qh q4
  have hb5':b5<W.heap.size:=by omega
  clear hc5 he5 hx h12 x3
  go_upto_region 11 with (fail)
  refine wp_region_bel krA krA ?_;(repeat (go_big_quiet_step ((go_at_call 137;with_reducible exact bel_of (HSC.out _)))));refine wpQuiet_nil ?_;intro wq hq
  have hxq:=below_nextN hbW hq hbz
  have q4':=(hq.cell (p:=⟨w.heap.size,4,none⟩) hzW).trans HQ4.out
  have x3:=(hq.cell (p:=⟨b5,o5+n2 * 4 + 3,none⟩) hb5').trans HX3.out
  clear q0 q1 q2 q3 q4 q5 q6 q7 hk0 hk1 x1 x2 HSC
  obtain ⟨tt,htt⟩ : ∃ b,withinB x.ttl 1 1048576=b:=⟨_,rfl⟩
  have HTT:=qh htt
  clear htt
  by_cases h0:r2 = 0
  ·subst h0
   cases tt
   ·have HR0:Hid (r = 1):=qh (by rw [HRI.out,if_pos rfl,HTT.out];rfl)
    go_wp2_with (go_at_call 127;(with_reducible refine (ref04_within _ _ _ _ HTT.out).mono ?_);rintro e w3 ⟨rfl,rfl⟩)
    go_ret
    exact ⟨ret_int HR0.out.symm,hxq⟩
   ·have HR0:Hid (r = 0):=qh (by rw [HRI.out,if_pos rfl,HTT.out];rfl)
    go_wp2_with (go_at_call 127;(with_reducible refine (ref04_within _ _ _ _ HTT.out).mono ?_);rintro e w3 ⟨rfl,rfl⟩)
    go_ret
    exact ⟨ret_int HR0.out.symm,hxq⟩
  ·have h0':(r2 == 0)=false:=by simpa using h0
   have HR0:Hid (r=r2):=qh (by rw [HRI.out,if_neg h0])
   clear h0
   go_wp2_with fail
   go_ret
   exact ⟨ret_int HR0.out.symm,hxq⟩
 have h3':decide (n2<o.cch.length)=false:=by simpa using h3
 obtain ⟨n3,hn3⟩ : ∃ n3,n2 - o.cch.length=n3:=⟨_,rfl⟩
 have hw3:IntKind.i64.wrap ((n2:Int) - (o.cch.length:Int))=(n3:Int):=by rw [show (n2:Int) - (o.cch.length:Int)=(n3:Int) by omega];exact IntWalk.i64_in _ omA
 have h4:n3<o.rel.length:=by omega
 have HR0:Hid (r = 7):=qh (by rw [← HR.out];exact restE_rel H1N.out H2N.out (by rw [HNN.out];exact h3))
 clear h3 hn2b hn2 hn3
 have h4':decide (n3<o.rel.length)=true:=by simpa using h4
 obtain ⟨b5,o5,he5,hb5,hc5⟩:=HOW.out.rel.get h4
 have x0:=hc5 0 _ rfl
 have x1:=hc5 1 _ rfl
 have x2:=hc5 2 _ rfl
 simp only [Nat.add_zero] at x0
 rw [he5] at q5
 obtain ⟨x,hx⟩ : ∃ x,o.rel[n3]=x:=⟨_,rfl⟩
 rw [hx] at x0 x1 x2
 have HSC:Hid (∀ y:BelOf W,Calls Tryz.prog 139 #[.agg #[.slice A ts.length c, .slice o.vA 0 o.vc, .slice o.iA o.idx.length o.ic, .slice o.sA o.skt.length o.sc, .slice o.cA o.cch.length o.cc, .slice o.rA o.rel.length o.rc, .slice o.tA o.str.length o.tc, .slice o.bA o.bak.length o.bc], .agg #[.string x.name, .string x.src, .int .i64 x.thr]] y.u fun e w'=>e = .returned (.int .i64 7)∧Below y.u.heap.size y.u w'):=qh fun y=>by
  have hb:=below_nextN hbW y.h hbW.size
  exact ref04_releaseO A c ts.length ts o x _ (HT.out.next hb) (HO.out.next hb) HSO.out rfl HS.out
 rw [he5] at HSC
 have hk1:=keepQ (w:=W) b5 omA
 clear hc5 he5 hx
 go_upto_region 17 with (fail)
 refine wp_region_bel krA krA ?_;(repeat (go_big_quiet_step ((go_at_call 139;with_reducible exact bel_of (HSC.out _)))));refine wpQuiet_nil ?_;intro wq hq
 have hxq:=below_nextN hbW hq hbz
 clear q0 q1 q2 q3 q4 q5 q6 q7 hk0 hk1 x0 x1 x2 HSC
 go_wp2_with fail
 go_ret
 exact ⟨ret_int HR0.out.symm,hxq⟩
open Go.RowKit Go
def allN (ts:List Tab) (o:Oth):List ByteArray:=ts.map Tab.name++o.names
structure DeclO (ts:List Tab) (o:Oth) (j:Nat):Prop where
 name:nameB ((allN ts o).getD (ts.length+j) ⟨#[]⟩)=true
 fresh : ∀ k,k<ts.length+j→(allN ts o).getD k ⟨#[]⟩≠(allN ts o).getD (ts.length+j) ⟨#[]⟩
 err:restE ts o j = 0
structure CatOkO (ts:List Tab) (o:Oth):Prop where
 cat:CatOk ts
 decl : ∀ j,j<o.names.length→DeclO ts o j
structure Oth16 (o:Oth):Prop where
 idx:o.idx.length ≤ 16
 skt:o.skt.length ≤ 16
 cch:o.cch.length ≤ 16
 rel:o.rel.length ≤ 16
 str:o.str.length ≤ 16
 bak:o.bak.length ≤ 16
 back:o.rel.length = 0→o.str.length = 0∧o.bak.length = 0
theorem names_len (o:Oth):o.names.length=o.idx.length+o.skt.length+o.cch.length+o.rel.length+o.str.length+o.bak.length:=by
 simp only [Oth.names,List.length_append,List.length_map]
 omega
theorem decl_low {ts:List Tab} {o:Oth} {j:Nat} (hb:o.rel.length = 0→o.str.length = 0∧o.bak.length = 0) (hj:j<o.names.length) (hd : ∀ i,i<j→DeclO ts o i):j<o.idx.length+o.skt.length+o.cch.length+o.rel.length:=by
 rw [names_len] at hj
 rcases Nat.eq_zero_or_pos o.rel.length with h0|h0
 ·have:=hb h0
  omega
 ·rcases Nat.lt_or_ge (o.idx.length+o.skt.length+o.cch.length) j with h1|h1
  ·exfalso
   have h2:=(hd _ h1).err
   rw [restE_rel omA omA omA] at h2
   cases h2
  ·omega
theorem getD_at {l:List ByteArray} {i:Nat} (hi:i<l.length):l.getD i ⟨#[]⟩=l[i]:=by
 rw [List.getD_eq_getElem?_getD,List.getElem?_eq_getElem hi]
 rfl
theorem allN_get {ts:List Tab} {o:Oth} {m:Nat} (hm:m<(allN ts o).length) (h1:m<ts.length):(allN ts o)[m]=ts[m].name :=
 Option.some.inj (by
  rw [← List.getElem?_eq_getElem hm]
  unfold allN
  rw [List.getElem?_append_left (by simpa using h1),List.getElem?_map,List.getElem?_eq_getElem h1]
  rfl)
theorem CatOkO.nameAt {ts:List Tab} {o:Oth} {nl:List ByteArray} (h:CatOkO ts o) (e:allN ts o=nl) (m:Nat) (hm:m<nl.length):nameB nl[m]=true:=by
 subst e
 have hl:(allN ts o).length=ts.length+o.names.length:=by unfold allN;rw [List.length_append,List.length_map]
 by_cases h1:m<ts.length
 ·have h2:=(h.cat.tab m h1).name
  rw [allN_get hm h1]
  exact h2
 ·have h2:=(h.decl (m - ts.length) omA).name
  rw [show ts.length+(m - ts.length)=m by omega,getD_at hm] at h2
  exact h2
theorem CatOkO.freshAt {ts:List Tab} {o:Oth} {nl:List ByteArray} (h:CatOkO ts o) (e:allN ts o=nl) (m:Nat) (hm:m<nl.length) (k:Nat) (hk:k<nl.length) (hkm:k<m) (he:nl[k]=nl[m]):False:=by
 subst e
 have hl:(allN ts o).length=ts.length+o.names.length:=by unfold allN;rw [List.length_append,List.length_map]
 by_cases h1:m<ts.length
 ·have h2:=(h.cat.tab m h1).fresh k hkm
  exact h2 (by rw [← allN_get hm h1,← allN_get hk omA,he])
 ·have h2:=(h.decl (m - ts.length) omA).fresh k omA
  rw [show ts.length+(m - ts.length)=m by omega,getD_at hm,getD_at hk] at h2
  exact h2 he
def mx2 (x y:Int):Int:=if x<y then y else x
theorem mx2_le {x y:Int} (hx:x ≤ 16) (hy:y ≤ 16):mx2 x y ≤ 16:=by
 unfold mx2
 split <;> assumption
theorem max6O (a b c d e f:Nat) (h1:a ≤ 16) (h2:b ≤ 16) (h3:c ≤ 16) (h4:d ≤ 16) (h5:e ≤ 16) (h6:f ≤ 16) : ∃ mx:Int,(∀ (ts:Array TypeId) (t:TypeId) (w:World),(Builtin.max_ ts t #[.int .i64 a, .int .i64 b, .int .i64 c, .int .i64 d, .int .i64 e, .int .i64 f]).run Tryz.prog w = .ok (.int .i64 mx) w)∧mx ≤ 16:=by
 refine ⟨mx2 (mx2 (mx2 (mx2 (mx2 a b) c) d) e) f,fun ts t w => ?_,mx2_le (mx2_le (mx2_le (mx2_le (mx2_le omA omA) omA) omA) omA) omA⟩
 simp [Builtin.max_,Builtin.max2,mx2]
theorem ref04_CheckO (A:Option Addr) (c m:Nat) (ts:List Tab) (o:Oth) (w:World) (ht:TabsIn w w.heap.size A ts) (hm:ts.length=m) (hs:SaneCat ts) (ho:OthIn w w.heap.size o) (hso:SaneO o) (h16:Oth16 o) :
 Calls Tryz.prog 63 #[.agg #[.slice A m c, .slice o.vA 0 o.vc, .slice o.iA o.idx.length o.ic, .slice o.sA o.skt.length o.sc, .slice o.cA o.cch.length o.cc, .slice o.rA o.rel.length o.rc, .slice o.tA o.str.length o.tc, .slice o.bA o.bak.length o.bc]] w fun e w' =>
  (∃ i k:Int,e = .returned (.tuple #[.int .i64 i, .int .i64 k])∧(k = 0↔CatOkO ts o))∧Below w.heap.size w w':=by
 subst hm
 have hlen:=hs.len
 have HT:=qh ht
 have HT1:=qh ht.1
 have HS:=qh hs
 have HO:=qh ho
 have HSO:=qh hso
 have hol:=hso.len
 have HRB:=qh h16.back
 obtain ⟨g1,g2,g3,g4,g5,g6,_⟩:=h16
 clear ht hs ho hso
 by_cases h8 : 8<ts.length
 ·have h8':decide (8<ts.length)=true:=by simpa using h8
  have HNO:Hid (¬ CatOkO ts o):=qh fun h=>by have:=h.cat.len;omega
  go_enter Tryz.func63,Tryz.ntmps63
  go_wp2_with fail
  go_ret2
  exact ⟨⟨0,8,rfl,fun h=>by omega,fun h=>absurd h HNO.out⟩,by exact belA⟩
 have h8':decide (8<ts.length)=false:=by simpa using h8
 have hmx:=max6O o.idx.length o.skt.length o.cch.length o.rel.length o.str.length o.bak.length g1 g2 g3 g4 g5 g6
 obtain ⟨mx,hmx,hmx16⟩:=hmx
 have hmx16i:decide (16<mx)=false:=by simpa using hmx16
 go_enter Tryz.func63,Tryz.ntmps63
 go_wp2_with fail
 (with_reducible refine (ref04_namesO A c ts.length ts o _ (HT1.out.next belA) (HO.out.next belA) HSO.out rfl hlen).mono ?_)
 rintro e W ⟨⟨A1,c1,rfl,hs1⟩,hb1⟩
 have hbW:Below w.heap.size w W:=below_nextN belA hb1 leA
 have hB:Blk W w.heap.size 34 #[.slice A ts.length c, .slice o.vA 0 o.vc, .slice o.iA o.idx.length o.ic, .slice o.sA o.skt.length o.sc, .slice o.cA o.cch.length o.cc, .slice o.rA o.rel.length o.rc, .slice o.tA o.str.length o.tc, .slice o.bA o.bak.length o.bc]:=(Blk.new _ _ _).below hb1 spA
 have hzW:=hB.lt
 have HB:=qh hB
 obtain ⟨nl,hnl⟩ : ∃ nl,ts.map Tab.name++o.names=nl:=⟨_,rfl⟩
 have hnll:nl.length=ts.length+o.names.length:=by rw [← hnl,List.length_append,List.length_map]
 have hnlg : ∀ i (h:i<nl.length) (h':i<ts.length),nl[i]=ts[i].name:=fun i h h'=>by simp only [← hnl];rw [List.getElem_append_left (by simpa using h'),List.getElem_map]
 have HNL:Hid (allN ts o=nl):=qh hnl
 have hnsz : ∀ x∈nl,x.size ≤ 1000000:=fun x hx=>by
  rw [← hnl] at hx
  rcases List.mem_append.1 hx with h|h
  ·obtain ⟨y,hy,rfl⟩:=List.mem_map.1 h
   exact (HS.out.tabs y hy).name
  ·exact HSO.out.names x h
 obtain ⟨NN,hNN⟩ : ∃ NN,ts.length+o.names.length=NN:=⟨_,rfl⟩
 have HNN:=qh hNN
 have HSZ:=qh hnsz
 rw [hNN] at hnll
 rw [hNN]
 have hNl:NN ≤ 1000600:=by omega
 rw [hnl] at hs1
 have HN:=qh hnll
 have HG:=qh hnlg
 have HS1:=qh hs1
 clear hB hs1 hnl hnll hnlg hb1 h8' hnsz hNN hmx hmx16i hol g1 g2 g3 g4 g5 g6
 go_wp2_with fail
 go_loopw [5] (fun vi wr => ∃ m:Nat,m≤NN∧vi = .int .i64 m∧Below W.heap.size W wr∧(∀ i (h:i<ts.length),i<m→TabOk ts i h)∧(∀ j,ts.length+j<m→DeclO ts o j)) (fun vi _=>NN - (intOf vi).toNat)
 case atStart=>exact ⟨0,Nat.zero_le _,rfl,Below.refl _ _,fun i _ h=>by omega,fun j h=>by omega⟩
 case round =>
  obtain ⟨m,hm,rfl,hbr,hok,hdk⟩:=hrel
  have HDK:=qh hdk
  clear hdk
  have HOK:=qh hok
  have hwz:=hbr.size
  have hxr:=below_nextN hbW hbr hbW.size
  obtain ⟨p0,p1,p2,p3,p4,p5,p6,p7⟩:=Cat.blkO (HB.out.below hbr hzW)
  clear hok
  by_cases hlt:m<NN
  ·have hltn:m<nl.length:=by have:=HN.out;omega
   obtain ⟨b5,o5,rfl,hb5,hc5⟩:=(HS1.out.next hbr).get hltn
   have x0:=hc5 0 _ rfl
   simp only [Nat.mul_one,Nat.add_zero] at x0
   have hsz:nl[m].size ≤ 1000000:=HSZ.out _ (lgm hltn)
   clear hc5
   cases hnb:nameB nl[m]
   ·have HNB:=qh hnb
    have HNO:Hid (¬ CatOkO ts o):=qh fun h=>by
     have h1:=h.nameAt HNL.out m hltn
     rw [hnb] at h1
     cases h1
    clear hnb
    go_wp2_with (go_at_call 93;(with_reducible refine (ref02_IsNameB nl[m] _ hsz HNB.out).mono ?_);rintro e w1 ⟨rfl,rfl⟩)
    go_ret2
    exact ⟨⟨m,3,rfl,fun h=>by omega,fun h=>absurd h HNO.out⟩,hxr⟩
   ·have HNB:=qh hnb
    clear hnb
    go_wp2_with (go_at_call 93;(with_reducible refine (ref02_IsNameB nl[m] _ hsz HNB.out).mono ?_);rintro e w1 ⟨rfl,rfl⟩)
    obtain ⟨wo,rfl⟩ : ∃ wo:World,wo=wr:=⟨_,rfl⟩
    go_loopw [6] (fun vk wi => ∃ k:Nat,k≤m∧vk = .int .i64 k∧Below wo.heap.size wo wi∧(∀ i (h:i<nl.length),i<k→nl[i]≠nl[m])) (fun vk _=>m - (intOf vk).toNat)
    case atStart=>exact ⟨0,Nat.zero_le _,rfl,Below.refl _ _,fun i _ h=>by omega⟩
    case round =>
     obtain ⟨k,hk,rfl,hbi,hno⟩:=hrel
     have HNO:=qh hno
     have hyi:=below_nextN hbr hbi hwz
     have hxi:=below_nextN hxr hbi hxr.size
     have hiz:=hbi.size
     have x1:=((keepB hbi b5 omA).1 _).trans x0
     clear hno p0 p1 p2 p3 p4 p5 p6 p7
     obtain ⟨p0,p1,p2,p3,p4,p5,p6,p7⟩:=Cat.blkO (HB.out.below hyi hzW)
     by_cases hkm:k<m
     ·have hkn:k<nl.length:=by omega
      obtain ⟨b6,o6,hbe,hb6,hc6⟩:=((HS1.out.next hbr).next hbi).get hkn
      injection hbe with hbe
      injection hbe with hbe1 hbe2
      subst hbe1 hbe2
      have y0:=hc6 0 _ rfl
      simp only [Nat.mul_one,Nat.add_zero] at y0
      have hk0:=keepQ (w:=wr) b5 omA
      clear hc6 x0
      by_cases he:nl[k]=nl[m]
      ·have he':=strT he
       have HBAD:Hid (¬ CatOkO ts o):=qh fun h=>h.freshAt HNL.out m hltn k hkn hkm he
       clear he
       go_upto_region 12 with (fail)
       refine wp_region_bel krA krA ?_;(repeat (go_big_quiet_step (fail)));refine wpQuiet_nil ?_;intro wq hq
       go_wp2_with fail
       go_ret2
       exact ⟨⟨m,4,rfl,fun h=>by omega,fun h=>absurd h HBAD.out⟩,below_nextN hxi hq hxi.size⟩
      ·have he':=strF he
       have HNE1:=qh he
       clear he
       go_upto_region 12 with (fail)
       refine wp_region_bel krA krA ?_;(repeat (go_big_quiet_step (fail)));refine wpQuiet_nil ?_;intro wq hq
       clear he' hk0 y0
       go_wp2_with fail
       go_roundw
       case rel=>exact ⟨k + 1,by omega,by go_num,below_nextN hbi hq hiz,fun i h hi=>by
        rcases Nat.lt_or_ge i k with h1|h1
        ·exact HNO.out i h h1
        ·obtain rfl:i=k:=by omega
         exact HNE1.out⟩
       case measure=>exact meA
     ·have hkm':decide (k<m)=false:=by simpa using hkm
      by_cases hmt:m<ts.length
      ·have hmf:decide (m<ts.length)=true:=by simpa using hmt
       have hne : ∀ k (h:k<ts.length),k<m → 0<ts[k].cols.length:=fun k h hk=>(shape_cols (tabErr_shape (HOK.out k h hk).form)).1
       have HNE:=qh hne
       have hfr : ∀ k (hk:k<m),ts[k].name≠ts[m].name:=fun j hj e=>HNO.out j omA omA (by rw [HG.out j omA omA,e,HG.out m hltn hmt])
       have HFR:=qh hfr
       obtain ⟨te,hte⟩ : ∃ te,tabErr ts m ts[m]=te:=⟨_,rfl⟩
       have HTE:=qh hte
       clear hne hfr hte
       by_cases he:te = 0
       ·subst he
        go_wp2_with (go_at_call 94;(with_reducible refine (ref04_checkTableO A c ts.length ts m ts[m] o _ (HT.out.next hxi) (HO.out.next hxi) HSO.out rfl HS.out hmt (by rfl) HNE.out HTE.out).mono ?_);rintro e w1 ⟨rfl,hb1⟩)
        clear hkm'
        go_roundw
        case rel=>exact ⟨m + 1,by omega,by go_num,below_nextN hyi hb1 hyi.size,fun i h hi=>by
         rcases Nat.lt_or_ge i m with h1|h1
         ·exact HOK.out i h h1
         ·obtain rfl:i=m:=by omega
          exact ⟨by rw [← HG.out i hltn hmt];exact HNB.out,HFR.out,HTE.out⟩,fun j hj=>by omega⟩
        case measure=>exact meA
       ·have he':(te != 0)=true:=by simpa using he
        have HBAD:Hid (¬ CatOkO ts o):=qh fun h=>he (by rw [← HTE.out];exact (h.cat.tab m hmt).form)
        have HE0:=qh he
        clear he
        go_wp2_with (go_at_call 94;(with_reducible refine (ref04_checkTableO A c ts.length ts m ts[m] o _ (HT.out.next hxi) (HO.out.next hxi) HSO.out rfl HS.out hmt (by rfl) HNE.out HTE.out).mono ?_);rintro e w1 ⟨rfl,hb1⟩)
        go_ret2
        exact ⟨⟨m,te,rfl,fun h=>absurd h HE0.out,fun h=>absurd h HBAD.out⟩,below_nextN hxi hb1 hxi.size⟩
      ·have hmt' : ¬ m<ts.length:=hmt
       obtain ⟨j,hj⟩ : ∃ j,m - ts.length=j:=⟨_,rfl⟩
       have hmj:m=ts.length+j:=by omega
       have HMJ:=qh hmj
       have hmf:decide (m<ts.length)=false:=by simpa using hmt
       have hwj:IntKind.i64.wrap ((m:Int) - (ts.length:Int))=(j:Int):=by rw [show (m:Int) - (ts.length:Int)=(j:Int) by omega];exact IntWalk.i64_in _ omA
       have hjb:j ≤ 1000600:=by omega
       have hjN:j<o.names.length:=by have:=HNN.out;omega
       have hjr:j<o.idx.length+o.skt.length+o.cch.length+o.rel.length:=decl_low HRB.out hjN fun i hi=>HDK.out i omA
       obtain ⟨te,hte⟩ : ∃ te,restE ts o j=te:=⟨_,rfl⟩
       have HTE:=qh hte
       have HND:Hid (te = 0→DeclO ts o j):=qh fun h=>⟨by rw [HNL.out,← hmj,getD_at hltn];exact HNB.out,fun k hk=>by rw [HNL.out,← hmj,getD_at (show k<nl.length by omega),getD_at hltn];exact HNO.out k omA omA,by rw [hte,h]⟩
       clear hte hmj hj hmt hmt'
       by_cases he:te = 0
       ·subst he
        go_wp2_with (go_at_call 96;(with_reducible refine (ref04_restO A c ts.length ts o j _ (HT.out.next hxi) (HO.out.next hxi) HSO.out rfl HS.out hjr HTE.out).mono ?_);rintro e w1 ⟨rfl,hb1⟩)
        clear hkm'
        go_roundw
        case rel=>exact ⟨m + 1,by omega,by go_num,below_nextN hyi hb1 hyi.size,fun i h hi=>HOK.out i h (by have:=HMJ.out;omega),fun i hi=>by
         have h2:=HMJ.out
         rcases Nat.lt_or_ge i j with h1|h1
         ·exact HDK.out i omA
         ·obtain rfl:i=j:=by omega
          exact HND.out (by first|rfl|trivial)⟩
        case measure=>exact meA
       ·have he':(te != 0)=true:=by simpa using he
        have HBAD:Hid (¬ CatOkO ts o):=qh fun h=>he (by rw [← HTE.out];exact (h.decl j hjN).err)
        have HE0:=qh he
        clear he
        go_wp2_with (go_at_call 96;(with_reducible refine (ref04_restO A c ts.length ts o j _ (HT.out.next hxi) (HO.out.next hxi) HSO.out rfl HS.out hjr HTE.out).mono ?_);rintro e w1 ⟨rfl,hb1⟩)
        go_ret2
        exact ⟨⟨m,te,rfl,fun h=>absurd h HE0.out,fun h=>absurd h HBAD.out⟩,below_nextN hxi hb1 hxi.size⟩
  ·have hlt':decide (m<NN)=false:=by simpa using hlt
   have HYES:Hid (CatOkO ts o):=qh ⟨⟨by omega,fun i h=>HOK.out i h (by have:=HNN.out;omega)⟩,fun j hj=>HDK.out j (by have:=HNN.out;omega)⟩
   go_wp2_with fail
   go_ret2
   exact ⟨⟨0,0,rfl,fun _=>HYES.out,fun _=>rfl⟩,hxr⟩
theorem ref04_ValidO (A:Option Addr) (c m:Nat) (ts:List Tab) (o:Oth) (w:World) (ht:TabsIn w w.heap.size A ts) (hm:ts.length=m) (hs:SaneCat ts) (ho:OthIn w w.heap.size o) (hso:SaneO o) (h16:Oth16 o) {r:Bool} (hr:pb (CatOkO ts o)=r) :
 Calls Tryz.prog 29 #[.agg #[.slice A m c, .slice o.vA 0 o.vc, .slice o.iA o.idx.length o.ic, .slice o.sA o.skt.length o.sc, .slice o.cA o.cch.length o.cc, .slice o.rA o.rel.length o.rc, .slice o.tA o.str.length o.tc, .slice o.bA o.bak.length o.bc]] w fun e w' =>
  e = .returned (.bool r)∧Below w.heap.size w w':=by
 subst hr
 have HT:=qh ht
 have HS:=qh hs
 have HO:=qh ho
 clear ht hs ho
 go_enter Tryz.func29,Tryz.ntmps29
 go_wp2_with fail
 (with_reducible refine (ref04_CheckO A c m ts o _ (HT.out.next belA) hm HS.out (HO.out.next belA) hso h16).mono ?_)
 rintro e w1 ⟨⟨i,k,rfl,hk⟩,hb1⟩
 have HK:=qh hk
 clear hk
 go_wp2_with fail
 go_ret
 refine ⟨ret_bool ?_,below_nextN belA hb1 leA⟩
 rw [Bool.eq_iff_iff,pb_iff,← HK.out]
 simp
end Go.Proofs.YtjhnpnhpmdkpcaaGreat
