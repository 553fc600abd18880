/-
  Contracts and plain laws of this seat, part 35: AppX, Appl, SmC.
-/
import Derived.Test.YtkiglflbngfelaaGreatJ8
import Derived.Test.YtkiglflbngfelaaGreatJ11
import Derived.Test.YtkiglflbngfelaaGreatJ14
import Derived.Test.YtkiglflbngfelaaGreatJ31
import Derived.Test.YtkiglflbngfelaaGreatJ32
import Derived.Test.YtkiglflbngfelaaGreatJ27
import Derived.Test.YtkiglflbngfelaaGreatJ7
set_option linter.unusedVariables false
set_option linter.unusedSimpArgs false
set_option maxRecDepth 100000
set_option maxHeartbeats 16000000
namespace Go.Proofs.YtkiglflbngfelaaGreat
open Go.RowKit
theorem ref07_ApplyX (A:Option Addr) (c m:Nat) (ts:List Tab) (RA:Option Addr) (rc n:Nat) (rt:List RTab) (kd sq dy tb:Int) (A0:Option Addr) (cp:Nat) (row:List Val) (key:Val) (cl:Int) (vl:Val) (w:World) (ht:TabsIn w w.heap.size A ts) (hm:ts.length=m) (hs:SaneCat ts) (hrt:RTabsIn w w.heap.size RA rt) (hn:rt.length=n) (hsr:SaneR rt) (hR:SliceIs w w.heap.size Val.cells 3 A0 row) (hrl:row.length ≤ 1000000) {z:Int} (hz:checkE ts rt ⟨kd,sq,dy,tb,A0,cp,row,key,cl,vl⟩=z) :
 Calls Tryz.prog 36 #[.agg #[.slice A m c, .slice none 0 0, .slice none 0 0, .slice none 0 0, .slice none 0 0, .slice none 0 0, .slice none 0 0, .slice none 0 0], .slice RA n rc, .agg #[.int .i64 kd, .int .i64 sq, .int .i64 dy, .int .i64 tb, .slice A0 row.length cp, .int .i64 key.kind, .int .i64 key.num, .string key.text, .int .i64 cl, .int .i64 vl.kind, .int .i64 vl.num, .string vl.text]] w (fun e w'=>(∃ A' c' m' l',e = .returned (.tuple #[.slice A' m' c', .int .i64 z])∧(z = 0→m'=n∧l'.length=n∧RTabsIn w' w'.heap.size A' l'∧RUp w.heap.size A' l'∧RShape ts l'∧l'.map pureT=performE (rt.map pureT) ⟨kd,sq,dy,tb,A0,cp,row,key,cl,vl⟩)∧(z ≠ 0→A'=none∧m' = 0∧c' = 0))∧Below w.heap.size w w'):=by
 subst hm hn
 have HZ:=qh hz
 have HT:=qh ht
 have HS:=qh hs
 have HRT:=qh hrt
 have HSR:=qh hsr
 have HR:=qh hR
 clear hz ht hs hrt hsr hR
 go_enter Tryz.func36,Tryz.ntmps36
 go_upto_region 1 with (fail)
 refine abs_world (P:=fun u=>Code.wp _ _ _ _ u) (R:=fun u=>Blk u w.heap.size 34 #[.slice A ts.length c, .slice none 0 0, .slice none 0 0, .slice none 0 0, .slice none 0 0, .slice none 0 0, .slice none 0 0, .slice none 0 0]∧Blk u (w.heap.size + 1) 53 (Chg.cells ⟨kd,sq,dy,tb,A0,cp,row,key,cl,vl⟩).toArray∧Below w.heap.size w u) ⟨?_,?_,?_⟩ ?_
 ·exact (Blk.new _ _ _).alloc _
 ·exact Blk.new' spA
 ·exact belA
 rintro W ⟨hC,hX,hbW⟩
 have hzW:=hX.lt
 have HC:=qh hC
 have HX:=qh hX
 obtain ⟨p0,p1,p2,p3,p4,p5,p6,p7⟩:=Cat.blk hC
 obtain ⟨⟨q0,q1,q2,q3⟩,q4,⟨q5,q6,q7⟩,q8,q9,q10,q11⟩:=Chg.blk hX
 simp only at q0 q1 q2 q3 q4 q5 q6 q7 q8 q9 q10 q11
 clear hC hX
 go_wp2_with fail
 (with_reducible refine (ref07_Check A c ts.length ts RA rc rt.length rt kd sq dy tb A0 cp row key cl vl _ (HT.out.next (below_nextN hbW brf hbW.size)) rfl HS.out (HRT.out.next (below_nextN hbW brf hbW.size)) rfl HSR.out (HR.out.next (below_nextN hbW brf hbW.size)) hrl HZ.out).mono ?_)
 rintro e w1 ⟨rfl,hb1⟩
 clear p0 p1 p2 p3 p4 p5 p6 p7 q0 q1 q2 q3 q4 q5 q6 q7 q8 q9 q10 q11
 have hx1:=below_nextN hbW hb1 hbW.size
 have hz1:=hb1.size
 by_cases hz0:z = 0
 rotate_left
 ·have hz0':(z != 0)=true:=by simpa using hz0
  have HZ0:=qh hz0
  clear hz0
  go_wp2_with fail
  go_ret2
  exact ⟨⟨none,0,0,[],rfl,fun h=>absurd h HZ0.out,fun _=>⟨rfl,rfl,rfl⟩⟩,hx1⟩
 have HCZ:=qh (checkE_zero (HZ.out.trans hz0))
 have HZ0:=qh hz0
 have hz0':(z != 0)=false:=by rw [hz0];rfl
 obtain ⟨k,hin⟩:=formE_in HCZ.out.2
 have HIN:=qh hin
 have hX1:=HX.out.below hb1 hzW
 have hC1:=HC.out.below hb1 omA
 obtain ⟨p0,p1,p2,p3,p4,p5,p6,p7⟩:=Cat.blk hC1
 obtain ⟨⟨q0,q1,q2,q3⟩,q4,⟨q5,q6,q7⟩,q8,q9,q10,q11⟩:=Chg.blk hX1
 simp only at q0 q1 q2 q3 q4 q5 q6 q7 q8 q9 q10 q11
 clear hC1 hX1 hin hz0
 go_wp2_with fail
 (with_reducible refine (ref07_perform ts RA rc rt.length rt k kd sq dy tb A0 cp row key cl vl _ (HRT.out.next (below_nextN hx1 brf hx1.size)) rfl HCZ.out.1.shape HCZ.out.1.cat (HR.out.next (below_nextN hx1 brf hx1.size)) HIN.out).mono ?_)
 rintro e w2 ⟨⟨A',c',l',rfl,hl1,hl2,hl3,hl4⟩,hb2⟩
 have HL:=qh (And.intro hl1 (And.intro hl2 (And.intro hl3 hl4)))
 have HZZ:Hid (z = 0):=HZ0
 clear hl1 hl2 hl3 hl4
 clear p0 p1 p2 p3 p4 p5 p6 p7 q0 q1 q2 q3 q4 q5 q6 q7 q8 q9 q10 q11
 go_wp2_with fail
 go_ret2
 have hz00:=HZZ.out
 subst hz00
 refine ⟨⟨A',c',rt.length,l',rfl,fun _=>⟨rfl,HL.out.1,HL.out.2.1,HL.out.2.2.1.mono hx1.size,?_,HL.out.2.2.2⟩,fun h=>absurd rfl h⟩,below_nextN hx1 hb2 hx1.size⟩
 show PShape ts (l'.map pureT)
 rw [HL.out.2.2.2]
 exact PShape.perf HCZ.out.1.shape HIN.out
open Go.RowKit Go
theorem app_one {ts:List Tab} {n:Nat} {A:Option Addr} {m c:Nat} {l:List RTab} {w:World} {z:Int} {pl:List (List PRec)} {B:Nat} (hok:CatOk ts) (h0:z = 0→m=n∧l.length=n∧RTabsIn w w.heap.size A l∧RUp B A l∧RShape ts l∧l.map pureT=pl) (h1:z ≠ 0→A=none∧m = 0∧c = 0) :
 ∃ l',l'.length=m∧RTabsIn w w.heap.size A l'∧SaneR l'∧l'.map pureT=if z = 0 then pl else []:=by
 by_cases hz:z = 0
 ·obtain ⟨rfl,h3,h4,_,h5,h6⟩:=h0 hz
  exact ⟨l,h3,h4,h5.sane hok,by rw [if_pos hz,h6]⟩
 ·obtain ⟨rfl,rfl,rfl⟩:=h1 hz
  refine ⟨[],rfl,⟨fun h=>by simp at h,by simp⟩,⟨by simp,by simp,by simp,by simp⟩,by rw [if_neg hz];rfl⟩
theorem law07_applies (A:Option Addr) (c m:Nat) (ts:List Tab) (RA:Option Addr) (rc n:Nat) (rt:List RTab) (kd sq dy tb:Int) (A0:Option Addr) (cp:Nat) (row:List Val) (key:Val) (cl:Int) (vl:Val) (w:World) (ht:TabsIn w w.heap.size A ts) (hm:ts.length=m) (hs:SaneCat ts) (hok:CatOk ts) (hrt:RTabsIn w w.heap.size RA rt) (hn:rt.length=n) (hsr:SaneR rt) (hR:SliceIs w w.heap.size Val.cells 3 A0 row) (hrl:row.length ≤ 1000000) :
 Calls Tryz.prog 16 #[.agg #[.slice A m c, .slice none 0 0, .slice none 0 0, .slice none 0 0, .slice none 0 0, .slice none 0 0, .slice none 0 0, .slice none 0 0], .slice RA n rc, .agg #[.int .i64 kd, .int .i64 sq, .int .i64 dy, .int .i64 tb, .slice A0 row.length cp, .int .i64 key.kind, .int .i64 key.num, .string key.text, .int .i64 cl, .int .i64 vl.kind, .int .i64 vl.num, .string vl.text]] w fun e w'=>e = .returned (.bool true)∧Below w.heap.size w w':=by
 subst hm hn
 obtain ⟨z,hz⟩ : ∃ z,checkE ts rt ⟨kd,sq,dy,tb,A0,cp,row,key,cl,vl⟩=z:=⟨_,rfl⟩
 have HZ:=qh hz
 have HT:=qh ht
 have HS:=qh hs
 have HOK:=qh hok
 have HRT:=qh hrt
 have HSR:=qh hsr
 have HR:=qh hR
 clear hz ht hs hok hrt hsr hR
 go_enter Tryz.func16,Tryz.ntmps16
 go_upto_region 1 with (fail)
 refine abs_world (P:=fun u=>Code.wp _ _ _ _ u) (R:=fun u=>Blk u w.heap.size 34 #[.slice A ts.length c, .slice none 0 0, .slice none 0 0, .slice none 0 0, .slice none 0 0, .slice none 0 0, .slice none 0 0, .slice none 0 0]∧Blk u (w.heap.size + 1) 53 (Chg.cells ⟨kd,sq,dy,tb,A0,cp,row,key,cl,vl⟩).toArray∧Below w.heap.size w u) ⟨?_,?_,?_⟩ ?_
 ·exact (Blk.new _ _ _).alloc _
 ·exact Blk.new' spA
 ·exact belA
 rintro W ⟨hC,hX,hbW⟩
 have hzW:=hX.lt
 have HC:=qh hC
 have HX:=qh hX
 obtain ⟨p0,p1,p2,p3,p4,p5,p6,p7⟩:=Cat.blk hC
 obtain ⟨⟨q0,q1,q2,q3⟩,q4,⟨q5,q6,q7⟩,q8,q9,q10,q11⟩:=Chg.blk hX
 simp only at q0 q1 q2 q3 q4 q5 q6 q7 q8 q9 q10 q11
 clear hC hX
 go_upto_region 2 with (go_at_call 20;(with_reducible refine (tab_ApplyX A c ts.length ts RA rc rt.length rt kd sq dy tb A0 cp row key cl vl _ (HT.out.next hbW) rfl HS.out HOK.out (HRT.out.next hbW) rfl HSR.out (HR.out.next hbW) hrl HZ.out).mono ?_);rintro e w1 ⟨⟨A1,c1,m1,l1,rfl,h10,h11⟩,hb1⟩)
 obtain ⟨l1',h12,h13,h14,h15⟩:=app_one HOK.out h10 h11
 have H12:=qh h12
 have H13:=qh h13
 have H14:=qh h14
 have H15:=qh h15
 clear h10 h11 h12 h13 h14 h15
 clear p0 p1 p2 p3 p4 p5 p6 p7 q0 q1 q2 q3 q4 q5 q6 q7 q8 q9 q10 q11
 have hx1:=below_nextN hbW hb1 hbW.size
 have hz1:=hb1.size
 have hC1:=HC.out.below hb1 omA
 have hX1:=HX.out.below hb1 hzW
 obtain ⟨p0,p1,p2,p3,p4,p5,p6,p7⟩:=Cat.blk hC1
 obtain ⟨⟨q0,q1,q2,q3⟩,q4,⟨q5,q6,q7⟩,q8,q9,q10,q11⟩:=Chg.blk hX1
 simp only at q0 q1 q2 q3 q4 q5 q6 q7 q8 q9 q10 q11
 clear hC1 hX1
 go_upto_region 3 with (go_at_call 36;(with_reducible refine (ref07_ApplyX A c ts.length ts RA rc rt.length rt kd sq dy tb A0 cp row key cl vl _ (HT.out.next hx1) rfl HS.out (HRT.out.next hx1) rfl HSR.out (HR.out.next hx1) hrl HZ.out).mono ?_);rintro e w2 ⟨⟨A2,c2,m2,l2,rfl,h20,h21⟩,hb2⟩)
 obtain ⟨l2',h22,h23,h24,h25⟩:=app_one HOK.out h20 h21
 have H22:=qh h22
 have H23:=qh h23
 have H25:=qh h25
 clear h20 h21 h22 h23 h24 h25
 clear p0 p1 p2 p3 p4 p5 p6 p7 q0 q1 q2 q3 q4 q5 q6 q7 q8 q9 q10 q11
 have hx2:=below_nextN hx1 hb2 hx1.size
 have hy2:=below_nextN hb1 hb2 hb1.size
 have hz2:=hb2.size
 have hC2:=HC.out.below hy2 omA
 have hX2:=HX.out.below hy2 hzW
 obtain ⟨p0,p1,p2,p3,p4,p5,p6,p7⟩:=Cat.blk hC2
 obtain ⟨⟨q0,q1,q2,q3⟩,q4,⟨q5,q6,q7⟩,q8,q9,q10,q11⟩:=Chg.blk hX2
 simp only at q0 q1 q2 q3 q4 q5 q6 q7 q8 q9 q10 q11
 clear hC2 hX2
 go_wp2_with (first
  | (go_at_call 44;(with_reducible refine (tab_CheckX A c ts.length ts RA rc rt.length rt kd sq dy tb A0 cp row key cl vl _ (HT.out.next hx2) rfl HS.out HOK.out (HRT.out.next hx2) rfl HSR.out (HR.out.next hx2) hrl HZ.out).mono ?_);rintro e w3 ⟨rfl,hb3⟩;have hx3:=below_nextN hx2 hb3 hx2.size;have hz3:=hb3.size)
  | (go_at_call 22;(with_reducible refine (ref07_Same A1 A2 c1 c2 m1 m2 l1' l2' _ (H13.out.next (below_nextN hb2 hb3 hb2.size)) (H23.out.next hb3) H12.out H22.out H14.out (H15.out.trans H25.out.symm)).mono ?_);rintro e w4 ⟨rfl,hb4⟩;have hx4:=below_nextN hx3 hb4 hx3.size))
 go_ret
 exact ⟨rfl,hx4⟩
open Go.RowKit Go
theorem law00_SmallChange (kd sq dy tb:Int) (A0:Option Addr) (cp:Nat) (row:List Val) (key:Val) (cl:Int) (vl:Val) (w:World) (hR:SliceIs w w.heap.size Val.cells 3 A0 row) :
 Calls Tryz.prog 14 #[.agg #[.int .i64 kd, .int .i64 sq, .int .i64 dy, .int .i64 tb, .slice A0 row.length cp, .int .i64 key.kind, .int .i64 key.num, .string key.text, .int .i64 cl, .int .i64 vl.kind, .int .i64 vl.num, .string vl.text]] w fun e w'=>(∃ b,e = .returned (.bool b)∧(b=true→row.length ≤ 12))∧Below w.heap.size w w':=by
 have HR:=qh hR
 clear hR
 go_enter Tryz.func14,Tryz.ntmps14
 go_upto_region 1 with (fail)
 refine abs_world (P:=fun u=>Code.wp _ _ _ _ u) (R:=fun u=>Blk u w.heap.size 53 (Chg.cells ⟨kd,sq,dy,tb,A0,cp,row,key,cl,vl⟩).toArray∧Below w.heap.size w u) ⟨?_,?_⟩ ?_
 ·exact Blk.new' spA
 ·exact belA
 rintro W ⟨hX,hbW⟩
 have hzW:=hX.lt
 obtain ⟨⟨q0,q1,q2,q3⟩,q4,⟨q5,q6,q7⟩,q8,q9,q10,q11⟩:=Chg.blk hX
 simp only at q0 q1 q2 q3 q4 q5 q6 q7 q8 q9 q10 q11
 have HRW:=qh (HR.out.next hbW)
 clear hX
 by_cases h1 : 12<row.length
 ·have h1':decide (12<row.length)=true:=by simpa using h1
  go_wp2_with fail
  go_ret
  first|exact ⟨⟨false,rfl,by simp⟩,hbW⟩|exact ⟨.inl rfl,hbW⟩
 have h1':decide (12<row.length)=false:=by simpa using h1
 by_cases h2 : 100<key.text.size
 ·have h2':decide (100<key.text.size)=true:=by simpa using h2
  go_wp2_with fail
  go_ret
  first|exact ⟨⟨false,rfl,by simp⟩,hbW⟩|exact ⟨.inl rfl,hbW⟩
 have h2':decide (100<key.text.size)=false:=by simpa using h2
 by_cases h3 : 100<vl.text.size
 ·have h3':decide (100<vl.text.size)=true:=by simpa using h3
  go_wp2_with fail
  go_ret
  first|exact ⟨⟨false,rfl,by simp⟩,hbW⟩|exact ⟨.inl rfl,hbW⟩
 have h3':decide (100<vl.text.size)=false:=by simpa using h3
 go_wp2_with fail
 clear h2' h3'
 go_loopw [3] (fun vi wr => ∃ m:Nat,m≤row.length∧vi = .int .i64 m∧W=wr) (fun vi _=>row.length - (intOf vi).toNat)
 case atStart=>exact ⟨0,Nat.zero_le _,rfl,rfl⟩
 case round =>
  obtain ⟨m,hm,rfl,rfl⟩:=hrel
  by_cases hlt:m<row.length
  ·obtain ⟨b5,o5,rfl,hb5,hc5⟩:=HRW.out.get hlt
   obtain ⟨y0,y1,y2⟩:=Val.cells3 hc5
   clear hc5
   by_cases k1 : 100<row[m].text.size
   ·have k1':decide (100<row[m].text.size)=true:=by simpa using k1
    go_wp2_with fail
    go_ret
    exact ⟨⟨false,rfl,by simp⟩,hbW⟩
   have k1':decide (100<row[m].text.size)=false:=by simpa using k1
   go_wp2_with fail
   go_roundw
   case rel=>exact ⟨m + 1,by omega,by go_num,trivial⟩
   case measure=>exact meA
  ·have hlt1:decide (m<row.length)=false:=by simpa using hlt
   go_wp2_with fail
   go_ret
   exact ⟨⟨true,rfl,fun _=>by omega⟩,hbW⟩
end Go.Proofs.YtkiglflbngfelaaGreat
