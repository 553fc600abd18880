/-
  Contracts and plain laws of this seat, part 31: TApp.
-/
import Derived.Test.YtkiglflbngfelaaGreatJ30
import Derived.Test.YtkiglflbngfelaaGreatJ27
import Derived.Test.YtkiglflbngfelaaGreatJ28
import Derived.Test.YtkiglflbngfelaaGreatJ29
import Derived.Test.YtkiglflbngfelaaGreatJ14
set_option linter.unusedVariables false
set_option linter.unusedSimpArgs false
set_option maxRecDepth 100000
set_option maxHeartbeats 16000000
namespace Go.Proofs.YtkiglflbngfelaaGreat
open Go.RowKit Go
theorem check_perf {ts:List Tab} {rt:List RTab} {x:Chg} {k:Nat} (h:checkE ts rt x = 0) (hin:InForm ts x k):(foundK (tabP (rt.map pureT) (k:Int)) (keyOf x)||(x.kind == 1&&decide ((tabP (rt.map pureT) (k:Int)).length < 64)))=true:=by
 obtain ⟨hok,hf⟩:=checkE_zero h
 have hk:k<rt.length:=by rw [hok.len];exact hin.lt
 have hkp:k<(rt.map pureT).length:=by simpa using hk
 obtain ⟨hkv,hkk⟩:=form_key hf hok.cat
 have e0:tabP (rt.map pureT) (k:Int)=rt[k].recs.map pureR:=by rw [tabP_get hkp,List.getElem_map];rfl
 obtain ⟨F,hF⟩ : ∃ F,foundK (rt[k].recs.map pureR) (keyOf x)=F:=⟨_,rfl⟩
 have hs:=state_found hok hin.tab hk hkv hkk hF
 rw [e0,hF,List.length_map]
 unfold checkE at h
 rw [pb_true hok,if_neg (by decide),hf,if_neg (by decide)] at h
 split at h
 ·cases h
 ·rw [h] at hs
  cases F
  ·by_cases h1:x.kind = 1
   ·have e1:(x.kind == 1)=true:=by simpa using h1
    rw [e1] at hs ⊢
    simp only [Bool.true_and,Bool.and_false,Bool.false_eq_true,if_false] at hs
    by_cases hl:rt[k].recs.length < 64
    ·simpa using hl
    ·exfalso
     have e2:decide (64≤rt[k].recs.length)=true:=by simp;omega
     rw [e2] at hs
     have e3:(x.kind != 1)=false:=by simpa using h1
     rw [e3] at hs
     simp only [Bool.false_and,Bool.false_eq_true,if_false,if_true] at hs
     split at hs
     ·cases hs
     ·split at hs <;> cases hs
   ·have e1:(x.kind == 1)=false:=by simpa using h1
    have e3:(x.kind != 1)=true:=by simpa using h1
    rw [e1,e3] at hs
    simp at hs
  ·rfl
theorem idle_TabApply (w:World):CallsD Tryz.prog 48 #[] .returning w fun e u' w'=>e = .returned (.tuple #[])∧u' = .returning∧w'=w:=by
 refine callsD_of_wpS Tryz.func48 rfl fun c₀ cs hu => ?_
 apply wpS_region
 cases c₀
 simp_all [wpOpsS,go_sem,recoverD,Tryz.ntmps48,bodyPostS,results,Tryz.results48]
theorem tab_ApplyX (A:Option Addr) (c m:Nat) (ts:List Tab) (RA:Option Addr) (rc n:Nat) (rt:List RTab) (kd sq dy tb:Int) (A0:Option Addr) (cp:Nat) (row:List Val) (key:Val) (cl:Int) (vl:Val) (w:World) (ht:TabsIn w w.heap.size A ts) (hm:ts.length=m) (hs:SaneCat ts) (hok:CatOk ts) (hrt:RTabsIn w w.heap.size RA rt) (hn:rt.length=n) (hsr:SaneR rt) (hR:SliceIs w w.heap.size Val.cells 3 A0 row) (hrl:row.length ≤ 1000000) {z:Int} (hz:checkE ts rt ⟨kd,sq,dy,tb,A0,cp,row,key,cl,vl⟩=z) :
 Calls Tryz.prog 20 #[.agg #[.slice A m c, .slice none 0 0, .slice none 0 0, .slice none 0 0, .slice none 0 0, .slice none 0 0, .slice none 0 0, .slice none 0 0], .slice RA n rc, .agg #[.int .i64 kd, .int .i64 sq, .int .i64 dy, .int .i64 tb, .slice A0 row.length cp, .int .i64 key.kind, .int .i64 key.num, .string key.text, .int .i64 cl, .int .i64 vl.kind, .int .i64 vl.num, .string vl.text]] w fun e w'=>(∃ A' c' m' l',e = .returned (.tuple #[.slice A' m' c', .int .i64 z])∧(z = 0→m'=n∧l'.length=n∧RTabsIn w' w'.heap.size A' l'∧RUp w.heap.size A' l'∧RShape ts l'∧l'.map pureT=performE (rt.map pureT) ⟨kd,sq,dy,tb,A0,cp,row,key,cl,vl⟩)∧(z ≠ 0→A'=none∧m' = 0∧c' = 0))∧Below w.heap.size w w':=by
 subst hm hn
 obtain ⟨b,hb⟩ : ∃ b,pb (RTabsOk ts rt)=b:=⟨_,rfl⟩
 have HB:=qh hb
 have HZ:=qh hz
 have HT:=qh ht
 have HS:=qh hs
 have HOK:=qh hok
 have HR:=qh hrt
 have HSR:=qh hsr
 have HRW:=qh hR
 clear hz hb ht hs hok hrt hsr hR
 go_enter_defers Tryz.func20,Tryz.ntmps20
 go_upto_region 2 with (fail)
 refine abs_world (P:=fun u=>Code.wp _ _ _ _ u) (R:=fun u=>Blk u w.heap.size 34 #[.slice A ts.length c, .slice none 0 0, .slice none 0 0, .slice none 0 0, .slice none 0 0, .slice none 0 0, .slice none 0 0, .slice none 0 0]∧Blk u (w.heap.size + 1) 53 (Chg.cells ⟨kd,sq,dy,tb,A0,cp,row,key,cl,vl⟩).toArray∧Below w.heap.size w u) ⟨?_,?_,?_⟩ ?_
 ·exact (Blk.new _ _ _).alloc _
 ·exact Blk.new' spA
 ·exact belA
 rintro W ⟨hC,hX,hbW⟩
 have hzX:=hX.lt
 have HC:=qh hC
 have HX:=qh hX
 obtain ⟨p0,p1,p2,p3,p4,p5,p6,p7⟩:=Cat.blk hC
 clear hC hX
 cases b
 ·have HZ1:Hid (z = 1):=qh (by rw [← HZ.out];unfold checkE;rw [HB.out,if_pos rfl])
  go_wp2_with (first
   | (go_at_call 38;(with_reducible refine (cat_Valid A c ts.length ts _ (HT.out.next hbW) rfl HS.out HOK.out).mono ?_);rintro e w1 ⟨rfl,hb1⟩;have hz1:=hb1.size;have hx1:Below w.heap.size w w1:=below_nextN hbW hb1 hbW.size;clear p0 p1 p2 p3 p4 p5 p6 p7;obtain ⟨p0,p1,p2,p3,p4,p5,p6,p7⟩:=Cat.blk (HC.out.below hb1 omA))
   | (go_at_call 39;(with_reducible refine (tab_newSchemaF A c ts.length ts _ (HT.out.next hx1) rfl HS.out HOK.out).mono ?_);rintro e w2 ⟨⟨p,mb,fb,rfl,hS2⟩,hb2⟩;have hz2:=hb2.size;have hx2:Below w.heap.size w w2:=below_nextN hx1 hb2 hx1.size;have HS2:=qh hS2;clear hS2 p0 p1 p2 p3 p4 p5 p6 p7)
   | (go_at_call 49;(with_reducible refine (tab_holds p mb fb ts.length A c ts RA rc rt.length rt _ HS2.out.sch (HT.out.next hx2) HOK.out (HR.out.next hx2) rfl HSR.out HB.out).mono ?_);rintro e w3 ⟨rfl,hb3⟩;have hz3:=hb3.size;have hx3:Below w.heap.size w w3:=below_nextN hx2 hb3 hx2.size))
  refine leaves_cons (f := 48) (args := #[]) spA (by simp [go_sem]) ?_
  refine (idle_TabApply _).mono ?_
  rintro e u' w'' ⟨rfl,rfl,rfl⟩
  refine ⟨_,results_tmp2 rfl _ _ _,?_⟩
  have h1:=HZ1.out
  subst h1
  exact ⟨⟨none,0,0,[],rfl,(fun h=>by cases h),fun _=>⟨rfl,rfl,rfl⟩⟩,hx3⟩
 have HRK:Hid (RTabsOk ts rt):=qh (pb_iff.1 HB.out)
 go_upto_region 7 with (first
  | (go_at_call 38;(with_reducible refine (cat_Valid A c ts.length ts _ (HT.out.next hbW) rfl HS.out HOK.out).mono ?_);rintro e w1 ⟨rfl,hb1⟩;have hz1:=hb1.size;have hx1:Below w.heap.size w w1:=below_nextN hbW hb1 hbW.size;clear p0 p1 p2 p3 p4 p5 p6 p7;obtain ⟨p0,p1,p2,p3,p4,p5,p6,p7⟩:=Cat.blk (HC.out.below hb1 omA))
  | (go_at_call 39;(with_reducible refine (tab_newSchemaF A c ts.length ts _ (HT.out.next hx1) rfl HS.out HOK.out).mono ?_);rintro e w2 ⟨⟨p,mb,fb,rfl,hS2⟩,hb2⟩;have hz2:=hb2.size;have hx2:Below w.heap.size w w2:=below_nextN hx1 hb2 hx1.size;have HS2:=qh hS2;clear hS2 p0 p1 p2 p3 p4 p5 p6 p7)
  | (go_at_call 49;(with_reducible refine (tab_holds p mb fb ts.length A c ts RA rc rt.length rt _ HS2.out.sch (HT.out.next hx2) HOK.out (HR.out.next hx2) rfl HSR.out HB.out).mono ?_);rintro e w3 ⟨rfl,hb3⟩;have hz3:=hb3.size;have hx3:Below w.heap.size w w3:=below_nextN hx2 hb3 hx2.size))
 obtain ⟨⟨q0,q1,q2,q3⟩,q4,⟨q5,q6,q7⟩,q8,q9,q10,q11⟩:=Chg.blkE (HX.out.below (below_nextN hb1 (below_nextN hb2 hb3 hz2) hz1) hzX)
 simp only at q0 q1 q2 q3 q4 q5 q6 q7 q8 q9 q10 q11
 go_upto_region 8 with (go_at_call 50;(with_reducible refine (tab_check w1.heap.size p mb fb A c ts _ RA rc rt kd sq dy tb A0 cp row key cl vl _ (HS2.out.next hb3) omA ((HT.out.below hx3).mono omA) HS.out ((HR.out.below hx3).mono omA) HRK.out ((HRW.out.below hx3).mono omA) hrl HZ.out).mono ?_);rintro e w4 ⟨rfl,hF4,hb4⟩)
 have hz4:=hb4.size
 have hx4:Below w.heap.size w w4:=hx3.trans (hb4.mono omA)
 clear q0 q1 q2 q3 q4 q5 q6 q7 q8 q9 q10 q11
 clear hF4
 by_cases hz0:z = 0
 rotate_left
 ·have hz0':(z != 0)=true:=by simpa using hz0
  have HZ0:=qh hz0
  clear hz0
  go_wp2_with fail
  refine leaves_cons (f := 48) (args := #[]) spA (by simp [go_sem]) ?_
  refine (idle_TabApply _).mono ?_
  rintro e u' w'' ⟨rfl,rfl,rfl⟩
  refine ⟨_,results_tmp2 rfl _ _ _,?_⟩
  exact ⟨⟨none,0,0,[],rfl,fun h=>absurd h HZ0.out,fun _=>⟨rfl,rfl,rfl⟩⟩,hx4⟩
 have HCZ:=qh (HZ.out.trans hz0)
 have HF0:=qh (checkE_zero HCZ.out).2
 obtain ⟨k,hin⟩:=formE_in HF0.out
 have htb:tb=(k:Int):=hin.tab
 subst htb
 have HIN:=qh hin
 have HPF:=qh (check_perf HCZ.out hin)
 have hz0':(z != 0)=false:=by rw [hz0];rfl
 have HZ0:=qh hz0
 have H0:Hid (∀ t∈rt,∀ r∈t.recs,0<r.row.length ∧ 0<r.seq.length):=qh (fun t ht r hr=>by
  obtain ⟨i,hi,rfl⟩:=List.getElem_of_mem ht
  have hit:i<ts.length:=by rw [← HRK.out.len];exact hi
  have h1:=(HRK.out.tab i hi hit).pure.rcd (pureR r) (List.mem_map_of_mem hr)
  have h2:=HOK.out.cols hit
  have h3:r.row.length=ts[i].cols.length:=h1.len
  have h4:r.seq.length=ts[i].cols.length:=h1.slen
  omega)
 clear hin hz0
 go_upto_region 11 with (go_at_call 51;(with_reducible refine (tab_copyTables RA rc rt.length rt _ (HR.out.next hx4) rfl HSR.out H0.out).mono ?_);rintro e w5 ⟨q,l,rfl,hqb,hll,hO,hTT,hpl,hb5⟩)
 have hz5:=hb5.size
 have hx5:Below w.heap.size w w5:=below_nextN hx4 hb5 hx4.size
 have HO:=qh hO
 have HTT:=qh hTT
 have HPL:=qh hpl
 have HLL:=qh hll
 have HPF5:Hid ((foundK (tabP (l.map pureT) (k:Int)) (keyOf ⟨kd,sq,dy,(k:Int),A0,cp,row,key,cl,vl⟩)||(kd == 1&&decide ((tabP (l.map pureT) (k:Int)).length < 64)))=true):=qh (by rw [HPL.out];exact HPF.out)
 have HPK:Hid (POk ts (l.map pureT)):=qh (by rw [HPL.out];exact HRK.out.pure)
 have hW3:Below W.heap.size W w3:=below_nextN hb1 (below_nextN hb2 hb3 hz2) hz1
 have hW4:Below W.heap.size W w4:=hW3.trans (hb4.mono hz1)
 have hW5:Below W.heap.size W w5:=below_nextN hW4 hb5 hW4.size
 obtain ⟨⟨q0,q1,q2,q3⟩,q4,⟨q5,q6,q7⟩,q8,q9,q10,q11⟩:=Chg.blkE (HX.out.below hW5 hzX)
 simp only at q0 q1 q2 q3 q4 q5 q6 q7 q8 q9 q10 q11
 clear hO hTT hpl hll
 go_upto_region 12 with (go_at_call 42;(with_reducible refine (tab_perform ts w4.heap.size q rt.length l kd sq dy k A0 cp row key cl vl _ HO.out HLL.out.symm HTT.out hz5 (HRW.out.next hx5) HOK.out HPK.out HIN.out HF0.out HPF5.out).mono ?_);rintro e w6 ⟨rfl,l',hl1,hl2,hl3,hl4,hb6,_⟩)
 have HL:=qh (And.intro hl1 (And.intro hl2 (And.intro hl3 hl4)))
 have hx6:Below w.heap.size w w6:=hx5.trans (hb6.mono omA)
 have hrd:=tabs_read (c:=rt.length) (by rw [HL.out.1];exact HL.out.2.1) (fun t ht=>(⟨HL.out.2.2.1.tab t ht,HL.out.2.2.1.row t ht⟩:RecsOwn w6 _ t.A t.cap t.recs))
 have HRD:=qh hrd
 clear q0 q1 q2 q3 q4 q5 q6 q7 q8 q9 q10 q11
 clear hl1 hl2 hl3 hl4 hrd
 go_wp2_with fail
 refine leaves_cons (f := 48) (args := #[]) spA (by simp [go_sem]) ?_
 refine (idle_TabApply _).mono ?_
 rintro e u' w'' ⟨rfl,rfl,rfl⟩
 refine ⟨_,results_tmp2 rfl _ _ _,?_⟩
 have hz00:=HZ0.out
 subst hz00
 refine ⟨⟨some ⟨q,0,none⟩,rt.length,rt.length,l',rfl,fun _=>⟨rfl,HL.out.1,HRD.out.1,HRD.out.2.mono (by have:=hx4.size;omega),?_,?_⟩,fun h=>absurd rfl h⟩,hx6⟩
 ·show PShape ts (l'.map pureT)
  rw [HL.out.2.2.2,HPL.out]
  exact PShape.perf HRK.out.shape HIN.out
 ·rw [HL.out.2.2.2,HPL.out]
theorem tab_Apply (A:Option Addr) (c m:Nat) (ts:List Tab) (RA:Option Addr) (rc n:Nat) (rt:List RTab) (kd sq dy tb:Int) (A0:Option Addr) (cp:Nat) (row:List Val) (key:Val) (cl:Int) (vl:Val) (w:World) (ht:TabsIn w w.heap.size A ts) (hm:ts.length=m) (hs:SaneCat ts) (hok:CatOk ts) (hrt:RTabsIn w w.heap.size RA rt) (hn:rt.length=n) (hsr:SaneR rt) (hR:SliceIs w w.heap.size Val.cells 3 A0 row) (hrl:row.length ≤ 1000000) {z:Int} (hz:checkE ts rt ⟨kd,sq,dy,tb,A0,cp,row,key,cl,vl⟩=z) :
 Calls Tryz.prog 20 #[.agg #[.slice A m c, .slice none 0 0, .slice none 0 0, .slice none 0 0, .slice none 0 0, .slice none 0 0, .slice none 0 0, .slice none 0 0], .slice RA n rc, .agg #[.int .i64 kd, .int .i64 sq, .int .i64 dy, .int .i64 tb, .slice A0 row.length cp, .int .i64 key.kind, .int .i64 key.num, .string key.text, .int .i64 cl, .int .i64 vl.kind, .int .i64 vl.num, .string vl.text]] w fun e w'=>(∃ A' c' m' l',e = .returned (.tuple #[.slice A' m' c', .int .i64 z])∧(z = 0→m'=n∧l'.length=n∧RTabsIn w' w'.heap.size A' l'∧RUp w.heap.size A' l'∧RShape ts l'∧l'.map pureT=performE (rt.map pureT) ⟨kd,sq,dy,tb,A0,cp,row,key,cl,vl⟩))∧Below w.heap.size w w' :=
 (tab_ApplyX A c m ts RA rc n rt kd sq dy tb A0 cp row key cl vl w ht hm hs hok hrt hn hsr hR hrl hz).mono (by rintro e w' ⟨⟨A',c',m',l',h1,h2,_⟩,h3⟩;exact ⟨⟨A',c',m',l',h1,h2⟩,h3⟩)
end Go.Proofs.YtkiglflbngfelaaGreat
