/-
  Contracts and plain laws of this seat, part 31: TApp, Without, EndP.
-/
import Derived.Test.YtkiglflbngfelaaGreatQ30
import Derived.Test.YtkiglflbngfelaaGreatQ27
import Derived.Test.YtkiglflbngfelaaGreatQ28
import Derived.Test.YtkiglflbngfelaaGreatQ29
import Derived.Test.YtkiglflbngfelaaGreatQ14
import Derived.Test.YtkiglflbngfelaaGreatQ23
import Derived.Test.YtkiglflbngfelaaGreatQ26
import Derived.Test.YtkiglflbngfelaaGreatQ11
import Derived.Test.YtkiglflbngfelaaGreatQ25
set_option linter.unusedVariables false
set_option linter.unusedSimpArgs false
set_option maxRecDepth 100000
set_option maxHeartbeats 16000000
namespace Go.Proofs.YtkiglflbngfelaaGreat
open Go.RowKit Go
theorem Gx {ts:List Tab} {rt:List RTab} {x:Chg} {k:Nat} (h:dZ ts rt x = 0) (hin:iU ts x k):(df (tabP (rt.map ax) (k:Int)) (keyOf x)||(x.kind == 1&&decide ((tabP (rt.map ax) (k:Int)).length < 64)))=true:=by
 obtain ⟨hok,hf⟩:=jK h
 have hk:k<rt.length:=by rw [hok.len];exact hin.lt
 have hkp:k<(rt.map ax).length:=by simpa using hk
 obtain ⟨hkv,hkk⟩:=yG hf hok.cat
 have e0:tabP (rt.map ax) (k:Int)=rt[k].recs.map aG:=by rw [gX hkp,List.getElem_map];rfl
 obtain ⟨F,hF⟩ : ∃ F,df (rt[k].recs.map aG) (keyOf x)=F:=⟨_,rfl⟩
 have hs:=vV hok hin.tab hk hkv hkk hF
 rw [e0,hF,List.length_map]
 unfold dZ at h
 rw [aT hok,if_neg (by decide),hf,if_neg (by decide)] at h
 split at h
 ·cases h
 ·rw [h] at hs
  cases F
  ·by_cases h1:x.kind = 1
   ·have e1:(x.kind == 1)=true:=by simpa using h1
    rw [e1] at hs ⊢
    simp only [Bool.true_and,Bool.and_false,Bool.false_eq_true,if_false] at hs
    by_cases hl:rt[k].recs.length < 64
    ·simpa using hl
    ·exfalso
     have e2:decide (64≤rt[k].recs.length)=true:=by simp;omega
     rw [e2] at hs
     have e3:(x.kind != 1)=false:=by simpa using h1
     rw [e3] at hs
     simp only [Bool.false_and,Bool.false_eq_true,if_false,if_true] at hs
     split at hs
     ·cases hs
     ·split at hs <;> cases hs
   ·have e1:(x.kind == 1)=false:=by simpa using h1
    have e3:(x.kind != 1)=true:=by simpa using h1
    rw [e1,e3] at hs
    simp at hs
  ·rfl
theorem nz (w:World):CallsD Tryz.prog 48 #[] .returning w fun e u' w'=>e = .returned (.tuple #[])∧u' = .returning∧w'=w:=by
 refine callsD_of_wpS Tryz.func48 rfl fun c₀ cs hu => ?_
 apply wpS_region
 cases c₀
 simp_all [wpOpsS,go_sem,recoverD,Tryz.ntmps48,bodyPostS,results,Tryz.results48]
theorem IW (A:Option Addr) (c m:Nat) (ts:List Tab) (RA:Option Addr) (rc n:Nat) (rt:List RTab) (kd sq dy tb:Int) (A0:Option Addr) (cp:Nat) (row:List Val) (key:Val) (cl:Int) (vl:Val) (w:World) (ht:aK w w.heap.size A ts) (hm:ts.length=m) (hs:aQ ts) (hok:aV ts) (hrt:aP w w.heap.size RA rt) (hn:rt.length=n) (hsr:fV rt) (hR:ag w w.heap.size Val.cells 3 A0 row) (hrl:row.length ≤ 1000000) {z:Int} (hz:dZ ts rt ⟨kd,sq,dy,tb,A0,cp,row,key,cl,vl⟩=z) :
 Calls Tryz.prog 20 #[.agg #[.slice A m c, .slice none 0 0, .slice none 0 0, .slice none 0 0, .slice none 0 0, .slice none 0 0, .slice none 0 0, .slice none 0 0], .slice RA n rc, .agg #[.int .i64 kd, .int .i64 sq, .int .i64 dy, .int .i64 tb, .slice A0 row.length cp, .int .i64 key.kind, .int .i64 key.num, .string key.text, .int .i64 cl, .int .i64 vl.kind, .int .i64 vl.num, .string vl.text]] w fun e w'=>(∃ A' c' m' l',e = .returned (.tuple #[.slice A' m' c', .int .i64 z])∧(z = 0→m'=n∧l'.length=n∧aP w' w'.heap.size A' l'∧RUp w.heap.size A' l'∧fG ts l'∧l'.map ax=aU (rt.map ax) ⟨kd,sq,dy,tb,A0,cp,row,key,cl,vl⟩))∧Below w.heap.size w w':=by
 subst hm hn
 obtain ⟨b,hb⟩ : ∃ b,pb (aO ts rt)=b:=⟨_,rfl⟩
 have HB:=qh hb
 have HZ:=qh hz
 have HT:=qh ht
 have HS:=qh hs
 have HOK:=qh hok
 have HR:=qh hrt
 have HSR:=qh hsr
 have HRW:=qh hR
 clear hz hb ht hs hok hrt hsr hR
 go_enter_defers Tryz.func20,Tryz.ntmps20
 go_upto_region 2 with (fail)
 refine ah (P:=fun u=>Code.wp _ _ _ _ u) (R:=fun u=>Blk u w.heap.size 34 #[.slice A ts.length c, .slice none 0 0, .slice none 0 0, .slice none 0 0, .slice none 0 0, .slice none 0 0, .slice none 0 0, .slice none 0 0]∧Blk u (w.heap.size + 1) 53 (Chg.cells ⟨kd,sq,dy,tb,A0,cp,row,key,cl,vl⟩).toArray∧Below w.heap.size w u) ⟨?_,?_,?_⟩ ?_
 ·exact (Blk.new _ _ _).alloc _
 ·exact Blk.new' spA
 ·exact au
 rintro W ⟨hC,hX,hbW⟩
 have hzX:=hX.lt
 have HC:=qh hC
 have HX:=qh hX
 obtain ⟨p0,p1,p2,p3,p4,p5,p6,p7⟩:=Cat.blk hC
 clear hC hX
 cases b
 ·have HZ1:Hid (z = 1):=qh (by rw [← HZ.out];unfold dZ;rw [HB.out,if_pos rfl])
  go_wp2_with (first
   | (go_at_call 38;(with_reducible refine (nW A c ts.length ts _ (HT.out.next hbW) rfl HS.out HOK.out).mono ?_);rintro e w1 ⟨rfl,hb1⟩;have hz1:=hb1.size;have hx1:Below w.heap.size w w1:=aa hbW hb1 hbW.size;clear p0 p1 p2 p3 p4 p5 p6 p7;obtain ⟨p0,p1,p2,p3,p4,p5,p6,p7⟩:=Cat.blk (HC.out.below hb1 omA))
   | (go_at_call 39;(with_reducible refine (pW A c ts.length ts _ (HT.out.next hx1) rfl HS.out HOK.out).mono ?_);rintro e w2 ⟨⟨p,mb,fb,rfl,hS2⟩,hb2⟩;have hz2:=hb2.size;have hx2:Below w.heap.size w w2:=aa hx1 hb2 hx1.size;have HS2:=qh hS2;clear hS2 p0 p1 p2 p3 p4 p5 p6 p7)
   | (go_at_call 49;(with_reducible refine (uM p mb fb ts.length A c ts RA rc rt.length rt _ HS2.out.sch (HT.out.next hx2) HOK.out (HR.out.next hx2) rfl HSR.out HB.out).mono ?_);rintro e w3 ⟨rfl,hb3⟩;have hz3:=hb3.size;have hx3:Below w.heap.size w w3:=aa hx2 hb3 hx2.size))
  refine leaves_cons (f := 48) (args := #[]) spA (by simp [go_sem]) ?_
  refine (nz _).mono ?_
  rintro e u' w'' ⟨rfl,rfl,rfl⟩
  refine ⟨_,results_tmp2 rfl _ _ _,?_⟩
  have h1:=HZ1.out
  subst h1
  exact ⟨⟨none,0,0,[],rfl,fun h=>by cases h⟩,hx3⟩
 have HRK:Hid (aO ts rt):=qh (eF.1 HB.out)
 go_upto_region 7 with (first
  | (go_at_call 38;(with_reducible refine (nW A c ts.length ts _ (HT.out.next hbW) rfl HS.out HOK.out).mono ?_);rintro e w1 ⟨rfl,hb1⟩;have hz1:=hb1.size;have hx1:Below w.heap.size w w1:=aa hbW hb1 hbW.size;clear p0 p1 p2 p3 p4 p5 p6 p7;obtain ⟨p0,p1,p2,p3,p4,p5,p6,p7⟩:=Cat.blk (HC.out.below hb1 omA))
  | (go_at_call 39;(with_reducible refine (pW A c ts.length ts _ (HT.out.next hx1) rfl HS.out HOK.out).mono ?_);rintro e w2 ⟨⟨p,mb,fb,rfl,hS2⟩,hb2⟩;have hz2:=hb2.size;have hx2:Below w.heap.size w w2:=aa hx1 hb2 hx1.size;have HS2:=qh hS2;clear hS2 p0 p1 p2 p3 p4 p5 p6 p7)
  | (go_at_call 49;(with_reducible refine (uM p mb fb ts.length A c ts RA rc rt.length rt _ HS2.out.sch (HT.out.next hx2) HOK.out (HR.out.next hx2) rfl HSR.out HB.out).mono ?_);rintro e w3 ⟨rfl,hb3⟩;have hz3:=hb3.size;have hx3:Below w.heap.size w w3:=aa hx2 hb3 hx2.size))
 obtain ⟨⟨q0,q1,q2,q3⟩,q4,⟨q5,q6,q7⟩,q8,q9,q10,q11⟩:=Chg.eZ (HX.out.below (aa hb1 (aa hb2 hb3 hz2) hz1) hzX)
 simp only at q0 q1 q2 q3 q4 q5 q6 q7 q8 q9 q10 q11
 go_upto_region 8 with (go_at_call 50;(with_reducible refine (IV w1.heap.size p mb fb A c ts _ RA rc rt kd sq dy tb A0 cp row key cl vl _ (HS2.out.next hb3) omA ((HT.out.below hx3).mono omA) HS.out ((HR.out.below hx3).mono omA) HRK.out ((HRW.out.below hx3).mono omA) hrl HZ.out).mono ?_);rintro e w4 ⟨rfl,hF4,hb4⟩)
 have hz4:=hb4.size
 have hx4:Below w.heap.size w w4:=hx3.trans (hb4.mono omA)
 clear q0 q1 q2 q3 q4 q5 q6 q7 q8 q9 q10 q11
 clear hF4
 by_cases hz0:z = 0
 rotate_left
 ·have hz0':(z != 0)=true:=by simpa using hz0
  have HZ0:=qh hz0
  clear hz0
  go_wp2_with fail
  refine leaves_cons (f := 48) (args := #[]) spA (by simp [go_sem]) ?_
  refine (nz _).mono ?_
  rintro e u' w'' ⟨rfl,rfl,rfl⟩
  refine ⟨_,results_tmp2 rfl _ _ _,?_⟩
  exact ⟨⟨none,0,0,[],rfl,fun h=>absurd h HZ0.out⟩,hx4⟩
 have HCZ:=qh (HZ.out.trans hz0)
 have HF0:=qh (jK HCZ.out).2
 obtain ⟨k,hin⟩:=iO HF0.out
 have htb:tb=(k:Int):=hin.tab
 subst htb
 have HIN:=qh hin
 have HPF:=qh (Gx HCZ.out hin)
 have hz0':(z != 0)=false:=by rw [hz0];rfl
 have HZ0:=qh hz0
 have H0:Hid (∀ t∈rt,∀ r∈t.recs,0<r.row.length ∧ 0<r.seq.length):=qh (fun t ht r hr=>by
  obtain ⟨i,hi,rfl⟩:=List.getElem_of_mem ht
  have hit:i<ts.length:=by rw [← HRK.out.len];exact hi
  have h1:=(HRK.out.tab i hi hit).pure.rcd (aG r) (List.mem_map_of_mem hr)
  have h2:=HOK.out.ae hit
  have h3:r.row.length=ts[i].ae.length:=h1.len
  have h4:r.seq.length=ts[i].ae.length:=h1.qW
  omega)
 clear hin hz0
 go_upto_region 11 with (go_at_call 51;(with_reducible refine (xH RA rc rt.length rt _ (HR.out.next hx4) rfl HSR.out H0.out).mono ?_);rintro e w5 ⟨q,l,rfl,hqb,hll,hO,hTT,hpl,hb5⟩)
 have hz5:=hb5.size
 have hx5:Below w.heap.size w w5:=aa hx4 hb5 hx4.size
 have HO:=qh hO
 have HTT:=qh hTT
 have HPL:=qh hpl
 have HLL:=qh hll
 have XH:Hid ((df (tabP (l.map ax) (k:Int)) (keyOf ⟨kd,sq,dy,(k:Int),A0,cp,row,key,cl,vl⟩)||(kd == 1&&decide ((tabP (l.map ax) (k:Int)).length < 64)))=true):=qh (by rw [HPL.out];exact HPF.out)
 have HPK:Hid (POk ts (l.map ax)):=qh (by rw [HPL.out];exact HRK.out.pure)
 have hW3:Below W.heap.size W w3:=aa hb1 (aa hb2 hb3 hz2) hz1
 have hW4:Below W.heap.size W w4:=hW3.trans (hb4.mono hz1)
 have hW5:Below W.heap.size W w5:=aa hW4 hb5 hW4.size
 obtain ⟨⟨q0,q1,q2,q3⟩,q4,⟨q5,q6,q7⟩,q8,q9,q10,q11⟩:=Chg.eZ (HX.out.below hW5 hzX)
 simp only at q0 q1 q2 q3 q4 q5 q6 q7 q8 q9 q10 q11
 clear hO hTT hpl hll
 go_upto_region 12 with (go_at_call 42;(with_reducible refine (Dr ts w4.heap.size q rt.length l kd sq dy k A0 cp row key cl vl _ HO.out HLL.out.symm HTT.out hz5 (HRW.out.next hx5) HOK.out HPK.out HIN.out HF0.out XH.out).mono ?_);rintro e w6 ⟨rfl,l',hl1,hl2,hl3,hl4,hb6⟩)
 have HL:=qh (And.intro hl1 (And.intro hl2 (And.intro hl3 hl4)))
 have hx6:Below w.heap.size w w6:=hx5.trans (hb6.mono omA)
 have hrd:=nJ (c:=rt.length) (by rw [HL.out.1];exact HL.out.2.1) (fun t ht=>(⟨HL.out.2.2.1.tab t ht,HL.out.2.2.1.row t ht⟩:gz w6 _ t.A t.cap t.recs))
 have HRD:=qh hrd
 clear q0 q1 q2 q3 q4 q5 q6 q7 q8 q9 q10 q11
 clear hl1 hl2 hl3 hl4 hrd
 go_wp2_with fail
 refine leaves_cons (f := 48) (args := #[]) spA (by simp [go_sem]) ?_
 refine (nz _).mono ?_
 rintro e u' w'' ⟨rfl,rfl,rfl⟩
 refine ⟨_,results_tmp2 rfl _ _ _,?_⟩
 have Ql:=HZ0.out
 subst Ql
 refine ⟨⟨some ⟨q,0,none⟩,rt.length,rt.length,l',rfl,fun _=>⟨rfl,HL.out.1,HRD.out.1,HRD.out.2.mono (by have:=hx4.size;omega),?_,?_⟩⟩,hx6⟩
 ·show kH ts (l'.map ax)
  rw [HL.out.2.2.2,HPL.out]
  exact kH.FI HRK.out.shape HIN.out
 ·rw [HL.out.2.2.2,HPL.out]
open Go.RowKit Go
structure vQ (w:World) (base:Nat) (l:List RTab):Prop where
 tab : ∀ i (h:i<l.length),av w base 43 Rcd.cells 3 (.slice l[i].A l[i].recs.length l[i].cap) l[i].recs
 apart : ∀ i j (hi:i<l.length) (hj:j<l.length),i≠j→iV l[i].A l[j].A
theorem vQ.zero (w:World) (base n:Nat):vQ w base (List.replicate n dK):=by
 refine ⟨fun i h => ?_,fun i j hi hj _ => ?_⟩
 ·simp only [List.getElem_replicate]
  exact av.nil
 ·simp only [List.getElem_replicate]
  intro a b ha
  simp [dK] at ha
section
variable {w w':World} {base q n m:Nat} {l:List RTab}
theorem vQ.below {B:Nat} (h:vQ w base l) (hb:Below B w w') (hB:w.heap.size≤B):vQ w' base l:=⟨fun i hi=>(h.tab i hi).below hb hB,h.apart⟩
theorem vQ.app (h:vQ w base l) (hm:m<l.length) {A3:Option Addr} {c3:Nat} {new:List Rcd} (hg:w.grownBy w' (Value.slice l[m].A l[m].recs.length l[m].cap).ownBlock)
 (h2:av w' base 43 Rcd.cells 3 (.slice A3 new.length c3) new) (hat : ∀ a,A3=some a→(Value.slice l[m].A l[m].recs.length l[m].cap).ownBlock=some a.block∨w.heap.size≤a.block):vQ w' base (l.set m ⟨A3,c3,new⟩):=by
 have hap : ∀ i (hi:i<l.length),i≠m→iV l[i].A A3:=by
  intro i hi hne a b ha hb e
  rcases hat b hb with h1|h1
  ·have h2:=h.apart i m hi hm hne
   cases hlA:l[m].A with
   | none=>rw [hlA] at h1;simp [Value.ownBlock] at h1
   | some c =>
     rw [hlA] at h1 h2
     have:c.block=b.block:=by simpa [Value.ownBlock] using h1
     exact h2 a c ha rfl (by rw [e,this])
  ·have h2:=(h.tab i hi).lt a.block (by rw [ha];rfl)
   omega
 refine ⟨fun i hi => ?_,fun i j hi hj hne => ?_⟩
 ·rw [List.length_set] at hi
  simp only [List.getElem_set]
  split
  ·exact h2
  ·rename_i hne
   refine (h.tab i hi).kept hg fun g hq e => ?_
   have h2:=h.apart i m hi hm (fun e=>hne e.symm)
   cases hA:l[i].A with
   | none=>rw [hA] at hq;simp [Value.ownBlock] at hq
   | some a =>
     cases hB:l[m].A with
     | none=>rw [hB] at e;simp [Value.ownBlock] at e
     | some b =>
       rw [hA,hB] at h2
       rw [hA] at hq
       rw [hB] at e
       have e1:a.block=g:=by simpa [Value.ownBlock] using hq
       have e2:g=b.block:=by simpa [Value.ownBlock] using e
       exact h2 a b rfl rfl (e1.trans e2)
 ·rw [List.length_set] at hi hj
  simp only [List.getElem_set]
  by_cases him:m=i
  ·rw [if_pos him,if_neg omA]
   exact (hap j hj omA).symm
  ·rw [if_neg him]
   by_cases hjm:m=j
   ·rw [if_pos hjm]
    exact hap i hi omA
   ·rw [if_neg hjm]
    exact h.apart i j hi hj hne
theorem KT (hO:av w base 40 RTab.cells 1 (.slice (some ⟨q,0,none⟩) n n) l) (hn:n=l.length) (hT:vQ w base l) (hm:m<l.length) {A3:Option Addr} {c3 n3:Nat} {new:List Rcd} (hg:w.grownBy w' (Value.slice l[m].A l[m].recs.length l[m].cap).ownBlock)
 (h2:av w' base 43 Rcd.cells 3 (.slice A3 n3 c3) new) (h3:n3=new.length) (hat : ∀ a,A3=some a→(Value.slice l[m].A l[m].recs.length l[m].cap).ownBlock=some a.block∨w.heap.size≤a.block) :
 av (w'.setCell ⟨q,m,none⟩ (.slice A3 n3 c3)) base 40 RTab.cells 1 (.slice (some ⟨q,0,none⟩) n n) (l.set m ⟨A3,c3,new⟩)∧vQ (w'.setCell ⟨q,m,none⟩ (.slice A3 n3 c3)) base (l.set m ⟨A3,c3,new⟩):=by
 subst h3
 have hO':=hO.kept hg (hO.dF (hT.tab m hm) nk)
 obtain ⟨cs,hc⟩:=hO'.typ (q:=q) rfl
 have hT':=hT.app hm hg h2 hat
 exact ⟨hO'.gu bL hn hm ⟨A3,c3,new⟩ (j := 0) (o:=m) (u := .slice A3 new.length c3) omA omA rfl,⟨fun i hi=>(hT'.tab i hi).eO hc nk _,hT'.apart⟩⟩
end
def keepRc (S:List Src) (i:Nat) (l:List Rcd):List Rcd:=l.filter fun r => !decide ((⟨(i:Int),bJ r⟩:Src)∈S)
theorem F9 (S:List Src) (i:Nat) (l:List Rcd):(keepRc S i l).map aG=ja S i (l.map aG):=by
 unfold keepRc ja
 rw [List.filter_map]
 rfl
theorem yg {S:List Src} {i k:Nat} {l:List Rcd} (hk:k<l.length):keepRc S i (l.take (k + 1))=keepRc S i (l.take k)++(if decide ((⟨(i:Int),bJ l[k]⟩:Src)∈S)=true then [] else [l[k]]):=by
 unfold keepRc
 rw [List.take_succ_eq_append_getElem hk,List.filter_append]
 congr 1
 by_cases h:(⟨(i:Int),bJ l[k]⟩:Src)∈S <;> simp [h]
structure gD (rt l:List RTab) (S:List Src) (m k:Nat):Prop where
 len:l.length=rt.length
 at_ : ∀ i (h:i<l.length) (h':i<rt.length),l[i].recs=keepRc S i (rt[i].recs.take (if i<m then rt[i].recs.length else if i=m then k else 0))
theorem gD.zero (rt:List RTab) (S:List Src):gD rt (List.replicate rt.length dK) S 0 0:=by
 refine ⟨by simp,fun i h h' => ?_⟩
 rw [List.getElem_replicate,if_neg omA]
 have:(if i = 0 then 0 else 0) = 0:=by split <;> rfl
 rw [this,List.take_zero]
 rfl
theorem gD.next {rt l:List RTab} {S:List Src} {m k:Nat} (h:gD rt l S m k) (hm:m<rt.length) (hk:k=rt[m].recs.length):gD rt l S (m + 1) 0:=by
 refine ⟨h.len,fun i hi hi' => ?_⟩
 rw [h.at_ i hi hi']
 by_cases h1:i<m
 ·rw [if_pos h1,if_pos omA]
 ·by_cases h2:i=m
  ·subst h2
   rw [if_neg h1,if_pos rfl,if_pos omA,hk]
  ·rw [if_neg h1,if_neg h2,if_neg omA]
   split <;> rfl
theorem gD.now {rt l:List RTab} {S:List Src} {m k:Nat} (h:gD rt l S m k) (hm:m<rt.length) (hm':m<l.length):l[m].recs=keepRc S m (rt[m].recs.take k):=by
 rw [h.at_ m hm' hm,if_neg omA,if_pos rfl]
theorem gD.skip {rt l:List RTab} {S:List Src} {m k:Nat} (h:gD rt l S m k) (hm:m<rt.length) (hk:k<rt[m].recs.length) (hs:decide ((⟨(m:Int),bJ rt[m].recs[k]⟩:Src)∈S)=true):gD rt l S m (k + 1):=by
 refine ⟨h.len,fun i hi hi' => ?_⟩
 rw [h.at_ i hi hi']
 by_cases h1:i<m
 ·rw [if_pos h1,if_pos h1]
 ·by_cases h2:i=m
  ·subst h2
   rw [if_neg h1,if_pos rfl,if_neg h1,if_pos rfl,yg hk,if_pos hs,List.append_nil]
  ·rw [if_neg h1,if_neg h2,if_neg h1,if_neg h2]
theorem gD.put {rt l:List RTab} {S:List Src} {m k:Nat} (h:gD rt l S m k) (hm:m<rt.length) (hm':m<l.length) (hk:k<rt[m].recs.length) (hs:decide ((⟨(m:Int),bJ rt[m].recs[k]⟩:Src)∈S)=false) (A3:Option Addr) (c3:Nat):gD rt (l.set m ⟨A3,c3,l[m].recs ++ [rt[m].recs[k]]⟩) S m (k + 1):=by
 refine ⟨by rw [List.length_set];exact h.len,fun i hi hi' => ?_⟩
 rw [List.length_set] at hi
 rw [List.getElem_set]
 by_cases h2:m=i
 ·subst h2
  rw [if_pos rfl,if_neg omA,if_pos rfl,yg hk,if_neg (by rw [hs];decide),h.now hm hm']
 ·rw [if_neg h2,h.at_ i hi hi']
  by_cases h1:i<m
  ·rw [if_pos h1,if_pos h1]
  ·rw [if_neg h1,if_neg (fun e=>h2 e.symm),if_neg h1,if_neg (fun e=>h2 e.symm)]
theorem gD.done {rt l:List RTab} {S:List Src} (h:gD rt l S rt.length 0):l.map ax=fu (rt.map ax) S:=by
 apply List.ext_getElem
 ·rw [List.length_map,EJ,List.length_map]
  exact h.len
 ·intro i h1 h2
  have hi:i<l.length:=by simpa using h1
  have hi':i<rt.length:=by rw [← h.len];exact hi
  rw [oU,List.getElem_map,List.getElem_map]
  show l[i].recs.map aG=ja S i (rt[i].recs.map aG)
  rw [h.at_ i hi hi',if_pos hi',List.take_length,F9]
theorem vv {S:List Src} {i k:Nat} {l:List Rcd} {r:Rcd} (h:r∈keepRc S i (l.take k)):r∈l:=List.mem_of_mem_take (List.mem_filter.1 h).1
theorem AL {S:List Src} {i k:Nat} {l:List Rcd}:(keepRc S i (l.take k)).length≤l.length:=Nat.le_trans (List.length_filter_le _ _) (by rw [List.length_take];omega)
theorem zB (A:Option Addr) (c m:Nat) (ts:List Tab) (RA:Option Addr) (rc n:Nat) (rt:List RTab) (GA:Option Addr) (gc gn:Nat) (gone:List Src) (w:World) (ht:aK w w.heap.size A ts) (hm:ts.length=m) (hs:aQ ts) (hok:aO ts rt) (hR:aP w w.heap.size RA rt) (hn:rt.length=n) (hsr:fV rt) (hG:ag w w.heap.size Src.cells 2 GA gone) (hgn:gone.length=gn) (hg6:gn ≤ 1000000) :
 Calls Tryz.prog 29 #[.agg #[.slice A m c, .slice none 0 0, .slice none 0 0, .slice none 0 0, .slice none 0 0, .slice none 0 0, .slice none 0 0, .slice none 0 0], .slice RA n rc, .slice GA gn gc] w fun e w'=>(∃ q l',e = .returned (.slice (some ⟨q,0,none⟩) n n)∧l'.length=n∧aP w' w'.heap.size (some ⟨q,0,none⟩) l'∧l'.map ax=fu (rt.map ax) gone)∧Below w.heap.size w w':=by
 subst hm hn hgn
 have h8:ts.length ≤ 8:=hok.cat.len
 have zV:rt.length ≤ 8:=by rw [hok.len];exact h8
 obtain ⟨i7,hi7,hz7,hs7,hb7⟩:=info_parts uo
 obtain ⟨ir,hir,pK,oO,pJ⟩:=info_parts kL
 have hmk : ∀ u:World,(Instr.makeSlice 38 (.int .i64 (rt.length:Int)) (.int .i64 (rt.length:Int))).run Tryz.prog u = .ok (.slice (some ⟨u.heap.size,0,none⟩) rt.length rt.length) (u.alloc (.cells (madeCells (RTab.cells dK).toArray (rt.length * 1)) 40)):=fun u=>by
  have:=eH (P:=Tryz.prog) 38 40 i7 (.slice none 0 0) Tryz.underlying38 hi7 hz7 .i64 .i64 rt.length rt.length nlr (by rw [hb7];omega) omA u
  rw [hs7] at this
  exact this
 have HB:Hid (pb (aO ts rt)=true):=qh (aT hok)
 have HT:=qh ht
 have HS:=qh hs
 have HOK:=qh hok
 have HR:=qh hR
 have HSR:=qh hsr
 have HG:=qh hG
 clear ht hs hok hR hsr hG hi7 hz7 hs7 hb7
 go_enter Tryz.func29,Tryz.ntmps29
 go_upto_region 1 with (fail)
 refine ah (P:=fun u=>Code.wp _ _ _ _ u) (R:=fun u=>Blk u w.heap.size 34 #[.slice A ts.length c, .slice none 0 0, .slice none 0 0, .slice none 0 0, .slice none 0 0, .slice none 0 0, .slice none 0 0, .slice none 0 0]∧Below w.heap.size w u) ⟨?_,?_⟩ ?_
 ·exact Blk.new _ _ _
 ·exact au
 rintro W ⟨hC,hbW⟩
 obtain ⟨p0,p1,p2,p3,p4,p5,p6,p7⟩:=Cat.blk hC
 clear hC
 go_upto_region 4 with (go_at_call 69;(with_reducible refine (vX A c ts.length ts RA rc rt.length rt _ (HT.out.next hbW) rfl HS.out (HR.out.next hbW) rfl HSR.out HB.out).mono ?_);rintro e w1 ⟨rfl,hb1⟩;have hz1:=hb1.size;have hx1:=aa hbW hb1 hbW.size;clear p0 p1 p2 p3 p4 p5 p6 p7)
 clear hmk
 obtain ⟨q,hq⟩ : ∃ q,w1.heap.size=q:=⟨_,rfl⟩
 have hxz:=hx1.size
 refine ah (P:=fun u=>Code.wp _ _ _ _ u) (R:=fun u=>av u w.heap.size 40 RTab.cells 1 (.slice (some ⟨q,0,none⟩) rt.length rt.length) (List.replicate rt.length dK)∧Below w.heap.size w u) ⟨?_,?_⟩ ?_
 ·exact av.made bL omA (by rw [Nat.mul_one];exact Blk.new' hq) omA mxA
 ·exact au
 rintro V ⟨hO,hbV⟩
 rw [hq]
 have HO:=qh hO
 have hqV:=hO.lt q rfl
 have hqb:=hO.row q rfl
 clear hO hq
 go_wp2_with fail
 go_loopw [8,9] (fun vi _ wr => ∃ (m:Nat) (l:List RTab),m≤rt.length∧vi = .int .i64 m∧gD rt l gone m 0∧av wr w.heap.size 40 RTab.cells 1 (.slice (some ⟨q,0,none⟩) rt.length rt.length) l∧vQ wr w.heap.size l∧Below w.heap.size w wr) (fun vi _ _=>rt.length - (intOf vi).toNat)
 case atStart=>exact ⟨0,_,Nat.zero_le _,rfl,gD.zero rt gone,HO.out,vQ.zero _ _ _,hbV⟩
 case round =>
  obtain ⟨m,l,hm,rfl,hct,hol,hot,hbr⟩:=hrel
  have HCT:=qh hct
  have HOL:=qh hol
  have HOT:=qh hot
  clear hct hol hot
  by_cases hlt:m<rt.length
  ·obtain ⟨b,o,rfl,hb,hc⟩:=HR.out.1.get hlt
   have c0:=hc 0 _ rfl
   have bg:=HR.out.2 rt[m] (lgm hlt)
   have hrn:=HOK.out.n64 hlt
   have hit:m<ts.length:=by rw [← HOK.out.len];exact hlt
   have zT : ∀ y∈rt[m].recs,0<y.seq.length:=fun y hy=>by
    have h1:=(HOK.out.tab m hlt hit).pure.rcd (aG y) (List.mem_map_of_mem hy)
    have h2:=HOK.out.cat.ae hit
    have h3:y.seq.length=ts[m].ae.length:=h1.qW
    omega
   have HNX:=qh (fun (l:List RTab) (h:gD rt l gone m rt[m].recs.length)=>h.next hlt rfl)
   have HSK:=qh (fun (l:List RTab) (k:Nat) (h:gD rt l gone m k)=>h.skip hlt)
   have HPT:=qh (fun (l:List RTab) (k:Nat) (h:gD rt l gone m k)=>h.put hlt)
   have RU:=qh (fun (l:List RTab) (k:Nat) (h:gD rt l gone m k)=>h.now hlt)
   obtain ⟨⟨TA,tc,recs⟩,hx⟩ : ∃ x:RTab,rt[m]=x:=⟨_,rfl⟩
   rw [hx] at c0 bg hrn zT HNX HSK HPT RU
   simp only [Nat.mul_one,Nat.add_zero] at c0 bg hrn zT HNX HSK HPT RU
   have HRE:=qh bg
   have RH:=qh zT
   have HC0:=qh c0
   have YH:decide (m<rt.length)=true:=by simpa using hlt
   clear hc hx bg c0 zT
   go_upto_region 8 with (fail)
   go_loopw [9] (fun vk wi => ∃ (k:Nat) (l:List RTab),k≤recs.length∧vk = .int .i64 k∧gD rt l gone m k∧av wi w.heap.size 40 RTab.cells 1 (.slice (some ⟨q,0,none⟩) rt.length rt.length) l∧vQ wi w.heap.size l∧Below w.heap.size w wi) (fun vk _=>recs.length - (intOf vk).toNat)
   case atStart=>exact ⟨0,l,Nat.zero_le _,rfl,HCT.out,HOL.out,HOT.out,hbr⟩
   case round =>
    clear HCT HOL HOT
    obtain ⟨k,l,hk,rfl,hct,hol,hot,hbi⟩:=hrel
    have HCT:=qh hct
    have hml:m<l.length:=by rw [hct.len];exact hlt
    have QJ:=RU.out l k hct hml
    have hwz:=hbi.size
    have c0:=(hbi.cell (p:=⟨b,o+m,none⟩) (by exact hb)).trans HC0.out
    have HOL:=qh hol
    have HOT:=qh hot
    clear hct hol hot
    by_cases hkl:k<recs.length
    ·obtain ⟨b2,o2,rfl,hb2,hc2⟩:=HRE.out.1.get hkl
     obtain ⟨d0,d1,d2⟩:=Rcd.cells3 hc2
     have hri:=(HRE.out.2 recs[k] (lgm hkl)).2
     have h0:=RH.out recs[k] (lgm hkl)
     have hkd:decide (k<recs.length)=true:=by simpa using hkl
     have GQ:=qh (HSK.out l k HCT.out hkl)
     have GU:=qh (HPT.out l k HCT.out hml hkl)
     obtain ⟨⟨QA,qc,gU,QS,qs,gF,qd⟩,hqr⟩ : ∃ x:Rcd,recs[k]=x:=⟨_,rfl⟩
     rw [hqr] at d0 d1 d2 hri h0 GQ GU
     simp only at d0 d1 d2 hri h0 GQ GU
     obtain ⟨b3,o3,rfl,hb3,hc3⟩:=hri.get h0
     have s0:=hc3 0 _ rfl
     simp only [Nat.zero_mul,Nat.add_zero] at s0
     have hhd:bJ ⟨QA,qc,gU,some ⟨b3,o3,none⟩,qs,gF,qd⟩=gF[0]:=by
      cases gF with
      | nil=>simp at h0
      | cons a t=>rfl
     rw [hhd] at GQ GU
     obtain ⟨hd,Um⟩ : ∃ z,gF[0]=z:=⟨_,rfl⟩
     rw [Um] at s0 GQ GU
     have h0d:decide (0<gF.length)=true:=by simpa using h0
     have HD0:=qh d0
     have HD1:=qh d1
     have HD2:=qh d2
     replace d0:=(hbi.cell (p:=⟨b2,_,none⟩) hb2).trans HD0.out
     replace d1:=(hbi.cell (p:=⟨b2,_,none⟩) hb2).trans HD1.out
     replace d2:=(hbi.cell (p:=⟨b2,_,none⟩) hb2).trans HD2.out
     replace s0:=(hbi.cell (p:=⟨b3,_,none⟩) hb3).trans s0
     clear hc2 hc3 hri hqr hhd Um
     cases hmem:decide ((⟨(m:Int),hd⟩:Src)∈gone)
     ·have rM:=qh hmem
      have XG:=qh (GU.out hmem)
      clear hmem GQ GU
      go_upto_region 11 with (go_at_call 70;(with_reducible refine (Ak GA gc gone.length gone ⟨(m:Int),hd⟩ _ (HG.out.next hbi) rfl hg6 rM.out).mono ?_);rintro e w9 ⟨rfl,hb9⟩)
      have hz9:=hb9.size
      have hx9:Below w.heap.size w w9:=aa hbi hb9 hwz
      replace c0:=(hx9.cell (p:=⟨b,o+m,none⟩) (by exact hb)).trans HC0.out
      replace d0:=(hx9.cell (p:=⟨b2,_,none⟩) hb2).trans HD0.out
      replace d1:=(hx9.cell (p:=⟨b2,_,none⟩) hb2).trans HD1.out
      replace d2:=(hx9.cell (p:=⟨b2,_,none⟩) hb2).trans HD2.out
      have wS:=qh (HOL.out.below hb9 nlr)
      have EX:=qh (HOT.out.below hb9 nlr)
      have g0:=wS.out.eB bL HCT.out.len.symm hml (j := 0) rfl
      have htab:=EX.out.tab m hml
      have hcl:l[m].recs.length ≤ 64:=by rw [QJ];exact Nat.le_trans AL hrn
      obtain ⟨⟨TA2,tc2,cur⟩,hlm⟩ : ∃ x:RTab,l[m]=x:=⟨_,rfl⟩
      have HLM:=qh hlm
      rw [hlm] at g0 htab hcl
      simp only [Nat.mul_one,Nat.add_zero] at g0 htab hcl
      have HTB:=qh htab
      have hbl:b<w9.heap.size:=by omega
      have Y7:b2<w9.heap.size:=by omega
      have hql:q<w9.heap.size:=wS.out.lt q rfl
      clear HOL HOT hlm htab s0 QJ
      refine aM (S:=(fun u=>u.cell? ⟨q,m,none⟩=some (.slice TA2 cur.length tc2)∧u.cell? ⟨b,o+m,none⟩=some (.slice (some ⟨b2,o2,none⟩) recs.length tc)∧u.cell? ⟨b2,o2+k * 3,none⟩=some (.slice QA gU.length qc)∧u.cell? ⟨b2,o2+k * 3 + 1,none⟩=some (.slice (some ⟨b3,o3,none⟩) gF.length qs)∧u.cell? ⟨b2,o2+k * 3 + 2,none⟩=some (.int .i64 qd))) [16] krA ⟨g0,c0,d0,d1,d2⟩ (fun hHeld => ?_)
      refine tkT 0 hHeld ?_
      refine tkT 1 hHeld ?_
      refine tkT 2 hHeld ?_
      refine tkT 3 hHeld ?_
      refine tkT 4 hHeld ?_
      refine tkT 5 hHeld ?_
      refine tkT 6 hHeld ?_
      refine tkT 7 hHeld ?_
      refine tkT 8 hHeld ?_
      refine tkT 9 hHeld ?_
      refine tkT 10 hHeld ?_
      refine tkT 11 hHeld ?_
      refine tkT 12 hHeld ?_
      refine r1T 13 (fun K hK => ?_)
      go_simp
      refine hK.out _ _ _ ⟨?_,?_,?_,?_,?_⟩ (fun hHeld => ?_)
      iterate 5 (go_simp)
      clear hK K
      refine r1T 14 (fun K hK => ?_)
      (refine ai _ rfl (.tmp 52) (.tmp 60) 40 rfl 43 ir _ Rcd.cells 3 56 Tryz.underlying40 hir pK oO pJ rfl omA bn dP w.heap.size (.slice TA2 cur.length tc2) cur rfl (HTB.out.below (B:=w9.heap.size) au nlr) _ _ _ [⟨QA,qc,gU,some ⟨b3,o3,none⟩,qs,gF,qd⟩] rfl rfl (Blk.one (enc:=Rcd.cells) (x:=⟨QA,qc,gU,some ⟨b3,o3,none⟩,qs,gF,qd⟩) neA spA) smA mxA smA ?_;intro v3 w3 hown3 hg3 pO;obtain ⟨A3,c3,rfl,_,_⟩:=hown3.form)
      have hx3:Below w.heap.size w w3:=Below.grown (aa hx9 au omA) hg3 smA HTB.out.row
      have hOc:=wS.out.below (B:=w9.heap.size) (w':=w9.drew.alloc (.cells #[.slice QA gU.length qc, .slice (some ⟨b3,o3,none⟩) gF.length qs, .int .i64 qd] 43)) au nlr
      have hTc:=EX.out.below (B:=w9.heap.size) (w':=w9.drew.alloc (.cells #[.slice QA gU.length qc, .slice (some ⟨b3,o3,none⟩) gF.length qs, .int .i64 qd] 43)) au nlr
      have hdone:=KT (q:=q) (l:=l) (m:=m) (A3:=A3) (c3:=c3) (n3:=cur.length + 1) (new:=cur ++ [⟨QA,qc,gU,some ⟨b3,o3,none⟩,qs,gF,qd⟩]) hOc HCT.out.len.symm hTc hml (by rw [HLM.out];exact hg3) (by simpa using hown3) spA (fun a ha=>by
       rw [HLM.out]
       subst ha
       rcases pO with h1|h1
       ·exact .inl (h1.symm.trans rfl)
       ·have e1:a.block=(w9.drew.alloc (.cells #[.slice QA gU.length qc, .slice (some ⟨b3,o3,none⟩) gF.length qs, .int .i64 qd] 43)).heap.size:=by simpa [Value.ownBlock] using h1
        exact .inr omA)
      have hO3:=hOc.kept hg3 (by have h:=hOc.dF (hTc.tab m hml) nk;rw [HLM.out] at h;exact h)
      have g3:=hO3.eB bL HCT.out.len.symm hml (j := 0) rfl
      have f3:=hO3.iN HCT.out.len.symm m
      rw [HLM.out] at g3
      simp only [Nat.mul_one,Nat.add_zero] at g3
      have jf:=qh hdone
      replace c0:=(hx3.cell (p:=⟨b,o+m,none⟩) (by exact hb)).trans HC0.out
      replace d0:=(hx3.cell (p:=⟨b2,_,none⟩) hb2).trans HD0.out
      replace d1:=(hx3.cell (p:=⟨b2,_,none⟩) hb2).trans HD1.out
      replace d2:=(hx3.cell (p:=⟨b2,_,none⟩) hb2).trans HD2.out
      clear hdone hOc hTc hO3 hg3 hown3 pO
      refine hK.out _ _ _ ⟨g3,c0,d0,d1,d2⟩ (fun hHeld => ?_)
      clear hK K
      refine tkT 15 hHeld ?_
      refine rzT 16 (fun K hK => ?_)
      go_simp
      refine hK.out _ _ _ ?_
      clear hK K
      refine aZ krA ?_ _
      clear hHeld g3 f3 g0 c0 d0 d1 d2
      have HP3:=qh (XG.out A3 c3)
      go_wp2_with fail
      go_roundw
      case rel=>exact ⟨k + 1,_,by omega,by go_num,(by have h:=HP3.out;rw [HLM.out] at h;exact h),jf.out.1,jf.out.2,hx3.setCell hqb _⟩
      case measure=>exact meA
     ·have rM:=qh hmem
      have Vh:=qh (GQ.out hmem)
      clear hmem GQ GU
      go_wp2_with (go_at_call 70;(with_reducible refine (Ak GA gc gone.length gone ⟨(m:Int),hd⟩ _ (HG.out.next hbi) rfl hg6 rM.out).mono ?_);rintro e w9 ⟨rfl,hb9⟩)
      have hx9:Below w.heap.size w w9:=aa hbi hb9 hwz
      go_roundw
      case rel=>exact ⟨k + 1,l,by omega,by go_num,Vh.out,HOL.out.below hb9 nlr,HOT.out.below hb9 nlr,hx9⟩
      case measure=>exact meA
    ·have hkl':decide (k<recs.length)=false:=by simpa using hkl
     have hke:k=recs.length:=by omega
     have Nh:Hid (gD rt l gone (m + 1) 0):=qh (HNX.out l (by rw [← hke];exact HCT.out))
     clear hke QJ
     go_wp2_with fail
     go_roundw
     case rel=>exact ⟨m + 1,l,by omega,by go_num,Nh.out,HOL.out,HOT.out,hbi⟩
     case measure=>exact meA
  ·have hlt':decide (m<rt.length)=false:=by simpa using hlt
   have hme:m=rt.length:=by omega
   have hlen:=HCT.out.len
   have hread:aP wr wr.heap.size (some ⟨q,0,none⟩) l:=⟨dw bL (by rw [hlen];exact HOL.out),fun t ht=>by
    obtain ⟨i,hi,rfl⟩:=List.getElem_of_mem ht
    have hi':i<rt.length:=by rw [← hlen];exact hi
    refine ⟨dw bn (HOT.out.tab i hi),fun r hr => ?_⟩
    rw [HCT.out.at_ i hi hi'] at hr
    have h:=HR.out.2 rt[i] (lgm hi')
    exact ((h.2 r (vv hr)).below hbr).mono hbr.size⟩
   have hsl:fV l:=by
    have hle : ∀ i (hi:i<l.length) (hi':i<rt.length),l[i].recs.length≤rt[i].recs.length:=fun i hi hi'=>by rw [HCT.out.at_ i hi hi'];exact AL
    refine ⟨by rw [hlen];omega,fun t ht => ?_,fun t ht r hr => ?_,fun t ht r hr => ?_⟩
    all_goals
     obtain ⟨i,hi,rfl⟩:=List.getElem_of_mem ht
     have hi':i<rt.length:=by rw [← hlen];exact hi
    ·have h1:=hle i hi hi'
     have h2:=HSR.out.recs rt[i] (lgm hi')
     omega
    ·rw [HCT.out.at_ i hi hi'] at hr
     exact HSR.out.row rt[i] (lgm hi') r (vv hr)
    ·rw [HCT.out.at_ i hi hi'] at hr
     exact HSR.out.seq rt[i] (lgm hi') r (vv hr)
   have Vt:Hid (l.map ax=fu (rt.map ax) gone):=qh (gD.done (by rw [← hme];exact HCT.out))
   have Vs:=qh hread
   have HSL:=qh hsl
   have HLEN:=qh hlen
   clear hme hread hsl hlen
   go_wp2_with (go_at_call 71;(with_reducible refine (lY (some ⟨q,0,none⟩) rt.length rt.length l _ Vs.out HLEN.out HSL.out).mono ?_);rintro e w9 ⟨q9,l9,rfl,hq9,hl9,hO9,hT9,hp9,hb9⟩)
   go_ret
   have hrd:=nJ (c:=rt.length) (by rw [hl9];exact hO9) (fun t ht=>(⟨hT9.tab t ht,hT9.row t ht⟩:gz w9 _ t.A t.cap t.recs))
   exact ⟨⟨q9,l9,rfl,hl9,hrd.1,by rw [hp9,Vt.out]⟩,aa hbr hb9 hbr.size⟩
theorem JO {pl:List (List bB)} {S S':List Src} (h : ∀ s,s∈S↔s∈S'):fu pl S=fu pl S':=by
 unfold fu
 congr 1
 funext k l
 unfold ja
 congr 1
 funext y
 rw [decide_eq_decide.2 (h _)]
theorem Ou {ts:List Tab} {rt:List RTab} {l:List Chg} {n:Nat} (hok:aV ts) (hpu:rt.map ax=eD ts l) (hh:GN ts n l):aO ts rt:=by
 obtain ⟨⟨pl,hc⟩,_,_⟩:=hh
 exact POk.back hok (by rw [hpu,hc.replay];exact hc.ok)
theorem Hz {ts:List Tab} {rt:List RTab} {o:List aD} {day:Int} {gone:List Src} (hok:aO ts rt) (hp:gone.Perm (jb ts rt o day)):gone.Perm (expE ts rt o day rt.length):=by
 unfold jb at hp
 rwa [aT hok,if_pos rfl] at hp
theorem Hw {ts:List Tab} {rt:List RTab} {l:List Chg} {o:List aD} {day:Int} {gone:List Src} (hok:aO ts rt) (hpu:rt.map ax=eD ts l) (hb : ∀ x∈l,x.seq ≤ 48) (hp:gone.Perm (jb ts rt o day)):CB gone∧gone.length ≤ 512:=by
 have hp':=Hz hok hp
 have hs:=xh ts rt o day rt.length
 have h8:=hok.cat.len
 have hl8:=hok.len
 refine ⟨fun s h => ?_,?_⟩
 ·obtain ⟨i,r,hi,hr,rfl⟩:=pg (hs.subset (hp'.mem_iff.1 h))
  rw [iC hi] at hr
  have hit:i<ts.length:=by omega
  have h1:=(hok.tab i hi hit).pure.rcd (aG r) (List.mem_map_of_mem hr)
  have hc:=hok.cat.ae hit
  have h2:r.seq.length=ts[i].ae.length:=h1.qW
  have h0 : 0<r.seq.length:=by omega
  have e:bJ r=r.seq[0]:=by
   have e : ∀ (l:List Int) (h : 0<l.length),l.headD 0=l[0]:=fun l h=>by
    cases l with
    | nil=>simp at h
    | cons a t=>rfl
   exact e r.seq h0
  have h3:=Du (P:=fun z=>z ≤ 48) hpu hb rt[i] (lgm hi) r hr r.seq[0] (lgm h0)
  have h4:=(h1.cell 0 hc.1).pos h0
  have h5:(aG r).2.1[0]=r.seq[0]:=rfl
  rw [h5] at h4
  simp only [aB,Bool.and_eq_true,decide_eq_true_eq] at h4
  unfold gL
  simp only
  omega
 ·rw [hp'.length_eq]
  have h1:=hs.length_le
  have h2:=tq (rt:=rt) (fun i h=>(hok.tab i h omA).len) rt.length
  omega
theorem MH {ts:List Tab} {rt:List RTab} {l:List Chg} {o:List aD} {day:Int} {gone:List Src} {d:List Chg} (hok:aO ts rt) (hpu:rt.map ax=eD ts l) (hb : ∀ x∈l,x.seq ≤ 48) (hp:gone.Perm (jb ts rt o day)) (hd : 0≤day∧day ≤ 1000) (hdel:uK ts rt gone 200 day d) :
 ∃ L:List Src,d=rq rt 200 day L∧L.length=gone.length ∧
  (∀ i (hi:i<L.length) (rt':List RTab),rt'.map ax=fu (rt.map ax) (L.take i)→dZ ts rt' (yT rt 200 day i L[i]) = 0∧aU (rt'.map ax) (yT rt 200 day i L[i])=fu (rt.map ax) (L.take (i + 1))) ∧
  (∀ rt':List RTab,rt'.map ax=fu (rt.map ax) L→jb ts rt' o day = []∧rt'.map ax=fu (rt.map ax) gone):=by
 have hp':=Hz hok hp
 have hw:=Ka hok hp'
 have hs:=xh ts rt o day rt.length
 have hnd:=sw hok rt.length nlr
 have X6:=(Hw hok hpu hb hp).2
 have hdo:zo ts rt gone 200 day:=⟨hok,by omega,by omega,by rw [hw.length_eq];omega⟩
 rcases hdel with ⟨_,L,hL,hup,rfl⟩|⟨hno,_⟩
 ·have hLg:L.Perm gone:=hL.trans hw
  have hmem : ∀ s,s∈L↔s∈gone:=fun s=>hLg.mem_iff
  have hall : ∀ s∈L,s∈cz rt rt.length:=fun s h=>hs.subset (hp'.mem_iff.1 ((hmem s).1 h))
  have hLn:L.Nodup:=hLg.nodup_iff.2 (hp'.nodup_iff.2 (hnd.sublist hs))
  have hlen:=hLg.length_eq
  refine ⟨L,rfl,hlen,fun i hi rt' hrt => ?_,fun rt' hrt=>⟨?_,by rw [hrt];exact JO hmem⟩⟩
  ·have hlast:dJ rt' ≤ 48:=K4 hrt omA (Du (P:=fun z=>z ≤ 48) hpu hb)
   exact MI hok hall hLn hi hrt omA omA omA
  ·have h:=MF (o:=o) (day:=day) (S:=L) (fun s h=>(hmem s).2 (hp'.mem_iff.2 h)) hrt
   unfold jb
   split
   ·exact h
   ·rfl
 ·exact absurd hdo hno
end Go.Proofs.YtkiglflbngfelaaGreat
