/-
  Contracts and plain laws of this seat, part 32: TRep, TOps.
-/
import Derived.Test.YtkiglflbngfelaaGreatJ28
import Derived.Test.YtkiglflbngfelaaGreatJ29
import Derived.Test.YtkiglflbngfelaaGreatJ25
import Derived.Test.YtkiglflbngfelaaGreatJ30
import Derived.Test.YtkiglflbngfelaaGreatJ21
set_option linter.unusedVariables false
set_option linter.unusedSimpArgs false
set_option maxRecDepth 100000
set_option maxHeartbeats 16000000
namespace Go.Proofs.YtkiglflbngfelaaGreat
open Go.RowKit Go
def FApart (F:List Fx) (l:List RTab):Prop := ∀ f∈F,∀ t∈l,∀ r∈t.recs,AApart r.SA f.A
theorem FApart.new {w:World} {base:Nat} {F F':List Fx} {l:List RTab} (h:FApart F l) (hn:FNew w.heap.size F F') (hT:OwnT w base l):FApart F' l:=fun f hf t ht r hr=>by
 rcases hn f hf with h1|h1
 ·exact h f h1 t ht r hr
 ·intro a b ha hb e
  have h2:=(hT.row t ht r hr).2.lt a.block (by rw [ha];rfl)
  have h3:=h1 b hb
  omega
theorem SchF.perf {w w':World} {B p mb fb base:Nat} {A:Option Addr} {c:Nat} {ts:List Tab} {F:List Fx} {l l':List RTab} (h:SchF w B p mb fb A c ts F) (hap:FApart F l) (hb:Below base w w') (hp:p<base) (hm:mb<base) (hf:fb<base) (hi:IntKeep l l' w w'):SchF w' B p mb fb A c ts F∧FApart F l':=by
 have hk : ∀ (f:Fx) (hf:f∈F) (g:Nat),f.A=some ⟨g,0,none⟩→Owns w B 3 intCells 1 f.val f.out→Owns w' B 3 intCells 1 f.val f.out:=fun f hf g _ ho=>(hi B f.A f.cap f.out ho (hap f hf)).1
 refine ⟨⟨⟨h.sch.blk.below hb hp,h.sch.nums.below hb hm⟩,h.lp,h.lm,h.lf,h.len,h.blk.below hb hf,fun i a b => ?_⟩,fun f hfm t ht r hr => ?_⟩
 ·rcases h.fix i a b with h1|⟨g,h1,h2,h3⟩
  ·exact .inl h1
  ·exact .inr ⟨g,h1,hk F[i] (lgm a) g h1 h2,h3⟩
 ·obtain ⟨i,hi',rfl⟩:=List.getElem_of_mem hfm
  rcases h.fix i hi' (by rw [← h.len];exact hi') with h1|⟨g,h1,h2,h3⟩
  ·rw [h1]
   intro a b _ hb
   cases hb
  ·exact (hi B F[i].A F[i].cap F[i].out h2 (hap _ (lgm hi'))).2 t ht r hr
section
variable {w w':World} {base fb q n:Nat} {l:List RTab}
theorem Owns.keepF {α : Type} {enc : α → List Value} {s:Nat} {e:TypeId} {v:Value} {m:List α} (h:Owns w base e enc s v m) (hg:w.grownBy w' (some fb)) (hf:fb<base):Owns w' base e enc s v m:=h.kept hg fun g hq e=>by
 have:=h.row g hq
 injection e with e
 omega
theorem OwnT.keepF (h:OwnT w base l) (hg:w.grownBy w' (some fb)) (hf:fb<base):OwnT w' base l :=
 ⟨fun t ht=>(h.tab t ht).keepF hg hf,fun t ht r hr=>⟨(h.row t ht r hr).1.keepF hg hf,(h.row t ht r hr).2.keepF hg hf⟩,h.tapart,h.rapart,h.rself⟩
end
theorem perform_none {ts:List Tab} {pl:List (List PRec)} {x:Chg} {k:Nat} (hp:POk ts pl) (hok:CatOk ts) (hin:InForm ts x k) (hf:formE ts x = 0) (hc:(foundK (tabP pl (k:Int)) (keyOf x)||(x.kind == 1&&decide ((tabP pl (k:Int)).length < 64)))=false):performE pl x=pl:=by
 have hk:k<pl.length:=by rw [hp.len];exact hin.lt
 have hK:=(hp.tab k hk hin.lt).keys (hok.cols hin.lt).1
 obtain ⟨hv,hkk⟩:=form_key hf hok
 rw [tabP_get hk,Bool.or_eq_false_iff] at hc
 have e:perfL pl[k] x=pl[k]:=by
  by_cases h1:x.kind = 1
  ·have e1:(x.kind == 1)=true:=by simpa using h1
   rw [e1,Bool.true_and,decide_eq_false_iff_not] at hc
   exact perfL_ins_full hK h1 hv hc.1 omA
  ·exact perfL_at_none hK h1 hv hc.1
 unfold performE
 rw [hin.tab,tabP_get hk,e,Int.toNat_natCast,List.set_getElem_self]
theorem idle_TabReplay (w:World):CallsD Tryz.prog 37 #[] .returning w fun e u' w'=>e = .returned (.tuple #[])∧u' = .returning∧w'=w:=by
 refine callsD_of_wpS Tryz.func37 rfl fun c₀ cs hu => ?_
 apply wpS_region
 cases c₀
 simp_all [wpOpsS,go_sem,recoverD,Tryz.ntmps37,bodyPostS,results,Tryz.results37]
theorem tab_Replay (A:Option Addr) (c m:Nat) (ts:List Tab) (LA:Option Addr) (lc n:Nat) (l:List Chg) (w:World) (ht:TabsIn w w.heap.size A ts) (hm:ts.length=m) (hs:SaneCat ts) (hok:CatOk ts) (hl:ChgsIn w w.heap.size LA l) (hn:l.length=n) (hn6:n ≤ 1000000) (hrow : ∀ x∈l,x.row.length ≤ 1000000) (hp : ∀ i,i≤l.length→POk ts (replayE ts (l.take i))) :
 Calls Tryz.prog 11 #[.agg #[.slice A m c, .slice none 0 0, .slice none 0 0, .slice none 0 0, .slice none 0 0, .slice none 0 0, .slice none 0 0, .slice none 0 0], .slice LA n lc] w fun e w'=>(∃ q rt,e = .returned (.slice (some ⟨q,0,none⟩) m m)∧rt.length=m∧RTabsIn w' w'.heap.size (some ⟨q,0,none⟩) rt∧RUp w.heap.size (some ⟨q,0,none⟩) rt∧rt.map pureT=replayE ts l)∧Below w.heap.size w w':=by
 subst hm hn
 have h8:=hok.len
 obtain ⟨i7,hi7,hz7,hs7,hb7⟩:=info_parts infoRTab
 have hmk : ∀ u:World,(Instr.makeSlice 38 (.int .i64 (ts.length:Int)) (.int .i64 (ts.length:Int))).run Tryz.prog u = .ok (.slice (some ⟨u.heap.size,0,none⟩) ts.length ts.length) (u.alloc (.cells (madeCells (RTab.cells zeroT).toArray (ts.length * 1)) 40)):=fun u=>by
  have:=run_make_rowN (P:=Tryz.prog) 38 40 i7 (.slice none 0 0) Tryz.underlying38 hi7 hz7 .i64 .i64 ts.length ts.length nlr (by rw [hb7];omega) omA u
  rw [hs7] at this
  exact this
 have HT:=qh ht
 have HS:=qh hs
 have HOK:=qh hok
 have HL:=qh hl
 have HROW:=qh hrow
 have HP:=qh hp
 clear ht hs hok hl hrow hp hi7 hz7 hs7 hb7
 go_enter_defers Tryz.func11,Tryz.ntmps11
 go_upto_region 2 with (fail)
 refine abs_world (P:=fun u=>Code.wp _ _ _ _ u) (R:=fun u=>Blk u w.heap.size 34 #[.slice A ts.length c, .slice none 0 0, .slice none 0 0, .slice none 0 0, .slice none 0 0, .slice none 0 0, .slice none 0 0, .slice none 0 0]∧Below w.heap.size w u) ⟨?_,?_⟩ ?_
 ·exact Blk.new _ _ _
 ·exact belA
 rintro W ⟨hC,hbW⟩
 have hzC:=hC.lt
 have HC:=qh hC
 obtain ⟨p0,p1,p2,p3,p4,p5,p6,p7⟩:=Cat.blk hC
 clear hC
 go_upto_region 7 with (first
  | (go_at_call 38;(with_reducible refine (cat_Valid A c ts.length ts _ (HT.out.next hbW) rfl HS.out HOK.out).mono ?_);rintro e w1 ⟨rfl,hb1⟩;have hz1:=hb1.size;have hx1:Below w.heap.size w w1:=below_nextN hbW hb1 hbW.size;clear p0 p1 p2 p3 p4 p5 p6 p7;obtain ⟨p0,p1,p2,p3,p4,p5,p6,p7⟩:=Cat.blk (HC.out.below hb1 hzC))
  | (go_at_call 39;(with_reducible refine (tab_newSchemaF A c ts.length ts _ (HT.out.next hx1) rfl HS.out HOK.out).mono ?_);rintro e w2 ⟨⟨p,mb,fb,rfl,hS2⟩,hb2⟩;have hz2:=hb2.size;have hx2:Below w.heap.size w w2:=below_nextN hx1 hb2 hx1.size;have HS2:=qh hS2;clear hS2 p0 p1 p2 p3 p4 p5 p6 p7;obtain ⟨p0,_⟩:=Cat.blk (HC.out.below (below_nextN hb1 hb2 hz1) hzC)))
 clear hmk p0
 have hpl:=HS2.out.sch.blk.lt
 have hml:=HS2.out.sch.nums.lt
 have hfl:=HS2.out.blk.lt
 have hzw:w.heap.size≤w1.heap.size:=by have:=hx1.size;omega
 refine abs_world (P:=fun u=>Code.wp _ _ _ _ u) (R:=fun u=>Owns u w2.heap.size 40 RTab.cells 1 (.slice (some ⟨w2.heap.size,0,none⟩) ts.length ts.length) (List.replicate ts.length zeroT)∧SchF u w1.heap.size p mb fb A c ts (List.replicate ts.length ⟨none,0,[]⟩)∧Below w2.heap.size w2 u) ⟨?_,?_,?_⟩ ?_
 ·exact Owns.made rtab_len omA (by rw [Nat.mul_one];exact Blk.new' rfl) nlr mxA
 ·exact HS2.out.next belA
 ·exact belA
 rintro V ⟨hO,hSV,hbV⟩
 have HO:=qh hO
 have HSV:=qh hSV
 have hbVx:Below w.heap.size w V:=below_nextN hx2 hbV hx2.size
 clear hO hSV HS2
 go_loopw [20] (fun vi wr => ∃ (i:Nat) (rt:List RTab) (F:List Fx),i≤l.length∧vi = .int .i64 i∧rt.length=ts.length∧Owns wr w2.heap.size 40 RTab.cells 1 (.slice (some ⟨w2.heap.size,0,none⟩) ts.length ts.length) rt∧OwnT wr w2.heap.size rt∧rt.map pureT=replayE ts (l.take i)∧SchF wr w1.heap.size p mb fb A c ts F∧FApart F rt∧Below w.heap.size w wr∧w2.heap.size≤wr.heap.size) (fun vi _=>l.length - (intOf vi).toNat)
 case atStart=>exact ⟨0,_,_,Nat.zero_le _,rfl,by simp,HO.out,OwnT.zero _ _ _,by rw [List.map_replicate];rfl,HSV.out,fun f hf t ht r hr=>by rw [(List.mem_replicate.1 ht).2] at hr;simp [zeroT] at hr,hbVx,hbV.size⟩
 case round =>
  obtain ⟨i,rt,F,hi,rfl,hrl,hO,hT,hpu,hSF,hap,hbr,hzr⟩:=hrel
  have HRL:=qh hrl
  have HO:=qh hO
  have HTT:=qh hT
  have HPU:=qh hpu
  have HSF:=qh hSF
  have HAP:=qh hap
  have hwz:=hbr.size
  clear hrl hO hT hpu hSF hap
  by_cases hlt:i<l.length
  ·obtain ⟨b5,o5,rfl,hb5,hc5⟩:=(HL.out.1.below hbr).get hlt
   obtain ⟨⟨q0,q1,q2,q3⟩,q4,⟨q5,q6,q7⟩,q8,q9,q10,q11⟩:=Chg.cells12 hc5
   have hR:=HL.out.2 l[i] (lgm hlt)
   have hrl:=HROW.out l[i] (lgm hlt)
   have hpk:POk ts (rt.map pureT):=by rw [HPU.out];exact HP.out i hi
   have hnx:=replayE_succ ts hlt
   obtain ⟨⟨kd,sq,dy,tb,A0,cp,row,key,cl,vl⟩,hx⟩ : ∃ x,l[i]=x:=⟨_,rfl⟩
   rw [hx] at q0 q1 q2 q3 q4 q5 q6 q7 q8 q9 q10 q11 hR hrl hnx
   simp only at q0 q1 q2 q3 q4 q5 q6 q7 q8 q9 q10 q11 hR hrl
   obtain ⟨z,hz⟩ : ∃ z,formE ts ⟨kd,sq,dy,tb,A0,cp,row,key,cl,vl⟩=z:=⟨_,rfl⟩
   have HNX:=qh hnx
   have HZ:=qh hz
   have HR:=qh hR
   have HPK:=qh hpk
   clear hc5 hR hpk hnx hx hz
   go_upto_region 9 with (fail)
   refine abs_world (P:=fun u=>Code.wp _ _ _ _ u) (R:=fun u=>Blk u wr.heap.size 53 (Chg.cells ⟨kd,sq,dy,tb,A0,cp,row,key,cl,vl⟩).toArray∧Below wr.heap.size wr u) ⟨?_,?_⟩ ?_
   ·exact Blk.new' spA
   ·exact belA
   clear q0 q1 q2 q3 q4 q5 q6 q7 q8 q9 q10 q11
   rintro Y ⟨hX,hbY⟩
   have hzX:=hX.lt
   have hzY:=hbY.size
   have HX:=qh hX
   have hbYx:Below w.heap.size w Y:=below_nextN hbr hbY hwz
   obtain ⟨⟨q0,q1,q2,q3⟩,q4,⟨q5,q6,q7⟩,q8,q9,q10,q11⟩:=Chg.blkE hX
   simp only at q0 q1 q2 q3 q4 q5 q6 q7 q8 q9 q10 q11
   have HSY:=qh (HSF.out.next hbY)
   have HOY:=qh (HO.out.below hbY nlr)
   have HTY:=qh (HTT.out.below hbY nlr)
   clear hX
   by_cases hz0:z = 0
   rotate_left
   ·have hz0':(z == 0)=false:=by simpa using hz0
    have HSAME:Hid (replayE ts (l.take (i + 1))=rt.map pureT):=qh (by rw [HNX.out,HZ.out,if_neg hz0,HPU.out])
    clear hz0
    go_wp2_with (go_at_call 40;(with_reducible refine (tab_form w1.heap.size p mb fb A c ts F kd sq dy tb A0 cp row key cl vl _ HSY.out (HT.out.next hbYx) HS.out HOK.out omA (HR.out.next hbYx) hrl HZ.out).mono ?_);rintro e w5 ⟨rfl,⟨F5,hS5,hn5⟩,hg5⟩)
    have hz5:=hg5.size
    have hb5':Below w.heap.size w w5:=Below.grown hbYx hg5 omA (fun g e=>by injection e with e;have:=hS5.lf;omega)
    go_roundw
    case rel=>exact ⟨i + 1,rt,F5,by omega,by go_num,HRL.out,HOY.out.keepF hg5 hfl,HTY.out.keepF hg5 hfl,HSAME.out.symm,hS5,HAP.out.new hn5 HTY.out,hb5',by omega⟩
    case measure=>exact meA
   ·subst hz0
    obtain ⟨k,hin⟩:=formE_in HZ.out
    have htb:tb=(k:Int):=hin.tab
    subst htb
    have hkt:=hin.lt
    have hkr:k<rt.length:=by rw [HRL.out];exact hkt
    have hkp:k<(rt.map pureT).length:=by simpa using hkr
    have e0:tabP (rt.map pureT) (k:Int)=rt[k].recs.map pureR:=by rw [tabP_get hkp,List.getElem_map];rfl
    obtain ⟨hkv,hkk⟩:=form_key HZ.out HOK.out
    have htab:=HPK.out.tab k hkp hkt
    rw [List.getElem_map] at htab
    have hcs:=HOK.out.cols hkt
    have h64:rt[k].recs.length ≤ 64:=by simpa [pureT] using htab.len
    have hrw6 : ∀ x∈rt[k].recs,x.row.length ≤ 1000000:=fun x hx=>by
     have h1:=htab.rcd (pureR x) (List.mem_map_of_mem hx)
     have h2:x.row.length=ts[k].cols.length:=h1.len
     omega
    have hra:RAsc rt[k].recs:=htab.keys hcs.1
    have h1r:kd = 1 → 0<row.length:=fun h=>by rw [inForm_cols hin hkt h];exact hcs.1
    obtain ⟨ef,hef⟩ : ∃ b,(foundK (rt[k].recs.map pureR) (keyOf ⟨kd,sq,dy,(k:Int),A0,cp,row,key,cl,vl⟩)||(kd == 1&&decide (rt[k].recs.length < 64)))=b:=⟨_,rfl⟩
    have HIN:=qh hin
    have HEF:=qh hef
    have HRA:=qh hra
    have HRW6:=qh hrw6
    have HKV:=qh hkv
    have H1R:=qh h1r
    have HEF2:Hid ((foundK (tabP (rt.map pureT) (k:Int)) (keyOf ⟨kd,sq,dy,(k:Int),A0,cp,row,key,cl,vl⟩)||(kd == 1&&decide ((tabP (rt.map pureT) (k:Int)).length < 64)))=ef):=qh (by rw [e0,List.length_map];exact hef)
    have hk64:rt[k].recs.length ≤ 1000000:=by omega
    clear hin hef hra hrw6 hkv hkk htab e0 h1r
    cases ef
    ·have HSAME:Hid (replayE ts (l.take (i + 1))=rt.map pureT):=qh (by rw [HNX.out,HZ.out,if_pos rfl,← HPU.out];exact perform_none HPK.out HOK.out HIN.out HZ.out HEF2.out)
     go_wp2_with (first
      | (go_at_call 40;(with_reducible refine (tab_form w1.heap.size p mb fb A c ts F kd sq dy (k:Int) A0 cp row key cl vl _ HSY.out (HT.out.next hbYx) HS.out HOK.out omA (HR.out.next hbYx) hrl HZ.out).mono ?_);rintro e w5 ⟨rfl,⟨F5,hS5,hn5⟩,hg5⟩;have hz5:=hg5.size;have hb5':Below w.heap.size w w5:=Below.grown hbYx hg5 omA (fun g e=>by injection e with e;have:=hS5.lf;omega);have HS5:=qh hS5;have HN5:=qh (HAP.out.new hn5 HTY.out);have HO5:=qh (HOY.out.keepF hg5 hfl);have HT5:=qh (HTY.out.keepF hg5 hfl);have hX5:=HX.out.grown hg5 (fun e=>by injection e with e;omega);have HX5:=qh hX5;clear q0 q1 q2 q3 q4 q5 q6 q7 q8 q9 q10 q11 hS5 hn5 hg5;obtain ⟨⟨q0,q1,q2,q3⟩,q4,⟨q5,q6,q7⟩,q8,q9,q10,q11⟩:=Chg.blkE hX5;simp only at q0 q1 q2 q3 q4 q5 q6 q7 q8 q9 q10 q11;clear hX5)
      | (go_at_call 41;(with_reducible refine (tab_hasEffect (some ⟨w2.heap.size,0,none⟩) ts.length ts.length rt kd sq dy k A0 cp row key cl vl _ (HT5.out.read HO5.out) HRL.out hkr hk64 HRW6.out HRA.out (HR.out.next hb5') hrl H1R.out HKV.out HEF.out).mono ?_);rintro e w6 ⟨rfl,hb6⟩;have hz6:=hb6.size;clear q0 q1 q2 q3 q4 q5 q6 q7 q8 q9 q10 q11;obtain ⟨⟨q0,q1,q2,q3⟩,q4,⟨q5,q6,q7⟩,q8,q9,q10,q11⟩:=Chg.blkE (HX5.out.below hb6 HX5.out.lt);simp only at q0 q1 q2 q3 q4 q5 q6 q7 q8 q9 q10 q11))
     clear q0 q1 q2 q3 q4 q5 q6 q7 q8 q9 q10 q11
     go_roundw
     case rel=>exact ⟨i + 1,rt,F5,by omega,by go_num,HRL.out,HO5.out.below hb6 nlr,HT5.out.below hb6 nlr,HSAME.out.symm,HS5.out.next hb6,HN5.out,below_nextN hb5' hb6 omA,by omega⟩
     case measure=>exact meA
    ·have HNXT:Hid (replayE ts (l.take (i + 1))=performE (rt.map pureT) ⟨kd,sq,dy,(k:Int),A0,cp,row,key,cl,vl⟩):=qh (by rw [HNX.out,HZ.out,if_pos rfl,← HPU.out])
     go_upto_region 10 with (first
      | (go_at_call 40;(with_reducible refine (tab_form w1.heap.size p mb fb A c ts F kd sq dy (k:Int) A0 cp row key cl vl _ HSY.out (HT.out.next hbYx) HS.out HOK.out omA (HR.out.next hbYx) hrl HZ.out).mono ?_);rintro e w5 ⟨rfl,⟨F5,hS5,hn5⟩,hg5⟩;have hz5:=hg5.size;have hb5':Below w.heap.size w w5:=Below.grown hbYx hg5 omA (fun g e=>by injection e with e;have:=hS5.lf;omega);have HS5:=qh hS5;have HN5:=qh (HAP.out.new hn5 HTY.out);have HO5:=qh (HOY.out.keepF hg5 hfl);have HT5:=qh (HTY.out.keepF hg5 hfl);have hX5:=HX.out.grown hg5 (fun e=>by injection e with e;omega);have HX5:=qh hX5;clear q0 q1 q2 q3 q4 q5 q6 q7 q8 q9 q10 q11 hS5 hn5 hg5;obtain ⟨⟨q0,q1,q2,q3⟩,q4,⟨q5,q6,q7⟩,q8,q9,q10,q11⟩:=Chg.blkE hX5;simp only at q0 q1 q2 q3 q4 q5 q6 q7 q8 q9 q10 q11;clear hX5)
      | (go_at_call 41;(with_reducible refine (tab_hasEffect (some ⟨w2.heap.size,0,none⟩) ts.length ts.length rt kd sq dy k A0 cp row key cl vl _ (HT5.out.read HO5.out) HRL.out hkr hk64 HRW6.out HRA.out (HR.out.next hb5') hrl H1R.out HKV.out HEF.out).mono ?_);rintro e w6 ⟨rfl,hb6⟩;have hz6:=hb6.size;clear q0 q1 q2 q3 q4 q5 q6 q7 q8 q9 q10 q11;obtain ⟨⟨q0,q1,q2,q3⟩,q4,⟨q5,q6,q7⟩,q8,q9,q10,q11⟩:=Chg.blkE (HX5.out.below hb6 HX5.out.lt);simp only at q0 q1 q2 q3 q4 q5 q6 q7 q8 q9 q10 q11))
     have hb6':Below w.heap.size w w6:=below_nextN hb5' hb6 omA
     go_wp2_with (go_at_call 42;(with_reducible refine (tab_perform ts w2.heap.size w2.heap.size ts.length rt kd sq dy k A0 cp row key cl vl _ (HO5.out.below hb6 nlr) HRL.out.symm (HT5.out.below hb6 nlr) omA (HR.out.next hb6') HOK.out HPK.out HIN.out HZ.out HEF2.out).mono ?_);rintro e w7 ⟨rfl,rt',hl7,hO7,hT7,hp7,hb7,hik⟩)
     obtain ⟨hS7,hF7⟩:=(HS5.out.next hb6).perf HN5.out hb7 hpl hml hfl hik
     clear q0 q1 q2 q3 q4 q5 q6 q7 q8 q9 q10 q11
     have hz7:=hb7.size
     go_roundw
     case rel=>exact ⟨i + 1,rt',F5,by omega,by go_num,hl7,hO7,hT7,by rw [hp7,HNXT.out],hS7,hF7,hb6'.trans (hb7.mono omA),by omega⟩
     case measure=>exact meA
  ·have hlt':decide (i<l.length)=false:=by simpa using hlt
   have hie:i=l.length:=by omega
   have HRD:=qh (tabs_read (c:=ts.length) (by rw [HRL.out];exact HO.out) (fun t ht=>(⟨HTT.out.tab t ht,HTT.out.row t ht⟩:RecsOwn wr _ t.A t.cap t.recs)))
   have HFIN:Hid (rt.map pureT=replayE ts l):=qh (by rw [HPU.out,hie,List.take_length])
   clear hie
   go_wp2_with fail
   refine leaves_cons (f := 37) (args := #[]) spA (by simp [go_sem]) ?_
   refine (idle_TabReplay _).mono ?_
   rintro e u' w'' ⟨rfl,rfl,rfl⟩
   refine ⟨_,results_tmp rfl _ _ _,?_⟩
   exact ⟨⟨_,rt,rfl,HRL.out,HRD.out.1,HRD.out.2.mono (by have:=hx2.size;omega),HFIN.out⟩,hbr⟩
open Go.RowKit Go
theorem idle_TabNew (w:World):CallsD Tryz.prog 47 #[] .returning w fun e u' w'=>e = .returned (.tuple #[])∧u' = .returning∧w'=w:=by
 refine callsD_of_wpS Tryz.func47 rfl fun c₀ cs hu => ?_
 apply wpS_region
 cases c₀
 simp_all [wpOpsS,go_sem,recoverD,Tryz.ntmps47,bodyPostS,results,Tryz.results47]
theorem tab_New (A:Option Addr) (c m:Nat) (ts:List Tab) (w:World) (ht:TabsIn w w.heap.size A ts) (hm:ts.length=m) (hs:SaneCat ts) (hok:CatOk ts) :
 Calls Tryz.prog 19 #[.agg #[.slice A m c, .slice none 0 0, .slice none 0 0, .slice none 0 0, .slice none 0 0, .slice none 0 0, .slice none 0 0, .slice none 0 0]] w fun e w'=>(∃ q,e = .returned (.slice (some ⟨q,0,none⟩) m m)∧w.heap.size≤q∧RTabsIn w' w'.heap.size (some ⟨q,0,none⟩) (List.replicate m zeroT))∧Below w.heap.size w w':=by
 subst hm
 have h8:=hok.len
 obtain ⟨i7,hi7,hz7,hs7,hb7⟩:=info_parts infoRTab
 have hmk : ∀ u:World,(Instr.makeSlice 38 (.int .i64 (ts.length:Int)) (.int .i64 (ts.length:Int))).run Tryz.prog u = .ok (.slice (some ⟨u.heap.size,0,none⟩) ts.length ts.length) (u.alloc (.cells (madeCells (RTab.cells zeroT).toArray (ts.length * 1)) 40)):=fun u=>by
  have:=run_make_rowN (P:=Tryz.prog) 38 40 i7 (.slice none 0 0) Tryz.underlying38 hi7 hz7 .i64 .i64 ts.length ts.length nlr (by rw [hb7];omega) omA u
  rw [hs7] at this
  exact this
 have HT:=qh ht
 have HS:=qh hs
 have HOK:=qh hok
 clear ht hs hok hi7 hz7 hs7 hb7
 go_enter_defers Tryz.func19,Tryz.ntmps19
 go_upto_region 2 with (fail)
 refine abs_world (P:=fun u=>Code.wp _ _ _ _ u) (R:=fun u=>Blk u w.heap.size 34 #[.slice A ts.length c, .slice none 0 0, .slice none 0 0, .slice none 0 0, .slice none 0 0, .slice none 0 0, .slice none 0 0, .slice none 0 0]∧Below w.heap.size w u) ⟨?_,?_⟩ ?_
 ·exact Blk.new _ _ _
 ·exact belA
 rintro W ⟨hC,hbW⟩
 have hzC:=hC.lt
 have HC:=qh hC
 obtain ⟨p0,p1,p2,p3,p4,p5,p6,p7⟩:=Cat.blk hC
 clear hC
 go_wp2_with (go_at_call 38;(with_reducible refine (cat_Valid A c ts.length ts _ (HT.out.next hbW) rfl HS.out HOK.out).mono ?_);rintro e w1 ⟨rfl,hb1⟩;have hz1:=hb1.size;have hx1:Below w.heap.size w w1:=below_nextN hbW hb1 hbW.size;clear p0 p1 p2 p3 p4 p5 p6 p7;obtain ⟨p0,p1,p2,p3,p4,p5,p6,p7⟩:=Cat.blk (HC.out.below hb1 omA))
 refine leaves_cons (f := 47) (args := #[]) spA (by simp [go_sem]) ?_
 refine (idle_TabNew _).mono ?_
 rintro e u' w'' ⟨rfl,rfl,rfl⟩
 refine ⟨_,results_tmp rfl _ _ _,?_⟩
 have hz:=hx1.size
 refine ⟨⟨w1.heap.size,rfl,hz,?_⟩,by exact belA⟩
 have hO:Owns (w1.alloc (.cells (madeCells (RTab.cells zeroT).toArray ts.length) 40)) w1.heap.size 40 RTab.cells 1 (.slice (some ⟨w1.heap.size,0,none⟩) ts.length ts.length) (List.replicate ts.length zeroT):=Owns.made rtab_len omA (by rw [Nat.mul_one];exact Blk.new' rfl) nlr mxA
 exact (OwnT.zero _ w1.heap.size _).read hO
theorem idle_TabCheck (w:World):CallsD Tryz.prog 90 #[] .returning w fun e u' w'=>e = .returned (.tuple #[])∧u' = .returning∧w'=w:=by
 refine callsD_of_wpS Tryz.func90 rfl fun c₀ cs hu => ?_
 apply wpS_region
 cases c₀
 simp_all [wpOpsS,go_sem,recoverD,Tryz.ntmps90,bodyPostS,results,Tryz.results90]
theorem tab_CheckX (A:Option Addr) (c m:Nat) (ts:List Tab) (RA:Option Addr) (rc n:Nat) (rt:List RTab) (kd sq dy tb:Int) (A0:Option Addr) (cp:Nat) (row:List Val) (key:Val) (cl:Int) (vl:Val) (w:World) (ht:TabsIn w w.heap.size A ts) (hm:ts.length=m) (hs:SaneCat ts) (hok:CatOk ts) (hrt:RTabsIn w w.heap.size RA rt) (hn:rt.length=n) (hsr:SaneR rt) (hR:SliceIs w w.heap.size Val.cells 3 A0 row) (hrl:row.length ≤ 1000000) {z:Int} (hz:checkE ts rt ⟨kd,sq,dy,tb,A0,cp,row,key,cl,vl⟩=z) :
 Calls Tryz.prog 44 #[.agg #[.slice A m c, .slice none 0 0, .slice none 0 0, .slice none 0 0, .slice none 0 0, .slice none 0 0, .slice none 0 0, .slice none 0 0], .slice RA n rc, .agg #[.int .i64 kd, .int .i64 sq, .int .i64 dy, .int .i64 tb, .slice A0 row.length cp, .int .i64 key.kind, .int .i64 key.num, .string key.text, .int .i64 cl, .int .i64 vl.kind, .int .i64 vl.num, .string vl.text]] w fun e w'=>e = .returned (.int .i64 z)∧Below w.heap.size w w':=by
 subst hm hn
 obtain ⟨b,hb⟩ : ∃ b,pb (RTabsOk ts rt)=b:=⟨_,rfl⟩
 have HB:=qh hb
 have HZ:=qh hz
 have HT:=qh ht
 have HS:=qh hs
 have HOK:=qh hok
 have HR:=qh hrt
 have HSR:=qh hsr
 have HRW:=qh hR
 clear hz hb ht hs hok hrt hsr hR
 go_enter_defers Tryz.func44,Tryz.ntmps44
 go_upto_region 2 with (fail)
 refine abs_world (P:=fun u=>Code.wp _ _ _ _ u) (R:=fun u=>Blk u w.heap.size 34 #[.slice A ts.length c, .slice none 0 0, .slice none 0 0, .slice none 0 0, .slice none 0 0, .slice none 0 0, .slice none 0 0, .slice none 0 0]∧Blk u (w.heap.size + 1) 53 (Chg.cells ⟨kd,sq,dy,tb,A0,cp,row,key,cl,vl⟩).toArray∧Below w.heap.size w u) ⟨?_,?_,?_⟩ ?_
 ·exact (Blk.new _ _ _).alloc _
 ·exact Blk.new' spA
 ·exact belA
 rintro W ⟨hC,hX,hbW⟩
 have hzX:=hX.lt
 have HC:=qh hC
 have HX:=qh hX
 obtain ⟨p0,p1,p2,p3,p4,p5,p6,p7⟩:=Cat.blk hC
 clear hC hX
 cases b
 ·have HZ1:Hid (z = 1):=qh (by rw [← HZ.out];unfold checkE;rw [HB.out,if_pos rfl])
  go_wp2_with (first
   | (go_at_call 38;(with_reducible refine (cat_Valid A c ts.length ts _ (HT.out.next hbW) rfl HS.out HOK.out).mono ?_);rintro e w1 ⟨rfl,hb1⟩;have hz1:=hb1.size;have hx1:Below w.heap.size w w1:=below_nextN hbW hb1 hbW.size;clear p0 p1 p2 p3 p4 p5 p6 p7;obtain ⟨p0,p1,p2,p3,p4,p5,p6,p7⟩:=Cat.blk (HC.out.below hb1 omA))
   | (go_at_call 39;(with_reducible refine (tab_newSchemaF A c ts.length ts _ (HT.out.next hx1) rfl HS.out HOK.out).mono ?_);rintro e w2 ⟨⟨p,mb,fb,rfl,hS2⟩,hb2⟩;have hz2:=hb2.size;have hx2:Below w.heap.size w w2:=below_nextN hx1 hb2 hx1.size;have HS2:=qh hS2;clear hS2 p0 p1 p2 p3 p4 p5 p6 p7)
   | (go_at_call 49;(with_reducible refine (tab_holds p mb fb ts.length A c ts RA rc rt.length rt _ HS2.out.sch (HT.out.next hx2) HOK.out (HR.out.next hx2) rfl HSR.out HB.out).mono ?_);rintro e w3 ⟨rfl,hb3⟩;have hz3:=hb3.size;have hx3:Below w.heap.size w w3:=below_nextN hx2 hb3 hx2.size))
  refine leaves_cons (f := 90) (args := #[]) spA (by simp [go_sem]) ?_
  refine (idle_TabCheck _).mono ?_
  rintro e u' w'' ⟨rfl,rfl,rfl⟩
  refine ⟨_,results_tmp rfl _ _ _,?_⟩
  exact ⟨ret_int HZ1.out.symm,hx3⟩
 have HRK:Hid (RTabsOk ts rt):=qh (pb_iff.1 HB.out)
 go_upto_region 7 with (first
  | (go_at_call 38;(with_reducible refine (cat_Valid A c ts.length ts _ (HT.out.next hbW) rfl HS.out HOK.out).mono ?_);rintro e w1 ⟨rfl,hb1⟩;have hz1:=hb1.size;have hx1:Below w.heap.size w w1:=below_nextN hbW hb1 hbW.size;clear p0 p1 p2 p3 p4 p5 p6 p7;obtain ⟨p0,p1,p2,p3,p4,p5,p6,p7⟩:=Cat.blk (HC.out.below hb1 omA))
  | (go_at_call 39;(with_reducible refine (tab_newSchemaF A c ts.length ts _ (HT.out.next hx1) rfl HS.out HOK.out).mono ?_);rintro e w2 ⟨⟨p,mb,fb,rfl,hS2⟩,hb2⟩;have hz2:=hb2.size;have hx2:Below w.heap.size w w2:=below_nextN hx1 hb2 hx1.size;have HS2:=qh hS2;clear hS2 p0 p1 p2 p3 p4 p5 p6 p7)
  | (go_at_call 49;(with_reducible refine (tab_holds p mb fb ts.length A c ts RA rc rt.length rt _ HS2.out.sch (HT.out.next hx2) HOK.out (HR.out.next hx2) rfl HSR.out HB.out).mono ?_);rintro e w3 ⟨rfl,hb3⟩;have hz3:=hb3.size;have hx3:Below w.heap.size w w3:=below_nextN hx2 hb3 hx2.size))
 obtain ⟨⟨q0,q1,q2,q3⟩,q4,⟨q5,q6,q7⟩,q8,q9,q10,q11⟩:=Chg.blkE (HX.out.below (below_nextN hb1 (below_nextN hb2 hb3 hz2) hz1) hzX)
 simp only at q0 q1 q2 q3 q4 q5 q6 q7 q8 q9 q10 q11
 go_wp2_with (go_at_call 50;(with_reducible refine (tab_check w1.heap.size p mb fb A c ts _ RA rc rt kd sq dy tb A0 cp row key cl vl _ (HS2.out.next hb3) omA ((HT.out.below hx3).mono omA) HS.out ((HR.out.below hx3).mono omA) HRK.out ((HRW.out.below hx3).mono omA) hrl HZ.out).mono ?_);rintro e w4 ⟨rfl,hF4,hb4⟩;have hx4:Below w.heap.size w w4:=hx3.trans (hb4.mono omA))
 refine leaves_cons (f := 90) (args := #[]) spA (by simp [go_sem]) ?_
 refine (idle_TabCheck _).mono ?_
 rintro e u' w'' ⟨rfl,rfl,rfl⟩
 refine ⟨_,results_tmp rfl _ _ _,?_⟩
 exact ⟨rfl,hx4⟩
end Go.Proofs.YtkiglflbngfelaaGreat
