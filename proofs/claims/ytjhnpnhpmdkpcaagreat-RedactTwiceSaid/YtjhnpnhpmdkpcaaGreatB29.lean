/-
  Contracts and plain laws of this seat, part 29: Repl, StepP, ReplP, HistC.
-/
import Derived.Test.YtjhnpnhpmdkpcaaGreatB20
import Derived.Test.YtjhnpnhpmdkpcaaGreatB17
import Derived.Test.YtjhnpnhpmdkpcaaGreatB28
set_option linter.unusedVariables false
set_option linter.unusedSimpArgs false
set_option maxRecDepth 100000
set_option maxHeartbeats 16000000
namespace Go.Proofs.YtjhnpnhpmdkpcaaGreat
open Go.RowKit
noncomputable def replayE (ts:List Tab) (l:List Chg):List (List PRec):=l.foldl (fun pl x=>if formE ts x = 0 then performE pl x else pl) (List.replicate ts.length [])
theorem replayE_succ (ts:List Tab) {l:List Chg} {i:Nat} (hi:i<l.length):replayE ts (l.take (i + 1))=if formE ts l[i] = 0 then performE (replayE ts (l.take i)) l[i] else replayE ts (l.take i):=by
 unfold replayE
 rw [List.take_succ_eq_append_getElem hi,List.foldl_append]
 rfl
theorem RShape.zero (ts:List Tab):RShape ts (List.replicate ts.length zeroT):=by
 refine ⟨by simp,fun i hi hi' => ?_⟩
 simp only [List.map_replicate,List.getElem_replicate,pureT,zeroT,List.map_nil]
 exact ⟨by simp,fun r hr=>by cases hr⟩
theorem recsAt_pure (rt:List RTab) (k:Int):(recsAt rt k).map pureR=tabP (rt.map pureT) k:=by
 unfold recsAt tabP
 rw [List.getElem?_map]
 cases rt[k.toNat]? with
 | none=>rfl
 | some t=>rfl
theorem find_pure (rt:List RTab) (k:Int) (key:Val):findK (recsAt rt k) key=findP (tabP (rt.map pureT) k) key:=by rw [findK_pure,recsAt_pure]
theorem recsLen_pure (rt:List RTab) (k:Int):(recsAt rt k).length=(tabP (rt.map pureT) k).length:=by rw [← recsAt_pure,List.length_map]
inductive Chain (ts:List Tab):List Chg→List (List PRec)→Prop
 | nil:Chain ts [] (List.replicate ts.length [])
 | snoc {l:List Chg} {pl:List (List PRec)} {x:Chg} {rt:List RTab} (h:Chain ts l pl) (hp:rt.map pureT=pl) (hc:checkE ts rt x = 0):Chain ts (l ++ [x]) (performE pl x)
theorem Chain.ok {ts:List Tab} {l:List Chg} {pl:List (List PRec)} (h:Chain ts l pl):POk ts pl:=by
 cases h with
 | nil=>exact POk.zero ts
 | snoc h hp hc=>rw [← hp];exact check_keeps hc
theorem Chain.replay {ts:List Tab} {l:List Chg} {pl:List (List PRec)} (h:Chain ts l pl):replayE ts l=pl:=by
 induction h with
 | nil=>rfl
 | snoc h hp hc ih =>
   have hf:=(checkE_zero hc).2
   unfold replayE at ih ⊢
   rw [List.foldl_append,ih]
   simp [hf]
theorem Chain.at_ {ts:List Tab} {l:List Chg} {pl:List (List PRec)} (h:Chain ts l pl) : ∀ i (hi:i<l.length),∃ rt:List RTab,rt.map pureT=replayE ts (l.take i)∧checkE ts rt l[i] = 0:=by
 induction h with
 | nil=>intro i hi;simp at hi
 | snoc h hp hc ih =>
   rename_i l0 pl0 x rt
   intro i hi
   rcases Nat.lt_or_ge i l0.length with h1|h1
   ·obtain ⟨r,h2,h3⟩:=ih i h1
    refine ⟨r,?_,?_⟩
    ·rw [h2,List.take_append_of_le_length omA]
    ·rw [List.getElem_append_left h1];exact h3
   ·have he:i=l0.length:=by simp at hi;omega
    subst he
    refine ⟨rt,?_,?_⟩
    ·rw [hp,List.take_left',h.replay];rfl
    ·simpa using hc
structure HistI (ts:List Tab) (i:Nat) (q d:Int) (l:List Chg) (pl:List (List PRec)):Prop where
 chain:Chain ts l pl
 psq : 0≤q∧q ≤ 3*i
 pdy : 0≤d∧d ≤ 2*i
 bd : ∀ x∈l,x.seq≤q∧x.day≤d
 ord:l.Pairwise (fun a b=>a.seq<b.seq∧a.day≤b.day)
def HistIs (ts:List Tab) (n:Nat) (l:List Chg):Prop:=(∃ pl,Chain ts l pl)∧(∀ x∈l,x.seq ≤ 6*n∧x.day ≤ 4*n)∧l.Pairwise (fun a b=>a.seq<b.seq∧a.day≤b.day)
theorem HistI.zero (ts:List Tab):HistI ts 0 0 0 [] ((List.replicate ts.length zeroT).map pureT):=by
 refine ⟨?_,⟨Int.le_refl _,by simp⟩,⟨Int.le_refl _,by simp⟩,fun x hx=>(by cases hx),List.Pairwise.nil⟩
 rw [List.map_replicate]
 exact Chain.nil
theorem HistI.skip {ts:List Tab} {i:Nat} {q d:Int} {l:List Chg} {pl:List (List PRec)} (h:HistI ts i q d l pl) {r s:Nat} (hr:r ≤ 2) (hs:s ≤ 2):HistI ts (i + 1) (q+(1+(r:Int))) (d+(s:Int)) l pl:=by
 have h1:=h.psq
 have h2:=h.pdy
 exact ⟨h.chain,⟨by omega,by omega⟩,⟨by omega,by omega⟩,fun x hx=>by have:=h.bd x hx;omega,h.ord⟩
theorem HistI.snoc {ts:List Tab} {i:Nat} {q d:Int} {l:List Chg} {rt:List RTab} {pl:List (List PRec)} (h:HistI ts i q d l (rt.map pureT)) {r s:Nat} (hr:r ≤ 2) (hs:s ≤ 2) {x:Chg} (hp:pl=performE (rt.map pureT) x) (hc:checkE ts rt x = 0) (hx:x.seq=q+(1+(r:Int))) (hy:x.day=d+(s:Int)):HistI ts (i + 1) (q+(1+(r:Int))) (d+(s:Int)) (l ++ [x]) pl:=by
 have h1:=h.psq
 have h2:=h.pdy
 subst hp
 refine ⟨h.chain.snoc rfl hc,⟨by omega,by omega⟩,⟨by omega,by omega⟩,fun y hy => ?_,List.pairwise_append.2 ⟨h.ord,List.pairwise_singleton _ _,fun a ha b hb => ?_⟩⟩
 ·rcases List.mem_append.1 hy with h3|h3
  ·have:=h.bd y h3;omega
  ·rw [List.mem_singleton.1 h3];omega
 ·have:=h.bd a ha
  rw [List.mem_singleton.1 hb]
  omega
theorem HistI.done {ts:List Tab} {i n:Nat} {q d:Int} {l:List Chg} {pl:List (List PRec)} (h:HistI ts i q d l pl) (hi:i ≤ 2*n):HistIs ts n l:=by
 have h1:=h.psq
 have h2:=h.pdy
 exact ⟨⟨pl,h.chain⟩,fun x hx=>by have:=h.bd x hx;omega,h.ord⟩
theorem tape_HistoryC (g b B n:Nat) (A:Option Addr) (c m:Nat) (ts:List Tab) (w:World) (hk:IsTape w g b) (hgB:g<B) (ht:TabsIn w w.heap.size A ts) (hu:TabsUp B A ts) (hm:ts.length=m) (hs:SaneCat ts) (hok:CatOk ts) (h0 : 0<ts.length) (hn:n ≤ 1000) :
 Calls Tryz.prog 9 #[.pointer (some ⟨g,0,none⟩), .agg #[.slice A m c, .slice none 0 0, .slice none 0 0, .slice none 0 0, .slice none 0 0, .slice none 0 0, .slice none 0 0, .slice none 0 0], .int .i64 n] w fun e w' =>
  ∃ A' c' l,e = .returned (.slice A' l.length c')∧l.length≤n∧OwnC w' w.heap.size A' c' l∧IsTape w' g b∧w.grownBy w' (some g)∧HistIs ts n l:=by
 subst hm
 have hgl:=hk.ltg
 have hbl:=hk.lt
 obtain ⟨ic,hic,hzc1,hzc2,hzc3⟩:=info_parts infoChg
 obtain ⟨n2,hn2⟩ : ∃ n2,2*n=n2:=⟨_,rfl⟩
 have hw2:IntKind.i64.wrap (2*(n:Int))=(n2:Int):=by rw [show 2*(n:Int)=(n2:Int) by omega];exact IntWalk.i64_in _ omA
 have hn2l:n2 ≤ 2000:=by omega
 have HN2:Hid (n2 = 2*n):=qh hn2.symm
 have HK:=qh hk
 have HT:=qh ht
 have HU:=qh (hu.mono (B':=g + 1) hgB)
 have HS:=qh hs
 have HOK:=qh hok
 clear hk ht hu hs hok hn2
 go_enter Tryz.func9,Tryz.ntmps9
 go_upto_region 1 with (fail)
 refine abs_world (P:=fun u=>Code.wp _ _ _ _ u) (R:=fun u=>Blk u w.heap.size 34 #[.slice A ts.length c, .slice none 0 0, .slice none 0 0, .slice none 0 0, .slice none 0 0, .slice none 0 0, .slice none 0 0, .slice none 0 0]∧Below w.heap.size w u) ⟨?_,?_⟩ ?_
 ·exact Blk.new _ _ _
 ·exact belA
 rintro W ⟨hC,hbW⟩
 have hzW:=hC.lt
 have hS0:GrowS W g b W:=⟨HK.out.below hbW,grown_start _ brf⟩
 have hbW':b<W.heap.size:=by omega
 have hgW':g<W.heap.size:=by omega
 have HC:=qh hC
 have HTW:=qh (HT.out.next hbW)
 obtain ⟨p0,p1,p2,p3,p4,p5,p6,p7⟩:=Cat.blk hC
 clear hC
 go_wp2_with fail
 (with_reducible refine (ref07_New0 A c ts.length ts _ HTW.out rfl HS.out HOK.out).mono ?_)
 rintro e w1 ⟨⟨q,rfl,hq,hrt⟩,hb1⟩
 have hS1:=hS0.below hb1
 have HRT1:=qh hrt
 clear hrt
 clear p0 p1 p2 p3 p4 p5 p6 p7
 go_wp2_with fail
 go_loopw [7,8,9,10,11] (fun v7 v8 v9 v10 v11 wr => ∃ (i:Nat) (RA:Option Addr) (rc:Nat) (rt:List RTab) (LA:Option Addr) (lc:Nat) (l:List Chg) (sq dy:Int),i≤n2∧v11 = .int .i64 i∧v9 = .int .i64 sq∧v10 = .int .i64 dy∧v7 = .slice RA ts.length rc∧rt.length=ts.length∧RTabsIn wr wr.heap.size RA rt∧RUp (g + 1) RA rt∧RShape ts rt∧v8 = .slice LA l.length lc∧OwnC wr W.heap.size LA lc l∧l.length≤n∧GrowS W g b wr∧HistI ts i sq dy l (rt.map pureT)) (fun _ _ _ _ v11 _=>n2 - (intOf v11).toNat)
 case atStart=>exact ⟨0,_,_,_,none,0,[],0,0,Nat.zero_le _,rfl,rfl,rfl,rfl,by simp,HRT1.out,zero_up omA _,zero_shape ts,rfl,⟨Owns.nil,fun x hx=>by simp at hx,fun x hx=>by simp at hx⟩,Nat.zero_le _,hS1,HistI.zero ts⟩
 case round =>
  clear hS1 HRT1 hb1 hq
  obtain ⟨i,RA,rc,rt,LA,lc,l,sq,dy,hi,rfl,rfl,rfl,rfl,hrl,hrt,hru,hsh,rfl,hoc,hln,hSr,hhi⟩:=hrel
  have HHI:=qh hhi
  have hsq0:=hhi.psq
  have hdy0:=hhi.pdy
  clear hhi
  have HRL:=qh hrl
  have HRT:=qh hrt
  have HRU:=qh hru
  have HSH:=qh hsh
  have HOC:=qh hoc
  have HSR:=qh hSr
  have hzr:=hSr.size
  have hgw:w.grownBy W (some g):=grown_start _ hbW
  clear hrl hrt hru hsh hoc
  by_cases h1:i<n2
  rotate_left
  ·have h1':decide (i<n2)=false:=by simpa using h1
   have h1i:decide ((i:Int)<(n2:Int))=false:=by simp;omega
   go_wp2_with fail
   go_ret
   exact ⟨LA,lc,l,rfl,hln,⟨HOC.out.own.mono omA,fun x hx=>(HOC.out.rows x hx).mono omA,HOC.out.len⟩,HSR.out.tape,grown_trans hgw HSR.out.grown,HHI.out.done (by have:=HN2.out;omega)⟩
  have h1':decide (i<n2)=true:=by simpa using h1
  have h1i:decide ((i:Int)<(n2:Int))=true:=by simp;omega
  by_cases h2:l.length<n
  rotate_left
  ·have h2':decide (l.length<n)=false:=by simpa using h2
   have h2i:decide ((l.length:Int)<(n:Int))=false:=by simp;omega
   go_wp2_with fail
   go_ret
   exact ⟨LA,lc,l,rfl,hln,⟨HOC.out.own.mono omA,fun x hx=>(HOC.out.rows x hx).mono omA,HOC.out.len⟩,HSR.out.tape,grown_trans hgw HSR.out.grown,HHI.out.done (by have:=HN2.out;omega)⟩
  have h2':decide (l.length<n)=true:=by simpa using h2
  have h2i:decide ((l.length:Int)<(n:Int))=true:=by simp;omega
  go_wp2_with fail
  (with_reducible refine (tape_Next g b 3 _ HSR.out.tape omA omA).mono ?_)
  rintro e u1 ⟨r1,rfl,hr1,hk1,hg1⟩
  have HS1:=qh (HSR.out.call hk1 hg1)
  have hr1':r1 ≤ 2:=by rcases hr1 with h|h <;> omega
  have hws1:IntKind.i64.wrap (1+(r1:Int)) = 1+(r1:Int):=IntWalk.i64_in _ omA
  have hws2:IntKind.i64.wrap (sq+(1+(r1:Int)))=sq+(1+(r1:Int)):=IntWalk.i64_in _ omA
  go_wp2_with fail
  (with_reducible refine (tape_Next g b 3 _ HS1.out.tape omA omA).mono ?_)
  rintro e u2 ⟨r2,rfl,hr2,hk2,hg2⟩
  have HS2:=qh (HS1.out.call hk2 hg2)
  have hr2':r2 ≤ 2:=by rcases hr2 with h|h <;> omega
  have hws3:IntKind.i64.wrap (dy+(r2:Int))=dy+(r2:Int):=IntWalk.i64_in _ omA
  have HG12:Hid (wr.grownBy u2 (some g)):=qh (grown_trans hg1 hg2)
  clear hk1 hk2 hg1 hg2
  have hC2:=HS2.out.blk HC.out omA
  obtain ⟨p0,p1,p2,p3,p4,p5,p6,p7⟩:=Cat.blk hC2
  clear hC2
  go_wp2_with fail
  (with_reducible refine (tape_Change g b (g + 1) A c ts.length ts RA rc ts.length rt _ _ _ HS2.out.tape (Nat.lt_succ_self g) (HT.out.grown HU.out (Nat.lt_succ_self g) (grown_trans hgw HS2.out.grown)) HU.out rfl HS.out HOK.out h0 (HRT.out.grown HRU.out (Nat.lt_succ_self g) HG12.out) HRU.out HRL.out HSH.out).mono ?_)
  intro e w3 hch
  obtain ⟨⟨kd,sq2,dy2,tb,A0,cp,row,key,cl,vl⟩,he,hsq1,hdy1,hrl8,hrow,hk3,hg3⟩:=hch
  have HSQ1:=qh hsq1
  have HDY1:=qh hdy1
  clear hsq1 hdy1
  rw [show (Chg.cells ⟨kd,sq2,dy2,tb,A0,cp,row,key,cl,vl⟩).toArray = #[.int .i64 kd, .int .i64 sq2, .int .i64 dy2, .int .i64 tb, .slice A0 row.length cp, .int .i64 key.kind, .int .i64 key.num, .string key.text, .int .i64 cl, .int .i64 vl.kind, .int .i64 vl.num, .string vl.text] from rfl] at he
  subst he
  simp only at hrl8 hrow
  have hS3:=HS2.out.call hk3 hg3
  have hzu2:=HS2.out.size
  have HG3:Hid (wr.grownBy w3 (some g)):=qh (grown_trans HG12.out hg3)
  have HROW:=qh (hrow.mono (b':=W.heap.size) hzu2)
  have HS3:=qh hS3
  have hz3:=hS3.size
  clear p0 p1 p2 p3 p4 p5 p6 p7
  clear hk3 hg3 hrow hS3
  go_upto_region 10 with (fail)
  refine abs_world (P:=fun u=>Code.wp _ _ _ _ u) (R:=fun u=>Blk u w3.heap.size 79 #[.int .i64 kd, .int .i64 sq2, .int .i64 dy2, .int .i64 tb, .slice A0 row.length cp, .int .i64 key.kind, .int .i64 key.num, .string key.text, .int .i64 cl, .int .i64 vl.kind, .int .i64 vl.num, .string vl.text]∧Below w3.heap.size w3 u) ⟨?_,?_⟩ ?_
  ·exact Blk.new' rfl
  ·exact belA
  rintro w4 ⟨hX4,hb4⟩
  have hX4l:=hX4.lt
  have hz4:=hb4.size
  have HX4:=qh hX4
  have HS4:=qh (HS3.out.below hb4)
  have hC4:=HS4.out.blk HC.out omA
  obtain ⟨p0,p1,p2,p3,p4,p5,p6,p7⟩:=Cat.blk hC4
  obtain ⟨⟨q0,q1,q2,q3⟩,q4,⟨q5,q6,q7⟩,q8,q9,q10,q11⟩:=Chg.blkE (x:=⟨kd,sq2,dy2,tb,A0,cp,row,key,cl,vl⟩) hX4
  simp only at q0 q1 q2 q3 q4 q5 q6 q7 q8 q9 q10 q11
  have HOC4:=qh ((HOC.out.kept HG3.out hgW').below hb4)
  have HROW4:=qh (HROW.out.below hb4 nlr)
  have HRT4:Hid (RTabsIn w4 w4.heap.size RA rt):=qh ((HRT.out.grown HRU.out (Nat.lt_succ_self g) HG3.out).next hb4)
  obtain ⟨z,hz⟩ : ∃ z,checkE ts rt ⟨kd,sq2,dy2,tb,A0,cp,row,key,cl,vl⟩=z:=⟨_,rfl⟩
  have HZ:=qh hz
  clear hC4 hX4 hz
  go_wp2_with fail
  (with_reducible refine (ref07_Apply0 A c ts.length ts RA rc ts.length rt kd sq2 dy2 tb A0 cp row key cl vl _ (HT.out.grown HU.out (Nat.lt_succ_self g) (grown_trans hgw HS4.out.grown)) rfl HS.out HOK.out HRT4.out HRL.out (HSH.out.sane HOK.out) (own_read val_len HROW4.out) omA HZ.out).mono ?_)
  rintro e w5 ⟨⟨A2,c2,m2,rt2,rfl,hzz⟩,hb5⟩
  have hz5:=hb5.size
  have HS5:=qh (HS4.out.below hb5)
  have HOC5:=qh (HOC4.out.below hb5)
  have HROW5:=qh (HROW4.out.below hb5 nlr)
  have hX5:=HX4.out.below hb5 hX4l
  have HZZ:=qh hzz
  clear p0 p1 p2 p3 p4 p5 p6 p7
  clear q0 q1 q2 q3 q4 q5 q6 q7 q8 q9 q10 q11 hzz
  by_cases hz0:z = 0
  ·have hz0':(z == 0)=true:=by rw [hz0];rfl
   obtain ⟨rfl,hrl2,hrt2,hru2,hsh2,hpu2⟩:=HZZ.out hz0
   have HHN:=qh (HHI.out.snoc (r:=r1) (s:=r2) hr1' hr2' hpu2 (by rw [HZ.out];exact hz0) HSQ1.out HDY1.out)
   clear hpu2
   have HRL2:=qh hrl2
   have HRT2:=qh hrt2
   have HRU2:=qh hru2
   have HSH2:=qh hsh2
   have HX5:=qh hX5
   obtain ⟨⟨q0,q1,q2,q3⟩,q4,⟨q5,q6,q7⟩,q8,q9,q10,q11⟩:=Chg.blkE (x:=⟨kd,sq2,dy2,tb,A0,cp,row,key,cl,vl⟩) hX5
   simp only at q0 q1 q2 q3 q4 q5 q6 q7 q8 q9 q10 q11
   clear hrl2 hrt2 hru2 hsh2 hX5 hz0 HZZ
   go_wp2_with (at_builtin;go_must (refine wpList_append_list _ rfl (.tmp 54) (.tmp 56) 36 rfl 79 ic _ Chg.cells 12 128 Tryz.underlying36 hic hzc1 hzc2 hzc3 rfl omA chg_len chg_one W.heap.size (.slice LA l.length lc) l rfl (HOC5.out.own.alloc _) _ _ _ [(⟨kd,sq2,dy2,tb,A0,cp,row,key,cl,vl⟩:Chg)] rfl rfl (Blk.one (enc:=Chg.cells) (x:=⟨kd,sq2,dy2,tb,A0,cp,row,key,cl,vl⟩) (Blk.new' rfl) spA) smA mxA smA ?_);intro v2 w6 hown6 hg6 hat6;obtain ⟨LA6,lc6,hv6,_,_⟩:=hown6.form;subst hv6;have HOC6:=qh ((HOC5.out.below (brf.alloc nlr _)).app hg6 hown6 (HROW5.out.alloc _) hrl8);have HS6:=qh ((HS5.out.below (brf.alloc nlr _)).app hg6 HOC5.out.own.row hbW' hgW');have HRT6:Hid (RTabsIn w6 w6.heap.size A2 rt2):=qh ((HRT2.out.next (brf.alloc nlr _)).grownO HRU2.out (fun q hq=>HOC4.out.own.lt q hq) hg6);clear hown6)
   go_roundw
   case rel=>exact ⟨i + 1,A2,c2,rt2,LA6,lc6,l ++ [⟨kd,sq2,dy2,tb,A0,cp,row,key,cl,vl⟩],_,_,by omega,by go_num,rfl,rfl,rfl,HRL2.out,HRT6.out,HRU2.out.mono omA,HSH2.out,by simp,HOC6.out,by simp;omega,HS6.out,HHN.out⟩
   case measure=>exact meA
  ·have hz0':(z == 0)=false:=by simpa using hz0
   have HRT5:=qh (HRT4.out.next hb5)
   clear hz0 hX5 HZZ
   go_wp2_with fail
   go_roundw
   case rel=>exact ⟨i + 1,RA,rc,rt,LA,lc,l,_,_,by omega,by go_num,rfl,rfl,rfl,HRL.out,HRT5.out,HRU.out,HSH.out,rfl,HOC5.out,hln,HS5.out,HHI.out.skip hr1' hr2'⟩
   case measure=>exact meA
end Go.Proofs.YtjhnpnhpmdkpcaaGreat
