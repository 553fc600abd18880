/-
  Contracts and plain laws of this seat, part 25: Repl, StepP, HistC.
-/
import Derived.Test.YtkiglflbngfelaaGreatJ14
import Derived.Test.YtkiglflbngfelaaGreatJ11
import Derived.Test.YtkiglflbngfelaaGreatJ24
set_option linter.unusedVariables false
set_option linter.unusedSimpArgs false
set_option maxRecDepth 100000
set_option maxHeartbeats 16000000
namespace Go.Proofs.YtkiglflbngfelaaGreat
open Go.RowKit
noncomputable def replayE (ts:List Tab) (l:List Chg):List (List PRec):=l.foldl (fun pl x=>if formE ts x = 0 then performE pl x else pl) (List.replicate ts.length [])
theorem replayE_succ (ts:List Tab) {l:List Chg} {i:Nat} (hi:i<l.length):replayE ts (l.take (i + 1))=if formE ts l[i] = 0 then performE (replayE ts (l.take i)) l[i] else replayE ts (l.take i):=by
 unfold replayE
 rw [List.take_succ_eq_append_getElem hi,List.foldl_append]
 rfl
theorem RShape.zero (ts:List Tab):RShape ts (List.replicate ts.length zeroT):=by
 refine ⟨by simp,fun i hi hi' => ?_⟩
 simp only [List.map_replicate,List.getElem_replicate,pureT,zeroT,List.map_nil]
 exact ⟨by simp,fun r hr=>by cases hr⟩
theorem ref07_Replay (A:Option Addr) (c m:Nat) (ts:List Tab) (LA:Option Addr) (lc n:Nat) (l:List Chg) (w:World) (ht:TabsIn w w.heap.size A ts) (hm:ts.length=m) (hs:SaneCat ts) (hok:CatOk ts) (hl:ChgsIn w w.heap.size LA l) (hn:l.length=n) (hn6:n ≤ 1000000) (hrow : ∀ x∈l,x.row.length ≤ 1000000) :
 Calls Tryz.prog 15 #[.agg #[.slice A m c, .slice none 0 0, .slice none 0 0, .slice none 0 0, .slice none 0 0, .slice none 0 0, .slice none 0 0, .slice none 0 0], .slice LA n lc] w fun e w'=>(∃ RA rc rt,e = .returned (.slice RA m rc)∧rt.length=m∧RTabsIn w' w'.heap.size RA rt∧RUp w.heap.size RA rt∧RShape ts rt∧rt.map pureT=replayE ts l)∧Below w.heap.size w w':=by
 subst hm hn
 have h8:=hok.len
 have HT:=qh ht
 have HS:=qh hs
 have HOK:=qh hok
 have HL1:=qh hl.1
 have HL2:=qh hl.2
 have HROW:=qh hrow
 clear ht hs hok hl hrow
 go_enter Tryz.func15,Tryz.ntmps15
 go_upto_region 2 with (go_at_call 18;(with_reducible refine (ref07_New A c ts.length ts _ (HT.out.next belA) rfl HS.out HOK.out).mono ?_);rintro e w1 ⟨⟨q,rfl,hq,hr⟩,hb1⟩)
 refine abs_world (P:=fun u=>Code.wp _ _ _ _ u) (R:=fun u=>Blk u w.heap.size 34 #[.slice A ts.length c, .slice none 0 0, .slice none 0 0, .slice none 0 0, .slice none 0 0, .slice none 0 0, .slice none 0 0, .slice none 0 0]∧RTabsIn u u.heap.size (some ⟨q,0,none⟩) (List.replicate ts.length zeroT)∧Below w.heap.size w u) ⟨?_,hr,?_⟩ ?_
 ·exact (Blk.new _ _ _).below hb1 spA
 ·exact below_nextN belA hb1 leA
 have hq':w.heap.size≤q:=by simp at hq;omega
 clear hb1 hr
 rintro W ⟨hB,hR,hbW⟩
 have hzW:=hB.lt
 have HB:=qh hB
 have HR:=qh hR
 clear hB hR
 have hnil:(binOp .eql 38 (.slice (some ⟨q,0,none⟩) ts.length ts.length) (.slice none 0 0)).run Tryz.prog W = .ok (.bool false) W:=Lib.run_eql_slice_nil W 38 40 (some ⟨q,0,none⟩) ts.length ts.length 0 0 Tryz.underlying38
 go_upto_region 5 with (fail)
 clear hnil
 go_loopw [5,6] (fun vt vi wr => ∃ (i:Nat) (RA:Option Addr) (rc:Nat) (rt:List RTab),i≤l.length∧vi = .int .i64 i∧vt = .slice RA ts.length rc∧rt.length=ts.length∧RTabsIn wr wr.heap.size RA rt∧RUp w.heap.size RA rt∧RShape ts rt∧rt.map pureT=replayE ts (l.take i)∧Below W.heap.size W wr) (fun _ vi _=>l.length - (intOf vi).toNat)
 case atStart=>exact ⟨0,_,_,_,Nat.zero_le _,rfl,rfl,by simp,HR.out,⟨fun a ha=>by injection ha with ha;subst ha;exact hq',fun t ht=>by rw [(List.mem_replicate.1 ht).2];exact ⟨fun a ha=>by simp [zeroT] at ha,fun r hr=>by simp [zeroT] at hr⟩⟩,RShape.zero ts,by simp [replayE,pureT,zeroT],Below.refl _ _⟩
 case round =>
  obtain ⟨i,RA,rc,rt,hi,rfl,rfl,hrl,hrt,hup,hsh,hpu,hbr⟩:=hrel
  have HUP:=qh hup
  clear hup
  have hwz:=hbr.size
  have hxr:=below_nextN hbW hbr hbW.size
  have hxz:=hxr.size
  have HRT:=qh hrt
  have HSH:=qh hsh
  have HPU:=qh hpu
  have HRL:=qh hrl
  clear hrt hsh hpu hrl
  by_cases hlt:i<l.length
  ·obtain ⟨b,o,rfl,hb,hc⟩:=(HL1.out.below hxr).get hlt
   obtain ⟨⟨q0,q1,q2,q3⟩,q4,⟨q5,q6,q7⟩,q8,q9,q10,q11⟩:=Chg.cells12 hc
   have hrin:=HL2.out l[i] (lgm hlt)
   have hrl:=HROW.out l[i] (lgm hlt)
   have hsu:=replayE_succ ts hlt
   obtain ⟨⟨kd,sq,dy,tb,A0,cp,row,key,cl,vl⟩,hy⟩ : ∃ x:Chg,l[i]=x:=⟨_,rfl⟩
   rw [hy] at q0 q1 q2 q3 q4 q5 q6 q7 q8 q9 q10 q11 hrin hrl hsu
   simp only at q0 q1 q2 q3 q4 q5 q6 q7 q8 q9 q10 q11 hrin hrl
   have HRI:=qh hrin
   have HSU:=qh hsu
   clear hc hy hrin hsu
   obtain ⟨p0,p1,p2,p3,p4,p5,p6,p7⟩:=Cat.blk (HB.out.below hbr hzW)
   have hk0:=keepQ (w:=wr) w.heap.size omA
   have hk1:=keepQ (w:=wr) b omA
   obtain ⟨z,hz⟩ : ∃ z,formE ts ⟨kd,sq,dy,tb,A0,cp,row,key,cl,vl⟩=z:=⟨_,rfl⟩
   have HZ:=qh hz
   have HFC:Hid (∀ x:BelOf wr,Calls Tryz.prog 45 #[.agg #[.slice A ts.length c, .slice none 0 0, .slice none 0 0, .slice none 0 0, .slice none 0 0, .slice none 0 0, .slice none 0 0, .slice none 0 0], .agg #[.int .i64 kd, .int .i64 sq, .int .i64 dy, .int .i64 tb, .slice A0 row.length cp, .int .i64 key.kind, .int .i64 key.num, .string key.text, .int .i64 cl, .int .i64 vl.kind, .int .i64 vl.num, .string vl.text]] x.u fun e w''=>e = .returned (.int .i64 z) ∧ ∃ y:BelOf wr,w''=y.u):=qh fun x=>bel_of (ref07_Form A c ts.length ts kd sq dy tb A0 cp row key cl vl x.u (HT.out.next (below_nextN hxr x.h hxr.size)) rfl HS.out HOK.out (HRI.out.next (below_nextN hxr x.h hxr.size)) hrl HZ.out)
   clear hz
   cases hz0:(z == 0)
   ·have HNE:Hid (replayE ts (l.take (i + 1))=replayE ts (l.take i)):=qh (by rw [HSU.out,if_neg (by rw [HZ.out];simpa using hz0)])
    go_upto_region 7 with (fail)
    refine wp_region_bel krA krA ?_;(repeat (go_big_quiet_step ((go_at_call 45;with_reducible exact HFC.out _))));refine wpQuiet_nil ?_;intro wq hq
    clear hk0 hk1 p0 p1 p2 p3 p4 p5 p6 p7 q0 q1 q2 q3 q4 q5 q6 q7 q8 q9 q10 q11
    go_wp2_with fail
    go_roundw
    case rel=>exact ⟨i + 1,RA,rc,rt,by omega,by go_num,rfl,HRL.out,(HRT.out.below hq).mono hq.size,HUP.out,HSH.out,by rw [HNE.out];exact HPU.out,below_nextN hbr hq hwz⟩
    case measure=>exact meA
   ·have hzz:z = 0:=by simpa using hz0
    subst hzz
    obtain ⟨k,hin⟩:=formE_in HZ.out
    have HIN:=qh hin
    have HYE:Hid (replayE ts (l.take (i + 1))=performE (replayE ts (l.take i)) ⟨kd,sq,dy,tb,A0,cp,row,key,cl,vl⟩):=qh (by rw [HSU.out,if_pos HZ.out])
    clear hin
    go_upto_region 7 with (fail)
    refine wp_region_bel krA krA ?_;(repeat (go_big_quiet_step ((go_at_call 45;with_reducible exact HFC.out _))));refine wpQuiet_nil ?_;intro wq hq
    have HQ:=qh hq
    have hqz:=hq.size
    clear hk0 hk1 p0 p1 p2 p3 p4 p5 p6 p7
    replace q0:=(hq.cell (p:=⟨b,_,none⟩) (show b<wr.heap.size by omega)).trans q0
    replace q1:=(hq.cell (p:=⟨b,_,none⟩) (show b<wr.heap.size by omega)).trans q1
    replace q2:=(hq.cell (p:=⟨b,_,none⟩) (show b<wr.heap.size by omega)).trans q2
    replace q3:=(hq.cell (p:=⟨b,_,none⟩) (show b<wr.heap.size by omega)).trans q3
    replace q4:=(hq.cell (p:=⟨b,_,none⟩) (show b<wr.heap.size by omega)).trans q4
    replace q5:=(hq.cell (p:=⟨b,_,none⟩) (show b<wr.heap.size by omega)).trans q5
    replace q6:=(hq.cell (p:=⟨b,_,none⟩) (show b<wr.heap.size by omega)).trans q6
    replace q7:=(hq.cell (p:=⟨b,_,none⟩) (show b<wr.heap.size by omega)).trans q7
    replace q8:=(hq.cell (p:=⟨b,_,none⟩) (show b<wr.heap.size by omega)).trans q8
    replace q9:=(hq.cell (p:=⟨b,_,none⟩) (show b<wr.heap.size by omega)).trans q9
    replace q10:=(hq.cell (p:=⟨b,_,none⟩) (show b<wr.heap.size by omega)).trans q10
    replace q11:=(hq.cell (p:=⟨b,_,none⟩) (show b<wr.heap.size by omega)).trans q11
    go_wp2_with (go_at_call 46;(with_reducible refine (ref07_perform ts RA rc ts.length rt k kd sq dy tb A0 cp row key cl vl _ ((HRT.out.below HQ.out).mono hqz) HRL.out HSH.out HOK.out (HRI.out.next (below_nextN hxr HQ.out hxr.size)) HIN.out).mono ?_);rintro e w2 ⟨⟨RA2,rc2,rt2,rfl,hl2,hr2,hu2,hp2⟩,hb2⟩;have HU2:=qh hu2;clear hu2;have HR2:=qh hr2;have HP2:=qh hp2;clear hr2 hp2)
    go_roundw
    case rel=>exact ⟨i + 1,RA2,rc2,rt2,by omega,by go_num,rfl,hl2,HR2.out,HU2.out.mono omA,(show PShape ts (rt2.map pureT) by rw [HP2.out];exact PShape.perf HSH.out HIN.out),by rw [HP2.out,HYE.out,HPU.out],below_nextN (below_nextN hbr HQ.out hwz) hb2 omA⟩
    case measure=>exact meA
  ·have hlt':decide (i<l.length)=false:=by simpa using hlt
   obtain rfl:i=l.length:=by omega
   have HFIN:Hid (rt.map pureT=replayE ts l):=qh (by have h:=HPU.out;rw [List.take_length] at h;exact h)
   go_wp2_with fail
   go_ret
   exact ⟨⟨RA,rc,rt,rfl,HRL.out,HRT.out,HUP.out,HSH.out,HFIN.out⟩,hxr⟩
theorem RTabsOk.iff {ts:List Tab} {rt:List RTab}:RTabsOk ts rt↔CatOk ts∧POk ts (rt.map pureT):=⟨fun h=>⟨h.cat,h.pure⟩,fun h=>h.2.back h.1⟩
theorem recsAt_pure (rt:List RTab) (k:Int):(recsAt rt k).map pureR=tabP (rt.map pureT) k:=by
 unfold recsAt tabP
 rw [List.getElem?_map]
 cases rt[k.toNat]? with
 | none=>rfl
 | some t=>rfl
theorem find_pure (rt:List RTab) (k:Int) (key:Val):findK (recsAt rt k) key=findP (tabP (rt.map pureT) k) key:=by rw [findK_pure,recsAt_pure]
theorem recsLen_pure (rt:List RTab) (k:Int):(recsAt rt k).length=(tabP (rt.map pureT) k).length:=by rw [← recsAt_pure,List.length_map]
theorem seqs_pure (rt:List RTab):seqsOf rt=(rt.map pureT).flatMap fun t=>t.flatMap fun r=>r.2.1:=by
 unfold seqsOf
 rw [List.flatMap_map]
 congr 1
 funext t
 unfold pureT
 rw [List.flatMap_map]
 rfl
theorem check_pure {ts:List Tab} {rt rt':List RTab} (h:rt.map pureT=rt'.map pureT) (x:Chg):checkE ts rt x=checkE ts rt' x:=by
 have e1:pb (RTabsOk ts rt)=pb (RTabsOk ts rt'):=by rw [propext RTabsOk.iff,propext (RTabsOk.iff (rt:=rt')),h]
 have e2:lastOfT rt=lastOfT rt':=by unfold lastOfT;rw [seqs_pure,seqs_pure,h]
 have e3 : ∀ c v,leadsB ts rt c v=leadsB ts rt' c v:=fun c v=>by unfold leadsB;rw [find_pure,find_pure,h]
 have e4:AllLead ts rt (colsAt ts x.table) x.row=AllLead ts rt' (colsAt ts x.table) x.row:=by unfold AllLead;simp only [e3]
 have e5:leadsAt ts rt (colsAt ts x.table) x.column x.val=leadsAt ts rt' (colsAt ts x.table) x.column x.val:=by
  unfold leadsAt
  split
  ·exact e3 _ _
  ·rfl
 unfold checkE stateE
 rw [e1,e2,find_pure,find_pure,recsLen_pure,recsLen_pure,e4,e5,h]
inductive Chain (ts:List Tab):List Chg→List (List PRec)→Prop
 | nil:Chain ts [] (List.replicate ts.length [])
 | snoc {l:List Chg} {pl:List (List PRec)} {x:Chg} {rt:List RTab} (h:Chain ts l pl) (hp:rt.map pureT=pl) (hc:checkE ts rt x = 0):Chain ts (l ++ [x]) (performE pl x)
theorem Chain.ok {ts:List Tab} {l:List Chg} {pl:List (List PRec)} (h:Chain ts l pl):POk ts pl:=by
 cases h with
 | nil=>exact POk.zero ts
 | snoc h hp hc=>rw [← hp];exact check_keeps hc
theorem Chain.replay {ts:List Tab} {l:List Chg} {pl:List (List PRec)} (h:Chain ts l pl):replayE ts l=pl:=by
 induction h with
 | nil=>rfl
 | snoc h hp hc ih =>
   have hf:=(checkE_zero hc).2
   unfold replayE at ih ⊢
   rw [List.foldl_append,ih]
   simp [hf]
theorem Chain.at_ {ts:List Tab} {l:List Chg} {pl:List (List PRec)} (h:Chain ts l pl) : ∀ i (hi:i<l.length),∃ rt:List RTab,rt.map pureT=replayE ts (l.take i)∧checkE ts rt l[i] = 0:=by
 induction h with
 | nil=>intro i hi;simp at hi
 | snoc h hp hc ih =>
   rename_i l0 pl0 x rt
   intro i hi
   rcases Nat.lt_or_ge i l0.length with h1|h1
   ·obtain ⟨r,h2,h3⟩:=ih i h1
    refine ⟨r,?_,?_⟩
    ·rw [h2,List.take_append_of_le_length omA]
    ·rw [List.getElem_append_left h1];exact h3
   ·have he:i=l0.length:=by simp at hi;omega
    subst he
    refine ⟨rt,?_,?_⟩
    ·rw [hp,List.take_left',h.replay];rfl
    ·simpa using hc
structure HistI (ts:List Tab) (i:Nat) (q d:Int) (l:List Chg) (pl:List (List PRec)):Prop where
 chain:Chain ts l pl
 psq : 0≤q∧q ≤ 3*i
 pdy : 0≤d∧d ≤ 2*i
 bd : ∀ x∈l,x.seq≤q∧x.day≤d
 ord:l.Pairwise (fun a b=>a.seq<b.seq∧a.day≤b.day)
def HistIs (ts:List Tab) (n:Nat) (l:List Chg):Prop:=(∃ pl,Chain ts l pl)∧(∀ x∈l,x.seq ≤ 6*n∧x.day ≤ 4*n)∧l.Pairwise (fun a b=>a.seq<b.seq∧a.day≤b.day)
theorem HistI.zero (ts:List Tab):HistI ts 0 0 0 [] ((List.replicate ts.length zeroT).map pureT):=by
 refine ⟨?_,⟨Int.le_refl _,by simp⟩,⟨Int.le_refl _,by simp⟩,fun x hx=>(by cases hx),List.Pairwise.nil⟩
 rw [List.map_replicate]
 exact Chain.nil
theorem HistI.skip {ts:List Tab} {i:Nat} {q d:Int} {l:List Chg} {pl:List (List PRec)} (h:HistI ts i q d l pl) {r s:Nat} (hr:r ≤ 2) (hs:s ≤ 2):HistI ts (i + 1) (q+(1+(r:Int))) (d+(s:Int)) l pl:=by
 have h1:=h.psq
 have h2:=h.pdy
 exact ⟨h.chain,⟨by omega,by omega⟩,⟨by omega,by omega⟩,fun x hx=>by have:=h.bd x hx;omega,h.ord⟩
theorem HistI.snoc {ts:List Tab} {i:Nat} {q d:Int} {l:List Chg} {rt:List RTab} {pl:List (List PRec)} (h:HistI ts i q d l (rt.map pureT)) {r s:Nat} (hr:r ≤ 2) (hs:s ≤ 2) {x:Chg} (hp:pl=performE (rt.map pureT) x) (hc:checkE ts rt x = 0) (hx:x.seq=q+(1+(r:Int))) (hy:x.day=d+(s:Int)):HistI ts (i + 1) (q+(1+(r:Int))) (d+(s:Int)) (l ++ [x]) pl:=by
 have h1:=h.psq
 have h2:=h.pdy
 subst hp
 refine ⟨h.chain.snoc rfl hc,⟨by omega,by omega⟩,⟨by omega,by omega⟩,fun y hy => ?_,List.pairwise_append.2 ⟨h.ord,List.pairwise_singleton _ _,fun a ha b hb => ?_⟩⟩
 ·rcases List.mem_append.1 hy with h3|h3
  ·have:=h.bd y h3;omega
  ·rw [List.mem_singleton.1 h3];omega
 ·have:=h.bd a ha
  rw [List.mem_singleton.1 hb]
  omega
theorem HistI.done {ts:List Tab} {i n:Nat} {q d:Int} {l:List Chg} {pl:List (List PRec)} (h:HistI ts i q d l pl) (hi:i ≤ 2*n):HistIs ts n l:=by
 have h1:=h.psq
 have h2:=h.pdy
 exact ⟨⟨pl,h.chain⟩,fun x hx=>by have:=h.bd x hx;omega,h.ord⟩
theorem tape_HistoryC (g b B n:Nat) (A:Option Addr) (c m:Nat) (ts:List Tab) (w:World) (hk:IsTape w g b) (hgB:g<B) (ht:TabsIn w w.heap.size A ts) (hu:TabsUp B A ts) (hm:ts.length=m) (hs:SaneCat ts) (hok:CatOk ts) (h0 : 0<ts.length) (hn:n ≤ 1000) :
 Calls Tryz.prog 10 #[.pointer (some ⟨g,0,none⟩), .agg #[.slice A m c, .slice none 0 0, .slice none 0 0, .slice none 0 0, .slice none 0 0, .slice none 0 0, .slice none 0 0, .slice none 0 0], .int .i64 n] w fun e w' =>
  ∃ A' c' l,e = .returned (.slice A' l.length c')∧l.length≤n∧OwnC w' w.heap.size A' c' l∧IsTape w' g b∧w.grownBy w' (some g)∧HistIs ts n l:=by
 subst hm
 have hgl:=hk.ltg
 have hbl:=hk.lt
 obtain ⟨ic,hic,hzc1,hzc2,hzc3⟩:=info_parts infoChg
 obtain ⟨n2,hn2⟩ : ∃ n2,2*n=n2:=⟨_,rfl⟩
 have hw2:IntKind.i64.wrap (2*(n:Int))=(n2:Int):=by rw [show 2*(n:Int)=(n2:Int) by omega];exact IntWalk.i64_in _ omA
 have hn2l:n2 ≤ 2000:=by omega
 have HN2:Hid (n2 = 2*n):=qh hn2.symm
 have HK:=qh hk
 have HT:=qh ht
 have HU:=qh (hu.mono (B':=g + 1) hgB)
 have HS:=qh hs
 have HOK:=qh hok
 clear hk ht hu hs hok hn2
 go_enter Tryz.func10,Tryz.ntmps10
 go_upto_region 1 with (fail)
 refine abs_world (P:=fun u=>Code.wp _ _ _ _ u) (R:=fun u=>Blk u w.heap.size 34 #[.slice A ts.length c, .slice none 0 0, .slice none 0 0, .slice none 0 0, .slice none 0 0, .slice none 0 0, .slice none 0 0, .slice none 0 0]∧Below w.heap.size w u) ⟨?_,?_⟩ ?_
 ·exact Blk.new _ _ _
 ·exact belA
 rintro W ⟨hC,hbW⟩
 have hzW:=hC.lt
 have hS0:GrowS W g b W:=⟨HK.out.below hbW,grown_start _ brf⟩
 have hbW':b<W.heap.size:=by omega
 have hgW':g<W.heap.size:=by omega
 have HC:=qh hC
 have HTW:=qh (HT.out.next hbW)
 obtain ⟨p0,p1,p2,p3,p4,p5,p6,p7⟩:=Cat.blk hC
 clear hC
 go_wp2_with fail
 (with_reducible refine (ref07_New A c ts.length ts _ HTW.out rfl HS.out HOK.out).mono ?_)
 rintro e w1 ⟨⟨q,rfl,hq,hrt⟩,hb1⟩
 have hS1:=hS0.below hb1
 have HRT1:=qh hrt
 clear hrt
 clear p0 p1 p2 p3 p4 p5 p6 p7
 go_wp2_with fail
 go_loopw [7,8,9,10,11] (fun v7 v8 v9 v10 v11 wr => ∃ (i:Nat) (RA:Option Addr) (rc:Nat) (rt:List RTab) (LA:Option Addr) (lc:Nat) (l:List Chg) (sq dy:Int),i≤n2∧v11 = .int .i64 i∧v9 = .int .i64 sq∧v10 = .int .i64 dy∧v7 = .slice RA ts.length rc∧rt.length=ts.length∧RTabsIn wr wr.heap.size RA rt∧RUp (g + 1) RA rt∧RShape ts rt∧v8 = .slice LA l.length lc∧OwnC wr W.heap.size LA lc l∧l.length≤n∧GrowS W g b wr∧HistI ts i sq dy l (rt.map pureT)) (fun _ _ _ _ v11 _=>n2 - (intOf v11).toNat)
 case atStart=>exact ⟨0,_,_,_,none,0,[],0,0,Nat.zero_le _,rfl,rfl,rfl,rfl,by simp,HRT1.out,zero_up omA _,zero_shape ts,rfl,⟨Owns.nil,fun x hx=>by simp at hx,fun x hx=>by simp at hx⟩,Nat.zero_le _,hS1,HistI.zero ts⟩
 case round =>
  clear hS1 HRT1 hb1 hq
  obtain ⟨i,RA,rc,rt,LA,lc,l,sq,dy,hi,rfl,rfl,rfl,rfl,hrl,hrt,hru,hsh,rfl,hoc,hln,hSr,hhi⟩:=hrel
  have HHI:=qh hhi
  have hsq0:=hhi.psq
  have hdy0:=hhi.pdy
  clear hhi
  have HRL:=qh hrl
  have HRT:=qh hrt
  have HRU:=qh hru
  have HSH:=qh hsh
  have HOC:=qh hoc
  have HSR:=qh hSr
  have hzr:=hSr.size
  have hgw:w.grownBy W (some g):=grown_start _ hbW
  clear hrl hrt hru hsh hoc
  by_cases h1:i<n2
  rotate_left
  ·have h1':decide (i<n2)=false:=by simpa using h1
   have h1i:decide ((i:Int)<(n2:Int))=false:=by simp;omega
   go_wp2_with fail
   go_ret
   exact ⟨LA,lc,l,rfl,hln,⟨HOC.out.own.mono omA,fun x hx=>(HOC.out.rows x hx).mono omA,HOC.out.len⟩,HSR.out.tape,grown_trans hgw HSR.out.grown,HHI.out.done (by have:=HN2.out;omega)⟩
  have h1':decide (i<n2)=true:=by simpa using h1
  have h1i:decide ((i:Int)<(n2:Int))=true:=by simp;omega
  by_cases h2:l.length<n
  rotate_left
  ·have h2':decide (l.length<n)=false:=by simpa using h2
   have h2i:decide ((l.length:Int)<(n:Int))=false:=by simp;omega
   go_wp2_with fail
   go_ret
   exact ⟨LA,lc,l,rfl,hln,⟨HOC.out.own.mono omA,fun x hx=>(HOC.out.rows x hx).mono omA,HOC.out.len⟩,HSR.out.tape,grown_trans hgw HSR.out.grown,HHI.out.done (by have:=HN2.out;omega)⟩
  have h2':decide (l.length<n)=true:=by simpa using h2
  have h2i:decide ((l.length:Int)<(n:Int))=true:=by simp;omega
  go_wp2_with fail
  (with_reducible refine (tape_Next g b 3 _ HSR.out.tape omA omA).mono ?_)
  rintro e u1 ⟨r1,rfl,hr1,hk1,hg1⟩
  have HS1:=qh (HSR.out.call hk1 hg1)
  have hr1':r1 ≤ 2:=by rcases hr1 with h|h <;> omega
  have hws1:IntKind.i64.wrap (1+(r1:Int)) = 1+(r1:Int):=IntWalk.i64_in _ omA
  have hws2:IntKind.i64.wrap (sq+(1+(r1:Int)))=sq+(1+(r1:Int)):=IntWalk.i64_in _ omA
  go_wp2_with fail
  (with_reducible refine (tape_Next g b 3 _ HS1.out.tape omA omA).mono ?_)
  rintro e u2 ⟨r2,rfl,hr2,hk2,hg2⟩
  have HS2:=qh (HS1.out.call hk2 hg2)
  have hr2':r2 ≤ 2:=by rcases hr2 with h|h <;> omega
  have hws3:IntKind.i64.wrap (dy+(r2:Int))=dy+(r2:Int):=IntWalk.i64_in _ omA
  have HG12:Hid (wr.grownBy u2 (some g)):=qh (grown_trans hg1 hg2)
  clear hk1 hk2 hg1 hg2
  have hC2:=HS2.out.blk HC.out omA
  obtain ⟨p0,p1,p2,p3,p4,p5,p6,p7⟩:=Cat.blk hC2
  clear hC2
  go_wp2_with fail
  (with_reducible refine (tape_Change g b (g + 1) A c ts.length ts RA rc ts.length rt _ _ _ HS2.out.tape (Nat.lt_succ_self g) (HT.out.grown HU.out (Nat.lt_succ_self g) (grown_trans hgw HS2.out.grown)) HU.out rfl HS.out HOK.out h0 (HRT.out.grown HRU.out (Nat.lt_succ_self g) HG12.out) HRU.out HRL.out HSH.out).mono ?_)
  intro e w3 hch
  obtain ⟨⟨kd,sq2,dy2,tb,A0,cp,row,key,cl,vl⟩,he,hsq1,hdy1,hrl8,hrow,hk3,hg3⟩:=hch
  have HSQ1:=qh hsq1
  have HDY1:=qh hdy1
  clear hsq1 hdy1
  rw [show (Chg.cells ⟨kd,sq2,dy2,tb,A0,cp,row,key,cl,vl⟩).toArray = #[.int .i64 kd, .int .i64 sq2, .int .i64 dy2, .int .i64 tb, .slice A0 row.length cp, .int .i64 key.kind, .int .i64 key.num, .string key.text, .int .i64 cl, .int .i64 vl.kind, .int .i64 vl.num, .string vl.text] from rfl] at he
  subst he
  simp only at hrl8 hrow
  have hS3:=HS2.out.call hk3 hg3
  have hzu2:=HS2.out.size
  have HG3:Hid (wr.grownBy w3 (some g)):=qh (grown_trans HG12.out hg3)
  have HROW:=qh (hrow.mono (b':=W.heap.size) hzu2)
  have HS3:=qh hS3
  have hz3:=hS3.size
  clear p0 p1 p2 p3 p4 p5 p6 p7
  clear hk3 hg3 hrow hS3
  go_upto_region 10 with (fail)
  refine abs_world (P:=fun u=>Code.wp _ _ _ _ u) (R:=fun u=>Blk u w3.heap.size 53 #[.int .i64 kd, .int .i64 sq2, .int .i64 dy2, .int .i64 tb, .slice A0 row.length cp, .int .i64 key.kind, .int .i64 key.num, .string key.text, .int .i64 cl, .int .i64 vl.kind, .int .i64 vl.num, .string vl.text]∧Below w3.heap.size w3 u) ⟨?_,?_⟩ ?_
  ·exact Blk.new' rfl
  ·exact belA
  rintro w4 ⟨hX4,hb4⟩
  have hX4l:=hX4.lt
  have hz4:=hb4.size
  have HX4:=qh hX4
  have HS4:=qh (HS3.out.below hb4)
  have hC4:=HS4.out.blk HC.out omA
  obtain ⟨p0,p1,p2,p3,p4,p5,p6,p7⟩:=Cat.blk hC4
  obtain ⟨⟨q0,q1,q2,q3⟩,q4,⟨q5,q6,q7⟩,q8,q9,q10,q11⟩:=Chg.blkE (x:=⟨kd,sq2,dy2,tb,A0,cp,row,key,cl,vl⟩) hX4
  simp only at q0 q1 q2 q3 q4 q5 q6 q7 q8 q9 q10 q11
  have HOC4:=qh ((HOC.out.kept HG3.out hgW').below hb4)
  have HROW4:=qh (HROW.out.below hb4 nlr)
  have HRT4:Hid (RTabsIn w4 w4.heap.size RA rt):=qh ((HRT.out.grown HRU.out (Nat.lt_succ_self g) HG3.out).next hb4)
  obtain ⟨z,hz⟩ : ∃ z,checkE ts rt ⟨kd,sq2,dy2,tb,A0,cp,row,key,cl,vl⟩=z:=⟨_,rfl⟩
  have HZ:=qh hz
  clear hC4 hX4 hz
  go_wp2_with fail
  (with_reducible refine (ref07_Apply A c ts.length ts RA rc ts.length rt kd sq2 dy2 tb A0 cp row key cl vl _ (HT.out.grown HU.out (Nat.lt_succ_self g) (grown_trans hgw HS4.out.grown)) rfl HS.out HRT4.out HRL.out (HSH.out.sane HOK.out) (own_read val_len HROW4.out) omA HZ.out).mono ?_)
  rintro e w5 ⟨⟨A2,c2,m2,rt2,rfl,hzz⟩,hb5⟩
  have hz5:=hb5.size
  have HS5:=qh (HS4.out.below hb5)
  have HOC5:=qh (HOC4.out.below hb5)
  have HROW5:=qh (HROW4.out.below hb5 nlr)
  have hX5:=HX4.out.below hb5 hX4l
  have HZZ:=qh hzz
  clear p0 p1 p2 p3 p4 p5 p6 p7
  clear q0 q1 q2 q3 q4 q5 q6 q7 q8 q9 q10 q11 hzz
  by_cases hz0:z = 0
  ·have hz0':(z == 0)=true:=by rw [hz0];rfl
   obtain ⟨rfl,hrl2,hrt2,hru2,hsh2,hpu2⟩:=HZZ.out hz0
   have HHN:=qh (HHI.out.snoc (r:=r1) (s:=r2) hr1' hr2' hpu2 (by rw [HZ.out];exact hz0) HSQ1.out HDY1.out)
   clear hpu2
   have HRL2:=qh hrl2
   have HRT2:=qh hrt2
   have HRU2:=qh hru2
   have HSH2:=qh hsh2
   have HX5:=qh hX5
   obtain ⟨⟨q0,q1,q2,q3⟩,q4,⟨q5,q6,q7⟩,q8,q9,q10,q11⟩:=Chg.blkE (x:=⟨kd,sq2,dy2,tb,A0,cp,row,key,cl,vl⟩) hX5
   simp only at q0 q1 q2 q3 q4 q5 q6 q7 q8 q9 q10 q11
   clear hrl2 hrt2 hru2 hsh2 hX5 hz0 HZZ
   go_wp2_with (at_builtin;go_must (refine wpList_append_list _ rfl (.tmp 54) (.tmp 56) 36 rfl 53 ic _ Chg.cells 12 128 Tryz.underlying36 hic hzc1 hzc2 hzc3 rfl omA chg_len chg_one W.heap.size (.slice LA l.length lc) l rfl (HOC5.out.own.alloc _) _ _ _ [(⟨kd,sq2,dy2,tb,A0,cp,row,key,cl,vl⟩:Chg)] rfl rfl (Blk.one (enc:=Chg.cells) (x:=⟨kd,sq2,dy2,tb,A0,cp,row,key,cl,vl⟩) (Blk.new' rfl) spA) smA mxA smA ?_);intro v2 w6 hown6 hg6 hat6;obtain ⟨LA6,lc6,hv6,_,_⟩:=hown6.form;subst hv6;have HOC6:=qh ((HOC5.out.below (brf.alloc nlr _)).app hg6 hown6 (HROW5.out.alloc _) hrl8);have HS6:=qh ((HS5.out.below (brf.alloc nlr _)).app hg6 HOC5.out.own.row hbW' hgW');have HRT6:Hid (RTabsIn w6 w6.heap.size A2 rt2):=qh ((HRT2.out.next (brf.alloc nlr _)).grownO HRU2.out (fun q hq=>HOC4.out.own.lt q hq) hg6);clear hown6)
   go_roundw
   case rel=>exact ⟨i + 1,A2,c2,rt2,LA6,lc6,l ++ [⟨kd,sq2,dy2,tb,A0,cp,row,key,cl,vl⟩],_,_,by omega,by go_num,rfl,rfl,rfl,HRL2.out,HRT6.out,HRU2.out.mono omA,HSH2.out,by simp,HOC6.out,by simp;omega,HS6.out,HHN.out⟩
   case measure=>exact meA
  ·have hz0':(z == 0)=false:=by simpa using hz0
   have HRT5:=qh (HRT4.out.next hb5)
   clear hz0 hX5 HZZ
   go_wp2_with fail
   go_roundw
   case rel=>exact ⟨i + 1,RA,rc,rt,LA,lc,l,_,_,by omega,by go_num,rfl,rfl,rfl,HRL.out,HRT5.out,HRU.out,HSH.out,rfl,HOC5.out,hln,HS5.out,HHI.out.skip hr1' hr2'⟩
   case measure=>exact meA
end Go.Proofs.YtkiglflbngfelaaGreat
