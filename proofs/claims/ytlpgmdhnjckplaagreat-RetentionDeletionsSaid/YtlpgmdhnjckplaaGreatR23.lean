/-
  Contracts and plain laws of this seat, part 23: Has15, Files, RetAw.
-/
import Derived.Test.YtlpgmdhnjckplaaGreatR22
import Derived.Test.YtlpgmdhnjckplaaGreatR1
import Derived.Test.YtlpgmdhnjckplaaGreatR2
import Derived.Deep.RegionHeld3
set_option linter.unusedVariables false
set_option linter.unusedSimpArgs false
set_option maxRecDepth 100000
set_option maxHeartbeats 16000000
namespace Go.Proofs.YtlpgmdhnjckplaaGreat
open Go.RowKit Go
theorem ref15_Has (A:Option Addr) (c n:Nat) (l:List Src) (s:Src) (w:World) (hl:SliceIs w w.heap.size Src.cells 2 A l) (hln:l.length=n) (hn:n ≤ 1000000) {r:Bool} (hr:decide (s∈l)=r) :
 Calls Tryz.prog 30 #[.slice A n c, .agg #[.int .i64 s.tab, .int .i64 s.seq]] w fun e w'=>e = .returned (.bool r)∧Below w.heap.size w w':=by
 subst hln hr
 have HL:=qh hl
 clear hl
 go_enter Tryz.func30,Tryz.ntmps30
 go_upto_region 2 with (fail)
 refine abs_world (P:=fun u=>Code.wp _ _ _ _ u) (R:=fun u=>Blk u w.heap.size 68 #[.int .i64 s.tab, .int .i64 s.seq]∧Below w.heap.size w u) ⟨?_,?_⟩ ?_
 ·exact Blk.new _ _ _
 ·exact belA
 rintro W ⟨hB,hbW⟩
 have hzW:=hB.lt
 have HB:=qh hB
 clear hB
 go_loopw [5] (fun vi wr => ∃ i:Nat,i≤l.length∧vi = .int .i64 i∧Below W.heap.size W wr∧(∀ j (h:j<l.length),j<i→l[j]≠s)) (fun vi _=>l.length - (intOf vi).toNat)
 case atStart=>exact ⟨0,Nat.zero_le _,rfl,Below.refl _ _,fun j _ h=>by omega⟩
 case round =>
  obtain ⟨i,hi,rfl,hbr,hno⟩:=hrel
  have HNO:=qh hno
  have hwz:=hbr.size
  have hxr:=below_nextN hbW hbr hbW.size
  have hxz:=hxr.size
  clear hno
  by_cases hlt:i<l.length
  ·obtain ⟨b5,o5,rfl,hb5,hc5⟩:=(HL.out.below hxr).get hlt
   have x0:=hc5 0 _ rfl
   have x1:=hc5 1 _ rfl
   simp only [Nat.add_zero] at x0 x1
   have hB:=HB.out.below hbr hzW
   have p0:=hB.cell 0
   have p1:=hB.cell 1
   simp only [List.getElem?_toArray,List.getElem?_cons_zero,List.getElem?_cons_succ] at p0 p1
   have hk0:=keepQ (w:=wr) w.heap.size omA
   have hk1:=keepQ (w:=wr) b5 omA
   obtain ⟨y,hy⟩ : ∃ y,l[i]=y:=⟨_,rfl⟩
   rw [hy] at x0 x1
   have HY:=qh hy
   clear hc5 hB hy
   cases he:decide (y=s)
   ·have heq:=eqlSrc_of he
    have HNE:Hid (l[i]≠s):=qh (by rw [HY.out];simpa using he)
    clear he
    go_upto_region 4 with (fail)
    refine wp_region_bel krA krA ?_;(repeat (go_big_quiet_step (fail)));refine wpQuiet_nil ?_;intro wq hq
    clear hk0 hk1 x0 x1 p0 p1
    go_wp2_with fail
    go_roundw
    case rel=>exact ⟨i + 1,by omega,by go_num,below_nextN hbr hq hwz,fun j h hj=>by
     rcases Nat.lt_or_ge j i with h1|h1
     ·exact HNO.out j h h1
     ·obtain rfl:j=i:=by omega
      exact HNE.out⟩
    case measure=>simp [intOf];omega
   ·have heq:=eqlSrc_of he
    have HIN:Hid (s∈l):=qh (by have h:y=s:=(by simpa using he);rw [← h,← HY.out];exact List.getElem_mem hlt)
    clear he
    go_upto_region 4 with (fail)
    refine wp_region_bel krA krA ?_;(repeat (go_big_quiet_step (fail)));refine wpQuiet_nil ?_;intro wq hq
    go_wp2_with fail
    go_ret
    exact ⟨ret_bool (decide_eq_true HIN.out).symm,below_nextN hxr hq hxr.size⟩
  ·have hlt':decide (i<l.length)=false:=by simpa using hlt
   go_wp2_with fail
   go_ret
   exact ⟨ret_bool (decide_eq_false (fun h=>by obtain ⟨j,hj,he⟩:=List.getElem_of_mem h;exact HNO.out j hj omA he)).symm,hxr⟩
open Go.RowKit Go
def colF0:Col:=⟨⟨#[105,100]⟩,1,⟨#[112,101,114,115,111,110]⟩,⟨#[]⟩,none,0,[],0,0⟩
def colF1 (b:Nat):Col:=⟨⟨#[118]⟩,2,⟨#[]⟩,⟨#[]⟩,some ⟨b,0,none⟩,1,[0],0,20⟩
def tabF (b q:Nat):Tab:=⟨⟨#[102]⟩,some ⟨q,0,none⟩,2,[colF0,colF1 b],0,30⟩
theorem colF0_ok (ts:List Tab) (b q:Nat):colErr ts [colF0,colF1 b] 0 30 0 0 colF0 = 0:=by
 have h1:cE1 colF0=false:=by decide +kernel
 have h2:cE2 [colF0,colF1 b] 0 colF0=false:=pb_false (fun ⟨k,h,hk,_⟩=>by omega)
 have hr:(!colF0.refs.toList.isEmpty)=false:=by decide +kernel
 have h3 : ∀ tg,cE3 colF0 tg=false:=fun tg=>by rw [cE3,hr];rfl
 have h4 : ∀ tg,cE4 ts colF0 tg=false:=fun tg=>by rw [cE4,hr,Bool.and_false,Bool.false_and,Bool.or_false];rfl
 have h5:cE5 [colF0,colF1 b] colF0=false:=by
  have:pb (OwnersOk [colF0,colF1 b] colF0.own)=true:=pb_true (fun i h=>by simp [colF0] at h)
  rw [cE5,hr,this]
  simp [colF0,colF1,withinB]
 have h6:cE6 0 30 0 colF0=false:=by rfl
 have h7 : ∀ tg,cE7 ts 0 colF0 tg=false:=fun tg=>by rw [cE7,hr];rfl
 unfold colErr
 simp only [h1,h2,h3,h4,h5,h6,h7]
 rfl
theorem colF1_ok (ts:List Tab) (b q:Nat):colErr ts [colF0,colF1 b] 0 30 0 1 (colF1 b) = 0:=by
 have h1:cE1 (colF1 b)=false:=by
  have e1:nameB (colF1 b).name=true:=by show nameB ⟨#[118]⟩=true;decide +kernel
  have e2:(!(colF1 b).ns.toList.isEmpty)=false:=by show (!(⟨#[]⟩:ByteArray).toList.isEmpty)=false;decide +kernel
  rw [cE1,e1,e2]
  rfl
 have h2:cE2 [colF0,colF1 b] 1 (colF1 b)=false:=pb_false (fun ⟨k,h,hk,he⟩=>by
  obtain rfl:k = 0:=by omega
  have he:(⟨#[105,100]⟩:ByteArray)=⟨#[118]⟩:=he
  exact absurd he (by decide +kernel))
 have hr:(!(colF1 b).refs.toList.isEmpty)=false:=by show (!(⟨#[]⟩:ByteArray).toList.isEmpty)=false;decide +kernel
 have hn:(!(colF1 b).ns.toList.isEmpty)=false:=hr
 have h3 : ∀ tg,cE3 (colF1 b) tg=false:=fun tg=>by rw [cE3,hr];rfl
 have h4 : ∀ tg,cE4 ts (colF1 b) tg=false:=fun tg=>by rw [cE4,hr,Bool.and_false,Bool.false_and,Bool.or_false];rfl
 have h5:cE5 [colF0,colF1 b] (colF1 b)=false:=by
  have:pb (OwnersOk [colF0,colF1 b] (colF1 b).own)=true:=pb_true (fun i h=>by
   have h':i < 1:=h
   obtain rfl:i = 0:=by omega
   refine ⟨show (0:Int) ≤ 0 by omega,show (0:Int).toNat < 2 by decide,fun h0=>absurd h0 omA,?_⟩
   rintro ⟨e,_⟩
   have e:(⟨#[112,101,114,115,111,110]⟩:ByteArray)=⟨#[]⟩:=e
   exact absurd e (by decide +kernel))
  rw [cE5,hr,this]
  simp [colF0,colF1,withinB]
 have h6:cE6 0 30 1 (colF1 b)=false:=by rfl
 have h7 : ∀ tg,cE7 ts 1 (colF1 b) tg=false:=fun tg=>by rw [cE7,hr];rfl
 unfold colErr
 simp only [h1,h2,h3,h4,h5,h6,h7]
 rfl
theorem catF_ok (b q:Nat):CatOk [tabF b q]:=by
 refine ⟨by simp,fun i h => ?_⟩
 have h':i < 1:=by simpa using h
 obtain rfl:i = 0:=by omega
 refine ⟨?_,fun k hk=>by omega,?_⟩
 ·show nameB ⟨#[102]⟩=true
  decide +kernel
 ·show tabErr [tabF b q] 0 (tabF b q) = 0
  have hs:shapeB (tabF b q)=true:=rfl
  rw [tabErr,if_pos hs]
  refine firstErr_none fun i hi => ?_
  have hi':i < 2:=hi
  rcases (show i = 0∨i = 1 by omega) with rfl|rfl
  ·exact colF0_ok _ b q
  ·exact colF1_ok _ b q
theorem catF_sane (b q:Nat):SaneCat [tabF b q]:=by
 refine ⟨by simp,fun t ht => ?_⟩
 rw [List.mem_singleton.1 ht]
 refine ⟨show 1 ≤ 1000000 by omega,show 2 ≤ 1000000 by omega,Nat.le_refl 2,fun x hx => ?_⟩
 have hx:x=colF0∨x=colF1 b:=by simpa [tabF] using hx
 rcases hx with rfl|rfl
 ·exact ⟨show 2 ≤ 1000000 by omega,show 6 ≤ 1000000 by omega,show 0 ≤ 1000000 by omega,show 0 ≤ 1000000 by omega⟩
 ·exact ⟨show 1 ≤ 1000000 by omega,show 0 ≤ 1000000 by omega,show 0 ≤ 1000000 by omega,show 1 ≤ 1000000 by omega⟩
theorem law18_files (w:World):Calls Tryz.prog 67 #[] w fun e w' =>
 (∃ A b q,e = .returned (.agg #[.slice A 1 1, .slice none 0 0, .slice none 0 0, .slice none 0 0, .slice none 0 0, .slice none 0 0, .slice none 0 0, .slice none 0 0])∧TabsIn w' w'.heap.size A [tabF b q])∧Below w.heap.size w w':=by
 go_enter Tryz.func67,Tryz.ntmps67
 go_wp2_with fail
 refine abs_world (P:=fun u=>bodyPost _ _ _ _ _ u) (R:=fun u=>Blk u w.heap.size 34 #[.slice (some ⟨w.heap.size + 1 + 1 + 1,0,none⟩) 1 1, .slice none 0 0, .slice none 0 0, .slice none 0 0, .slice none 0 0, .slice none 0 0, .slice none 0 0, .slice none 0 0]∧Blk u (w.heap.size + 1) 3 ([(0:Int)].flatMap intCells).toArray∧Blk u (w.heap.size + 1 + 1) 80 ([colF0,colF1 (w.heap.size + 1)].flatMap Col.cells).toArray∧Blk u (w.heap.size + 1 + 1 + 1) 78 ([tabF (w.heap.size + 1) (w.heap.size + 1 + 1)].flatMap Tab.cells).toArray∧Below w.heap.size w u) ⟨?_,?_,?_,?_,?_⟩ ?_
 ·exact (((Blk.new _ _ _).alloc _).alloc _).alloc _
 ·exact (((Blk.new' spA).eq rfl).alloc _).alloc _
 ·exact ((Blk.new' spA).eq rfl).alloc _
 ·exact (Blk.new' spA).eq rfl
 ·exact belA
 rintro W ⟨hR,hI,hC,hT,hbW⟩
 obtain ⟨p0,p1,p2,p3,p4,p5,p6,p7⟩:=Cat.blk hR
 refine bodyPost_ret (v := .agg #[.slice (some ⟨w.heap.size + 1 + 1 + 1,0,none⟩) 1 1, .slice none 0 0, .slice none 0 0, .slice none 0 0, .slice none 0 0, .slice none 0 0, .slice none 0 0, .slice none 0 0]) (by simp [results,Tryz.results67,go_sem,p0,p1,p2,p3,p4,p5,p6,p7]) rfl ⟨⟨_,w.heap.size + 1,w.heap.size + 1 + 1,rfl,?_,?_⟩,hbW⟩
 ·exact Blk.all tab_len hT hT.lt
 ·intro t ht
  rw [List.mem_singleton.1 ht]
  refine ⟨Blk.all col_len hC hC.lt,fun x hx => ?_⟩
  have hx:x=colF0∨x=colF1 (w.heap.size + 1):=by simpa [tabF] using hx
  rcases hx with rfl|rfl
  ·exact SliceIs.nil
  ·exact Blk.all int_len hI hI.lt
open Go.RowKit Go
def recF (RA SA:Option Addr):Rcd:=⟨RA,2,[⟨1,1,⟨#[]⟩⟩,⟨0,0,⟨#[]⟩⟩],SA,2,[2,7],3⟩
def rtF (TA RA SA:Option Addr):List RTab := [⟨TA,1,[recF RA SA]⟩]
def oF:Owned:=⟨0,1,7,2,32,none,0,[],false,true⟩
theorem rtF_ok (b q:Nat) (TA RA SA:Option Addr):RTabsOk [tabF b q] (rtF TA RA SA):=by
 refine ⟨catF_ok b q,rfl,fun i h h' => ?_⟩
 have h1:i < 1:=h
 obtain rfl:i = 0:=by omega
 refine ⟨show 1 ≤ 64 by omega,fun k hk => ?_⟩
 have h2:k < 1:=hk
 obtain rfl:k = 0:=by omega
 refine ⟨⟨rfl,rfl,rfl,fun i hi => ?_,fun _=>show (1:Int) ≠ 0 by decide⟩,fun h0=>by omega,fun j hj=>by omega⟩
 have h3:i < 2:=hi
 rcases (show i = 0∨i = 1 by omega) with rfl|rfl
 ·exact ⟨fun _=>show valB ⟨1,1,⟨#[]⟩⟩=true by decide +kernel,fun _ _=>rfl,fun _=>rfl,fun _ _=>show (2:Int) ≤ 2 by decide⟩
 ·exact ⟨fun _=>show valB ⟨0,0,⟨#[]⟩⟩=true by decide +kernel,fun _ _=>rfl,fun _=>rfl,fun _ _=>show (2:Int) ≤ 7 by decide⟩
theorem rtF_sane (TA RA SA:Option Addr):SaneR (rtF TA RA SA):=by
 refine ⟨show 1 ≤ 1000000 by omega,fun t ht => ?_,fun t ht r hr => ?_,fun t ht r hr => ?_⟩
 all_goals
  rw [List.mem_singleton.1 ht] at *
 ·exact show 1 ≤ 1000000 by omega
 ·rw [List.mem_singleton.1 hr];exact show 2 ≤ 1000000 by omega
 ·rw [List.mem_singleton.1 hr];exact show 2 ≤ 1000000 by omega
theorem exp_f1 (b q:Nat) (TA RA SA:Option Addr):expOf [tabF b q] (rtF TA RA SA) [] 32 = []:=by
 unfold expOf
 rw [pb_true (rtF_ok b q TA RA SA),if_pos rfl]
 rfl
theorem exp_f2 (b q:Nat) (TA RA SA:Option Addr):expOf [tabF b q] (rtF TA RA SA) [] 33 = [⟨0,2⟩]:=by
 unfold expOf
 rw [pb_true (rtF_ok b q TA RA SA),if_pos rfl]
 rfl
theorem exp_f3 (b q:Nat) (TA RA SA:Option Addr):expOf [tabF b q] (rtF TA RA SA) [oF] 51 = []:=by
 unfold expOf
 rw [pb_true (rtF_ok b q TA RA SA),if_pos rfl]
 rfl
theorem exp_f4 (b q:Nat) (TA RA SA:Option Addr):expOf [tabF b q] (rtF TA RA SA) [oF] 52 = [⟨0,2⟩]:=by
 unfold expOf
 rw [pb_true (rtF_ok b q TA RA SA),if_pos rfl]
 rfl
theorem kept_f1 (b q:Nat):keepsB (endE [tabF b q] oF) 51=true:=by rfl
theorem kept_f2 (b q:Nat):keepsB (endE [tabF b q] oF) 52=false:=by rfl
theorem kept_fo (A:Option Addr) (b q:Nat) (day:Int) (w:World) (ht:TabsIn w w.heap.size A [tabF b q]) {r:Bool} (hr:keepsB (endE [tabF b q] oF) day=r) :
 Calls Tryz.prog 23 #[.agg #[.slice A 1 1, .slice none 0 0, .slice none 0 0, .slice none 0 0, .slice none 0 0, .slice none 0 0, .slice none 0 0, .slice none 0 0], .agg #[.int .i64 0, .int .i64 1, .int .i64 7, .int .i64 2, .int .i64 32, .slice none 0 0, .bool false, .bool true], .int .i64 day] w fun e w'=>e = .returned (.bool r)∧Below w.heap.size w w' :=
 ret_Kept A 1 1 [tabF b q] oF day w ht rfl (catF_sane b q) (catF_ok b q) hr
theorem law18_awake (w:World):Calls Tryz.prog 25 #[] w fun e w'=>e = .returned (.bool true)∧Below w.heap.size w w':=by
 go_enter Tryz.func25,Tryz.ntmps25
 go_upto_region 5 with (go_at_call 66;(refine (int_any 1 _ omA).mono ?_);rintro e w1 ⟨rfl,hb1⟩)
 have hwz:w.heap.size≤w1.heap.size:=hb1.1.size
 refine abs_world (P:=fun u=>Code.wp _ _ _ _ u) (R:=fun u=>Blk u (w1.heap.size + 1) 88 ([(⟨1,1,⟨#[]⟩⟩:Val),⟨0,0,⟨#[]⟩⟩].flatMap Val.cells).toArray∧Blk u (w1.heap.size + 1 + 1) 3 ([(2:Int),7].flatMap intCells).toArray∧Blk u (w1.heap.size + 1 + 1 + 1) 148 ([recF (some ⟨w1.heap.size + 1,0,none⟩) (some ⟨w1.heap.size + 1 + 1,0,none⟩)].flatMap Rcd.cells).toArray∧Blk u (w1.heap.size + 1 + 1 + 1 + 1) 149 ((rtF (some ⟨w1.heap.size + 1 + 1 + 1,0,none⟩) (some ⟨w1.heap.size + 1,0,none⟩) (some ⟨w1.heap.size + 1 + 1,0,none⟩)).flatMap RTab.cells).toArray∧Blk u (w1.heap.size + 1 + 1 + 1 + 1 + 1) 55 oF.cells.toArray∧Blk u (w1.heap.size + 1 + 1 + 1 + 1 + 1 + 1) 55 ([oF].flatMap Owned.cells).toArray∧Below w.heap.size w u) ⟨?_,?_,?_,?_,?_,?_,?_⟩ ?_
 ·exact ((((((Blk.new' spA).eq rfl).alloc _).alloc _).alloc _).alloc _).alloc _
 ·exact (((((Blk.new' spA).eq rfl).alloc _).alloc _).alloc _).alloc _
 ·exact ((((Blk.new' spA).eq rfl).alloc _).alloc _).alloc _
 ·exact (((Blk.new' spA).eq rfl).alloc _).alloc _
 ·exact ((Blk.new' spA).eq rfl).alloc _
 ·exact (Blk.new' spA).eq rfl
 ·have h1:Below w.heap.size w w1:=hb1.1
  exact belA
 generalize w1.heap.size=z at *
 rintro W ⟨hV,hI,hR,hT,hO,hL,hbW⟩
 have hobz:=hO.lt
 have HOB:=qh hO
 have hrt:RTabsIn W W.heap.size (some ⟨z + 1 + 1 + 1 + 1,0,none⟩) (rtF (some ⟨z + 1 + 1 + 1,0,none⟩) (some ⟨z + 1,0,none⟩) (some ⟨z + 1 + 1,0,none⟩)):=by
  refine ⟨Blk.all rtab_len hT hT.lt,fun t ht => ?_⟩
  rw [List.mem_singleton.1 ht]
  refine ⟨Blk.all rcd_len hR hR.lt,fun r hr => ?_⟩
  rw [List.mem_singleton.1 hr]
  exact ⟨Blk.all val_len hV hV.lt,Blk.all int_len hI hI.lt⟩
 have HRT:=qh hrt
 have HLT:Hid (SliceIs W W.heap.size Owned.cells 8 (some ⟨z + 1 + 1 + 1 + 1 + 1 + 1,0,none⟩) [oF]):=qh (Blk.all owned_len hL hL.lt)
 have hob:=Owned.blk hO
 have hy0:Below W.heap.size W W.drew:=(Below.refl _ _).drew
 clear hV hI hR hT hO hL hrt
 refine wp_region_held_drew (S:=fun u=>u.cell? ⟨z + 1 + 1 + 1 + 1 + 1,0,none⟩=some (.int .i64 0)∧u.cell? ⟨z + 1 + 1 + 1 + 1 + 1,1,none⟩=some (.int .i64 1)∧u.cell? ⟨z + 1 + 1 + 1 + 1 + 1,2,none⟩=some (.int .i64 7)∧u.cell? ⟨z + 1 + 1 + 1 + 1 + 1,3,none⟩=some (.int .i64 2)∧u.cell? ⟨z + 1 + 1 + 1 + 1 + 1,4,none⟩=some (.int .i64 32)∧u.cell? ⟨z + 1 + 1 + 1 + 1 + 1,5,none⟩=some (.slice none 0 0)∧u.cell? ⟨z + 1 + 1 + 1 + 1 + 1,6,none⟩=some (.bool false)∧u.cell? ⟨z + 1 + 1 + 1 + 1 + 1,7,none⟩=some (.bool true)) krA hob (fun hHeld => ?_)
 refine tkH 1 hHeld ?_
 refine wpAnyH_ready (rs := [0]) krA spA ?_
 refine AllReadyH.cons rfl (fun K hK => ?_) AllReadyH.nil
 go_simp
 (go_at_call 67;(with_reducible refine (law18_files _).mono ?_))
 rintro e w1 ⟨⟨A1,fb1,fq1,rfl,ht1⟩,hb1⟩
 have hy1:Below W.heap.size W w1:=below_nextN hy0 hb1 hy0.size
 have HT1:=qh ht1
 clear ht1 hb1
 go_wp2_with fail
 refine hK.out _ _ (Owned.blk (HOB.out.below hy1 hobz)) (fun hHeld => ?_)
 clear hK K
 (try simp only [Act.put,List.getElem_toArray,List.getElem_cons_zero,List.getElem_cons_succ,List.setIfInBounds_toArray,List.set_cons_zero,List.set_cons_succ])
 refine wpAnyH_ready (rs := [2]) krA spA ?_
 refine AllReadyH.cons rfl (fun K hK => ?_) AllReadyH.nil
 go_simp
 (go_at_call 23;(with_reducible refine (kept_fo A1 fb1 fq1 51 _ HT1.out (kept_f1 _ _)).mono ?_))
 rintro e w2 ⟨rfl,hb2⟩
 have hy2:Below W.heap.size W w2:=below_nextN hy1 hb2 hy1.size
 clear hb2
 go_wp2_with fail
 refine hK.out _ _ (Owned.blk (HOB.out.below hy2 hobz)) (fun hHeld => ?_)
 clear hK K
 (try simp only [Act.put,List.getElem_toArray,List.getElem_cons_zero,List.getElem_cons_succ,List.setIfInBounds_toArray,List.set_cons_zero,List.set_cons_succ])
 refine tkH 3 hHeld ?_
 refine tkH 5 hHeld ?_
 refine wpAnyH_ready (rs := [4]) krA spA ?_
 refine AllReadyH.cons rfl (fun K hK => ?_) AllReadyH.nil
 go_simp
 (go_at_call 67;(with_reducible refine (law18_files _).mono ?_))
 rintro e w3 ⟨⟨A3,fb3,fq3,rfl,ht3⟩,hb3⟩
 have hy3:Below W.heap.size W w3:=below_nextN hy2 hb3 hy2.size
 have HT3:=qh ht3
 clear ht3 hb3
 go_wp2_with fail
 refine hK.out _ _ (Owned.blk (HOB.out.below hy3 hobz)) (fun hHeld => ?_)
 clear hK K
 (try simp only [Act.put,List.getElem_toArray,List.getElem_cons_zero,List.getElem_cons_succ,List.setIfInBounds_toArray,List.set_cons_zero,List.set_cons_succ])
 refine wpAnyH_ready (rs := [6]) krA spA ?_
 refine AllReadyH.cons rfl (fun K hK => ?_) AllReadyH.nil
 go_simp
 (go_at_call 23;(with_reducible refine (kept_fo A3 fb3 fq3 52 _ HT3.out (kept_f2 _ _)).mono ?_))
 rintro e w4 ⟨rfl,hb4⟩
 have hy4:Below W.heap.size W w4:=below_nextN hy3 hb4 hy3.size
 clear hb4
 go_wp2_with fail
 refine hK.out _ _ (Owned.blk (HOB.out.below hy4 hobz)) (fun hHeld => ?_)
 clear hK K
 (try simp only [Act.put,List.getElem_toArray,List.getElem_cons_zero,List.getElem_cons_succ,List.setIfInBounds_toArray,List.set_cons_zero,List.set_cons_succ])
 refine tkH 7 hHeld ?_
 refine tkH 8 hHeld ?_
 refine tkH 9 hHeld ?_
 refine tkH 11 hHeld ?_
 refine wpAnyH_ready (rs := [10]) krA spA ?_
 refine AllReadyH.cons rfl (fun K hK => ?_) AllReadyH.nil
 go_simp
 (go_at_call 67;(with_reducible refine (law18_files _).mono ?_))
 rintro e w5 ⟨⟨A5,fb5,fq5,rfl,ht5⟩,hb5⟩
 have hy5:Below W.heap.size W w5:=below_nextN hy4 hb5 hy4.size
 have HT5:=qh ht5
 clear ht5 hb5
 go_wp2_with fail
 refine hK.out _ _ (Owned.blk (HOB.out.below hy5 hobz)) (fun hHeld => ?_)
 clear hK K
 (try simp only [Act.put,List.getElem_toArray,List.getElem_cons_zero,List.getElem_cons_succ,List.setIfInBounds_toArray,List.set_cons_zero,List.set_cons_succ])
 refine wpAnyH_ready (rs := [12]) krA spA ?_
 refine AllReadyH.cons rfl (fun K hK => ?_) AllReadyH.nil
 go_simp
 (go_at_call 29;(with_reducible refine (ret_Expired A5 1 1 [tabF fb5 fq5] (some ⟨z + 1 + 1 + 1 + 1,0,none⟩) 1 1 (rtF (some ⟨z + 1 + 1 + 1,0,none⟩) (some ⟨z + 1,0,none⟩) (some ⟨z + 1 + 1,0,none⟩)) none 0 0 [] 32 _ HT5.out rfl (catF_sane _ _) (catF_ok _ _) (HRT.out.next hy5) rfl (rtF_sane _ _ _) SliceIs.nil rfl (by decide) (by simp [oF])).mono ?_))
 rintro e w6 ⟨⟨EA6,ec6,l6,rfl,_,_,hp6,_⟩,hb6⟩
 have hy6:Below W.heap.size W w6:=below_nextN hy5 hb6 hy5.size
 have hl6:=hp6.length_eq
 rw [exp_f1] at hl6
 simp only [List.length_nil,List.length_singleton] at hl6
 rw [hl6]
 clear hb6 hp6 hl6
 go_wp2_with fail
 refine hK.out _ _ (Owned.blk (HOB.out.below hy6 hobz)) (fun hHeld => ?_)
 clear hK K
 (try simp only [Act.put,List.getElem_toArray,List.getElem_cons_zero,List.getElem_cons_succ,List.setIfInBounds_toArray,List.set_cons_zero,List.set_cons_succ])
 refine tkH 13 hHeld ?_
 refine tkH 14 hHeld ?_
 refine tkH 15 hHeld ?_
 refine tkH 16 hHeld ?_
 refine tkH 18 hHeld ?_
 refine wpAnyH_ready (rs := [17]) krA spA ?_
 refine AllReadyH.cons rfl (fun K hK => ?_) AllReadyH.nil
 go_simp
 (go_at_call 67;(with_reducible refine (law18_files _).mono ?_))
 rintro e w7 ⟨⟨A7,fb7,fq7,rfl,ht7⟩,hb7⟩
 have hy7:Below W.heap.size W w7:=below_nextN hy6 hb7 hy6.size
 have HT7:=qh ht7
 clear ht7 hb7
 go_wp2_with fail
 refine hK.out _ _ (Owned.blk (HOB.out.below hy7 hobz)) (fun hHeld => ?_)
 clear hK K
 (try simp only [Act.put,List.getElem_toArray,List.getElem_cons_zero,List.getElem_cons_succ,List.setIfInBounds_toArray,List.set_cons_zero,List.set_cons_succ])
 refine wpAnyH_ready (rs := [19]) krA spA ?_
 refine AllReadyH.cons rfl (fun K hK => ?_) AllReadyH.nil
 go_simp
 (go_at_call 29;(with_reducible refine (ret_Expired A7 1 1 [tabF fb7 fq7] (some ⟨z + 1 + 1 + 1 + 1,0,none⟩) 1 1 (rtF (some ⟨z + 1 + 1 + 1,0,none⟩) (some ⟨z + 1,0,none⟩) (some ⟨z + 1 + 1,0,none⟩)) none 0 0 [] 33 _ HT7.out rfl (catF_sane _ _) (catF_ok _ _) (HRT.out.next hy7) rfl (rtF_sane _ _ _) SliceIs.nil rfl (by decide) (by simp [oF])).mono ?_))
 rintro e w8 ⟨⟨EA8,ec8,l8,rfl,_,_,hp8,_⟩,hb8⟩
 have hy8:Below W.heap.size W w8:=below_nextN hy7 hb8 hy7.size
 have hl8:=hp8.length_eq
 rw [exp_f2] at hl8
 simp only [List.length_nil,List.length_singleton] at hl8
 rw [hl8]
 clear hb8 hp8 hl8
 go_wp2_with fail
 refine hK.out _ _ (Owned.blk (HOB.out.below hy8 hobz)) (fun hHeld => ?_)
 clear hK K
 (try simp only [Act.put,List.getElem_toArray,List.getElem_cons_zero,List.getElem_cons_succ,List.setIfInBounds_toArray,List.set_cons_zero,List.set_cons_succ])
 refine tkH 20 hHeld ?_
 refine tkH 21 hHeld ?_
 refine tkH 22 hHeld ?_
 refine tkH 23 hHeld ?_
 refine tkH 25 hHeld ?_
 refine tkH 26 hHeld ?_
 refine wpAnyH_ready (rs := [24]) krA spA ?_
 refine AllReadyH.cons rfl (fun K hK => ?_) AllReadyH.nil
 go_simp
 (go_at_call 67;(with_reducible refine (law18_files _).mono ?_))
 rintro e w9 ⟨⟨A9,fb9,fq9,rfl,ht9⟩,hb9⟩
 have hy9:Below W.heap.size W w9:=below_nextN hy8 hb9 hy8.size
 have HT9:=qh ht9
 clear ht9 hb9
 go_wp2_with fail
 refine hK.out _ _ (Owned.blk (HOB.out.below hy9 hobz)) (fun hHeld => ?_)
 clear hK K
 (try simp only [Act.put,List.getElem_toArray,List.getElem_cons_zero,List.getElem_cons_succ,List.setIfInBounds_toArray,List.set_cons_zero,List.set_cons_succ])
 refine wpAnyH_ready (rs := [27]) krA spA ?_
 refine AllReadyH.cons rfl (fun K hK => ?_) AllReadyH.nil
 go_simp
 (go_at_call 29;(with_reducible refine (ret_Expired A9 1 1 [tabF fb9 fq9] (some ⟨z + 1 + 1 + 1 + 1,0,none⟩) 1 1 (rtF (some ⟨z + 1 + 1 + 1,0,none⟩) (some ⟨z + 1,0,none⟩) (some ⟨z + 1 + 1,0,none⟩)) (some ⟨z + 1 + 1 + 1 + 1 + 1 + 1,0,none⟩) 1 1 [oF] 51 _ HT9.out rfl (catF_sane _ _) (catF_ok _ _) (HRT.out.next hy9) rfl (rtF_sane _ _ _) (HLT.out.next hy9) rfl (by decide) (by simp [oF])).mono ?_))
 rintro e w10 ⟨⟨EA10,ec10,l10,rfl,_,_,hp10,_⟩,hb10⟩
 have hy10:Below W.heap.size W w10:=below_nextN hy9 hb10 hy9.size
 have hl10:=hp10.length_eq
 rw [exp_f3] at hl10
 simp only [List.length_nil,List.length_singleton] at hl10
 rw [hl10]
 clear hb10 hp10 hl10
 go_wp2_with fail
 refine hK.out _ _ (Owned.blk (HOB.out.below hy10 hobz)) (fun hHeld => ?_)
 clear hK K
 (try simp only [Act.put,List.getElem_toArray,List.getElem_cons_zero,List.getElem_cons_succ,List.setIfInBounds_toArray,List.set_cons_zero,List.set_cons_succ])
 refine tkH 28 hHeld ?_
 refine tkH 29 hHeld ?_
 refine tkH 30 hHeld ?_
 refine tkH 31 hHeld ?_
 refine tkH 33 hHeld ?_
 refine tkH 34 hHeld ?_
 refine wpAnyH_ready (rs := [32]) krA spA ?_
 refine AllReadyH.cons rfl (fun K hK => ?_) AllReadyH.nil
 go_simp
 (go_at_call 67;(with_reducible refine (law18_files _).mono ?_))
 rintro e w11 ⟨⟨A11,fb11,fq11,rfl,ht11⟩,hb11⟩
 have hy11:Below W.heap.size W w11:=below_nextN hy10 hb11 hy10.size
 have HT11:=qh ht11
 clear ht11 hb11
 go_wp2_with fail
 refine hK.out _ _ (Owned.blk (HOB.out.below hy11 hobz)) (fun hHeld => ?_)
 clear hK K
 (try simp only [Act.put,List.getElem_toArray,List.getElem_cons_zero,List.getElem_cons_succ,List.setIfInBounds_toArray,List.set_cons_zero,List.set_cons_succ])
 refine wpAnyH_ready (rs := [35]) krA spA ?_
 refine AllReadyH.cons rfl (fun K hK => ?_) AllReadyH.nil
 go_simp
 (go_at_call 29;(with_reducible refine (ret_Expired A11 1 1 [tabF fb11 fq11] (some ⟨z + 1 + 1 + 1 + 1,0,none⟩) 1 1 (rtF (some ⟨z + 1 + 1 + 1,0,none⟩) (some ⟨z + 1,0,none⟩) (some ⟨z + 1 + 1,0,none⟩)) (some ⟨z + 1 + 1 + 1 + 1 + 1 + 1,0,none⟩) 1 1 [oF] 52 _ HT11.out rfl (catF_sane _ _) (catF_ok _ _) (HRT.out.next hy11) rfl (rtF_sane _ _ _) (HLT.out.next hy11) rfl (by decide) (by simp [oF])).mono ?_))
 rintro e w12 ⟨⟨EA12,ec12,l12,rfl,_,_,hp12,_⟩,hb12⟩
 have hy12:Below W.heap.size W w12:=below_nextN hy11 hb12 hy11.size
 have hl12:=hp12.length_eq
 rw [exp_f4] at hl12
 simp only [List.length_nil,List.length_singleton] at hl12
 rw [hl12]
 clear hb12 hp12 hl12
 go_wp2_with fail
 refine hK.out _ _ (Owned.blk (HOB.out.below hy12 hobz)) (fun hHeld => ?_)
 clear hK K
 (try simp only [Act.put,List.getElem_toArray,List.getElem_cons_zero,List.getElem_cons_succ,List.setIfInBounds_toArray,List.set_cons_zero,List.set_cons_succ])
 refine tkH 36 hHeld ?_
 refine tkH 37 hHeld ?_
 refine tkH 38 hHeld ?_
 refine tkH 39 hHeld ?_
 refine wpAnyH_done krA ?_ _
 go_wp2_with fail
 go_ret
 exact ⟨rfl,below_nextN hbW hy12 hbW.size⟩
end Go.Proofs.YtlpgmdhnjckplaaGreat
