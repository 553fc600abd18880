/-
  Contracts and plain laws of this seat, part 23: Has15, Files, RetAw.
-/
import Derived.Test.YtkiglflbngfelaaGreatQ22
import Derived.Test.YtkiglflbngfelaaGreatQ1
import Derived.Test.YtkiglflbngfelaaGreatQ2
import Derived.Deep.RegionHeld3
set_option linter.unusedVariables false
set_option linter.unusedSimpArgs false
set_option maxRecDepth 100000
set_option maxHeartbeats 16000000
namespace Go.Proofs.YtkiglflbngfelaaGreat
open Go.RowKit Go
theorem Ak (A:Option Addr) (c n:Nat) (l:List Src) (s:Src) (w:World) (hl:ag w w.heap.size Src.cells 2 A l) (hln:l.length=n) (hn:n ≤ 1000000) {r:Bool} (hr:decide (s∈l)=r) :
 Calls Tryz.prog 70 #[.slice A n c, .agg #[.int .i64 s.tab, .int .i64 s.seq]] w fun e w'=>e = .returned (.bool r)∧Below w.heap.size w w':=by
 subst hln hr
 have HL:=qh hl
 clear hl
 go_enter Tryz.func70,Tryz.ntmps70
 go_upto_region 2 with (fail)
 refine ah (P:=fun u=>Code.wp _ _ _ _ u) (R:=fun u=>Blk u w.heap.size 119 #[.int .i64 s.tab, .int .i64 s.seq]∧Below w.heap.size w u) ⟨?_,?_⟩ ?_
 ·exact Blk.new _ _ _
 ·exact au
 rintro W ⟨hB,hbW⟩
 have hzW:=hB.lt
 have HB:=qh hB
 clear hB
 go_loopw [5] (fun vi wr => ∃ i:Nat,i≤l.length∧vi = .int .i64 i∧Below W.heap.size W wr∧(∀ j (h:j<l.length),j<i→l[j]≠s)) (fun vi _=>l.length - (intOf vi).toNat)
 case atStart=>exact ⟨0,Nat.zero_le _,rfl,Below.refl _ _,fun j _ h=>by omega⟩
 case round =>
  obtain ⟨i,hi,rfl,hbr,hno⟩:=hrel
  have HNO:=qh hno
  have hwz:=hbr.size
  have hxr:=aa hbW hbr hbW.size
  have hxz:=hxr.size
  clear hno
  by_cases hlt:i<l.length
  ·obtain ⟨b5,o5,rfl,hb5,hc5⟩:=(HL.out.below hxr).get hlt
   have x0:=hc5 0 _ rfl
   have x1:=hc5 1 _ rfl
   simp only [Nat.add_zero] at x0 x1
   have hB:=HB.out.below hbr hzW
   have p0:=hB.cell 0
   have p1:=hB.cell 1
   simp only [gE3] at p0 p1
   have hk0:=aC (w:=wr) w.heap.size omA
   have hk1:=aC (w:=wr) b5 omA
   obtain ⟨y,hy⟩ : ∃ y,l[i]=y:=⟨_,rfl⟩
   rw [hy] at x0 x1
   have HY:=qh hy
   clear hc5 hB hy
   cases he:decide (y=s)
   ·have heq:=AX he
    have HNE:Hid (l[i]≠s):=qh (by rw [HY.out];simpa using he)
    clear he
    go_upto_region 4 with (fail)
    refine af krA krA ?_;(repeat (go_big_quiet_step (fail)));refine wpQuiet_nil ?_;intro wq hq
    clear hk0 hk1 x0 x1 p0 p1
    go_wp2_with fail
    go_roundw
    case rel=>exact ⟨i + 1,by omega,by go_num,aa hbr hq hwz,fun j h hj=>by
     rcases Nat.lt_or_ge j i with h1|h1
     ·exact HNO.out j h h1
     ·obtain rfl:j=i:=by omega
      exact HNE.out⟩
    case measure=>exact meA
   ·have heq:=AX he
    have HIN:Hid (s∈l):=qh (by have h:y=s:=(by simpa using he);rw [← h,← HY.out];exact lgm hlt)
    clear he
    go_upto_region 4 with (fail)
    refine af krA krA ?_;(repeat (go_big_quiet_step (fail)));refine wpQuiet_nil ?_;intro wq hq
    go_wp2_with fail
    go_ret
    exact ⟨ay (decide_eq_true HIN.out).symm,aa hxr hq hxr.size⟩
  ·have hlt':decide (i<l.length)=false:=by simpa using hlt
   go_wp2_with fail
   go_ret
   exact ⟨ay (decide_eq_false (fun h=>by obtain ⟨j,hj,he⟩:=List.getElem_of_mem h;exact HNO.out j hj omA he)).symm,hxr⟩
open Go.RowKit Go
def fU:Col:=⟨⟨#[105,100]⟩,1,⟨#[112,101,114,115,111,110]⟩,⟨#[]⟩,none,0,[],0,0⟩
def fE (b:Nat):Col:=⟨⟨#[118]⟩,2,⟨#[]⟩,⟨#[]⟩,some ⟨b,0,none⟩,1,[0],0,20⟩
def lX (b q:Nat):Tab:=⟨⟨#[102]⟩,some ⟨q,0,none⟩,2,[fU,fE b],0,30⟩
theorem MP (ts:List Tab) (b q:Nat):bY ts [fU,fE b] 0 30 0 0 fU = 0:=by
 have h1:cE1 fU=false:=by decide +kernel
 have h2:cE2 [fU,fE b] 0 fU=false:=aN (fun ⟨k,h,hk,_⟩=>by omega)
 have hr:(!fU.refs.toList.isEmpty)=false:=by decide +kernel
 have h3 : ∀ tg,cE3 fU tg=false:=fun tg=>by rw [cE3,hr];rfl
 have h4 : ∀ tg,cE4 ts fU tg=false:=fun tg=>by rw [cE4,hr,Bool.and_false,Bool.false_and,Bool.or_false];rfl
 have h5:cE5 [fU,fE b] fU=false:=by
  have:pb (fI [fU,fE b] fU.own)=true:=aT (fun i h=>by simp [fU] at h)
  rw [cE5,hr,this]
  simp [fU,fE,aB]
 have h6:cE6 0 30 0 fU=false:=by rfl
 have h7 : ∀ tg,cE7 ts 0 fU tg=false:=fun tg=>by rw [cE7,hr];rfl
 unfold bY
 simp only [h1,h2,h3,h4,h5,h6,h7]
 rfl
theorem MO (ts:List Tab) (b q:Nat):bY ts [fU,fE b] 0 30 0 1 (fE b) = 0:=by
 have h1:cE1 (fE b)=false:=by
  have e1:dW (fE b).name=true:=by show dW ⟨#[118]⟩=true;decide +kernel
  have e2:(!(fE b).ns.toList.isEmpty)=false:=by show (!(⟨#[]⟩:ByteArray).toList.isEmpty)=false;decide +kernel
  rw [cE1,e1,e2]
  rfl
 have h2:cE2 [fU,fE b] 1 (fE b)=false:=aN (fun ⟨k,h,hk,he⟩=>by
  obtain rfl:k = 0:=by omega
  have he:(⟨#[105,100]⟩:ByteArray)=⟨#[118]⟩:=he
  exact absurd he (by decide +kernel))
 have hr:(!(fE b).refs.toList.isEmpty)=false:=by show (!(⟨#[]⟩:ByteArray).toList.isEmpty)=false;decide +kernel
 have hn:(!(fE b).ns.toList.isEmpty)=false:=hr
 have h3 : ∀ tg,cE3 (fE b) tg=false:=fun tg=>by rw [cE3,hr];rfl
 have h4 : ∀ tg,cE4 ts (fE b) tg=false:=fun tg=>by rw [cE4,hr,Bool.and_false,Bool.false_and,Bool.or_false];rfl
 have h5:cE5 [fU,fE b] (fE b)=false:=by
  have:pb (fI [fU,fE b] (fE b).own)=true:=aT (fun i h=>by
   have h':i < 1:=h
   obtain rfl:i = 0:=by omega
   refine ⟨show (0:Int) ≤ 0 by omega,show (0:Int).toNat < 2 by decide,fun h0=>absurd h0 omA,?_⟩
   rintro ⟨e,_⟩
   have e:(⟨#[112,101,114,115,111,110]⟩:ByteArray)=⟨#[]⟩:=e
   exact absurd e (by decide +kernel))
  rw [cE5,hr,this]
  simp [fU,fE,aB]
 have h6:cE6 0 30 1 (fE b)=false:=by rfl
 have h7 : ∀ tg,cE7 ts 1 (fE b) tg=false:=fun tg=>by rw [cE7,hr];rfl
 unfold bY
 simp only [h1,h2,h3,h4,h5,h6,h7]
 rfl
theorem qQ (b q:Nat):aV [lX b q]:=by
 refine ⟨by simp,fun i h => ?_⟩
 have h':i < 1:=by simpa using h
 obtain rfl:i = 0:=by omega
 refine ⟨?_,fun k hk=>by omega,?_⟩
 ·show dW ⟨#[102]⟩=true
  decide +kernel
 ·show jg [lX b q] 0 (lX b q) = 0
  have hs:jh (lX b q)=true:=rfl
  rw [jg,if_pos hs]
  refine gZ fun i hi => ?_
  have hi':i < 2:=hi
  rcases (show i = 0∨i = 1 by omega) with rfl|rfl
  ·exact MP _ b q
  ·exact MO _ b q
theorem nX (b q:Nat):aQ [lX b q]:=by
 refine ⟨by simp,fun t ht => ?_⟩
 rw [List.mem_singleton.1 ht]
 refine ⟨show 1 ≤ 1000000 by omega,show 2 ≤ 1000000 by omega,Nat.le_refl 2,fun x hx => ?_⟩
 have hx:x=fU∨x=fE b:=by simpa [lX] using hx
 rcases hx with rfl|rfl
 ·exact ⟨show 2 ≤ 1000000 by omega,show 6 ≤ 1000000 by omega,show 0 ≤ 1000000 by omega,show 0 ≤ 1000000 by omega⟩
 ·exact ⟨show 1 ≤ 1000000 by omega,show 0 ≤ 1000000 by omega,show 0 ≤ 1000000 by omega,show 1 ≤ 1000000 by omega⟩
theorem iD (w:World):Calls Tryz.prog 73 #[] w fun e w' =>
 (∃ A b q,e = .returned (.agg #[.slice A 1 1, .slice none 0 0, .slice none 0 0, .slice none 0 0, .slice none 0 0, .slice none 0 0, .slice none 0 0, .slice none 0 0])∧aK w' w'.heap.size A [lX b q])∧Below w.heap.size w w':=by
 go_enter Tryz.func73,Tryz.ntmps73
 go_wp2_with fail
 refine ah (P:=fun u=>bodyPost _ _ _ _ _ u) (R:=fun u=>Blk u w.heap.size 34 #[.slice (some ⟨w.heap.size + 1 + 1 + 1,0,none⟩) 1 1, .slice none 0 0, .slice none 0 0, .slice none 0 0, .slice none 0 0, .slice none 0 0, .slice none 0 0, .slice none 0 0]∧Blk u (w.heap.size + 1) 3 ([(0:Int)].flatMap intCells).toArray∧Blk u (w.heap.size + 1 + 1) 79 ([fU,fE (w.heap.size + 1)].flatMap Col.cells).toArray∧Blk u (w.heap.size + 1 + 1 + 1) 46 ([lX (w.heap.size + 1) (w.heap.size + 1 + 1)].flatMap Tab.cells).toArray∧Below w.heap.size w u) ⟨?_,?_,?_,?_,?_⟩ ?_
 ·exact (((Blk.new _ _ _).alloc _).alloc _).alloc _
 ·exact (((Blk.new' spA).eq rfl).alloc _).alloc _
 ·exact ((Blk.new' spA).eq rfl).alloc _
 ·exact (Blk.new' spA).eq rfl
 ·exact au
 rintro W ⟨hR,hI,hC,hT,hbW⟩
 obtain ⟨p0,p1,p2,p3,p4,p5,p6,p7⟩:=Cat.blk hR
 refine bodyPost_ret (v := .agg #[.slice (some ⟨w.heap.size + 1 + 1 + 1,0,none⟩) 1 1, .slice none 0 0, .slice none 0 0, .slice none 0 0, .slice none 0 0, .slice none 0 0, .slice none 0 0, .slice none 0 0]) (by simp [results,Tryz.results73,go_sem,p0,p1,p2,p3,p4,p5,p6,p7]) rfl ⟨⟨_,w.heap.size + 1,w.heap.size + 1 + 1,rfl,?_,?_⟩,hbW⟩
 ·exact Blk.all jy hT hT.lt
 ·intro t ht
  rw [List.mem_singleton.1 ht]
  refine ⟨Blk.all fw hC hC.lt,fun x hx => ?_⟩
  have hx:x=fU∨x=fE (w.heap.size + 1):=by simpa [lX] using hx
  rcases hx with rfl|rfl
  ·exact ag.nil
  ·exact Blk.all bq hI hI.lt
open Go.RowKit Go
def SH (RA SA:Option Addr):Rcd:=⟨RA,2,[⟨1,1,⟨#[]⟩⟩,⟨0,0,⟨#[]⟩⟩],SA,2,[2,7],3⟩
def rtF (TA RA SA:Option Addr):List RTab := [⟨TA,1,[SH RA SA]⟩]
def oF:aD:=⟨0,1,7,2,32,none,0,[],false,true⟩
theorem Bz (b q:Nat) (TA RA SA:Option Addr):aO [lX b q] (rtF TA RA SA):=by
 refine ⟨qQ b q,rfl,fun i h h' => ?_⟩
 have h1:i < 1:=h
 obtain rfl:i = 0:=by omega
 refine ⟨show 1 ≤ 64 by omega,fun k hk => ?_⟩
 have h2:k < 1:=hk
 obtain rfl:k = 0:=by omega
 refine ⟨⟨rfl,rfl,rfl,fun i hi => ?_,fun _=>show (1:Int) ≠ 0 by decide⟩,fun h0=>by omega,fun j hj=>by omega⟩
 have h3:i < 2:=hi
 rcases (show i = 0∨i = 1 by omega) with rfl|rfl
 ·exact ⟨fun _=>show bM ⟨1,1,⟨#[]⟩⟩=true by decide +kernel,fun _ _=>rfl,fun _=>rfl,fun _ _=>show (2:Int) ≤ 2 by decide⟩
 ·exact ⟨fun _=>show bM ⟨0,0,⟨#[]⟩⟩=true by decide +kernel,fun _ _=>rfl,fun _=>rfl,fun _ _=>show (2:Int) ≤ 7 by decide⟩
theorem tJ (TA RA SA:Option Addr):fV (rtF TA RA SA):=by
 refine ⟨show 1 ≤ 1000000 by omega,fun t ht => ?_,fun t ht r hr => ?_,fun t ht r hr => ?_⟩
 all_goals
  rw [List.mem_singleton.1 ht] at *
 ·exact show 1 ≤ 1000000 by omega
 ·rw [List.mem_singleton.1 hr];exact show 2 ≤ 1000000 by omega
 ·rw [List.mem_singleton.1 hr];exact show 2 ≤ 1000000 by omega
theorem Rv (b q:Nat) (TA RA SA:Option Addr):jb [lX b q] (rtF TA RA SA) [] 32 = []:=by
 unfold jb
 rw [aT (Bz b q TA RA SA),if_pos rfl]
 rfl
theorem Ru (b q:Nat) (TA RA SA:Option Addr):jb [lX b q] (rtF TA RA SA) [] 33 = [⟨0,2⟩]:=by
 unfold jb
 rw [aT (Bz b q TA RA SA),if_pos rfl]
 rfl
theorem Rt (b q:Nat) (TA RA SA:Option Addr):jb [lX b q] (rtF TA RA SA) [oF] 51 = []:=by
 unfold jb
 rw [aT (Bz b q TA RA SA),if_pos rfl]
 rfl
theorem Rs (b q:Nat) (TA RA SA:Option Addr):jb [lX b q] (rtF TA RA SA) [oF] 52 = [⟨0,2⟩]:=by
 unfold jb
 rw [aT (Bz b q TA RA SA),if_pos rfl]
 rfl
theorem NV (b q:Nat):gH (jJ [lX b q] oF) 51=true:=by rfl
theorem NU (b q:Nat):gH (jJ [lX b q] oF) 52=false:=by rfl
theorem Hl (A:Option Addr) (b q:Nat) (day:Int) (w:World) (ht:aK w w.heap.size A [lX b q]) {r:Bool} (hr:gH (jJ [lX b q] oF) day=r) :
 Calls Tryz.prog 72 #[.agg #[.slice A 1 1, .slice none 0 0, .slice none 0 0, .slice none 0 0, .slice none 0 0, .slice none 0 0, .slice none 0 0, .slice none 0 0], .agg #[.int .i64 0, .int .i64 1, .int .i64 7, .int .i64 2, .int .i64 32, .slice none 0 0, .bool false, .bool true], .int .i64 day] w fun e w'=>e = .returned (.bool r)∧Below w.heap.size w w' :=
 KI A 1 1 [lX b q] oF day w ht rfl (nX b q) (qQ b q) hr
theorem D8 (w:World):Calls Tryz.prog 30 #[] w fun e w'=>e = .returned (.bool true)∧Below w.heap.size w w':=by
 go_enter Tryz.func30,Tryz.ntmps30
 go_upto_region 5 with (go_at_call 23;(refine (NW 1 _ omA).mono ?_);rintro e w1 ⟨rfl,hb1⟩)
 have hwz:w.heap.size≤w1.heap.size:=hb1.1.size
 refine ah (P:=fun u=>Code.wp _ _ _ _ u) (R:=fun u=>Blk u (w1.heap.size + 1) 51 ([(⟨1,1,⟨#[]⟩⟩:Val),⟨0,0,⟨#[]⟩⟩].flatMap Val.cells).toArray∧Blk u (w1.heap.size + 1 + 1) 3 ([(2:Int),7].flatMap intCells).toArray∧Blk u (w1.heap.size + 1 + 1 + 1) 43 ([SH (some ⟨w1.heap.size + 1,0,none⟩) (some ⟨w1.heap.size + 1 + 1,0,none⟩)].flatMap Rcd.cells).toArray∧Blk u (w1.heap.size + 1 + 1 + 1 + 1) 40 ((rtF (some ⟨w1.heap.size + 1 + 1 + 1,0,none⟩) (some ⟨w1.heap.size + 1,0,none⟩) (some ⟨w1.heap.size + 1 + 1,0,none⟩)).flatMap RTab.cells).toArray∧Blk u (w1.heap.size + 1 + 1 + 1 + 1 + 1) 113 oF.cells.toArray∧Blk u (w1.heap.size + 1 + 1 + 1 + 1 + 1 + 1) 113 ([oF].flatMap aD.cells).toArray∧Below w.heap.size w u) ⟨?_,?_,?_,?_,?_,?_,?_⟩ ?_
 ·exact ((((((Blk.new' spA).eq rfl).alloc _).alloc _).alloc _).alloc _).alloc _
 ·exact (((((Blk.new' spA).eq rfl).alloc _).alloc _).alloc _).alloc _
 ·exact ((((Blk.new' spA).eq rfl).alloc _).alloc _).alloc _
 ·exact (((Blk.new' spA).eq rfl).alloc _).alloc _
 ·exact ((Blk.new' spA).eq rfl).alloc _
 ·exact (Blk.new' spA).eq rfl
 ·have h1:Below w.heap.size w w1:=hb1.1
  exact au
 generalize w1.heap.size=z at *
 rintro W ⟨hV,hI,hR,hT,hO,hL,hbW⟩
 have wO:=hO.lt
 have HOB:=qh hO
 have hrt:aP W W.heap.size (some ⟨z + 1 + 1 + 1 + 1,0,none⟩) (rtF (some ⟨z + 1 + 1 + 1,0,none⟩) (some ⟨z + 1,0,none⟩) (some ⟨z + 1 + 1,0,none⟩)):=by
  refine ⟨Blk.all bL hT hT.lt,fun t ht => ?_⟩
  rw [List.mem_singleton.1 ht]
  refine ⟨Blk.all bn hR hR.lt,fun r hr => ?_⟩
  rw [List.mem_singleton.1 hr]
  exact ⟨Blk.all dA hV hV.lt,Blk.all bq hI hI.lt⟩
 have HRT:=qh hrt
 have HLT:Hid (ag W W.heap.size aD.cells 8 (some ⟨z + 1 + 1 + 1 + 1 + 1 + 1,0,none⟩) [oF]):=qh (Blk.all dV hL hL.lt)
 have hob:=aD.blk hO
 have hy0:Below W.heap.size W W.drew:=brf.drew
 clear hV hI hR hT hO hL hrt
 refine wp_region_held_drew (S:=fun u=>u.cell? ⟨z + 1 + 1 + 1 + 1 + 1,0,none⟩=some (.int .i64 0)∧u.cell? ⟨z + 1 + 1 + 1 + 1 + 1,1,none⟩=some (.int .i64 1)∧u.cell? ⟨z + 1 + 1 + 1 + 1 + 1,2,none⟩=some (.int .i64 7)∧u.cell? ⟨z + 1 + 1 + 1 + 1 + 1,3,none⟩=some (.int .i64 2)∧u.cell? ⟨z + 1 + 1 + 1 + 1 + 1,4,none⟩=some (.int .i64 32)∧u.cell? ⟨z + 1 + 1 + 1 + 1 + 1,5,none⟩=some (.slice none 0 0)∧u.cell? ⟨z + 1 + 1 + 1 + 1 + 1,6,none⟩=some (.bool false)∧u.cell? ⟨z + 1 + 1 + 1 + 1 + 1,7,none⟩=some (.bool true)) krA hob (fun hHeld => ?_)
 refine tkH 1 hHeld ?_
 refine wpAnyH_ready (rs := [0]) krA spA ?_
 refine AllReadyH.cons rfl (fun K hK => ?_) AllReadyH.nil
 go_simp
 (go_at_call 73;(with_reducible refine (iD _).mono ?_))
 rintro e w1 ⟨⟨A1,fb1,fq1,rfl,ht1⟩,hb1⟩
 have hy1:Below W.heap.size W w1:=aa hy0 hb1 hy0.size
 have HT1:=qh ht1
 clear ht1 hb1
 go_wp2_with fail
 refine hK.out _ _ (aD.blk (HOB.out.below hy1 wO)) (fun hHeld => ?_)
 clear hK K
 (try simp only [Act.put,gP6])
 refine wpAnyH_ready (rs := [2]) krA spA ?_
 refine AllReadyH.cons rfl (fun K hK => ?_) AllReadyH.nil
 go_simp
 (go_at_call 72;(with_reducible refine (Hl A1 fb1 fq1 51 _ HT1.out (NV _ _)).mono ?_))
 rintro e w2 ⟨rfl,hb2⟩
 have hy2:Below W.heap.size W w2:=aa hy1 hb2 hy1.size
 clear hb2
 go_wp2_with fail
 refine hK.out _ _ (aD.blk (HOB.out.below hy2 wO)) (fun hHeld => ?_)
 clear hK K
 (try simp only [Act.put,gP6])
 refine tkH 3 hHeld ?_
 refine tkH 5 hHeld ?_
 refine wpAnyH_ready (rs := [4]) krA spA ?_
 refine AllReadyH.cons rfl (fun K hK => ?_) AllReadyH.nil
 go_simp
 (go_at_call 73;(with_reducible refine (iD _).mono ?_))
 rintro e w3 ⟨⟨A3,fb3,fq3,rfl,ht3⟩,hb3⟩
 have hy3:Below W.heap.size W w3:=aa hy2 hb3 hy2.size
 have HT3:=qh ht3
 clear ht3 hb3
 go_wp2_with fail
 refine hK.out _ _ (aD.blk (HOB.out.below hy3 wO)) (fun hHeld => ?_)
 clear hK K
 (try simp only [Act.put,gP6])
 refine wpAnyH_ready (rs := [6]) krA spA ?_
 refine AllReadyH.cons rfl (fun K hK => ?_) AllReadyH.nil
 go_simp
 (go_at_call 72;(with_reducible refine (Hl A3 fb3 fq3 52 _ HT3.out (NU _ _)).mono ?_))
 rintro e w4 ⟨rfl,hb4⟩
 have hy4:Below W.heap.size W w4:=aa hy3 hb4 hy3.size
 clear hb4
 go_wp2_with fail
 refine hK.out _ _ (aD.blk (HOB.out.below hy4 wO)) (fun hHeld => ?_)
 clear hK K
 (try simp only [Act.put,gP6])
 refine tkH 7 hHeld ?_
 refine tkH 8 hHeld ?_
 refine tkH 9 hHeld ?_
 refine tkH 11 hHeld ?_
 refine wpAnyH_ready (rs := [10]) krA spA ?_
 refine AllReadyH.cons rfl (fun K hK => ?_) AllReadyH.nil
 go_simp
 (go_at_call 73;(with_reducible refine (iD _).mono ?_))
 rintro e w5 ⟨⟨A5,fb5,fq5,rfl,ht5⟩,hb5⟩
 have hy5:Below W.heap.size W w5:=aa hy4 hb5 hy4.size
 have HT5:=qh ht5
 clear ht5 hb5
 go_wp2_with fail
 refine hK.out _ _ (aD.blk (HOB.out.below hy5 wO)) (fun hHeld => ?_)
 clear hK K
 (try simp only [Act.put,gP6])
 refine wpAnyH_ready (rs := [12]) krA spA ?_
 refine AllReadyH.cons rfl (fun K hK => ?_) AllReadyH.nil
 go_simp
 (go_at_call 27;(with_reducible refine (iB A5 1 1 [lX fb5 fq5] (some ⟨z + 1 + 1 + 1 + 1,0,none⟩) 1 1 (rtF (some ⟨z + 1 + 1 + 1,0,none⟩) (some ⟨z + 1,0,none⟩) (some ⟨z + 1 + 1,0,none⟩)) none 0 0 [] 32 _ HT5.out rfl (nX _ _) (qQ _ _) (HRT.out.next hy5) rfl (tJ _ _ _) ag.nil rfl (by decide) (by simp [oF])).mono ?_))
 rintro e w6 ⟨⟨EA6,ec6,l6,rfl,_,_,hp6,_⟩,hb6⟩
 have hy6:Below W.heap.size W w6:=aa hy5 hb6 hy5.size
 have hl6:=hp6.length_eq
 rw [Rv] at hl6
 simp only [List.length_nil,List.length_singleton] at hl6
 rw [hl6]
 clear hb6 hp6 hl6
 go_wp2_with fail
 refine hK.out _ _ (aD.blk (HOB.out.below hy6 wO)) (fun hHeld => ?_)
 clear hK K
 (try simp only [Act.put,gP6])
 refine tkH 13 hHeld ?_
 refine tkH 14 hHeld ?_
 refine tkH 15 hHeld ?_
 refine tkH 16 hHeld ?_
 refine tkH 18 hHeld ?_
 refine wpAnyH_ready (rs := [17]) krA spA ?_
 refine AllReadyH.cons rfl (fun K hK => ?_) AllReadyH.nil
 go_simp
 (go_at_call 73;(with_reducible refine (iD _).mono ?_))
 rintro e w7 ⟨⟨A7,fb7,fq7,rfl,ht7⟩,hb7⟩
 have hy7:Below W.heap.size W w7:=aa hy6 hb7 hy6.size
 have HT7:=qh ht7
 clear ht7 hb7
 go_wp2_with fail
 refine hK.out _ _ (aD.blk (HOB.out.below hy7 wO)) (fun hHeld => ?_)
 clear hK K
 (try simp only [Act.put,gP6])
 refine wpAnyH_ready (rs := [19]) krA spA ?_
 refine AllReadyH.cons rfl (fun K hK => ?_) AllReadyH.nil
 go_simp
 (go_at_call 27;(with_reducible refine (iB A7 1 1 [lX fb7 fq7] (some ⟨z + 1 + 1 + 1 + 1,0,none⟩) 1 1 (rtF (some ⟨z + 1 + 1 + 1,0,none⟩) (some ⟨z + 1,0,none⟩) (some ⟨z + 1 + 1,0,none⟩)) none 0 0 [] 33 _ HT7.out rfl (nX _ _) (qQ _ _) (HRT.out.next hy7) rfl (tJ _ _ _) ag.nil rfl (by decide) (by simp [oF])).mono ?_))
 rintro e w8 ⟨⟨EA8,ec8,l8,rfl,_,_,hp8,_⟩,hb8⟩
 have hy8:Below W.heap.size W w8:=aa hy7 hb8 hy7.size
 have hl8:=hp8.length_eq
 rw [Ru] at hl8
 simp only [List.length_nil,List.length_singleton] at hl8
 rw [hl8]
 clear hb8 hp8 hl8
 go_wp2_with fail
 refine hK.out _ _ (aD.blk (HOB.out.below hy8 wO)) (fun hHeld => ?_)
 clear hK K
 (try simp only [Act.put,gP6])
 refine tkH 20 hHeld ?_
 refine tkH 21 hHeld ?_
 refine tkH 22 hHeld ?_
 refine tkH 23 hHeld ?_
 refine tkH 25 hHeld ?_
 refine tkH 26 hHeld ?_
 refine wpAnyH_ready (rs := [24]) krA spA ?_
 refine AllReadyH.cons rfl (fun K hK => ?_) AllReadyH.nil
 go_simp
 (go_at_call 73;(with_reducible refine (iD _).mono ?_))
 rintro e w9 ⟨⟨A9,fb9,fq9,rfl,ht9⟩,hb9⟩
 have hy9:Below W.heap.size W w9:=aa hy8 hb9 hy8.size
 have HT9:=qh ht9
 clear ht9 hb9
 go_wp2_with fail
 refine hK.out _ _ (aD.blk (HOB.out.below hy9 wO)) (fun hHeld => ?_)
 clear hK K
 (try simp only [Act.put,gP6])
 refine wpAnyH_ready (rs := [27]) krA spA ?_
 refine AllReadyH.cons rfl (fun K hK => ?_) AllReadyH.nil
 go_simp
 (go_at_call 27;(with_reducible refine (iB A9 1 1 [lX fb9 fq9] (some ⟨z + 1 + 1 + 1 + 1,0,none⟩) 1 1 (rtF (some ⟨z + 1 + 1 + 1,0,none⟩) (some ⟨z + 1,0,none⟩) (some ⟨z + 1 + 1,0,none⟩)) (some ⟨z + 1 + 1 + 1 + 1 + 1 + 1,0,none⟩) 1 1 [oF] 51 _ HT9.out rfl (nX _ _) (qQ _ _) (HRT.out.next hy9) rfl (tJ _ _ _) (HLT.out.next hy9) rfl (by decide) (by simp [oF])).mono ?_))
 rintro e w10 ⟨⟨Zo,Zi,l10,rfl,_,_,TT,_⟩,uu⟩
 have Qn:Below W.heap.size W w10:=aa hy9 uu hy9.size
 have Oo:=TT.length_eq
 rw [Rt] at Oo
 simp only [List.length_nil,List.length_singleton] at Oo
 rw [Oo]
 clear uu TT Oo
 go_wp2_with fail
 refine hK.out _ _ (aD.blk (HOB.out.below Qn wO)) (fun hHeld => ?_)
 clear hK K
 (try simp only [Act.put,gP6])
 refine tkH 28 hHeld ?_
 refine tkH 29 hHeld ?_
 refine tkH 30 hHeld ?_
 refine tkH 31 hHeld ?_
 refine tkH 33 hHeld ?_
 refine tkH 34 hHeld ?_
 refine wpAnyH_ready (rs := [32]) krA spA ?_
 refine AllReadyH.cons rfl (fun K hK => ?_) AllReadyH.nil
 go_simp
 (go_at_call 73;(with_reducible refine (iD _).mono ?_))
 rintro e w11 ⟨⟨A11,Xm,Xl,rfl,Tt⟩,qY⟩
 have Lx:Below W.heap.size W w11:=aa Qn qY Qn.size
 have Xp:=qh Tt
 clear Tt qY
 go_wp2_with fail
 refine hK.out _ _ (aD.blk (HOB.out.below Lx wO)) (fun hHeld => ?_)
 clear hK K
 (try simp only [Act.put,gP6])
 refine wpAnyH_ready (rs := [35]) krA spA ?_
 refine AllReadyH.cons rfl (fun K hK => ?_) AllReadyH.nil
 go_simp
 (go_at_call 27;(with_reducible refine (iB A11 1 1 [lX Xm Xl] (some ⟨z + 1 + 1 + 1 + 1,0,none⟩) 1 1 (rtF (some ⟨z + 1 + 1 + 1,0,none⟩) (some ⟨z + 1,0,none⟩) (some ⟨z + 1 + 1,0,none⟩)) (some ⟨z + 1 + 1 + 1 + 1 + 1 + 1,0,none⟩) 1 1 [oF] 52 _ Xp.out rfl (nX _ _) (qQ _ _) (HRT.out.next Lx) rfl (tJ _ _ _) (HLT.out.next Lx) rfl (by decide) (by simp [oF])).mono ?_))
 rintro e w12 ⟨⟨Zn,Zh,l12,rfl,_,_,TS,_⟩,UF⟩
 have Tc:Below W.heap.size W w12:=aa Lx UF Lx.size
 have hl12:=TS.length_eq
 rw [Rs] at hl12
 simp only [List.length_nil,List.length_singleton] at hl12
 rw [hl12]
 clear UF TS hl12
 go_wp2_with fail
 refine hK.out _ _ (aD.blk (HOB.out.below Tc wO)) (fun hHeld => ?_)
 clear hK K
 (try simp only [Act.put,gP6])
 refine tkH 36 hHeld ?_
 refine tkH 37 hHeld ?_
 refine tkH 38 hHeld ?_
 refine tkH 39 hHeld ?_
 refine wpAnyH_done krA ?_ _
 go_wp2_with fail
 go_ret
 exact ⟨rfl,aa hbW Tc hbW.size⟩
end Go.Proofs.YtkiglflbngfelaaGreat
