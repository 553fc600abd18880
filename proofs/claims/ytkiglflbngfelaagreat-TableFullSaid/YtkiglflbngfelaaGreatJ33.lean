/-
  Contracts and plain laws of this seat, part 33: Plain, AwP, Aw7.
-/
import Derived.Test.YtkiglflbngfelaaGreatJ30
import Derived.Test.YtkiglflbngfelaaGreatJ25
import Derived.Test.YtkiglflbngfelaaGreatJ32
import Derived.Test.YtkiglflbngfelaaGreatJ27
import Derived.Test.YtkiglflbngfelaaGreatJ1
import Derived.Test.YtkiglflbngfelaaGreatJ2
set_option linter.unusedVariables false
set_option linter.unusedSimpArgs false
set_option maxRecDepth 100000
set_option maxHeartbeats 16000000
namespace Go.Proofs.YtkiglflbngfelaaGreat
open Go.RowKit Go
def colP0:Col:=⟨⟨#[107]⟩,1,⟨#[]⟩,⟨#[]⟩,none,0,[],0,0⟩
def colP1:Col:=⟨⟨#[118]⟩,2,⟨#[]⟩,⟨#[]⟩,none,0,[],0,0⟩
def tabPl (q:Nat):Tab:=⟨⟨#[116]⟩,some ⟨q,0,none⟩,2,[colP0,colP1],0,0⟩
theorem colP_ok (ts:List Tab) {i:Nat} {x:Col} (hi:i = 0∧x=colP0∨i = 1∧x=colP1):colErr ts [colP0,colP1] 0 0 0 i x = 0:=by
 have hr0:(!(⟨#[]⟩:ByteArray).toList.isEmpty)=false:=by decide +kernel
 have hr:(!x.refs.toList.isEmpty)=false:=by rcases hi with ⟨_,rfl⟩|⟨_,rfl⟩ <;> exact hr0
 have hn:(!x.ns.toList.isEmpty)=false:=by rcases hi with ⟨_,rfl⟩|⟨_,rfl⟩ <;> exact hr0
 have h1:cE1 x=false:=by
  have e1:nameB x.name=true:=by
   rcases hi with ⟨_,rfl⟩|⟨_,rfl⟩
   ·show nameB ⟨#[107]⟩=true;decide +kernel
   ·show nameB ⟨#[118]⟩=true;decide +kernel
  rw [cE1,e1,hn]
  rcases hi with ⟨_,rfl⟩|⟨_,rfl⟩ <;> rfl
 have h2:cE2 [colP0,colP1] i x=false:=pb_false (fun ⟨k,h,hk,he⟩=>by
  rcases hi with ⟨rfl,rfl⟩|⟨rfl,rfl⟩
  ·omega
  ·obtain rfl:k = 0:=by omega
   have he:(⟨#[107]⟩:ByteArray)=⟨#[118]⟩:=he
   exact absurd he (by decide +kernel))
 have h3 : ∀ tg,cE3 x tg=false:=fun tg=>by rw [cE3,hr];rfl
 have h4 : ∀ tg,cE4 ts x tg=false:=fun tg=>by rw [cE4,hr,Bool.and_false,Bool.false_and,Bool.or_false];rcases hi with ⟨_,rfl⟩|⟨_,rfl⟩ <;> rfl
 have h5:cE5 [colP0,colP1] x=false:=by
  have:pb (OwnersOk [colP0,colP1] x.own)=true:=pb_true (fun i h=>by rcases hi with ⟨_,rfl⟩|⟨_,rfl⟩ <;> simp [colP0,colP1] at h)
  rw [cE5,hr,this]
  rcases hi with ⟨_,rfl⟩|⟨_,rfl⟩ <;> simp [colP0,colP1,withinB]
 have h6:cE6 0 0 i x=false:=by rcases hi with ⟨rfl,rfl⟩|⟨rfl,rfl⟩ <;> rfl
 have h7 : ∀ tg,cE7 ts 0 x tg=false:=fun tg=>by rw [cE7,hr];rcases hi with ⟨_,rfl⟩|⟨_,rfl⟩ <;> rfl
 have h7' : ∀ tg,cE7 ts i x tg=false:=fun tg=>by rw [cE7,hr];rcases hi with ⟨_,rfl⟩|⟨_,rfl⟩ <;> rfl
 unfold colErr
 simp only [h1,h2,h3,h4,h5,h6,h7,h7']
 rfl
theorem catP_ok (q:Nat):CatOk [tabPl q]:=by
 refine ⟨by simp,fun i h => ?_⟩
 have h':i < 1:=by simpa using h
 obtain rfl:i = 0:=by omega
 refine ⟨?_,fun k hk=>by omega,?_⟩
 ·show nameB ⟨#[116]⟩=true
  decide +kernel
 ·show tabErr [tabPl q] 0 (tabPl q) = 0
  have hs:shapeB (tabPl q)=true:=rfl
  rw [tabErr,if_pos hs]
  refine firstErr_none fun i hi => ?_
  have hi':i < 2:=hi
  rcases (show i = 0∨i = 1 by omega) with rfl|rfl
  ·exact colP_ok _ (.inl ⟨rfl,rfl⟩)
  ·exact colP_ok _ (.inr ⟨rfl,rfl⟩)
theorem catP_sane (q:Nat):SaneCat [tabPl q]:=by
 refine ⟨by simp,fun t ht => ?_⟩
 rw [List.mem_singleton.1 ht]
 refine ⟨show 1 ≤ 1000000 by omega,show 2 ≤ 1000000 by omega,Nat.le_refl 2,fun x hx => ?_⟩
 have hx:x=colP0∨x=colP1:=by simpa [tabPl] using hx
 rcases hx with rfl|rfl
 ·exact ⟨show 1 ≤ 1000000 by omega,show 0 ≤ 1000000 by omega,show 0 ≤ 1000000 by omega,show 0 ≤ 1000000 by omega⟩
 ·exact ⟨show 1 ≤ 1000000 by omega,show 0 ≤ 1000000 by omega,show 0 ≤ 1000000 by omega,show 0 ≤ 1000000 by omega⟩
theorem law07_plain (w:World):Calls Tryz.prog 17 #[] w fun e w' =>
 (∃ A q,e = .returned (.agg #[.slice A 1 1, .slice none 0 0, .slice none 0 0, .slice none 0 0, .slice none 0 0, .slice none 0 0, .slice none 0 0, .slice none 0 0])∧TabsIn w' w'.heap.size A [tabPl q])∧Below w.heap.size w w':=by
 go_enter Tryz.func17,Tryz.ntmps17
 go_wp2_with fail
 refine abs_world (P:=fun u=>bodyPost _ _ _ _ _ u) (R:=fun u=>Blk u w.heap.size 34 #[.slice (some ⟨w.heap.size + 1 + 1,0,none⟩) 1 1, .slice none 0 0, .slice none 0 0, .slice none 0 0, .slice none 0 0, .slice none 0 0, .slice none 0 0, .slice none 0 0]∧Blk u (w.heap.size + 1) 79 ([colP0,colP1].flatMap Col.cells).toArray∧Blk u (w.heap.size + 1 + 1) 46 ([tabPl (w.heap.size + 1)].flatMap Tab.cells).toArray∧Below w.heap.size w u) ⟨?_,?_,?_,?_⟩ ?_
 ·exact ((Blk.new _ _ _).alloc _).alloc _
 ·exact ((Blk.new' spA).eq rfl).alloc _
 ·exact (Blk.new' spA).eq rfl
 ·exact belA
 rintro W ⟨hR,hC,hT,hbW⟩
 obtain ⟨p0,p1,p2,p3,p4,p5,p6,p7⟩:=Cat.blk hR
 refine bodyPost_ret (v := .agg #[.slice (some ⟨w.heap.size + 1 + 1,0,none⟩) 1 1, .slice none 0 0, .slice none 0 0, .slice none 0 0, .slice none 0 0, .slice none 0 0, .slice none 0 0, .slice none 0 0]) (by simp [results,Tryz.results17,go_sem,p0,p1,p2,p3,p4,p5,p6,p7]) rfl ⟨⟨_,w.heap.size + 1,rfl,?_,?_⟩,hbW⟩
 ·exact Blk.all tab_len hT hT.lt
 ·intro t ht
  rw [List.mem_singleton.1 ht]
  refine ⟨Blk.all col_len hC hC.lt,fun x hx => ?_⟩
  have hx:x=colP0∨x=colP1:=by simpa [tabPl] using hx
  rcases hx with rfl|rfl
  ·exact SliceIs.nil
  ·exact SliceIs.nil
open Go.RowKit Go
def vOne:Val:=⟨1,1,⟨#[]⟩⟩
def vX:Val:=⟨2,0,⟨#[120]⟩⟩
def cA (A:Option Addr) (cp:Nat):Chg:=⟨1,5,0,0,A,cp,[vOne,vX],nulV,0,nulV⟩
def cB:Chg:=⟨2,8,0,0,none,0,[],vOne,1,nulV⟩
def cC:Chg:=⟨2,9,0,0,none,0,[],vOne,0,vOne⟩
def rA:PRec:=([vOne,vX],[5,5],0)
def rB:PRec:=([vOne,nulV],[5,8],0)
theorem v_one:valB vOne=true:=by decide +kernel
theorem v_x:valB vX=true:=by decide +kernel
theorem v_nul:valB nulV=true:=by decide +kernel
theorem fixP {k:Int} (hk:k ≠ 0):pb (FixedCol [colP0,colP1] k)=false:=pb_false (fun h=>by
 rcases h with h|⟨x,hx,h⟩
 ·exact hk h
 ·have hx:x=colP0∨x=colP1:=by simpa using hx
  rcases hx with rfl|rfl <;> cases h)
theorem formA (q:Nat) (A:Option Addr) (cp:Nat):formE [tabPl q] (cA A cp) = 0:=by
 have h1:invalidB [tabPl q] (cA A cp)=false:=by
  have e:rowB [vOne,vX]=true:=by decide +kernel
  have e2:badIns 2 (cA A cp)=false:=by
   unfold badIns
   rw [show (cA A cp).row = [vOne,vX] from rfl,e]
   show (((decide (nulV≠nulV)||(0:Int) != 0)||decide (nulV≠nulV))||(2:Int) != 2 || !true)=false
   decide +kernel
  have e3:invalidB [tabPl q] (cA A cp)=(badHead 1 (cA A cp)||badIns 2 (cA A cp)):=rfl
  rw [e3,e2]
  rfl
 have h2:((keyOf (cA A cp)).kind == 0)=false:=rfl
 have h3:pb (RowTyped (colsAt [tabPl q] (cA A cp).table) (cA A cp).row)=true:=pb_true (fun i h k=>by
  have h':i < 2:=h
  rcases (show i = 0∨i = 1 by omega) with rfl|rfl <;> rfl)
 have h4:badTyp (colsAt [tabPl q] (cA A cp).table) (cA A cp)=false:=rfl
 unfold formE
 rw [h1,h2,h3,h4]
 rfl
theorem formB (q:Nat):formE [tabPl q] cB = 0:=by
 have h1:invalidB [tabPl q] cB=false:=by
  have e3:invalidB [tabPl q] cB=(badHead 1 cB||badUpd 2 cB):=rfl
  have e2:badUpd 2 cB=false:=by decide +kernel
  rw [e3,e2]
  rfl
 have h2:((keyOf cB).kind == 0)=false:=rfl
 have h3:pb (RowTyped (colsAt [tabPl q] cB.table) cB.row)=true:=pb_true (fun i h k=>by cases h)
 have h4:badTyp (colsAt [tabPl q] cB.table) cB=false:=rfl
 have h5:pb (FixedCol (colsAt [tabPl q] cB.table) cB.column)=false:=fixP (by decide)
 unfold formE
 rw [h1,h2,h3,h4,h5]
 rfl
theorem formC (q:Nat):formE [tabPl q] cC = 11:=by
 have h1:invalidB [tabPl q] cC=false:=by
  have e3:invalidB [tabPl q] cC=(badHead 1 cC||badUpd 2 cC):=rfl
  have e2:badUpd 2 cC=false:=by decide +kernel
  rw [e3,e2]
  rfl
 have h2:((keyOf cC).kind == 0)=false:=rfl
 have h3:pb (RowTyped (colsAt [tabPl q] cC.table) cC.row)=true:=pb_true (fun i h k=>by cases h)
 have h4:badTyp (colsAt [tabPl q] cC.table) cC=false:=rfl
 have h5:pb (FixedCol (colsAt [tabPl q] cC.table) cC.column)=true:=pb_true (.inl rfl)
 unfold formE
 rw [h1,h2,h3,h4,h5]
 rfl
theorem perfA (A:Option Addr) (cp:Nat):performE [[]] (cA A cp) = [[rA]]:=by
 have h:perfL [] (cA A cp) = [rA]:=by
  rw [perfL_new rfl (by have e:findP [] (keyOf (cA A cp)) = -1:=(by unfold findP;split <;> rfl);rw [e];decide) (by decide)]
  rfl
 show [perfL [] (cA A cp)] = [[rA]]
 rw [h]
theorem perfB:performE [[rA]] cB = [[rB]]:=by
 have h:perfL [rA] cB = [rB]:=by
  rw [perfL_upd (j := 0) rfl (by decide +kernel)]
  rfl
 show [perfL [rA] cB] = [[rB]]
 rw [h]
theorem replayAB (q:Nat) (A:Option Addr) (cp:Nat):replayE [tabPl q] [cA A cp,cB] = [[rB]]:=by
 unfold replayE
 simp only [List.foldl_cons,List.foldl_nil,List.length_singleton,List.replicate_one,formA,formB,if_true,perfA,perfB]
theorem replayA (q:Nat) (A:Option Addr) (cp:Nat):replayE [tabPl q] [cA A cp] = [[rA]]:=by
 unfold replayE
 simp only [List.foldl_cons,List.foldl_nil,List.length_singleton,List.replicate_one,formA,if_true,perfA]
theorem pok_one {q:Nat} {r:PRec} (h:RcdOk [colP0,colP1] r.1 r.2.1 r.2.2):POk [tabPl q] [[r]]:=by
 refine ⟨rfl,fun i hi hi' => ?_⟩
 have h1:i < 1:=hi
 obtain rfl:i = 0:=by omega
 exact ⟨by simp,fun x hx=>by rw [List.mem_singleton.1 hx];exact h,List.pairwise_singleton _ _,List.pairwise_singleton _ _⟩
theorem rA_ok:RcdOk [colP0,colP1] rA.1 rA.2.1 rA.2.2:=by
 refine ⟨rfl,rfl,rfl,fun i hi => ?_,fun _=>show (1:Int) ≠ 0 by decide⟩
 have h3:i < 2:=hi
 rcases (show i = 0∨i = 1 by omega) with rfl|rfl
 ·exact ⟨fun _=>v_one,fun _ _=>rfl,fun _=>rfl,fun _ _=>show (5:Int) ≤ 5 by decide⟩
 ·exact ⟨fun _=>v_x,fun _ _=>rfl,fun _=>rfl,fun _ _=>show (5:Int) ≤ 5 by decide⟩
theorem rB_ok:RcdOk [colP0,colP1] rB.1 rB.2.1 rB.2.2:=by
 refine ⟨rfl,rfl,rfl,fun i hi => ?_,fun _=>show (1:Int) ≠ 0 by decide⟩
 have h3:i < 2:=hi
 rcases (show i = 0∨i = 1 by omega) with rfl|rfl
 ·exact ⟨fun _=>v_one,fun _ _=>rfl,fun _=>rfl,fun _ _=>show (5:Int) ≤ 5 by decide⟩
 ·exact ⟨fun _=>v_nul,fun _ _=>rfl,fun _=>rfl,fun _ _=>show (5:Int) ≤ 8 by decide⟩
theorem pokAB (q:Nat) (A:Option Addr) (cp:Nat) : ∀ i,i ≤ 2→POk [tabPl q] (replayE [tabPl q] ([cA A cp,cB].take i)):=fun i hi=>by
 rcases (show i = 0∨i = 1∨i = 2 by omega) with rfl|rfl|rfl
 ·exact POk.zero [tabPl q]
 ·show POk [tabPl q] (replayE [tabPl q] [cA A cp])
  rw [replayA]
  exact pok_one rA_ok
 ·show POk [tabPl q] (replayE [tabPl q] [cA A cp,cB])
  rw [replayAB]
  exact pok_one rB_ok
theorem awake_tabs {q:Nat} {rt:List RTab} (h:rt.map pureT = [[rB]]):RTabsOk [tabPl q] rt:=POk.back (catP_ok q) (by rw [h];exact pok_one rB_ok)
theorem checkC {q:Nat} {rt:List RTab} (h:rt.map pureT = [[rB]]):checkE [tabPl q] rt cC = 11:=by
 rw [check_form (awake_tabs h) (by rw [formC];decide),formC]
open Go.RowKit Go
def recL (z:Nat):Rcd:=⟨some ⟨z,0,none⟩,2,[vOne,nulV],some ⟨z + 1,0,none⟩,2,[5,8],0⟩
def rtL (z:Nat):List RTab := [⟨some ⟨z + 1 + 1,0,none⟩,1,[recL z]⟩]
theorem rtL_in {w:World} {z:Nat} (hV:Blk w z 51 ([vOne,nulV].flatMap Val.cells).toArray) (hI:Blk w (z + 1) 3 ([(5:Int),8].flatMap intCells).toArray) (hR:Blk w (z + 1 + 1) 43 ([recL z].flatMap Rcd.cells).toArray) (hT:Blk w (z + 1 + 1 + 1) 40 ((rtL z).flatMap RTab.cells).toArray):RTabsIn w w.heap.size (some ⟨z + 1 + 1 + 1,0,none⟩) (rtL z):=by
 refine ⟨Blk.all rtab_len hT hT.lt,fun t ht => ?_⟩
 rw [List.mem_singleton.1 ht]
 refine ⟨Blk.all rcd_len hR hR.lt,fun r hr => ?_⟩
 rw [List.mem_singleton.1 hr]
 exact ⟨Blk.all val_len hV hV.lt,Blk.all int_len hI hI.lt⟩
theorem law07_awake (w:World):Calls Tryz.prog 13 #[] w fun e w'=>e = .returned (.bool true)∧Below w.heap.size w w':=by
 have htx:=fun u:World=>ref01_Text ⟨#[120]⟩ u
 rw [show clean ⟨2,0,⟨#[120]⟩⟩=vX from clean_yes v_x] at htx
 simp only [vX] at htx
 have HTX:=qh htx
 clear htx
 go_enter Tryz.func13,Tryz.ntmps13
 go_upto_region 2 with (go_at_call 23;(refine (int_any 1 _ omA).mono ?_);rintro e w1 ⟨rfl,hb1⟩)
 have hwz:w.heap.size≤w1.heap.size:=hb1.1.size
 have hb1':Below w.heap.size w w1:=hb1.1
 refine abs_world (P:=fun u=>Code.wp _ _ _ _ u) (R:=fun u=>Blk u w1.heap.size 51 #[.int .i64 1, .int .i64 1, .string ⟨#[]⟩]∧Below w.heap.size w u) ⟨?_,?_⟩ ?_
 ·exact Blk.new' spA
 ·exact belA
 generalize w1.heap.size=z at *
 rintro W ⟨hV,hbW⟩
 have hzV:=hV.lt
 have HV:=qh hV
 have hy0:Below W.heap.size W W.drew:=brf.drew
 clear hV
 refine wp_region_held_drew (S:=fun u=>u.cell? ⟨z,0,none⟩=some (.int .i64 1)∧u.cell? ⟨z,1,none⟩=some (.int .i64 1)∧u.cell? ⟨z,2,none⟩=some (.string ⟨#[]⟩)) krA ⟨(HV.out).cell 0,(HV.out).cell 1,(HV.out).cell 2⟩ (fun hHeld => ?_)
 refine tkH 1 hHeld ?_
 refine tkH 5 hHeld ?_
 refine tkH 6 hHeld ?_
 refine wpAnyH_ready (rs := [0]) krA spA ?_
 refine AllReadyH.cons rfl (fun K hK => ?_) AllReadyH.nil
 go_simp
 (go_at_call 17;(with_reducible refine (law07_plain _).mono ?_))
 rintro e u1 ⟨⟨CA,cq,rfl,ht1⟩,hb1⟩
 have hy1:Below W.heap.size W u1:=below_nextN hy0 hb1 hy0.size
 have HT1:=qh ht1
 clear ht1 hb1
 go_wp2_with fail
 refine hK.out _ _ ⟨((HV.out.below hy1 hzV)).cell 0,((HV.out.below hy1 hzV)).cell 1,((HV.out.below hy1 hzV)).cell 2⟩ (fun hHeld => ?_)
 clear hK K
 (try simp only [Act.put,gP6])
 refine wpAnyH_ready (rs := [2]) krA spA ?_
 refine AllReadyH.cons rfl (fun K hK => ?_) AllReadyH.nil
 go_simp
 (go_at_call 43;(with_reducible refine (HTX.out _).mono ?_))
 rintro e u2 ⟨rfl,hb2⟩
 have hb2':Below u1.heap.size u1 u2:=hb2.1
 have hy2:Below W.heap.size W u2:=below_nextN hy1 hb2' hy1.size
 have HT2:=qh (HT1.out.next hb2')
 have hz2:=hy2.size
 clear hb2 hb2' HT1
 go_wp2_with fail
 refine hK.out _ _ ⟨((HV.out.below hy2 hzV)).cell 0,((HV.out.below hy2 hzV)).cell 1,((HV.out.below hy2 hzV)).cell 2⟩ (fun hHeld => ?_)
 clear hK K
 (try simp only [Act.put,gP6])
 refine wpAnyH_ready (rs := [3]) krA spA ?_
 refine AllReadyH.cons rfl (fun K hK => ?_) AllReadyH.nil
 go_simp
 generalize hu3:World.alloc u2 _=u3
 have hV3:Blk u3 u2.heap.size 51 ([vOne,vX].flatMap Val.cells).toArray:=by rw [← hu3];exact (Blk.new' rfl).eq rfl
 have hb3:Below u2.heap.size u2 u3:=by rw [← hu3];exact belA
 have hz3:u2.heap.size<u3.heap.size:=by rw [← hu3];simp
 have hy3:Below W.heap.size W u3:=below_nextN hy2 hb3 hz2
 have HV3:=qh hV3
 have HT3:=qh (HT2.out.next hb3)
 clear hu3 hV3 hb3 HT2
 go_wp2_with fail
 refine hK.out _ _ ⟨((HV.out.below hy3 hzV)).cell 0,((HV.out.below hy3 hzV)).cell 1,((HV.out.below hy3 hzV)).cell 2⟩ (fun hHeld => ?_)
 clear hK K
 (try simp only [Act.put,gP6])
 refine tkH 4 hHeld ?_
 refine wpAnyH_ready (rs := [7]) krA spA ?_
 refine AllReadyH.cons rfl (fun K hK => ?_) AllReadyH.nil
 go_simp
 generalize hu4:World.alloc u3 _=u4
 have hL4:Blk u4 u3.heap.size 53 ([cA (some ⟨u2.heap.size,0,none⟩) 2,cB].flatMap Chg.cells).toArray:=by rw [← hu4];exact (Blk.new' rfl).eq rfl
 have hb4:Below u3.heap.size u3 u4:=by rw [← hu4];exact belA
 have hy4:Below W.heap.size W u4:=below_nextN hy3 hb4 omA
 have HT4:=qh (HT3.out.next hb4)
 have HL4:Hid (ChgsIn u4 u4.heap.size (some ⟨u3.heap.size,0,none⟩) [cA (some ⟨u2.heap.size,0,none⟩) 2,cB]):=qh ⟨Blk.all chg_len hL4 hL4.lt,fun x hx=>by
  have hx:x=cA (some ⟨u2.heap.size,0,none⟩) 2∨x=cB:=by simpa using hx
  rcases hx with rfl|rfl
  ·exact ((Blk.all val_len HV3.out HV3.out.lt).next hb4)
  ·exact SliceIs.nil⟩
 have hz4:u3.heap.size≤u4.heap.size:=hb4.size
 clear hu4 hL4 hb4 HT3 HV3
 go_wp2_with fail
 refine hK.out _ _ ⟨((HV.out.below hy4 hzV)).cell 0,((HV.out.below hy4 hzV)).cell 1,((HV.out.below hy4 hzV)).cell 2⟩ (fun hHeld => ?_)
 clear hK K
 (try simp only [Act.put,gP6])
 refine wpAnyH_ready (rs := [8]) krA spA ?_
 refine AllReadyH.cons rfl (fun K hK => ?_) AllReadyH.nil
 go_simp
 (go_at_call 11;(with_reducible refine (tab_Replay CA 1 1 [tabPl cq] (some ⟨u3.heap.size,0,none⟩) 2 2 [cA (some ⟨u2.heap.size,0,none⟩) 2,cB] _ HT4.out rfl (catP_sane _) (catP_ok _) HL4.out rfl (by decide) (by simp [cA,cB]) (pokAB _ _ _)).mono ?_))
 rintro e u5 ⟨⟨rq,rt,rfl,hrl,hrt,hru,hpu⟩,hb5⟩
 have hpu2:rt.map pureT = [[rB]]:=by rw [hpu,replayAB]
 have hy5:Below W.heap.size W u5:=below_nextN hy4 hb5 hy4.size
 have HRT:=qh hrt
 have HRL:=qh hrl
 have HPU:=qh hpu2
 have hz5:=hb5.size
 clear hrt hrl hru hpu hpu2 hb5 HT4 HL4
 go_wp2_with fail
 refine hK.out _ _ ⟨((HV.out.below hy5 hzV)).cell 0,((HV.out.below hy5 hzV)).cell 1,((HV.out.below hy5 hzV)).cell 2⟩ (fun hHeld => ?_)
 clear hK K
 (try simp only [Act.put,gP6])
 refine tkH 9 hHeld ?_
 refine wpAnyH_done krA ?_ _
 clear hHeld
 have hsane:SaneR rt:=((awake_tabs (q := 0) HPU.out).shape).sane (catP_ok 0)
 have HSN:=qh hsane
 have v0:=(HV.out.below hy5 hzV).cell 0
 have v1:=(HV.out.below hy5 hzV).cell 1
 have v2:=(HV.out.below hy5 hzV).cell 2
 simp only [gE3] at v0 v1 v2
 clear hsane
 have HPE:Hid (rt.map pureT=(rtL u5.heap.size).map pureT):=qh (HPU.out.trans rfl)
 go_upto_region 5 with (go_at_call 22;generalize hu6:World.alloc (World.alloc (World.alloc (World.alloc u5 _) _) _) _=u6;have hb6:Below u5.heap.size u5 u6:=(by rw [← hu6];exact belA);have hLT:RTabsIn u6 u6.heap.size (some ⟨u5.heap.size + 1 + 1 + 1,0,none⟩) (rtL u5.heap.size):=rtL_in (by rw [← hu6];exact ((((Blk.new' rfl).eq rfl).alloc _).alloc _).alloc _) (by rw [← hu6];exact (((Blk.new' spA).eq rfl).alloc _).alloc _) (by rw [← hu6];exact ((Blk.new' spA).eq rfl).alloc _) (by rw [← hu6];exact (Blk.new' spA).eq rfl);have HLT:=qh hLT;clear hu6 hLT;(with_reducible refine (ref07_Same (some ⟨rq,0,none⟩) (some ⟨u5.heap.size + 1 + 1 + 1,0,none⟩) 1 1 1 1 rt (rtL u5.heap.size) _ (HRT.out.next hb6) HLT.out HRL.out rfl HSN.out HPE.out).mono ?_);rintro e u7 ⟨rfl,hb7⟩)
 have hy6:Below W.heap.size W u6:=below_nextN hy5 hb6 hy5.size
 have hy7:Below W.heap.size W u7:=below_nextN hy6 hb7 hy6.size
 have HRT7:=qh ((HRT.out.next hb6).next hb7)
 have hdr:Below u7.heap.size u7 u7.drew:=brf.drew
 have hy7':Below W.heap.size W u7.drew:=below_nextN hy7 hdr hy7.size
 clear v0 v1 v2 hb6 hb7 HRT
 refine wp_region_held_drew (S:=fun u=>u.cell? ⟨z,0,none⟩=some (.int .i64 1)∧u.cell? ⟨z,1,none⟩=some (.int .i64 1)∧u.cell? ⟨z,2,none⟩=some (.string ⟨#[]⟩)) krA ⟨((HV.out.below hy7 hzV)).cell 0,((HV.out.below hy7 hzV)).cell 1,((HV.out.below hy7 hzV)).cell 2⟩ (fun hHeld => ?_)
 refine tkH 1 hHeld ?_
 refine tkH 2 hHeld ?_
 refine tkH 3 hHeld ?_
 refine tkH 4 hHeld ?_
 refine wpAnyH_ready (rs := [0]) krA spA ?_
 refine AllReadyH.cons rfl (fun K hK => ?_) AllReadyH.nil
 go_simp
 (go_at_call 17;(with_reducible refine (law07_plain _).mono ?_))
 rintro e u8 ⟨⟨CB,cr,rfl,ht8⟩,hb8⟩
 have hb8':Below u7.heap.size u7 u8:=hdr.trans hb8
 have hy8:Below W.heap.size W u8:=below_nextN hy7 hb8' hy7.size
 have hck:=tab_CheckX CB 1 1 [tabPl cr] (some ⟨rq,0,none⟩) 1 1 rt 2 9 0 0 none 0 [] vOne 0 vOne u8 ht8 rfl (catP_sane _) (catP_ok _) (HRT7.out.next hb8') HRL.out HSN.out SliceIs.nil spA (checkC HPU.out)
 simp only [List.length_nil,vOne] at hck
 have HCK:=qh hck
 clear hck ht8 hb8
 go_wp2_with fail
 refine hK.out _ _ ⟨((HV.out.below hy8 hzV)).cell 0,((HV.out.below hy8 hzV)).cell 1,((HV.out.below hy8 hzV)).cell 2⟩ (fun hHeld => ?_)
 clear hK K
 (try simp only [Act.put,gP6])
 refine wpAnyH_ready (rs := [5]) krA spA ?_
 refine AllReadyH.cons rfl (fun K hK => ?_) AllReadyH.nil
 go_simp
 (go_at_call 44;(with_reducible refine HCK.out.mono ?_))
 rintro e u9 ⟨rfl,hb9⟩
 have hy9:Below W.heap.size W u9:=below_nextN hy8 hb9 hy8.size
 clear hb9
 go_wp2_with fail
 refine hK.out _ _ ⟨((HV.out.below hy9 hzV)).cell 0,((HV.out.below hy9 hzV)).cell 1,((HV.out.below hy9 hzV)).cell 2⟩ (fun hHeld => ?_)
 clear hK K
 (try simp only [Act.put,gP6])
 refine tkH 6 hHeld ?_
 refine tkH 7 hHeld ?_
 refine wpAnyH_done krA ?_ _
 clear hHeld
 go_wp2_with fail
 go_ret
 exact ⟨rfl,below_nextN hbW hy9 hbW.size⟩
end Go.Proofs.YtkiglflbngfelaaGreat
