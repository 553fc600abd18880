/-
  Contracts and plain laws of this seat, part 33: Plain, AwP, Aw7.
-/
import Derived.Test.YtkiglflbngfelaaGreatPSup
import Derived.Test.YtkiglflbngfelaaGreatQ21
import Derived.Test.YtkiglflbngfelaaGreatP30
import Derived.Test.YtkiglflbngfelaaGreatQ25
import Derived.Test.YtkiglflbngfelaaGreatP32
import Derived.Test.YtkiglflbngfelaaGreatP27
import Derived.Test.YtkiglflbngfelaaGreatQ1
import Derived.Test.YtkiglflbngfelaaGreatQ2
set_option linter.unusedVariables false
set_option linter.unusedSimpArgs false
set_option maxRecDepth 100000
set_option maxHeartbeats 16000000
namespace Go.Proofs.YtkiglflbngfelaaGreat
open Go.RowKit Go
def colP0:Col:=⟨⟨#[107]⟩,1,⟨#[]⟩,⟨#[]⟩,none,0,[],0,0⟩
def colP1:Col:=⟨⟨#[118]⟩,2,⟨#[]⟩,⟨#[]⟩,none,0,[],0,0⟩
def tabPl (q:Nat):Tab:=⟨⟨#[116]⟩,some ⟨q,0,none⟩,2,[colP0,colP1],0,0⟩
theorem colP_ok (ts:List Tab) {i:Nat} {x:Col} (hi:i = 0∧x=colP0∨i = 1∧x=colP1):bY ts [colP0,colP1] 0 0 0 i x = 0:=by
 have hr0:(!(⟨#[]⟩:ByteArray).toList.isEmpty)=false:=by decide +kernel
 have hr:(!x.refs.toList.isEmpty)=false:=by rcases hi with ⟨_,rfl⟩|⟨_,rfl⟩ <;> exact hr0
 have hn:(!x.ns.toList.isEmpty)=false:=by rcases hi with ⟨_,rfl⟩|⟨_,rfl⟩ <;> exact hr0
 have h1:cE1 x=false:=by
  have e1:dW x.name=true:=by
   rcases hi with ⟨_,rfl⟩|⟨_,rfl⟩
   ·show dW ⟨#[107]⟩=true;decide +kernel
   ·show dW ⟨#[118]⟩=true;decide +kernel
  rw [cE1,e1,hn]
  rcases hi with ⟨_,rfl⟩|⟨_,rfl⟩ <;> rfl
 have h2:cE2 [colP0,colP1] i x=false:=aN (fun ⟨k,h,hk,he⟩=>by
  rcases hi with ⟨rfl,rfl⟩|⟨rfl,rfl⟩
  ·omega
  ·obtain rfl:k = 0:=by omega
   have he:(⟨#[107]⟩:ByteArray)=⟨#[118]⟩:=he
   exact absurd he (by decide +kernel))
 have h3 : ∀ tg,cE3 x tg=false:=fun tg=>by rw [cE3,hr];rfl
 have h4 : ∀ tg,cE4 ts x tg=false:=fun tg=>by rw [cE4,hr,Bool.and_false,Bool.false_and,Bool.or_false];rcases hi with ⟨_,rfl⟩|⟨_,rfl⟩ <;> rfl
 have h5:cE5 [colP0,colP1] x=false:=by
  have:pb (fI [colP0,colP1] x.own)=true:=aT (fun i h=>by rcases hi with ⟨_,rfl⟩|⟨_,rfl⟩ <;> simp [colP0,colP1] at h)
  rw [cE5,hr,this]
  rcases hi with ⟨_,rfl⟩|⟨_,rfl⟩ <;> simp [colP0,colP1,aB]
 have h6:cE6 0 0 i x=false:=by rcases hi with ⟨rfl,rfl⟩|⟨rfl,rfl⟩ <;> rfl
 have h7 : ∀ tg,cE7 ts 0 x tg=false:=fun tg=>by rw [cE7,hr];rcases hi with ⟨_,rfl⟩|⟨_,rfl⟩ <;> rfl
 have h7' : ∀ tg,cE7 ts i x tg=false:=fun tg=>by rw [cE7,hr];rcases hi with ⟨_,rfl⟩|⟨_,rfl⟩ <;> rfl
 unfold bY
 simp only [h1,h2,h3,h4,h5,h6,h7,h7']
 rfl
theorem catP_ok (q:Nat):aV [tabPl q]:=by
 refine ⟨by simp,fun i h => ?_⟩
 have h':i < 1:=by simpa using h
 obtain rfl:i = 0:=by omega
 refine ⟨?_,fun k hk=>by omega,?_⟩
 ·show dW ⟨#[116]⟩=true
  decide +kernel
 ·show jg [tabPl q] 0 (tabPl q) = 0
  have hs:jh (tabPl q)=true:=rfl
  rw [jg,if_pos hs]
  refine gZ fun i hi => ?_
  have hi':i < 2:=hi
  rcases (show i = 0∨i = 1 by omega) with rfl|rfl
  ·exact colP_ok _ (.inl ⟨rfl,rfl⟩)
  ·exact colP_ok _ (.inr ⟨rfl,rfl⟩)
theorem catP_sane (q:Nat):aQ [tabPl q]:=by
 refine ⟨by simp,fun t ht => ?_⟩
 rw [List.mem_singleton.1 ht]
 refine ⟨show 1 ≤ 1000000 by omega,show 2 ≤ 1000000 by omega,Nat.le_refl 2,fun x hx => ?_⟩
 have hx:x=colP0∨x=colP1:=by simpa [tabPl] using hx
 rcases hx with rfl|rfl
 ·exact ⟨show 1 ≤ 1000000 by omega,show 0 ≤ 1000000 by omega,show 0 ≤ 1000000 by omega,show 0 ≤ 1000000 by omega⟩
 ·exact ⟨show 1 ≤ 1000000 by omega,show 0 ≤ 1000000 by omega,show 0 ≤ 1000000 by omega,show 0 ≤ 1000000 by omega⟩
theorem law07_plain (w:World):Calls Tryz.prog 17 #[] w fun e w' =>
 (∃ A q,e = .returned (.agg #[.slice A 1 1, .slice none 0 0, .slice none 0 0, .slice none 0 0, .slice none 0 0, .slice none 0 0, .slice none 0 0, .slice none 0 0])∧aK w' w'.heap.size A [tabPl q])∧Below w.heap.size w w':=by
 go_enter Tryz.func17,Tryz.ntmps17
 go_wp2_with fail
 refine ah (P:=fun u=>bodyPost _ _ _ _ _ u) (R:=fun u=>Blk u w.heap.size 34 #[.slice (some ⟨w.heap.size + 1 + 1,0,none⟩) 1 1, .slice none 0 0, .slice none 0 0, .slice none 0 0, .slice none 0 0, .slice none 0 0, .slice none 0 0, .slice none 0 0]∧Blk u (w.heap.size + 1) 79 ([colP0,colP1].flatMap Col.cells).toArray∧Blk u (w.heap.size + 1 + 1) 46 ([tabPl (w.heap.size + 1)].flatMap Tab.cells).toArray∧Below w.heap.size w u) ⟨?_,?_,?_,?_⟩ ?_
 ·exact ((Blk.new _ _ _).alloc _).alloc _
 ·exact ((Blk.new' spA).eq rfl).alloc _
 ·exact (Blk.new' spA).eq rfl
 ·exact au
 rintro W ⟨hR,hC,hT,hbW⟩
 obtain ⟨p0,p1,p2,p3,p4,p5,p6,p7⟩:=Cat.blk hR
 refine bodyPost_ret (v := .agg #[.slice (some ⟨w.heap.size + 1 + 1,0,none⟩) 1 1, .slice none 0 0, .slice none 0 0, .slice none 0 0, .slice none 0 0, .slice none 0 0, .slice none 0 0, .slice none 0 0]) (by simp [results,Tryz.results17,go_sem,p0,p1,p2,p3,p4,p5,p6,p7]) rfl ⟨⟨_,w.heap.size + 1,rfl,?_,?_⟩,hbW⟩
 ·exact Blk.all jy hT hT.lt
 ·intro t ht
  rw [List.mem_singleton.1 ht]
  refine ⟨Blk.all fw hC hC.lt,fun x hx => ?_⟩
  have hx:x=colP0∨x=colP1:=by simpa [tabPl] using hx
  rcases hx with rfl|rfl
  ·exact ag.nil
  ·exact ag.nil
open Go.RowKit Go
def vOne:Val:=⟨1,1,⟨#[]⟩⟩
def aag:Val:=⟨2,0,⟨#[120]⟩⟩
def cA (A:Option Addr) (cp:Nat):Chg:=⟨1,5,0,0,A,cp,[vOne,aag],gM,0,gM⟩
def aac:Chg:=⟨2,8,0,0,none,0,[],vOne,1,gM⟩
def cC:Chg:=⟨2,9,0,0,none,0,[],vOne,0,vOne⟩
def aad:bB:=([vOne,aag],[5,5],0)
def rB:bB:=([vOne,gM],[5,8],0)
theorem v_one:bM vOne=true:=by decide +kernel
theorem v_x:bM aag=true:=by decide +kernel
theorem v_nul:bM gM=true:=by decide +kernel
theorem fixP {k:Int} (hk:k ≠ 0):pb (dD [colP0,colP1] k)=false:=aN (fun h=>by
 rcases h with h|⟨x,hx,h⟩
 ·exact hk h
 ·have hx:x=colP0∨x=colP1:=by simpa using hx
  rcases hx with rfl|rfl <;> cases h)
theorem formA (q:Nat) (A:Option Addr) (cp:Nat):cu [tabPl q] (cA A cp) = 0:=by
 have h1:bG [tabPl q] (cA A cp)=false:=by
  have e:wI [vOne,aag]=true:=by decide +kernel
  have e2:dU 2 (cA A cp)=false:=by
   unfold dU
   rw [show (cA A cp).row = [vOne,aag] from rfl,e]
   show (((decide (gM≠gM)||(0:Int) != 0)||decide (gM≠gM))||(2:Int) != 2 || !true)=false
   decide +kernel
  have e3:bG [tabPl q] (cA A cp)=(fA 1 (cA A cp)||dU 2 (cA A cp)):=rfl
  rw [e3,e2]
  rfl
 have h2:((keyOf (cA A cp)).kind == 0)=false:=rfl
 have h3:pb (fZ (dh [tabPl q] (cA A cp).table) (cA A cp).row)=true:=aT (fun i h k=>by
  have h':i < 2:=h
  rcases (show i = 0∨i = 1 by omega) with rfl|rfl <;> rfl)
 have h4:iR (dh [tabPl q] (cA A cp).table) (cA A cp)=false:=rfl
 unfold cu
 rw [h1,h2,h3,h4]
 rfl
theorem formB (q:Nat):cu [tabPl q] aac = 0:=by
 have h1:bG [tabPl q] aac=false:=by
  have e3:bG [tabPl q] aac=(fA 1 aac||dM 2 aac):=rfl
  have e2:dM 2 aac=false:=by decide +kernel
  rw [e3,e2]
  rfl
 have h2:((keyOf aac).kind == 0)=false:=rfl
 have h3:pb (fZ (dh [tabPl q] aac.table) aac.row)=true:=aT (fun i h k=>by cases h)
 have h4:iR (dh [tabPl q] aac.table) aac=false:=rfl
 have h5:pb (dD (dh [tabPl q] aac.table) aac.column)=false:=fixP (by decide)
 unfold cu
 rw [h1,h2,h3,h4,h5]
 rfl
theorem formC (q:Nat):cu [tabPl q] cC = 11:=by
 have h1:bG [tabPl q] cC=false:=by
  have e3:bG [tabPl q] cC=(fA 1 cC||dM 2 cC):=rfl
  have e2:dM 2 cC=false:=by decide +kernel
  rw [e3,e2]
  rfl
 have h2:((keyOf cC).kind == 0)=false:=rfl
 have h3:pb (fZ (dh [tabPl q] cC.table) cC.row)=true:=aT (fun i h k=>by cases h)
 have h4:iR (dh [tabPl q] cC.table) cC=false:=rfl
 have h5:pb (dD (dh [tabPl q] cC.table) cC.column)=true:=aT (.inl rfl)
 unfold cu
 rw [h1,h2,h3,h4,h5]
 rfl
theorem perfA (A:Option Addr) (cp:Nat):aU [[]] (cA A cp) = [[aad]]:=by
 have h:dn [] (cA A cp) = [aad]:=by
  rw [uV rfl (by have e:dS [] (keyOf (cA A cp)) = -1:=(by unfold dS;split <;> rfl);rw [e];decide) (by decide)]
  rfl
 show [dn [] (cA A cp)] = [[aad]]
 rw [h]
theorem perfB:aU [[aad]] aac = [[rB]]:=by
 have h:dn [aad] aac = [rB]:=by
  rw [uU (j := 0) rfl (by decide +kernel)]
  rfl
 show [dn [aad] aac] = [[rB]]
 rw [h]
theorem replayAB (q:Nat) (A:Option Addr) (cp:Nat):eD [tabPl q] [cA A cp,aac] = [[rB]]:=by
 unfold eD
 simp only [List.foldl_cons,List.foldl_nil,List.length_singleton,List.replicate_one,formA,formB,if_true,perfA,perfB]
theorem replayA (q:Nat) (A:Option Addr) (cp:Nat):eD [tabPl q] [cA A cp] = [[aad]]:=by
 unfold eD
 simp only [List.foldl_cons,List.foldl_nil,List.length_singleton,List.replicate_one,formA,if_true,perfA]
theorem pok_one {q:Nat} {r:bB} (h:gB [colP0,colP1] r.1 r.2.1 r.2.2):POk [tabPl q] [[r]]:=by
 refine ⟨rfl,fun i hi hi' => ?_⟩
 have h1:i < 1:=hi
 obtain rfl:i = 0:=by omega
 exact ⟨by simp,fun x hx=>by rw [List.mem_singleton.1 hx];exact h,List.pairwise_singleton _ _,List.pairwise_singleton _ _⟩
theorem rA_ok:gB [colP0,colP1] aad.1 aad.2.1 aad.2.2:=by
 refine ⟨rfl,rfl,rfl,fun i hi => ?_,fun _=>show (1:Int) ≠ 0 by decide⟩
 have h3:i < 2:=hi
 rcases (show i = 0∨i = 1 by omega) with rfl|rfl
 ·exact ⟨fun _=>v_one,fun _ _=>rfl,fun _=>rfl,fun _ _=>show (5:Int) ≤ 5 by decide⟩
 ·exact ⟨fun _=>v_x,fun _ _=>rfl,fun _=>rfl,fun _ _=>show (5:Int) ≤ 5 by decide⟩
theorem rB_ok:gB [colP0,colP1] rB.1 rB.2.1 rB.2.2:=by
 refine ⟨rfl,rfl,rfl,fun i hi => ?_,fun _=>show (1:Int) ≠ 0 by decide⟩
 have h3:i < 2:=hi
 rcases (show i = 0∨i = 1 by omega) with rfl|rfl
 ·exact ⟨fun _=>v_one,fun _ _=>rfl,fun _=>rfl,fun _ _=>show (5:Int) ≤ 5 by decide⟩
 ·exact ⟨fun _=>v_nul,fun _ _=>rfl,fun _=>rfl,fun _ _=>show (5:Int) ≤ 8 by decide⟩
theorem pokAB (q:Nat) (A:Option Addr) (cp:Nat) : ∀ i,i ≤ 2→POk [tabPl q] (eD [tabPl q] ([cA A cp,aac].take i)):=fun i hi=>by
 rcases (show i = 0∨i = 1∨i = 2 by omega) with rfl|rfl|rfl
 ·exact POk.zero [tabPl q]
 ·show POk [tabPl q] (eD [tabPl q] [cA A cp])
  rw [replayA]
  exact pok_one rA_ok
 ·show POk [tabPl q] (eD [tabPl q] [cA A cp,aac])
  rw [replayAB]
  exact pok_one rB_ok
theorem awake_tabs {q:Nat} {rt:List RTab} (h:rt.map ax = [[rB]]):aO [tabPl q] rt:=POk.back (catP_ok q) (by rw [h];exact pok_one rB_ok)
theorem checkC {q:Nat} {rt:List RTab} (h:rt.map ax = [[rB]]):dZ [tabPl q] rt cC = 11:=by
 rw [Gy (awake_tabs h) (by rw [formC];decide),formC]
open Go.RowKit Go
def recL (z:Nat):Rcd:=⟨some ⟨z,0,none⟩,2,[vOne,gM],some ⟨z + 1,0,none⟩,2,[5,8],0⟩
def rtL (z:Nat):List RTab := [⟨some ⟨z + 1 + 1,0,none⟩,1,[recL z]⟩]
theorem rtL_in {w:World} {z:Nat} (hV:Blk w z 51 ([vOne,gM].flatMap Val.cells).toArray) (hI:Blk w (z + 1) 3 ([(5:Int),8].flatMap intCells).toArray) (hR:Blk w (z + 1 + 1) 43 ([recL z].flatMap Rcd.cells).toArray) (hT:Blk w (z + 1 + 1 + 1) 40 ((rtL z).flatMap RTab.cells).toArray):aP w w.heap.size (some ⟨z + 1 + 1 + 1,0,none⟩) (rtL z):=by
 refine ⟨Blk.all bL hT hT.lt,fun t ht => ?_⟩
 rw [List.mem_singleton.1 ht]
 refine ⟨Blk.all bn hR hR.lt,fun r hr => ?_⟩
 rw [List.mem_singleton.1 hr]
 exact ⟨Blk.all dA hV hV.lt,Blk.all bq hI hI.lt⟩
theorem law07_awake (w:World):Calls Tryz.prog 13 #[] w fun e w'=>e = .returned (.bool true)∧Below w.heap.size w w':=by
 have htx:=fun u:World=>Fy ⟨#[120]⟩ u
 rw [show clean ⟨2,0,⟨#[120]⟩⟩=aag from nU v_x] at htx
 simp only [aag] at htx
 have HTX:=qh htx
 clear htx
 go_enter Tryz.func13,Tryz.ntmps13
 go_upto_region 2 with (go_at_call 23;(refine (NW 1 _ omA).mono ?_);rintro e w1 ⟨rfl,hb1⟩)
 have hwz:w.heap.size≤w1.heap.size:=hb1.1.size
 have hb1':Below w.heap.size w w1:=hb1.1
 refine ah (P:=fun u=>Code.wp _ _ _ _ u) (R:=fun u=>Blk u w1.heap.size 51 #[.int .i64 1, .int .i64 1, .string ⟨#[]⟩]∧Below w.heap.size w u) ⟨?_,?_⟩ ?_
 ·exact Blk.new' spA
 ·exact au
 generalize w1.heap.size=z at *
 rintro W ⟨hV,hbW⟩
 have hzV:=hV.lt
 have HV:=qh hV
 have hy0:Below W.heap.size W W.drew:=brf.drew
 clear hV
 refine wp_region_held_drew (S:=fun u=>u.cell? ⟨z,0,none⟩=some (.int .i64 1)∧u.cell? ⟨z,1,none⟩=some (.int .i64 1)∧u.cell? ⟨z,2,none⟩=some (.string ⟨#[]⟩)) krA ⟨(HV.out).cell 0,(HV.out).cell 1,(HV.out).cell 2⟩ (fun hHeld => ?_)
 refine tkH 1 hHeld ?_
 refine tkH 5 hHeld ?_
 refine tkH 6 hHeld ?_
 refine wpAnyH_ready (rs := [0]) krA spA ?_
 refine AllReadyH.cons rfl (fun K hK => ?_) AllReadyH.nil
 go_simp
 (go_at_call 17;(with_reducible refine (law07_plain _).mono ?_))
 rintro e u1 ⟨⟨CA,cq,rfl,ht1⟩,hb1⟩
 have hy1:Below W.heap.size W u1:=aa hy0 hb1 hy0.size
 have HT1:=qh ht1
 clear ht1 hb1
 go_wp2_with fail
 refine hK.out _ _ ⟨((HV.out.below hy1 hzV)).cell 0,((HV.out.below hy1 hzV)).cell 1,((HV.out.below hy1 hzV)).cell 2⟩ (fun hHeld => ?_)
 clear hK K
 (try simp only [Act.put,gP6])
 refine wpAnyH_ready (rs := [2]) krA spA ?_
 refine AllReadyH.cons rfl (fun K hK => ?_) AllReadyH.nil
 go_simp
 (go_at_call 43;(with_reducible refine (HTX.out _).mono ?_))
 rintro e u2 ⟨rfl,hb2⟩
 have hb2':Below u1.heap.size u1 u2:=hb2.1
 have hy2:Below W.heap.size W u2:=aa hy1 hb2' hy1.size
 have HT2:=qh (HT1.out.next hb2')
 have hz2:=hy2.size
 clear hb2 hb2' HT1
 go_wp2_with fail
 refine hK.out _ _ ⟨((HV.out.below hy2 hzV)).cell 0,((HV.out.below hy2 hzV)).cell 1,((HV.out.below hy2 hzV)).cell 2⟩ (fun hHeld => ?_)
 clear hK K
 (try simp only [Act.put,gP6])
 refine wpAnyH_ready (rs := [3]) krA spA ?_
 refine AllReadyH.cons rfl (fun K hK => ?_) AllReadyH.nil
 go_simp
 generalize hu3:World.alloc u2 _=u3
 have hV3:Blk u3 u2.heap.size 51 ([vOne,aag].flatMap Val.cells).toArray:=by rw [← hu3];exact (Blk.new' rfl).eq rfl
 have hb3:Below u2.heap.size u2 u3:=by rw [← hu3];exact au
 have hz3:u2.heap.size<u3.heap.size:=by rw [← hu3];simp
 have hy3:Below W.heap.size W u3:=aa hy2 hb3 hz2
 have HV3:=qh hV3
 have HT3:=qh (HT2.out.next hb3)
 clear hu3 hV3 hb3 HT2
 go_wp2_with fail
 refine hK.out _ _ ⟨((HV.out.below hy3 hzV)).cell 0,((HV.out.below hy3 hzV)).cell 1,((HV.out.below hy3 hzV)).cell 2⟩ (fun hHeld => ?_)
 clear hK K
 (try simp only [Act.put,gP6])
 refine tkH 4 hHeld ?_
 refine wpAnyH_ready (rs := [7]) krA spA ?_
 refine AllReadyH.cons rfl (fun K hK => ?_) AllReadyH.nil
 go_simp
 generalize hu4:World.alloc u3 _=u4
 have hL4:Blk u4 u3.heap.size 53 ([cA (some ⟨u2.heap.size,0,none⟩) 2,aac].flatMap Chg.cells).toArray:=by rw [← hu4];exact (Blk.new' rfl).eq rfl
 have hb4:Below u3.heap.size u3 u4:=by rw [← hu4];exact au
 have hy4:Below W.heap.size W u4:=aa hy3 hb4 omA
 have HT4:=qh (HT3.out.next hb4)
 have HL4:Hid (jv u4 u4.heap.size (some ⟨u3.heap.size,0,none⟩) [cA (some ⟨u2.heap.size,0,none⟩) 2,aac]):=qh ⟨Blk.all qP hL4 hL4.lt,fun x hx=>by
  have hx:x=cA (some ⟨u2.heap.size,0,none⟩) 2∨x=aac:=by simpa using hx
  rcases hx with rfl|rfl
  ·exact ((Blk.all dA HV3.out HV3.out.lt).next hb4)
  ·exact ag.nil⟩
 have hz4:u3.heap.size≤u4.heap.size:=hb4.size
 clear hu4 hL4 hb4 HT3 HV3
 go_wp2_with fail
 refine hK.out _ _ ⟨((HV.out.below hy4 hzV)).cell 0,((HV.out.below hy4 hzV)).cell 1,((HV.out.below hy4 hzV)).cell 2⟩ (fun hHeld => ?_)
 clear hK K
 (try simp only [Act.put,gP6])
 refine wpAnyH_ready (rs := [8]) krA spA ?_
 refine AllReadyH.cons rfl (fun K hK => ?_) AllReadyH.nil
 go_simp
 (go_at_call 11;(with_reducible refine (tab_Replay CA 1 1 [tabPl cq] (some ⟨u3.heap.size,0,none⟩) 2 2 [cA (some ⟨u2.heap.size,0,none⟩) 2,aac] _ HT4.out rfl (catP_sane _) (catP_ok _) HL4.out rfl (by decide) (by simp [cA,aac]) (pokAB _ _ _)).mono ?_))
 rintro e u5 ⟨⟨aae,rt,rfl,hrl,hrt,hru,hpu⟩,hb5⟩
 have TL:rt.map ax = [[rB]]:=by rw [hpu,replayAB]
 have hy5:Below W.heap.size W u5:=aa hy4 hb5 hy4.size
 have HRT:=qh hrt
 have HRL:=qh hrl
 have HPU:=qh TL
 have hz5:=hb5.size
 clear hrt hrl hru hpu TL hb5 HT4 HL4
 go_wp2_with fail
 refine hK.out _ _ ⟨((HV.out.below hy5 hzV)).cell 0,((HV.out.below hy5 hzV)).cell 1,((HV.out.below hy5 hzV)).cell 2⟩ (fun hHeld => ?_)
 clear hK K
 (try simp only [Act.put,gP6])
 refine tkH 9 hHeld ?_
 refine wpAnyH_done krA ?_ _
 clear hHeld
 have Pt:fV rt:=((awake_tabs (q := 0) HPU.out).shape).sD (catP_ok 0)
 have HSN:=qh Pt
 have v0:=(HV.out.below hy5 hzV).cell 0
 have v1:=(HV.out.below hy5 hzV).cell 1
 have v2:=(HV.out.below hy5 hzV).cell 2
 simp only [gE3] at v0 v1 v2
 clear Pt
 have HPE:Hid (rt.map ax=(rtL u5.heap.size).map ax):=qh (HPU.out.trans rfl)
 go_upto_region 5 with (go_at_call 22;generalize hu6:World.alloc (World.alloc (World.alloc (World.alloc u5 _) _) _) _=u6;have hb6:Below u5.heap.size u5 u6:=(by rw [← hu6];exact au);have hLT:aP u6 u6.heap.size (some ⟨u5.heap.size + 1 + 1 + 1,0,none⟩) (rtL u5.heap.size):=rtL_in (by rw [← hu6];exact ((((Blk.new' rfl).eq rfl).alloc _).alloc _).alloc _) (by rw [← hu6];exact (((Blk.new' spA).eq rfl).alloc _).alloc _) (by rw [← hu6];exact ((Blk.new' spA).eq rfl).alloc _) (by rw [← hu6];exact (Blk.new' spA).eq rfl);have HLT:=qh hLT;clear hu6 hLT;(with_reducible refine (Fv (some ⟨aae,0,none⟩) (some ⟨u5.heap.size + 1 + 1 + 1,0,none⟩) 1 1 1 1 rt (rtL u5.heap.size) _ (HRT.out.next hb6) HLT.out HRL.out rfl HSN.out HPE.out).mono ?_);rintro e aaf ⟨rfl,hb7⟩)
 have hy6:Below W.heap.size W u6:=aa hy5 hb6 hy5.size
 have hy7:Below W.heap.size W aaf:=aa hy6 hb7 hy6.size
 have HRT7:=qh ((HRT.out.next hb6).next hb7)
 have hdr:Below aaf.heap.size aaf aaf.drew:=brf.drew
 have hy7':Below W.heap.size W aaf.drew:=aa hy7 hdr hy7.size
 clear v0 v1 v2 hb6 hb7 HRT
 refine wp_region_held_drew (S:=fun u=>u.cell? ⟨z,0,none⟩=some (.int .i64 1)∧u.cell? ⟨z,1,none⟩=some (.int .i64 1)∧u.cell? ⟨z,2,none⟩=some (.string ⟨#[]⟩)) krA ⟨((HV.out.below hy7 hzV)).cell 0,((HV.out.below hy7 hzV)).cell 1,((HV.out.below hy7 hzV)).cell 2⟩ (fun hHeld => ?_)
 refine tkH 1 hHeld ?_
 refine tkH 2 hHeld ?_
 refine tkH 3 hHeld ?_
 refine tkH 4 hHeld ?_
 refine wpAnyH_ready (rs := [0]) krA spA ?_
 refine AllReadyH.cons rfl (fun K hK => ?_) AllReadyH.nil
 go_simp
 (go_at_call 17;(with_reducible refine (law07_plain _).mono ?_))
 rintro e u8 ⟨⟨aaa,cr,rfl,ht8⟩,hb8⟩
 have hb8':Below aaf.heap.size aaf u8:=hdr.trans hb8
 have hy8:Below W.heap.size W u8:=aa hy7 hb8' hy7.size
 have hck:=tab_CheckX aaa 1 1 [tabPl cr] (some ⟨aae,0,none⟩) 1 1 rt 2 9 0 0 none 0 [] vOne 0 vOne u8 ht8 rfl (catP_sane _) (catP_ok _) (HRT7.out.next hb8') HRL.out HSN.out ag.nil spA (checkC HPU.out)
 simp only [List.length_nil,vOne] at hck
 have HCK:=qh hck
 clear hck ht8 hb8
 go_wp2_with fail
 refine hK.out _ _ ⟨((HV.out.below hy8 hzV)).cell 0,((HV.out.below hy8 hzV)).cell 1,((HV.out.below hy8 hzV)).cell 2⟩ (fun hHeld => ?_)
 clear hK K
 (try simp only [Act.put,gP6])
 refine wpAnyH_ready (rs := [5]) krA spA ?_
 refine AllReadyH.cons rfl (fun K hK => ?_) AllReadyH.nil
 go_simp
 (go_at_call 44;(with_reducible refine HCK.out.mono ?_))
 rintro e u9 ⟨rfl,hb9⟩
 have hy9:Below W.heap.size W u9:=aa hy8 hb9 hy8.size
 clear hb9
 go_wp2_with fail
 refine hK.out _ _ ⟨((HV.out.below hy9 hzV)).cell 0,((HV.out.below hy9 hzV)).cell 1,((HV.out.below hy9 hzV)).cell 2⟩ (fun hHeld => ?_)
 clear hK K
 (try simp only [Act.put,gP6])
 refine tkH 6 hHeld ?_
 refine tkH 7 hHeld ?_
 refine wpAnyH_done krA ?_ _
 clear hHeld
 go_wp2_with fail
 go_ret
 exact ⟨rfl,aa hbW hy9 hbW.size⟩
end Go.Proofs.YtkiglflbngfelaaGreat
