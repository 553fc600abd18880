/-
  For every list of numbers and every change the law TableArbitrary returns true: Check and Apply agree with the definition for arbitrary changes. No condition.
-/
import Derived.Test.YtkiglflbngfelaaGreatJ33
import Derived.Test.YtkiglflbngfelaaGreatJ35
import Derived.Test.YtkiglflbngfelaaGreatJ25
import Derived.Test.YtkiglflbngfelaaGreatJ10
import Derived.Test.YtkiglflbngfelaaGreatJ2
import Derived.Test.YtkiglflbngfelaaGreatJ7
import Derived.Test.YtkiglflbngfelaaGreatRows
import Derived.WalkKit
import Derived.ProofKit
import Derived.OpenShut
import Derived.ShutString
import Derived.ChangeOld
import Derived.Below
import Derived.SizedLaws
import Derived.Deep.Slices
import Derived.Deep.Strs
import Derived.Lib.SmallJoins
set_option linter.unusedVariables false
set_option linter.unusedSimpArgs false
set_option maxRecDepth 100000
set_option maxHeartbeats 16000000
namespace Go.Proofs.YtkiglflbngfelaaGreat
open Go.RowKit Go
theorem SliceIs.grownA {α : Type} {w w':World} {B g:Nat} {enc : α → List Value} {k:Nat} {A:Option Addr} {l:List α} (h:SliceIs w B enc k A l) (hg:w.grownBy w' (some g)) (hB:B≤g) (hw:B≤w.heap.size):SliceIs w' B enc k A l:=by
 intro hl
 obtain ⟨b,o,rfl,hb,hc⟩:=h hl
 exact ⟨b,o,rfl,hb,fun i hi j u hu=>(World.cell?_of_block (hg.block b (by omega) (fun e=>by injection e with e;omega))).trans (hc i hi j u hu)⟩
theorem chg_flat {u:World} {g:Nat} {kd sq dy tb:Int} {A0:Option Addr} {cp:Nat} {row:List Val} {key:Val} {cl:Int} {vl:Val} (h:Blk u g 53 (Chg.cells ⟨kd,sq,dy,tb,A0,cp,row,key,cl,vl⟩).toArray):(u.cell? ⟨g,0,none⟩=some (.int .i64 kd)∧u.cell? ⟨g,1,none⟩=some (.int .i64 sq)∧u.cell? ⟨g,2,none⟩=some (.int .i64 dy)∧u.cell? ⟨g,3,none⟩=some (.int .i64 tb)∧u.cell? ⟨g,4,none⟩=some (.slice A0 row.length cp)∧u.cell? ⟨g,5,none⟩=some (.int .i64 key.kind)∧u.cell? ⟨g,6,none⟩=some (.int .i64 key.num)∧u.cell? ⟨g,7,none⟩=some (.string key.text)∧u.cell? ⟨g,8,none⟩=some (.int .i64 cl)∧u.cell? ⟨g,9,none⟩=some (.int .i64 vl.kind)∧u.cell? ⟨g,10,none⟩=some (.int .i64 vl.num)∧u.cell? ⟨g,11,none⟩=some (.string vl.text)):=by
 obtain ⟨⟨q0,q1,q2,q3⟩,q4,⟨q5,q6,q7⟩,q8,q9,q10,q11⟩:=Chg.blk h
 simp only at q0 q1 q2 q3 q4 q5 q6 q7 q8 q9 q10 q11
 exact ⟨q0,q1,q2,q3,q4,q5,q6,q7,q8,q9,q10,q11⟩
theorem arb_walk (A:Option Addr) (c:Nat) (t:List Int) (kd sq dy tb:Int) (A0:Option Addr) (cp:Nat) (row:List Val) (key:Val) (cl:Int) (vl:Val) (w:World) (hl:SliceIs w w.heap.size intCells 1 A t) (hn:t.length * 8 ≤ 140737488351232) (hR:SliceIs w w.heap.size Val.cells 3 A0 row) :
 Calls Tryz.prog 4 #[.slice A t.length c, .agg #[.int .i64 kd, .int .i64 sq, .int .i64 dy, .int .i64 tb, .slice A0 row.length cp, .int .i64 key.kind, .int .i64 key.num, .string key.text, .int .i64 cl, .int .i64 vl.kind, .int .i64 vl.num, .string vl.text]] w fun e w'=>e = .returned (.bool true)∧Below w.heap.size w w':=by
 have HL0:=qh hl
 have HR0:=qh hR
 clear hl hR
 go_enter Tryz.func4,Tryz.ntmps4
 go_upto_region 1 with (fail)
 refine abs_world (P:=fun u=>Code.wp _ _ _ _ u) (R:=fun u=>Blk u w.heap.size 53 (Chg.cells ⟨kd,sq,dy,tb,A0,cp,row,key,cl,vl⟩).toArray∧Below w.heap.size w u) ⟨?_,?_⟩ ?_
 ·exact Blk.new' (by simp)
 ·exact belA
 rintro w0 ⟨hX,hb0⟩
 have HX:=qh hX
 have hzX:=hX.lt
 have HRW:=qh (HR0.out.below hb0)
 have HLW:=qh (HL0.out.next hb0)
 clear hX HR0 HL0
 go_upto_region 2 with (go_at_call 8;(refine (tape_New A c t _ HLW.out hn).mono ?_);rintro e w1 ⟨⟨g,b,rfl,hg1,hb1,hk1⟩,hx1⟩)
 have HK1:=qh hk1
 have hgl1:=hk1.ltg
 have hx1w:=below_nextN hb0 hx1 hb0.size
 have HX1:=qh (HX.out.below hx1 hzX)
 have HR1:=qh (HRW.out.below (hx1.mono hb0.size))
 clear hk1 HLW
 obtain ⟨⟨q0,q1,q2,q3⟩,q4,⟨q5,q6,q7⟩,q8,q9,q10,q11⟩:=Chg.blk HX1.out
 simp only at q0 q1 q2 q3 q4 q5 q6 q7 q8 q9 q10 q11
 go_wp2_with (go_at_call 14;(with_reducible refine (law00_SmallChange kd sq dy tb A0 cp row key cl vl _ (HR1.out.mono hx1w.size)).mono ?_);rintro e w2 ⟨⟨sb,rfl,hsb⟩,hx2⟩;cases sb)
 ·have hx2w:=below_nextN hx1w hx2 hx1w.size
  clear q0 q1 q2 q3 q4 q5 q6 q7 q8 q9 q10 q11
  go_wp2_with (go_at_call 13;(with_reducible refine (law07_awake _).mono ?_);rintro e u11 ⟨rfl,hb11⟩;have hx11:=below_nextN hx2w hb11 hx2w.size)
  go_ret
  exact ⟨rfl,hx11⟩
 have hrl12:row.length ≤ 12:=hsb trivial
 have hx2w:=below_nextN hx1w hx2 hx1w.size
 have hz2:=hx2.size
 have hgl2:g<w2.heap.size:=by omega
 have HX2:=qh (HX1.out.below hx2 HX1.out.lt)
 have HR2:=qh (HR1.out.below (hx2.mono hx1w.size))
 have HK2:=qh (HK1.out.below hx2)
 clear q0 q1 q2 q3 q4 q5 q6 q7 q8 q9 q10 q11 HX1 HR1 HK1 hsb
 go_wp2_with fail
 refine (tape_Tables g b 2 _ HK2.out (by omega) (by omega)).mono ?_
 rintro e w3 ⟨CA,cc,ts,rfl,ht3,hu3,hbd3,hs3,hok3,h03,hl33,hk3,hg3⟩
 have HK3:=qh hk3
 have HT3:=qh ht3
 have HU:=qh hu3
 have HS:=qh hs3
 have HOK:=qh hok3
 have hx3:Below w.heap.size w w3:=Below.grown hx2w hg3 hx2w.size (fun q e=>by injection e with e;omega)
 have hz3:=hg3.size
 have HX3:=qh (HX2.out.grown hg3 (fun e=>by injection e with e;omega))
 have hwg:w.heap.size≤g:=by have:=hb0.size;omega
 have HR3:=qh (SliceIs.grownA HR2.out hg3 hwg hx2w.size)
 clear hk3 ht3 hu3 hbd3 hs3 hok3 hg3 HK2 HX2 HR2
 go_upto_region 5 with (fail)
 refine abs_world (P:=fun u=>Code.wp _ _ _ _ u) (R:=fun u=>Blk u w3.heap.size 34 #[.slice CA ts.length cc, .slice none 0 0, .slice none 0 0, .slice none 0 0, .slice none 0 0, .slice none 0 0, .slice none 0 0, .slice none 0 0]∧Below w3.heap.size w3 u) ⟨?_,?_⟩ ?_
 ·exact Blk.new' rfl
 ·exact belA
 rintro W ⟨hC,hbW⟩
 have HC:=qh hC
 have hzC:=hC.lt
 have HKW:=qh (HK3.out.below hbW)
 have hxW:Below w.heap.size w W:=below_nextN hx3 hbW hx3.size
 have HTW:=qh (HT3.out.next hbW)
 have HXW:=qh (HX3.out.below hbW HX3.out.lt)
 have HRW:=qh (HR3.out.below (hbW.mono hx3.size))
 have hdr:Below W.heap.size W W.drew:=brf.drew
 clear hC HK3 HT3 HX3 HR3
 refine wp_region_held_drew (S:=fun u=>u.cell? ⟨w3.heap.size,0,none⟩=some (.slice CA ts.length cc)∧u.cell? ⟨w3.heap.size,1,none⟩=some (.slice none 0 0)∧u.cell? ⟨w3.heap.size,2,none⟩=some (.slice none 0 0)∧u.cell? ⟨w3.heap.size,3,none⟩=some (.slice none 0 0)∧u.cell? ⟨w3.heap.size,4,none⟩=some (.slice none 0 0)∧u.cell? ⟨w3.heap.size,5,none⟩=some (.slice none 0 0)∧u.cell? ⟨w3.heap.size,6,none⟩=some (.slice none 0 0)∧u.cell? ⟨w3.heap.size,7,none⟩=some (.slice none 0 0)) (by kernel_rfl) (Cat.blk HC.out) (fun hHeld => ?_)
 refine tkH 0 hHeld ?_
 refine tkH 1 hHeld ?_
 refine tkH 2 hHeld ?_
 refine wpAnyH_ready (rs := [3]) (by kernel_rfl) (by simp) ?_
 refine AllReadyH.cons rfl (fun K hK => ?_) AllReadyH.nil
 go_simp
 (go_at_call 10;(refine (tape_HistoryC g b w2.heap.size 5 CA cc ts.length ts _ (HKW.out.below hdr) hgl2 (HTW.out.next hdr) HU.out rfl HS.out HOK.out h03 (by omega)).mono ?_))
 rintro e u1 ⟨LA,lc,l,rfl,hll,hoc,hk3,hg3,hhist⟩
 have HHIST:=qh hhist
 have hzg4:=hg3.size
 have hzd:=hdr.size
 have hxd:Below w.heap.size w W.drew:=below_nextN hxW hdr hxW.size
 have hC1:=(HC.out.below hdr hzC).grown hg3 (fun e=>by injection e with e;omega)
 have HC1:=qh hC1
 have HT1:=qh ((HTW.out.next hdr).grown HU.out hgl2 hg3)
 have HX1:=qh ((HXW.out.below hdr HXW.out.lt).grown hg3 (fun e=>by injection e with e;omega))
 have HR1:=qh (SliceIs.grownA (HRW.out.below (hdr.mono hxW.size)) hg3 hwg hxd.size)
 have hx4:Below w.heap.size w u1:=Below.grown hxd hg3 hxd.size (fun q e=>by injection e with e;omega)
 have HK3:=qh hk3
 have HLR:=qh hoc.read
 have hl8 : ∀ x∈l,x.row.length ≤ 1000000:=fun x hx=>Nat.le_trans (hoc.len x hx) (by omega)
 have HL8:=qh hl8
 clear hk3 hoc hg3 HKW HTW HC HXW HRW hhist hl8
 go_wp2_with fail
 refine hK.out _ _ (Cat.blk hC1) (fun hHeld => ?_)
 clear hK K
 (try simp only [Act.put,gP6])
 refine wpAnyH_ready (rs := [4]) (by kernel_rfl) (by simp) ?_
 refine AllReadyH.cons rfl (fun K hK => ?_) AllReadyH.nil
 go_simp
 (go_at_call 15;(with_reducible refine (ref07_Replay CA cc ts.length ts LA lc l.length l _ HT1.out rfl HS.out HOK.out HLR.out rfl (by omega) HL8.out).mono ?_))
 rintro e u2 ⟨⟨RA,rc,rt,rfl,hrl,hrt,hru,hsh,hpu⟩,hb2⟩
 have hz4:=hb2.size
 have hC2:=HC1.out.below hb2 HC1.out.lt
 have HC2:=qh hC2
 have HT2:=qh (HT1.out.next hb2)
 have HX2:=qh (HX1.out.below hb2 HX1.out.lt)
 have HR2:=qh (HR1.out.below (hb2.mono hx4.size))
 have hx5:Below w.heap.size w u2:=below_nextN hx4 hb2 hx4.size
 have HRT:=qh hrt
 have HRL:=qh hrl
 have HSR:=qh (hsh.sane HOK.out)
 clear hrt hru hsh hrl hpu HT1 HX1 HR1 HLR
 go_wp2_with fail
 refine hK.out _ _ (Cat.blk hC2) (fun hHeld => ?_)
 clear hK K
 (try simp only [Act.put,gP6])
 refine tkH 5 hHeld ?_
 refine wpAnyH_done (by kernel_rfl) ?_ _
 clear hHeld hC1 hC2
 go_upto_region 6 with (fail)
 have hd2:Below u2.heap.size u2 u2.drew:=brf.drew
 refine wp_region_held_drew (S:=fun u=>(u.cell? ⟨w3.heap.size,0,none⟩=some (.slice CA ts.length cc)∧u.cell? ⟨w3.heap.size,1,none⟩=some (.slice none 0 0)∧u.cell? ⟨w3.heap.size,2,none⟩=some (.slice none 0 0)∧u.cell? ⟨w3.heap.size,3,none⟩=some (.slice none 0 0)∧u.cell? ⟨w3.heap.size,4,none⟩=some (.slice none 0 0)∧u.cell? ⟨w3.heap.size,5,none⟩=some (.slice none 0 0)∧u.cell? ⟨w3.heap.size,6,none⟩=some (.slice none 0 0)∧u.cell? ⟨w3.heap.size,7,none⟩=some (.slice none 0 0))∧(u.cell? ⟨w.heap.size,0,none⟩=some (.int .i64 kd)∧u.cell? ⟨w.heap.size,1,none⟩=some (.int .i64 sq)∧u.cell? ⟨w.heap.size,2,none⟩=some (.int .i64 dy)∧u.cell? ⟨w.heap.size,3,none⟩=some (.int .i64 tb)∧u.cell? ⟨w.heap.size,4,none⟩=some (.slice A0 row.length cp)∧u.cell? ⟨w.heap.size,5,none⟩=some (.int .i64 key.kind)∧u.cell? ⟨w.heap.size,6,none⟩=some (.int .i64 key.num)∧u.cell? ⟨w.heap.size,7,none⟩=some (.string key.text)∧u.cell? ⟨w.heap.size,8,none⟩=some (.int .i64 cl)∧u.cell? ⟨w.heap.size,9,none⟩=some (.int .i64 vl.kind)∧u.cell? ⟨w.heap.size,10,none⟩=some (.int .i64 vl.num)∧u.cell? ⟨w.heap.size,11,none⟩=some (.string vl.text))) (by kernel_rfl) ⟨Cat.blk HC2.out,chg_flat HX2.out⟩ (fun hHeld => ?_)
 refine tkH 0 hHeld ?_
 refine tkH 1 hHeld ?_
 refine tkH 2 hHeld ?_
 refine wpAnyH_ready (rs := [3]) (by kernel_rfl) (by simp) ?_
 refine AllReadyH.cons rfl (fun K hK => ?_) AllReadyH.nil
 go_simp
 (go_at_call 16;(with_reducible refine (law07_applies CA cc ts.length ts RA rc ts.length rt kd sq dy tb A0 cp row key cl vl _ (HT2.out.next hd2) rfl HS.out HOK.out (HRT.out.next hd2) HRL.out HSR.out ((HR2.out.mono hx5.size).next hd2) (by omega)).mono ?_))
 rintro e u3 ⟨rfl,hb3⟩
 have hy3:=below_nextN hd2 hb3 hd2.size
 have HC3:=qh (HC2.out.below hy3 HC2.out.lt)
 have HX3:=qh (HX2.out.below hy3 HX2.out.lt)
 go_wp2_with fail
 refine hK.out _ _ ⟨Cat.blk HC3.out,chg_flat HX3.out⟩ (fun hHeld => ?_)
 clear hK K
 (try simp only [Act.put,gP6])
 refine tkH 4 hHeld ?_
 refine tkH 8 hHeld ?_
 refine wpAnyH_ready (rs := [5]) (by kernel_rfl) (by simp) ?_
 refine AllReadyH.cons rfl (fun K hK => ?_) AllReadyH.nil
 go_simp
 (go_at_call 17;(with_reducible refine (law07_plain _).mono ?_))
 rintro e u4 ⟨⟨PA,pq,rfl,hp4⟩,hb4⟩
 have hy4:=below_nextN hy3 hb4 hy3.size
 have HP4:=qh hp4
 have HC4:=qh (HC2.out.below hy4 HC2.out.lt)
 have HX4:=qh (HX2.out.below hy4 HX2.out.lt)
 clear hp4
 go_wp2_with fail
 refine hK.out _ _ ⟨Cat.blk HC4.out,chg_flat HX4.out⟩ (fun hHeld => ?_)
 clear hK K
 (try simp only [Act.put,gP6])
 refine wpAnyH_ready (rs := [6]) (by kernel_rfl) (by simp) ?_
 refine AllReadyH.cons rfl (fun K hK => ?_) AllReadyH.nil
 go_simp
 (go_at_call 17;(with_reducible refine (law07_plain _).mono ?_))
 rintro e u5 ⟨⟨PB,pr,rfl,hp5⟩,hb5⟩
 have hy5:=below_nextN hy4 hb5 hy4.size
 have HP5:=qh hp5
 have HP4':=qh (HP4.out.next hb5)
 have HC5:=qh (HC2.out.below hy5 HC2.out.lt)
 have HX5:=qh (HX2.out.below hy5 HX2.out.lt)
 clear hp5
 go_wp2_with fail
 refine hK.out _ _ ⟨Cat.blk HC5.out,chg_flat HX5.out⟩ (fun hHeld => ?_)
 clear hK K
 (try simp only [Act.put,gP6])
 refine wpAnyH_ready (rs := [7]) (by kernel_rfl) (by simp) ?_
 refine AllReadyH.cons rfl (fun K hK => ?_) AllReadyH.nil
 go_simp
 (go_at_call 18;(with_reducible refine (ref07_New PB 1 1 [tabPl pr] _ HP5.out rfl (catP_sane _) (catP_ok _)).mono ?_))
 rintro e u6 ⟨⟨nq,rfl,_,hn6⟩,hb6⟩
 have hy6:=below_nextN hy5 hb6 hy5.size
 have HN6:=qh hn6
 have HZ1:Hid (SaneR (List.replicate 1 zeroT)):=qh ((RShape.zero [tabPl pq]).sane (catP_ok _))
 have HP6:=qh (HP4'.out.next hb6)
 have HC6:=qh (HC2.out.below hy6 HC2.out.lt)
 have HX6:=qh (HX2.out.below hy6 HX2.out.lt)
 have HR6:=qh ((HR2.out.mono hx5.size).next hy6)
 clear hn6
 go_wp2_with fail
 refine hK.out _ _ ⟨Cat.blk HC6.out,chg_flat HX6.out⟩ (fun hHeld => ?_)
 clear hK K
 (try simp only [Act.put,gP6])
 refine wpAnyH_ready (rs := [9]) (by kernel_rfl) (by simp) ?_
 refine AllReadyH.cons rfl (fun K hK => ?_) AllReadyH.nil
 go_simp
 (go_at_call 16;(with_reducible refine (law07_applies PA 1 1 [tabPl pq] (some ⟨nq,0,none⟩) 1 1 (List.replicate 1 zeroT) kd sq dy tb A0 cp row key cl vl _ HP6.out rfl (catP_sane _) (catP_ok _) HN6.out rfl HZ1.out HR6.out (by omega)).mono ?_))
 rintro e u7 ⟨rfl,hb7⟩
 have hy7:=below_nextN hy6 hb7 hy6.size
 have HC7:=qh (HC2.out.below hy7 HC2.out.lt)
 have HX7:=qh (HX2.out.below hy7 HX2.out.lt)
 go_wp2_with fail
 refine hK.out _ _ ⟨Cat.blk HC7.out,chg_flat HX7.out⟩ (fun hHeld => ?_)
 clear hK K
 (try simp only [Act.put,gP6])
 refine tkH 10 hHeld ?_
 refine tkH 11 hHeld ?_
 refine wpAnyH_ready (rs := [12]) (by kernel_rfl) (by simp) ?_
 refine AllReadyH.cons rfl (fun K hK => ?_) AllReadyH.nil
 go_simp
 (go_at_call 13;(with_reducible refine (law07_awake _).mono ?_))
 rintro e u8 ⟨rfl,hb8⟩
 have hy8:=below_nextN hy7 hb8 hy7.size
 have HC8:=qh (HC2.out.below hy8 HC2.out.lt)
 have HX8:=qh (HX2.out.below hy8 HX2.out.lt)
 go_wp2_with fail
 refine hK.out _ _ ⟨Cat.blk HC8.out,chg_flat HX8.out⟩ (fun hHeld => ?_)
 clear hK K
 (try simp only [Act.put,gP6])
 refine tkH 13 hHeld ?_
 refine tkH 14 hHeld ?_
 refine wpAnyH_done (by kernel_rfl) ?_ _
 clear hHeld
 go_wp2_with fail
 go_ret
 exact ⟨rfl,below_nextN hx5 hy8 hx5.size⟩
end Go.Proofs.YtkiglflbngfelaaGreat
namespace Go.Proofs.YtkiglflbngfelaaGreat.tableArbitrary
open Go.ChangeShapes Go.WideShapes Go.ChangeAt Go.RowKit
section
variable {H:Type} {enc:TypeId × Value→H} {w:World} {base:Nat} {spare:Nat→Bool} {held:Bool} {fuel:Nat} {cs:List Value} {x:DataW H × List MemPlace}
theorem list12 (h:cs.length = 12) : ∃ a b c d e f g i j k l m,cs = [a,b,c,d,e,f,g,i,j,k,l,m]:=by
 match cs,h with
 | [a,b,c,d,e,f,g,i,j,k,l,m],_=>exact ⟨a,b,c,d,e,f,g,i,j,k,l,m,rfl⟩
theorem list3 (h:cs.length = 3) : ∃ a b c,cs = [a,b,c]:=by
 match cs,h with
 | [a,b,c],_=>exact ⟨a,b,c,rfl⟩
theorem trod_struct8 {P:Program} {t:TypeId} {f0 f1 f2 f3 f4 f5 f6 f7:Field} {fuel:Nat} {cs:List Value} {x:DataW H × List MemPlace} (ht:P.underlying t=some (.struct #[f0,f1,f2,f3,f4,f5,f6,f7])) (h:DataW.trod enc P w base spare held fuel t cs=some x) :
 ∃ y0 y1 y2 y3 y4 y5 y6 y7 n,cs.length=P.cellsOf t∧DataW.trod enc P w base spare held n f0.type ((cs.drop f0.offset).take (P.cellsOf f0.type))=some y0∧DataW.trod enc P w base spare held n f1.type ((cs.drop f1.offset).take (P.cellsOf f1.type))=some y1∧DataW.trod enc P w base spare held n f2.type ((cs.drop f2.offset).take (P.cellsOf f2.type))=some y2∧DataW.trod enc P w base spare held n f3.type ((cs.drop f3.offset).take (P.cellsOf f3.type))=some y3∧DataW.trod enc P w base spare held n f4.type ((cs.drop f4.offset).take (P.cellsOf f4.type))=some y4∧DataW.trod enc P w base spare held n f5.type ((cs.drop f5.offset).take (P.cellsOf f5.type))=some y5∧DataW.trod enc P w base spare held n f6.type ((cs.drop f6.offset).take (P.cellsOf f6.type))=some y6∧DataW.trod enc P w base spare held n f7.type ((cs.drop f7.offset).take (P.cellsOf f7.type))=some y7:=by
 obtain ⟨xs,n,_,rfl,hl,hlen,hf⟩:=DataW.trod_struct ht h
 match xs,hlen with
 | [y0,y1,y2,y3,y4,y5,y6,y7],_=>exact ⟨y0,y1,y2,y3,y4,y5,y6,y7,n,hl,by simpa using hf 0 f0 rfl,by simpa using hf 1 f1 rfl,by simpa using hf 2 f2 rfl,by simpa using hf 3 f3 rfl,by simpa using hf 4 f4 rfl,by simpa using hf 5 f5 rfl,by simpa using hf 6 f6 rfl,by simpa using hf 7 f7 rfl⟩
theorem cells_val:Tryz.prog.cellsOf 51 = 3:=by kernel_rfl
theorem cells_chg:Tryz.prog.cellsOf 53 = 12:=by kernel_rfl
theorem cells_vals:Tryz.prog.cellsOf 41 = 1:=by kernel_rfl
theorem cells_str:Tryz.prog.cellsOf 9 = 1:=by kernel_rfl
theorem cells_int:Tryz.prog.cellsOf 3 = 1:=by kernel_rfl
theorem cells_int64:Tryz.prog.cellsOf 2 = 1:=by kernel_rfl
theorem val_trod (h:DataW.trod enc Tryz.prog w base spare held fuel 51 cs=some x) : ∃ v:Val,cs=v.cells:=by
 obtain ⟨z0,z1,z2,m,_,hl,g0,g1,g2⟩:=Go.Deep.trod_struct3 Tryz.underlying51 h
 rw [cells_val] at hl
 obtain ⟨c0,c1,c2,rfl⟩:=list3 hl
 simp only [cells_str,cells_int,cells_int64,List.drop_zero,List.take_succ_cons,List.take_zero,List.drop_succ_cons] at g0 g1 g2
 obtain ⟨k,e1,_,_⟩:=DataW.trod_int Tryz.underlying3 g0
 obtain ⟨i,e2,_,_⟩:=DataW.trod_int Tryz.underlying2 g1
 obtain ⟨t,e3,_,_⟩:=DataW.trod_string Tryz.underlying9 g2
 simp only [List.cons.injEq,and_true] at e1 e2 e3
 subst e1 e2 e3
 exact ⟨⟨k,i,t⟩,rfl⟩
theorem list_of {α : Type} {n:Nat} {Q:Nat → α → Prop} (h : ∀ i,i<n → ∃ y,Q i y) : ∃ l:List α,l.length=n ∧ ∀ i (hi:i<l.length),Q i l[i]:=by
 induction n with
 | zero=>exact ⟨[],rfl,fun i hi=>by simp at hi⟩
 | succ n ih =>
   obtain ⟨l,hl,hq⟩:=ih fun i hi=>h i (by omega)
   obtain ⟨y,hy⟩:=h n (by omega)
   refine ⟨l ++ [y],by simp [hl],fun i hi => ?_⟩
   rcases Nat.lt_or_ge i n with h1|h1
   ·rw [List.getElem_append_left (by omega)];exact hq i (by omega)
   ·have e:i=n:=by simp at hi;omega
    subst e
    rw [List.getElem_append_right (by omega)]
    simpa [hl] using hy
theorem mapM_get {α : Type} {f:Nat→Option α} : ∀ {l:List Nat} {r:List α},l.mapM f=some r → ∀ j:Nat,j<l.length→(l[j]?.bind f)=r[j]?
 | [],r,_,j,hj=>by simp at hj
 | a::l,r,h,j,hj=>by
   rw [List.mapM_cons] at h
   cases ha:f a with
   | none=>simp [ha] at h
   | some v =>
     cases hm:l.mapM f with
     | none=>simp [ha,hm] at h
     | some vs =>
       simp [ha,hm] at h
       subst h
       cases j with
       | zero=>simp [ha]
       | succ j=>simpa using mapM_get hm j (by simpa using hj)
theorem cells_get {a:Addr} {n:Nat} {r:List Value} (h:w.cells? base a n=some r) (j:Nat) (hj:j<n):w.cell? (a.add j)=r[j]? := by
 unfold World.cells? at h
 split at h
 ·have:=mapM_get h j (by simpa using hj)
  simpa [hj] using this
 ·cases h
theorem span_none {a:Addr} {v:Value} (h:w.cell? a=some v):a.spot=none:=by
 cases hs:a.spot with
 | none=>rfl
 | some y =>
   simp only [World.cell?,hs,Option.isSome_some,if_true] at h
   split at h <;> simp at h
theorem add_eq (b o n:Nat):(Addr.mk b o none).add n=⟨b,o+n,none⟩:=by
 unfold Addr.add
 split
 ·rename_i h;subst h;rfl
 ·rfl
theorem vals_open {a:Option Addr} {len cap:Nat} (h:DataW.trod enc Tryz.prog w base spare held fuel 41 [.slice a len cap]=some x) : ∃ l:List Val,l.length=len∧SliceIs w w.heap.size Val.cells 3 a l:=by
 rcases Go.Deep.open_slice Tryz.underlying41 h with ⟨hcs,_⟩|⟨a',len',cap',m,n,D,Pl,hcs,_,hl,_,hm,_,hel⟩
 ·simp only [List.cons.injEq,Value.slice.injEq,and_true] at hcs
  obtain ⟨rfl,rfl,rfl⟩:=hcs
  exact ⟨[],rfl,SliceIs.nil⟩
 ·simp only [List.cons.injEq,Value.slice.injEq,and_true] at hcs
  obtain ⟨rfl,rfl,rfl⟩:=hcs
  have hlm:len≤m:=by rw [hm];split <;> omega
  obtain ⟨l,hll,hq⟩:=list_of (n:=len) (Q:=fun i (y:Val) => ∀ j,j < 3→w.cell? ((a'.add (i * 3)).add j)=y.cells[j]?) (fun i hi=>by
   obtain ⟨cs',h1,h2⟩:=hel i (by omega)
   obtain ⟨y,rfl⟩:=val_trod h2
   rw [cells_val] at h1
   exact ⟨y,fun j hj=>cells_get h1 j hj⟩)
  refine ⟨l,hll,fun h0 => ?_⟩
  obtain ⟨xb,xo,xs⟩:=a'
  have hc0:=hq 0 h0 0 (by omega)
  rw [show (l[0].cells)[0]? = some (.int .i64 l[0].kind) from rfl] at hc0
  have hsp:xs=none:=by
   have:=span_none hc0
   simpa [Addr.add] using this
  subst hsp
  simp only [add_eq] at hq hc0
  have hlt:xb<w.heap.size:=by
   rcases Nat.lt_or_ge xb w.heap.size with h|h
   ·exact h
   ·simp [World.cell?,Array.getElem?_eq_none h] at hc0
  refine ⟨xb,xo,rfl,hlt,fun i hi j u hu => ?_⟩
  have hj:j < 3:=by have:=(List.getElem?_eq_some_iff.1 hu).1;simpa [Val.cells] using this
  rw [← Nat.add_assoc,hq i hi j hj]
  exact hu
theorem chg_trod (h:DataW.trod enc Tryz.prog w base spare held fuel 53 cs=some x) : ∃ (kd sq dy tb:Int) (A0:Option Addr) (cp:Nat) (row:List Val) (key:Val) (cl:Int) (vl:Val),cs = [.int .i64 kd, .int .i64 sq, .int .i64 dy, .int .i64 tb, .slice A0 row.length cp, .int .i64 key.kind, .int .i64 key.num, .string key.text, .int .i64 cl, .int .i64 vl.kind, .int .i64 vl.num, .string vl.text]∧SliceIs w w.heap.size Val.cells 3 A0 row:=by
 obtain ⟨y0,y1,y2,y3,y4,y5,y6,y7,n,hl,h0,h1,h2,h3,h4,h5,h6,h7⟩:=trod_struct8 Tryz.underlying53 h
 rw [cells_chg] at hl
 obtain ⟨c0,c1,c2,c3,c4,c5,c6,c7,c8,c9,c10,c11,rfl⟩:=list12 hl
 simp only [cells_val,cells_vals,cells_int,List.drop_zero,List.take_succ_cons,List.take_zero,List.drop_succ_cons] at h0 h1 h2 h3 h4 h5 h6 h7
 obtain ⟨k0,e0,_,_⟩:=DataW.trod_int Tryz.underlying3 h0
 obtain ⟨k1,e1,_,_⟩:=DataW.trod_int Tryz.underlying3 h1
 obtain ⟨k2,e2,_,_⟩:=DataW.trod_int Tryz.underlying3 h2
 obtain ⟨k3,e3,_,_⟩:=DataW.trod_int Tryz.underlying3 h3
 obtain ⟨p,e5⟩:=val_trod h5
 obtain ⟨k6,e6,_,_⟩:=DataW.trod_int Tryz.underlying3 h6
 obtain ⟨q,e7⟩:=val_trod h7
 have hsl : ∃ a len cap,[c4] = [Value.slice a len cap]:=by
  rcases Go.Deep.open_slice Tryz.underlying41 h4 with ⟨hcs,_⟩|⟨a',len',cap',m',n',D,Pl,hcs,_⟩
  ·exact ⟨_,_,_,hcs⟩
  ·exact ⟨_,_,_,hcs⟩
 obtain ⟨a,len,cap,e4⟩:=hsl
 simp only [Val.cells,List.cons.injEq,and_true] at e0 e1 e2 e3 e4 e5 e6 e7
 obtain ⟨rfl,rfl,rfl⟩:=e5
 obtain ⟨rfl,rfl,rfl⟩:=e7
 subst e0 e1 e2 e3 e4 e6
 obtain ⟨l,hll,hs⟩:=vals_open h4
 subst hll
 exact ⟨k0,k1,k2,k3,a,cap,l,p,k6,q,rfl,hs⟩
end
theorem own:ownKnob Tryz.prog.godebug=none:=by kernel_rfl
theorem laidOut:laidOutB Tryz.prog=true:=by kernel_rfl
theorem bytesInt:Tryz.prog.bytesOf 3 = 8:=by kernel_rfl
theorem lifted (os:Os) (started:os.Started) (H:Type) (enc:TypeId × Value→H) :
 ReturnsInHanded {} Tryz.checked os 4 .any (Rows.tableArbitrarySpec.pre6 enc Tryz.prog Tryz.f4 Rows.tableArbitraryRow.domain false) (Rows.tableArbitrarySpec.post enc Tryz.prog Tryz.f4 false true false false):=by
 refine returnsInHanded_of_change_sized (C:=Tryz.checked) own started (by kernel_rfl) Tryz.func4
  (ChangeSpec.witness6 (enc:=enc) (C:=Tryz.checked) false ⟨#[],#[.slice none 0 0, .agg #[.int .i64 0, .int .i64 0, .int .i64 0, .int .i64 0, .slice none 0 0, .int .i64 0, .int .i64 0, .string ⟨#[]⟩, .int .i64 0, .int .i64 0, .int .i64 0, .string ⟨#[]⟩]],[]⟩ 8 (by kernel_rfl) (by kernel_rfl) (by kernel_rfl) (by kernel_rfl)) ?_
 intro W base args ds gs before hval0 hW hcnd hsz0 _
 have hval : ∀ (j:Nat) t v,Tryz.f4.params[j]? = some t→args[j]? = some v→Value.okWide Tryz.prog W .any base t v:=hval0
 have hsz:(DataW.weightsEach Tryz.prog (Tryz.f4.params.toList++Rows.tableArbitrarySpec.plain.varTypes Tryz.prog) (ds++gs)).all (· ≤ reachBytes)=true:=hsz0
 have hW':=hW
 obtain ⟨p,q,hA0,hV,rfl,hfz,hnd⟩:=hW
 have hA:DataW.TrodAll enc Tryz.prog W 0 (fun _=>true) true Tryz.f4.params.toList args.toList ds p:=hA0
 rw [Tryz.params4] at hA hval hsz
 obtain ⟨v0,vs0,d0,ds0,p0,q0,hargs,rfl,rfl,h0,r0⟩:=trodAll_cons hA
 obtain ⟨v1,vs1,d1,ds1,p1,q1,rfl,rfl,rfl,h1,r1⟩:=trodAll_cons r0
 obtain ⟨rfl,rfl,rfl⟩:=trodAll_nil r1
 obtain rfl:args = #[v0,v1]:=by cases args;simp_all
 obtain ⟨rfl,rfl⟩:=trodVars_none hV
 obtain ⟨a0,len0,cap0,rfl⟩:=okWide_slice Tryz.underlying22 (hval 0 22 v0 rfl rfl)
 obtain ⟨cs1,rfl,_⟩:=okWide_struct Tryz.underlying53 (hval 1 53 v1 rfl rfl)
 have k0:=h0
 have k1:=h1
 have lt0 : ∀ x∈p0,x.block<W.heap.size:=by obtain ⟨m,hm⟩:=k0;exact DataW.trod_lt m _ _ _ hm
 have lt1 : ∀ x∈p1,x.block<W.heap.size:=by obtain ⟨m,hm⟩:=k1;exact DataW.trod_lt m _ _ _ hm
 obtain ⟨t,htl,hts,ht8⟩ : ∃ t:List Int,t.length=len0∧SliceIs W W.heap.size intCells 1 a0 t∧t.length * 8 ≤ 140737488351232:=by
  obtain ⟨fuel,hf⟩:=h0
  rcases open_ints Tryz.underlying22 Tryz.underlying3 (by kernel_rfl) hf with ⟨hcs,_⟩|⟨x,l,c,zs,hcs,_,hl,hm,hz,hx,hcell,hwz⟩
  ·simp [Value.cells] at hcs
   obtain ⟨rfl,rfl,rfl⟩:=hcs
   exact ⟨[],rfl,SliceIs.nil,by simp⟩
  ·simp [Value.cells] at hcs
   obtain ⟨rfl,rfl,rfl⟩:=hcs
   simp only [Prod.mk.injEq] at hx
   obtain ⟨rfl,_⟩:=hx
   have hs:=sized_slice hsz (j := 0) (t := 22) (e := 3) rfl rfl Tryz.underlying22
   rw [bytesInt] at hs
   simp only [lits,List.length_map,List.length_take,List.length_drop,reachBytes] at hs
   have hzl:zs.length=cap0:=by simpa using hz
   refine ⟨zs.take len0,by simp;omega,fun h => ?_,by simp;omega⟩
   have h1 : 0<zs.length:=by simp at h;omega
   obtain ⟨xb,xo,xs⟩:=x
   have hc0:=hcell 0 h1
   have hsp:xs=none:=by
    cases xs with
    | none=>rfl
    | some y =>
      simp only [Addr.add,World.cell?,Option.isSome_some,if_true] at hc0
      split at hc0 <;> simp at hc0
   subst hsp
   have hlt:xb<W.heap.size:=by
    rcases Nat.lt_or_ge xb W.heap.size with h|h
    ·exact h
    ·simp [Addr.add,World.cell?,Array.getElem?_eq_none h] at hc0
   refine ⟨xb,xo,rfl,hlt,fun i hi j u hu => ?_⟩
   have hj:j = 0:=by have:=(List.getElem?_eq_some_iff.1 hu).1;simp [intCells] at this;omega
   subst hj
   have hil:i<zs.length:=by simp at hi;omega
   have:=hcell i hil
   simp only [intCells,List.getElem?_cons_zero,Option.some.injEq] at hu
   subst hu
   rw [List.getElem_take]
   rw [List.getD_eq_getElem?_getD,List.getElem?_eq_getElem hil] at this
   unfold Addr.add at this
   split at this
   ·rename_i h0;subst h0;simpa using this
   ·simpa using this
 obtain ⟨kd,sq,dy,tb,A0,cp,row,key,cl,vl,ex,hR⟩ : ∃ (kd sq dy tb:Int) (A0:Option Addr) (cp:Nat) (row:List Val) (key:Val) (cl:Int) (vl:Val),cs1.toList = [.int .i64 kd, .int .i64 sq, .int .i64 dy, .int .i64 tb, .slice A0 row.length cp, .int .i64 key.kind, .int .i64 key.num, .string key.text, .int .i64 cl, .int .i64 vl.kind, .int .i64 vl.num, .string vl.text]∧SliceIs W W.heap.size Val.cells 3 A0 row:=by
  obtain ⟨fuel,hf⟩:=h1
  exact chg_trod (by simpa [Value.cells] using hf)
 obtain rfl:cs1 = List.toArray [.int .i64 kd, .int .i64 sq, .int .i64 dy, .int .i64 tb, .slice A0 row.length cp, .int .i64 key.kind, .int .i64 key.num, .string key.text, .int .i64 cl, .int .i64 vl.kind, .int .i64 vl.num, .string vl.text]:=by rw [← ex]
 clear hA0 hval0
 subst htl
 refine (arb_walk a0 cap0 t kd sq dy tb A0 cp row key cl vl W hts ht8 hR).mono fun e W' ⟨he,bel⟩ => ?_
 subst he
 exact ⟨_,rfl,_,_,_,[],_,[],hW',trodAll_mk1 (shut_bool Tryz.underlying4 _),(trodAll_cons_mk (Below.trod laidOut (by kernel_rfl) (of_decide_eq_true (by kernel_rfl)) k0 bel lt0) (trodAll_cons_mk (Below.trod laidOut (by kernel_rfl) (of_decide_eq_true (by kernel_rfl)) k1 bel lt1) trodAll_mk0)),rfl,bel.frame _,fun h=>by cases h⟩
theorem facts:joinedFacts Tryz.pinned.checked.prog 4 Tryz.f4 Rows.tableArbitrarySpec Rows.tableArbitraryRow=true:=by
 unfold joinedFacts
 repeat' (with_reducible refine (Bool.and_eq_true _ _).mpr ⟨?_,?_⟩)
 all_goals (as_aux_lemma=>kernel_rfl)
theorem over:Rows.tableArbitraryRow.holds Tryz.pinned (OpenSpec.ofChange Rows.tableArbitrarySpec) :=
 OpenClaim.holds_of_wide 4 Tryz.f4 rfl rfl rfl rfl rfl rfl rfl ⟨rfl,rfl,rfl,rfl,rfl⟩ rfl rfl rfl rfl rfl (by kernel_rfl) Tryz.func4 facts
  (of_decide_eq_true (by kernel_rfl)) (by unfold Func.isWrapper;first|(rw [if_pos (by decide +kernel)];kernel_rfl)|(rw [if_neg (by decide +kernel)];exact ⟨rfl,rfl⟩))
  (fun os started H enc _=>lifted os started H enc)
theorem proved:Rows.TableArbitrarySaid:=over
#print axioms proved
end Go.Proofs.YtkiglflbngfelaaGreat.tableArbitrary
