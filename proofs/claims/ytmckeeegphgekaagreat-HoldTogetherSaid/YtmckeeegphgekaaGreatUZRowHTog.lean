/-
  For every list of numbers the law HoldTogether returns true: a hold that is limited to an identifier covers exactly the versions with an owner in the subject of the identifier, in its scope. No condition.
-/
import Derived.Test.YtmckeeegphgekaaGreatU17
import Derived.Test.YtmckeeegphgekaaGreatU15
import Derived.Test.YtmckeeegphgekaaGreatU10
import Derived.Test.YtmckeeegphgekaaGreatU14
import Derived.Test.YtmckeeegphgekaaGreatU16
import Derived.Test.YtmckeeegphgekaaGreatU2
import Derived.Test.YtmckeeegphgekaaGreatRows
import Derived.WalkKit
import Derived.ProofKit
import Derived.OpenShut
import Derived.ShutString
import Derived.ChangeOld
import Derived.Below
import Derived.SizedLaws
set_option linter.unusedVariables false
set_option linter.unusedSimpArgs false
namespace Go.Proofs.YtmckeeegphgekaaGreat
open Go.RowKit
set_option maxRecDepth 100000 in
set_option maxHeartbeats 8000000 in
theorem holdtogether_walk (A:Option Addr) (c:Nat) (t:List Int) (w:World) (hl:SliceIs w w.heap.size intCells 1 A t) (hn:t.length * 8 ≤ 140737488351232) :
 Calls Tryz.prog 5 #[.slice A t.length c] w fun e w'=>e = .returned (.bool true)∧Below w.heap.size w w':=by
 have HL0:=qh hl
 clear hl
 go_enter Tryz.func5,Tryz.ntmps5
 go_wp2_with fail
 refine (tape_New A c t _ HL0.out hn).mono ?_
 rintro e w1 ⟨⟨g,b,rfl,hg1,hb1,hk1⟩,hx1⟩
 have HK1:=qh hk1
 have hgl1:=hk1.ltg
 clear hk1 HL0
 go_wp2_with fail
 refine (tape_Tables g b 3 _ HK1.out (by omega) (by omega)).mono ?_
 rintro e w2 ⟨CA,cc,ts,rfl,ht2,hu2,hbd2,hs2,hok2,h02,hl32,hk2,hg2⟩
 have HK2:=qh hk2
 have HT2:=qh ht2
 have HU:=qh hu2
 have HS:=qh hs2
 have HOK:=qh hok2
 have hx2:Below w.heap.size w w2:=Below.grown hx1 hg2 hx1.size (fun q e=>by injection e with e;omega)
 have hz2:=hg2.size
 clear hk2 ht2 hu2 hbd2 hs2 hok2 hg2 HK1
 go_upto_region 3 with (fail)
 refine abs_world (P:=fun u=>Code.wp _ _ _ _ u) (R:=fun u=>Blk u w2.heap.size 34 #[.slice CA ts.length cc, .slice none 0 0, .slice none 0 0, .slice none 0 0, .slice none 0 0, .slice none 0 0, .slice none 0 0, .slice none 0 0]∧Below w2.heap.size w2 u) ⟨?_,?_⟩ ?_
 ·exact Blk.new' rfl
 ·exact belA
 rintro W ⟨hC,hbW⟩
 have HC:=qh hC
 have hzC:=hC.lt
 have HKW:=qh (HK2.out.below hbW)
 have hxW:Below w.heap.size w W:=below_nextN hx2 hbW hx2.size
 have HTW:=qh (HT2.out.next hbW)
 clear hC HK2 HT2
 refine wp_region_T (S:=(fun v=>Blk v w2.heap.size 34 #[.slice CA ts.length cc, .slice none 0 0, .slice none 0 0, .slice none 0 0, .slice none 0 0, .slice none 0 0, .slice none 0 0, .slice none 0 0])) [] (by kernel_rfl) HC.out (fun hHeld => ?_)
 refine tkT 0 hHeld ?_ (hy:=by intro v hSv;(try dsimp only at hSv);obtain ⟨p0,p1,p2,p3,p4,p5,p6,p7⟩:=Cat.blk hSv;go_simp;first|done|with_reducible rfl)
 refine tkT 1 hHeld ?_
 refine tkT 2 hHeld ?_ (hy:=by intro v hSv;(try dsimp only at hSv);obtain ⟨p0,p1,p2,p3,p4,p5,p6,p7⟩:=Cat.blk hSv;go_simp;first|done|with_reducible rfl)
 refine abs_world (P:=fun v=>wpT _ _ _ _ _ _ _ _ _ v) (R:=fun v=>Below W.heap.size W v) ((Below.refl _ _).drew) ?_
 clear hHeld
 rintro u0 hU0
 have hCu:=HC.out.below hU0 hzC
 have hHeld:=hCu
 have hzu0:=hU0.size
 refine r1T 3 (fun K hK => ?_)
 go_simp
 (go_at_call 11;(refine (tape_History g b w1.heap.size 8 CA cc ts.length ts u0 (HKW.out.below hU0) hgl1 (HTW.out.next hU0) HU.out rfl HS.out HOK.out h02 (by omega)).mono ?_))
 rintro e u1 ⟨LA,lc,l,rfl,hll,hoc,hk3,hg3⟩
 have hzg3:=hg3.size
 have hC1:=hCu.grown hg3 (fun e=>by injection e with e;omega)
 have hT1:=(HTW.out.next hU0).grown HU.out hgl1 hg3
 refine hK.out _ _ _ hC1 (fun hHeld => ?_)
 clear hK K
 refine r1T 4 (fun K hK => ?_)
 go_simp
 (go_at_call 10;(with_reducible refine (ref17_Versions CA cc ts.length ts LA lc l.length l u1 hT1 rfl HS.out HOK.out (by omega) hoc.read rfl (by omega) hoc.len).mono ?_))
 rintro e u2 ⟨⟨OA,oc,o,rfl,ho⟩,hb3⟩
 have hC2:=hC1.below hb3 (by omega)
 refine hK.out _ _ _ hC2 (fun hHeld => ?_)
 clear hK K
 refine tkT 5 hHeld ?_
 refine wpT_done (by kernel_rfl) ?_ _
 clear hHeld
 have hzb3:=hb3.size
 have hx5:Below w.heap.size w u2:=below_nextN (Below.grown (below_nextN hxW hU0 hxW.size) hg3 (by have:=hxW.size;omega) (fun q e=>by injection e with e;omega)) hb3 (by have:=hxW.size;omega)
 have hzx5:=hx5.size
 have HK5:=qh (hk3.below hb3)
 have HO5:=qh ho
 have HC5:=qh hC2
 have hol:o.length ≤ 64:=by have:=ho.len;omega
 have hgu:g<u1.heap.size:=by omega
 clear hCu hC1 hC2 hT1 hoc hk3 hg3 hb3 ho hU0 HKW HTW HC hbW hxW hx1 hx2
 go_wp2_with fail
 refine (tape_Links g b 7 _ HK5.out (by omega)).mono ?_
 rintro e w7 ⟨v7,lk,s,rfl,hown7,hgen,hs4,hl7,hk7,hg7⟩
 obtain ⟨KA,kcap,hv7,_,_⟩:=hown7.form
 subst hv7
 have HK7:=qh hk7
 have HLK7:=qh hown7
 have hval:=hgen.links (by omega)
 have HVAL:=qh hval
 have HSL:=qh (valid_sane hval)
 have HO7:=qh (HO5.out.kept hg7 hgu)
 have hz7:=hg7.size
 have hx7:Below w.heap.size w w7:=Below.grown hx5 hg7 hx5.size (fun q e=>by injection e with e;omega)
 have HC7:=qh (HC5.out.grown hg7 (fun e=>by injection e with e;omega))
 have HLS:Hid (∀ v,w7.grownBy v (some g)→SliceIs v v.heap.size Link.cells 10 KA lk):=qh fun v hv=>own_read link_len (HLK7.out.kept hv fun q hq e=>by have:=HLK7.out.row q hq;injection e with e;omega)
 have HOS:Hid (∀ v,w7.grownBy v (some g)→SliceIs v v.heap.size Owned.cells 8 OA o∧OwnersIn v v.heap.size o):=qh fun v hv=>(HO7.out.kept hv hgu).read
 have hzu7:=hg7.size
 clear hk7 hown7 hgen hval hg7 HK5 HO5 HC5 hs4 hx5
 go_wp2_with fail
 refine (tape_Identifier g b _ HK7.out).mono ?_
 rintro e w8 ⟨⟨ws,⟨wk,wn,wt⟩⟩,rfl,hvw,hsw0,hk8,hg8⟩
 have hsw:ws.size ≤ 1000000:=by have h:ws.size ≤ 100:=hsw0;omega
 have HVW:=qh hvw
 have HK8:=qh hk8
 clear hk8 hvw hsw0
 go_wp2_with fail
 refine (tape_Next g b 15 _ HK8.out (by omega) (by omega)).mono ?_
 rintro e w9 ⟨q9,rfl,hq9,hk9,hg9⟩
 have hq9':q9 < 15:=by rcases hq9 with h|h <;> omega
 obtain ⟨sq,hsq⟩ : ∃ sq,q9 + 1=sq:=⟨_,rfl⟩
 have hw1:IntKind.i64.wrap (1+(q9:Int))=(sq:Int):=by rw [show 1+(q9:Int)=(sq:Int) by omega];exact IntWalk.i64_in _ (by omega)
 have hsq1 : 1≤sq:=by omega
 have hsq2:sq ≤ 15:=by omega
 have HK9:=qh hk9
 have hG9:w7.grownBy w9 (some g):=grown_trans hg8 hg9
 have hz9:=hG9.size
 clear hk9 hg8 hg9 hq9 hsq HK8 HK7
 go_upto_region 5 with (fail)
 clear hw1
 refine abs_world (P:=fun u=>Code.wp _ _ _ _ u) (R:=fun u=>Blk u w9.heap.size 57 #[.string ws, .int .i64 wk, .int .i64 wn, .string wt]∧Below w9.heap.size w9 u) ⟨?_,?_⟩ ?_
 ·exact Blk.new' rfl
 ·exact belA
 rintro wA ⟨hWB,hbA⟩
 have hzA:=hWB.lt
 have HWB:=qh hWB
 have hGA:w7.grownBy wA (some g):=grown_trans hG9 (grown_start _ hbA)
 have HKA:=qh (HK9.out.below hbA)
 have i0:=hWB.cell 0
 have i1:=hWB.cell 1
 have i2:=hWB.cell 2
 have i3:=hWB.cell 3
 simp only [List.getElem?_toArray,List.getElem?_cons_zero,List.getElem?_cons_succ] at i0 i1 i2 i3
 clear hWB HK9
 go_wp2_with fail
 (with_reducible refine (identity_SubjectF KA kcap lk ⟨ws,⟨wk,wn,wt⟩⟩ (sq:Int) wA (HLS.out _ hGA) (by omega) HSL.out hsw (by omega)).mono ?_)
 rintro e wB ⟨⟨all,SA,sc,hso,rfl,hsc,hss,hsf⟩,hbB⟩
 clear i0 i1 i2 i3
 have HSO:=qh hso
 have HSS:=qh hss
 have HSF:=qh hsf
 have hzB:=hbB.size
 have hGB:w7.grownBy wB (some g):=grown_trans hGA (grown_start _ hbB)
 have HKB:=qh (HKA.out.below hbB)
 have hWB:=HWB.out.below hbB hzA
 have HWB1:=qh hWB
 have i0:=hWB.cell 0
 have i1:=hWB.cell 1
 have i2:=hWB.cell 2
 have i3:=hWB.cell 3
 simp only [List.getElem?_toArray,List.getElem?_cons_zero,List.getElem?_cons_succ] at i0 i1 i2 i3
 clear hso hss hsf hWB HKA HWB
 go_upto_region 8 with (fail)
 refine abs_world (P:=fun u=>Code.wp _ _ _ _ u) (R:=fun u=>Blk u wB.heap.size 61 #[.int .i64 (-1), .int .i64 (-1), .string ws, .int .i64 wk, .int .i64 wn, .string wt, .int .i64 (sq:Int), .int .i64 1, .int .i64 3]∧Blk u (wB.heap.size + 1) 61 #[.int .i64 (-1), .int .i64 (-1), .string ws, .int .i64 wk, .int .i64 wn, .string wt, .int .i64 (sq:Int), .int .i64 1, .int .i64 3]∧Below wB.heap.size wB u) ⟨?_,?_,?_⟩ ?_
 ·exact (Blk.new' rfl).alloc _
 ·exact Blk.new' (by simp)
 ·exact belA
 clear i0 i1 i2 i3
 rintro wC ⟨hB1,hB2,hbC⟩
 have hl1:=hB1.lt
 have hl2:=hB2.lt
 have HB1:=qh hB1
 have HB2:=qh hB2
 have HKC:=qh (HKB.out.below hbC)
 have HC9:Blk wC w2.heap.size 34 #[.slice CA ts.length cc, .slice none 0 0, .slice none 0 0, .slice none 0 0, .slice none 0 0, .slice none 0 0, .slice none 0 0, .slice none 0 0]:=((HC7.out.grown (grown_trans hG9 (grown_start _ hbA)) (fun e=>by injection e with e;omega)).below hbB (by omega)).below hbC (by omega)
 obtain ⟨p0,p1,p2,p3,p4,p5,p6,p7⟩:=Cat.blk HC9
 have htl:ts.length ≤ 3:=hl32
 clear hB1 hB2 HC9 HC7 HKB
 go_wp2_with fail
 refine (tape_Next g b (ts.length:Int) _ HKC.out (by omega) (by omega)).mono ?_
 rintro e wD ⟨qt,rfl,hqt,hkD,hgD⟩
 have hqt':qt<ts.length:=by rcases hqt with h|h <;> omega
 have hB1:=HB1.out.grown hgD (fun e=>by injection e with e;omega)
 have hB2:=HB2.out.grown hgD (fun e=>by injection e with e;omega)
 have hzD:=hgD.size
 have z0:=hB2.cell 0
 have zf:=hB2.frozen
 simp only [List.getElem?_toArray,List.getElem?_cons_zero,List.getElem?_cons_succ] at z0
 have HB1:=qh hB1
 have HB2:=qh hB2
 have hGD:wB.grownBy wD (some g):=grown_trans (grown_start _ hbC) hgD
 have HWD:=qh (HWB1.out.grown hGD (fun e=>by injection e with e;omega))
 clear p0 p1 p2 p3 p4 p5 p6 p7 hB1 hB2 hkD hgD hqt
 go_upto_region 9 with (fail)
 refine abs_world (P:=fun u=>Code.wp _ _ _ _ u) (R:=fun u=>Blk u wB.heap.size 61 #[.int .i64 (-1), .int .i64 (-1), .string ws, .int .i64 wk, .int .i64 wn, .string wt, .int .i64 (sq:Int), .int .i64 1, .int .i64 3]∧Blk u (wB.heap.size + 1) 61 #[.int .i64 (qt:Int), .int .i64 (-1), .string ws, .int .i64 wk, .int .i64 wn, .string wt, .int .i64 (sq:Int), .int .i64 1, .int .i64 3]∧Blk u w9.heap.size 57 #[.string ws, .int .i64 wk, .int .i64 wn, .string wt]∧wB.grownBy u (some g)) ⟨?_,?_,?_,?_⟩ ?_
 ·exact HB1.out.far (by show wB.heap.size≠wB.heap.size + 1;omega) _
 ·exact HB2.out.set_ 0 _
 ·exact HWD.out.far (by show w9.heap.size≠wB.heap.size + 1;omega) _
 ·exact only_setCell hGD (.inr (by show wB.heap.size≤wB.heap.size + 1;omega)) _
 clear z0 zf HB1 HB2
 rintro wE ⟨hB1,hB2,hWE,hGE⟩
 have hl1:=hB1.lt
 have hl2:=hB2.lt
 have hlE:=hWE.lt
 have HB1:=qh hB1
 have HB2:=qh hB2
 have HWE:=qh hWE
 have hG7E:w7.grownBy wE (some g):=grown_trans hGB hGE
 have HLE:=qh (HLS.out _ hG7E)
 have HOE:=qh (HOS.out _ hG7E)
 have HSE:Hid (SliceIs wE wE.heap.size Ident.cells 4 SA all):=qh (HSS.out.grown hGE (fun a ha e=>by have:=HSF.out a ha;injection e with e;omega))
 have hxE:Below w.heap.size w wE:=Below.grown hx7 hG7E hx7.size (fun q e=>by injection e with e;omega)
 have hal:all.length ≤ 1000000:=subject_len HSO.out
 clear hB1 hB2 hWE hGE hG7E HSS HSF HLS HOS hGB hGA hGD hG9 hbA hbB hbC hx7
 go_wp2_with fail
 go_loopw [12] (fun v12 wr => ∃ m:Nat,m≤o.length∧v12 = .int .i64 m∧Below wE.heap.size wE wr) (fun v12 _=>o.length - (intOf v12).toNat)
 case atStart=>exact ⟨0,Nat.zero_le _,rfl,Below.refl _ _⟩
 case round =>
  obtain ⟨m,hm,rfl,hbr⟩:=hrel
  have hzr:=hbr.size
  by_cases hlt:m<o.length
  rotate_left
  ·have hlt':decide (m<o.length)=false:=by simpa using hlt
   have hWr:=HWE.out.below hbr hlE
   have hxr:Below w.heap.size w wr:=below_nextN hxE hbr hxE.size
   have i0:=hWr.cell 0
   have i1:=hWr.cell 1
   have i2:=hWr.cell 2
   have i3:=hWr.cell 3
   simp only [List.getElem?_toArray,List.getElem?_cons_zero,List.getElem?_cons_succ] at i0 i1 i2 i3
   have hWl:=hWr.lt
   have HWR:=qh hWr
   have hvv:=HVW.out
   have hvl:valB ⟨wk,wn,wt⟩=true:=validId_val hvv
   clear hWr
   go_wp2_with fail
   refine (ref16_ValidIdentifier ws wk wn wt _ hsw).mono ?_
   rintro e wF ⟨rfl,hbF⟩
   have hF:=hbF.below
   have hzF:=hF.size
   rw [hvv]
   have hWf:=HWR.out.below hF hWl
   clear i0 i1 i2 i3 hbF
   have i0:=hWf.cell 0
   have i1:=hWf.cell 1
   have i2:=hWf.cell 2
   have i3:=hWf.cell 3
   simp only [List.getElem?_toArray,List.getElem?_cons_zero,List.getElem?_cons_succ] at i0 i1 i2 i3
   go_wp2_with fail
   refine (ref01_ValidR ⟨wk,wn,wt⟩ _ hvl).mono ?_
   rintro e wG ⟨rfl,hbG⟩
   have hG:=hbG.below
   clear hbG i0 i1 i2 i3 hWf
   go_wp2_with fail
   refine (hawake_any _).mono ?_
   rintro e wH ⟨rfl,hbH⟩
   go_wp2_with fail
   go_ret
   exact ⟨rfl,below_nextN (below_nextN (below_nextN hxr hF hxr.size) hG (by have:=hxr.size;omega)) hbH (by have:=hxr.size;have:=hG.size;omega)⟩
  have hlt':decide (m<o.length)=true:=by simpa using hlt
  have hio:=HOE.out.2 o[m] (List.getElem_mem hlt)
  obtain ⟨⟨xt,xc,xs,xr,xd,xA,xcap,xo,xn,xl⟩,hy⟩ : ∃ y:Owned,o[m]=y:=⟨_,rfl⟩
  rw [hy] at hio
  have HY:=qh hy
  have HIO:=qh hio.1
  have hil:=hio.2
  simp only at hil
  clear hio hy
  go_wp2_with fail
  obtain ⟨wo,rfl⟩ : ∃ wo:World,wo=wr:=⟨_,rfl⟩
  go_loopw [13,14] (fun v13 v14 wr => ∃ j:Nat,j≤xo.length∧v14 = .int .i64 j∧v13 = .bool ((xo.take j).any (fun y=>decide (y∈all)))∧Below wE.heap.size wE wr) (fun _ v14 _=>xo.length - (intOf v14).toNat)
  case atStart=>exact ⟨0,Nat.zero_le _,rfl,by simp,hbr⟩
  case round =>
   obtain ⟨j,hj,rfl,rfl,hbi⟩:=hrel
   have hzi:=hbi.size
   obtain ⟨ob,oo,hOe,hob,hc5⟩:=(HOE.out.1.below hbi).get hlt
   obtain ⟨g0,g1,g2,g3,g4,g5,g6,g7⟩:=Owned.cells8 hc5
   rw [HY.out] at g0 g1 g2 g3 g4 g5 g6 g7
   simp only at g0 g1 g2 g3 g4 g5 g6 g7
   subst hOe
   obtain ⟨sm,hsm⟩ : ∃ b,(xo.take j).any (fun y=>decide (y∈all))=b:=⟨_,rfl⟩
   rw [hsm]
   have HSM:=qh hsm
   clear hc5 hsm
   by_cases hjl:j<xo.length
   ·have hjl':decide (j<xo.length)=true:=by simpa using hjl
    have hnx : ∀ r:Bool,(sm||decide (xo[j]∈all))=r→(xo.take (j + 1)).any (fun y=>decide (y∈all))=r:=fun r hr=>by
     rw [List.take_succ_eq_append_getElem hjl,List.any_append,HSM.out,← hr]
     simp
    have HNX:=qh hnx
    clear hnx
    cases sm
    ·obtain ⟨yb,yo',hYe,hyb,hyc⟩:=(HIO.out.below hbi).get hjl
     obtain ⟨y0,y1,y2,y3⟩:=Ident.cells4 hyc
     obtain ⟨⟨ys,⟨yk,yn,yt⟩⟩,hyy⟩ : ∃ y:Ident,xo[j]=y:=⟨_,rfl⟩
     rw [hyy] at y0 y1 y2 y3
     simp only at y0 y1 y2 y3
     subst hYe
     have HYY:=qh hyy
     obtain ⟨r,hr⟩ : ∃ r,decide ((⟨ys,⟨yk,yn,yt⟩⟩:Ident)∈all)=r:=⟨_,rfl⟩
     have HR:=qh hr
     have HN:=qh (HNX.out r (by rw [hyy,hr];rfl))
     clear hyc hyy hr HNX
     go_wp2_with fail
     (with_reducible refine (ref16_HasId (c:=sc) ⟨ys,⟨yk,yn,yt⟩⟩ (HSE.out.next hbi) hal HR.out).mono ?_)
     rintro e w11 ⟨rfl,hb11⟩
     clear y0 y1 y2 y3
     clear g0 g1 g2 g3 g4 g5 g6 g7
     go_wp2_with fail
     go_roundw
     case rel=>exact ⟨j + 1,by omega,by go_num,by rw [HN.out],below_nextN hbi hb11 hzi⟩
     case measure=>simp [intOf];omega
    ·have HN:=qh (HNX.out true rfl)
     clear HNX
     go_wp2_with fail
     go_roundw
     case rel=>exact ⟨j + 1,by omega,by go_num,by rw [HN.out],hbi⟩
     case measure=>simp [intOf];omega
   ·have hjl':decide (j<xo.length)=false:=by simpa using hjl
    have hany:xo.any (fun y=>decide (y∈all))=sm:=by
     rw [← HSM.out,List.take_of_length_le (by omega)]
    have hne:(⟨ws,⟨wk,wn,wt⟩⟩:Ident)≠noId:=fun e=>by have h:=HVW.out;rw [e] at h;exact absurd h (by decide)
    have hcv : ∀ x:Hold,x.who=⟨ws,⟨wk,wn,wt⟩⟩→x.seq=(sq:Int)→coversB x lk xt xc xo=(concernsB x xt xc&&sm):=fun x hw hs=>by
     unfold coversB
     rw [hw,hs,inSubject_eq HSO.out,hany]
     simp [hne]
    have hok1:holdOk (⟨-1,-1,⟨ws,⟨wk,wn,wt⟩⟩,(sq:Int),1,3⟩:Hold)=true:=(holdOk_iff _).2 ⟨by simp,by simp,by simp,by simp,fun _=>rfl,by show (1:Int)≤(sq:Int);omega,by show (sq:Int) ≤ 1073741824;omega, .inr HVW.out,by simp,by simp,by simp⟩
    have hok2:holdOk (⟨(qt:Int),-1,⟨ws,⟨wk,wn,wt⟩⟩,(sq:Int),1,3⟩:Hold)=true:=(holdOk_iff _).2 ⟨by show (-1:Int)≤(qt:Int);omega,by show (qt:Int) ≤ 1000;omega,by simp,by simp,fun h=>rfl,by show (1:Int)≤(sq:Int);omega,by show (sq:Int) ≤ 1073741824;omega, .inr HVW.out,by simp,by simp,by simp⟩
    have hf1:(holdOk (⟨-1,-1,⟨ws,⟨wk,wn,wt⟩⟩,(sq:Int),1,3⟩:Hold)&&validLinks lk&&coversB (⟨-1,-1,⟨ws,⟨wk,wn,wt⟩⟩,(sq:Int),1,3⟩:Hold) lk xt xc xo)=sm:=by
     rw [hok1,HVAL.out,hcv _ rfl rfl]
     simp [concernsB]
    obtain ⟨e1,he1⟩ : ∃ e1,(xt==(qt:Int))=e1:=⟨_,rfl⟩
    have hf2:(holdOk (⟨(qt:Int),-1,⟨ws,⟨wk,wn,wt⟩⟩,(sq:Int),1,3⟩:Hold)&&validLinks lk&&coversB (⟨(qt:Int),-1,⟨ws,⟨wk,wn,wt⟩⟩,(sq:Int),1,3⟩:Hold) lk xt xc xo)=(sm&&e1):=by
     rw [hok2,HVAL.out,hcv _ rfl rfl,← he1]
     have hq:((qt:Int) == -1)=false:=by rw [beq_eq_false_iff_ne];omega
     have hc:((qt:Int)==xt)=(xt==(qt:Int)):=by rw [Bool.eq_iff_iff,beq_iff_eq,beq_iff_eq];exact eq_comm
     simp only [concernsB,hq,hc]
     cases (xt==(qt:Int)) <;> cases sm <;> rfl
    have HF1:=qh hf1
    have HLW:=qh (HLE.out.next hbi)
    have HIW:=qh (HIO.out.next hbi)
    have hA1:=HB1.out.below hbi hl1
    have hA2:=HB2.out.below hbi hl2
    have a0:=hA1.cell 0
    have a1:=hA1.cell 1
    have a2:=hA1.cell 2
    have a3:=hA1.cell 3
    have a4:=hA1.cell 4
    have a5:=hA1.cell 5
    have a6:=hA1.cell 6
    have a7:=hA1.cell 7
    have a8:=hA1.cell 8
    simp only [List.getElem?_toArray,List.getElem?_cons_zero,List.getElem?_cons_succ] at a0 a1 a2 a3 a4 a5 a6 a7 a8
    have c0:=hA2.cell 0
    have c1:=hA2.cell 1
    have c2:=hA2.cell 2
    have c3:=hA2.cell 3
    have c4:=hA2.cell 4
    have c5:=hA2.cell 5
    have c6:=hA2.cell 6
    have c7:=hA2.cell 7
    have c8:=hA2.cell 8
    simp only [List.getElem?_toArray,List.getElem?_cons_zero,List.getElem?_cons_succ] at c0 c1 c2 c3 c4 c5 c6 c7 c8
    clear hany hne hcv hok1 hok2 hf1 hA1 hA2
    go_upto_region 17 with (fail)
    cases sm
    ·have HF2:Hid ((holdOk (⟨(qt:Int),-1,⟨ws,⟨wk,wn,wt⟩⟩,(sq:Int),1,3⟩:Hold)&&validLinks lk&&coversB (⟨(qt:Int),-1,⟨ws,⟨wk,wn,wt⟩⟩,(sq:Int),1,3⟩:Hold) lk xt xc xo)=false):=qh hf2
     clear hf2 he1
     (
      refine wp_region_T (S:=(fun v=>Below wr.heap.size wr v)) [] (by kernel_rfl) ((Below.refl _ _).drew) (fun hHeld => ?_)
      refine tkT 0 hHeld ?_ (hy:=by intro v hSv;(try dsimp only at hSv);have k1:=keepW hSv wB.heap.size (by omega);go_simp;first|done|with_reducible rfl)
      refine tkT 1 hHeld ?_
      refine tkT 2 hHeld ?_
      refine tkT 3 hHeld ?_
      refine tkT 4 hHeld ?_
      refine tkT 5 hHeld ?_ (hy:=by intro v hSv;(try dsimp only at hSv);have k1:=keepW hSv ob (by omega);go_simp;first|done|with_reducible rfl)
      refine tkT 7 hHeld ?_
      refine abs_world (P:=fun v=>wpT _ _ _ _ _ _ _ _ _ v) (R:=fun v=>Below wr.heap.size wr v) hHeld ?_
      clear hHeld
      rintro u0 hU0
      have hHeld:=hU0
      refine r1T 6 (fun K hK => ?_)
      go_simp
      (go_at_call 18;(refine (hold_Covers (⟨-1,-1,⟨ws,⟨wk,wn,wt⟩⟩,(sq:Int),1,3⟩:Hold) KA kcap lk.length lk xt xc xs xr xd xA xcap xo.length xo xn xl u0 (HLW.out.next (by assumption)) rfl (by omega) HSL.out hsw (HIW.out.next (by assumption)) rfl hil HF1.out).mono ?_))
      rintro e u1 ⟨rfl,hbu⟩
      have hU1:=below_nextN hU0 hbu hU0.size
      refine hK.out _ _ _ hU1 (fun hHeld => ?_)
      clear hK K hbu
      refine tkT 8 hHeld ?_
      refine tkT 9 hHeld ?_
      refine tkT 10 hHeld ?_ (hy:=by intro v hSv;(try dsimp only at hSv);have k1:=keepW hSv (wB.heap.size + 1) (by omega);go_simp;first|done|with_reducible rfl)
      refine tkT 11 hHeld ?_
      refine tkT 12 hHeld ?_
      refine tkT 13 hHeld ?_
      refine tkT 14 hHeld ?_
      refine tkT 15 hHeld ?_ (hy:=by intro v hSv;(try dsimp only at hSv);have k1:=keepW hSv ob (by omega);go_simp;first|done|with_reducible rfl)
      refine tkT 17 hHeld ?_
      refine abs_world (P:=fun v=>wpT _ _ _ _ _ _ _ _ _ v) (R:=fun v=>Below wr.heap.size wr v) hHeld ?_
      clear hHeld
      rintro u2 hU2
      have hHeld:=hU2
      refine r1T 16 (fun K hK => ?_)
      go_simp
      (go_at_call 18;(refine (hold_Covers (⟨(qt:Int),-1,⟨ws,⟨wk,wn,wt⟩⟩,(sq:Int),1,3⟩:Hold) KA kcap lk.length lk xt xc xs xr xd xA xcap xo.length xo xn xl u2 (HLW.out.next (by assumption)) rfl (by omega) HSL.out hsw (HIW.out.next (by assumption)) rfl hil HF2.out).mono ?_))
      rintro e u3 ⟨rfl,hbu⟩
      have hU3:=below_nextN hU2 hbu hU2.size
      refine hK.out _ _ _ hU3 (fun hHeld => ?_)
      clear hK K hbu
      refine tkT 18 hHeld ?_
      (
       refine unT 19 hHeld ?_
       refine unT 20 hHeld ?_
       refine unT 21 hHeld ?_
       refine unT 22 hHeld ?_
       refine unT 23 hHeld ?_
       refine unT 24 hHeld ?_
       refine unT 25 hHeld ?_
       refine unT 26 hHeld ?_
       refine unT 27 hHeld ?_)
      refine tkT 28 hHeld ?_
      refine tkT 29 hHeld ?_
      refine tkT 30 hHeld ?_
      refine wpT_done (by kernel_rfl) ?_ _
      clear hHeld
      have hbN:=below_nextN hbi hU3 hzi
      clear a0 a1 a2 a3 a4 a5 a6 a7 a8 c0 c1 c2 c3 c4 c5 c6 c7 c8
      clear g0 g1 g2 g3 g4 g5 g6 g7
      go_wp2_with fail
      go_roundw
      case rel=>exact ⟨m + 1,by omega,by go_num,hbN⟩
      case measure=>simp [intOf];omega)
    ·cases e1
     all_goals (
      have HF2:=qh hf2
      clear hf2
      refine wp_region_T (S:=(fun v=>Below wr.heap.size wr v)) [] (by kernel_rfl) ((Below.refl _ _).drew) (fun hHeld => ?_)
      refine tkT 0 hHeld ?_ (hy:=by intro v hSv;(try dsimp only at hSv);have k1:=keepW hSv wB.heap.size (by omega);go_simp;first|done|with_reducible rfl)
      refine tkT 1 hHeld ?_
      refine tkT 2 hHeld ?_
      refine tkT 3 hHeld ?_
      refine tkT 4 hHeld ?_
      refine tkT 5 hHeld ?_ (hy:=by intro v hSv;(try dsimp only at hSv);have k1:=keepW hSv ob (by omega);go_simp;first|done|with_reducible rfl)
      refine tkT 7 hHeld ?_
      refine abs_world (P:=fun v=>wpT _ _ _ _ _ _ _ _ _ v) (R:=fun v=>Below wr.heap.size wr v) hHeld ?_
      clear hHeld
      rintro u0 hU0
      have hHeld:=hU0
      refine r1T 6 (fun K hK => ?_)
      go_simp
      (go_at_call 18;(refine (hold_Covers (⟨-1,-1,⟨ws,⟨wk,wn,wt⟩⟩,(sq:Int),1,3⟩:Hold) KA kcap lk.length lk xt xc xs xr xd xA xcap xo.length xo xn xl u0 (HLW.out.next (by assumption)) rfl (by omega) HSL.out hsw (HIW.out.next (by assumption)) rfl hil HF1.out).mono ?_))
      rintro e u1 ⟨rfl,hbu⟩
      have hU1:=below_nextN hU0 hbu hU0.size
      refine hK.out _ _ _ hU1 (fun hHeld => ?_)
      clear hK K hbu
      refine tkT 8 hHeld ?_
      refine tkT 9 hHeld ?_
      refine tkT 10 hHeld ?_ (hy:=by intro v hSv;(try dsimp only at hSv);have k1:=keepW hSv (wB.heap.size + 1) (by omega);go_simp;first|done|with_reducible rfl)
      refine tkT 11 hHeld ?_
      refine tkT 12 hHeld ?_
      refine tkT 13 hHeld ?_
      refine tkT 14 hHeld ?_
      refine tkT 15 hHeld ?_ (hy:=by intro v hSv;(try dsimp only at hSv);have k1:=keepW hSv ob (by omega);go_simp;first|done|with_reducible rfl)
      refine tkT 17 hHeld ?_
      refine abs_world (P:=fun v=>wpT _ _ _ _ _ _ _ _ _ v) (R:=fun v=>Below wr.heap.size wr v) hHeld ?_
      clear hHeld
      rintro u2 hU2
      have hHeld:=hU2
      refine r1T 16 (fun K hK => ?_)
      go_simp
      (go_at_call 18;(refine (hold_Covers (⟨(qt:Int),-1,⟨ws,⟨wk,wn,wt⟩⟩,(sq:Int),1,3⟩:Hold) KA kcap lk.length lk xt xc xs xr xd xA xcap xo.length xo xn xl u2 (HLW.out.next (by assumption)) rfl (by omega) HSL.out hsw (HIW.out.next (by assumption)) rfl hil HF2.out).mono ?_))
      rintro e u3 ⟨rfl,hbu⟩
      have hU3:=below_nextN hU2 hbu hU2.size
      refine hK.out _ _ _ hU3 (fun hHeld => ?_)
      clear hK K hbu
      refine tkT 18 hHeld ?_
      (
       refine tkT 19 hHeld ?_
       refine tkT 20 hHeld ?_
       refine tkT 21 hHeld ?_
       refine tkT 22 hHeld ?_
       refine tkT 23 hHeld ?_
       refine tkT 24 hHeld ?_ (hy:=by intro v hSv;(try dsimp only at hSv);have k1:=keepW hSv ob (by omega);go_simp;first|done|with_reducible rfl)
       refine tkT 25 hHeld ?_
       refine tkT 26 hHeld ?_ (hy:=by intro v hSv;(try dsimp only at hSv);have k1:=keepW hSv (wB.heap.size + 1) (by omega);go_simp;first|done|with_reducible rfl)
       refine tkT 27 hHeld ?_)
      refine tkT 28 hHeld ?_
      refine tkT 29 hHeld ?_
      refine tkT 30 hHeld ?_
      refine wpT_done (by kernel_rfl) ?_ _
      clear hHeld
      have hbN:=below_nextN hbi hU3 hzi
      clear a0 a1 a2 a3 a4 a5 a6 a7 a8 c0 c1 c2 c3 c4 c5 c6 c7 c8
      clear g0 g1 g2 g3 g4 g5 g6 g7
      go_wp2_with fail
      go_roundw
      case rel=>exact ⟨m + 1,by omega,by go_num,hbN⟩
      case measure=>simp [intOf];omega)
end Go.Proofs.YtmckeeegphgekaaGreat
namespace Go.Proofs.YtmckeeegphgekaaGreat.holdTogether
open Go.ChangeShapes Go.WideShapes Go.ChangeAt Go.RowKit
theorem own:ownKnob Tryz.prog.godebug=none:=by kernel_rfl
theorem laidOut:laidOutB Tryz.prog=true:=by kernel_rfl
theorem bytesInt:Tryz.prog.bytesOf 3 = 8:=by kernel_rfl
set_option maxRecDepth 100000 in
theorem lifted (os:Os) (started:os.Started) (H:Type) (enc:TypeId × Value→H) :
 ReturnsInHanded {} Tryz.checked os 5 .any (Rows.holdTogetherSpec.pre6 enc Tryz.prog Tryz.f5 Rows.holdTogetherRow.domain false) (Rows.holdTogetherSpec.post enc Tryz.prog Tryz.f5 false true false false):=by
 refine returnsInHanded_of_change_sized (C:=Tryz.checked) own started (by kernel_rfl) Tryz.func5
  (ChangeSpec.witness6 (enc:=enc) (C:=Tryz.checked) false ⟨#[],#[.slice none 0 0],[]⟩ 8 (by kernel_rfl) (by kernel_rfl) (by kernel_rfl) (by kernel_rfl)) ?_
 intro W base args ds gs before hval0 hW hcnd hsz0 _
 have hval : ∀ (j:Nat) t v,Tryz.f5.params[j]? = some t→args[j]? = some v→Value.okWide Tryz.prog W .any base t v:=hval0
 have hsz:(DataW.weightsEach Tryz.prog (Tryz.f5.params.toList++Rows.holdTogetherSpec.plain.varTypes Tryz.prog) (ds++gs)).all (· ≤ reachBytes)=true:=hsz0
 have hW':=hW
 obtain ⟨p,q,hA0,hV,rfl,hfz,hnd⟩:=hW
 have hA:DataW.TrodAll enc Tryz.prog W 0 (fun _=>true) true Tryz.f5.params.toList args.toList ds p:=hA0
 rw [Tryz.params5] at hA hval hsz
 obtain ⟨v0,vs0,d0,ds0,p0,q0,hargs,rfl,rfl,h0,r0⟩:=trodAll_cons hA
 obtain ⟨rfl,rfl,rfl⟩:=trodAll_nil r0
 obtain rfl:args = #[v0]:=by cases args;simp_all
 obtain ⟨rfl,rfl⟩:=trodVars_none hV
 obtain ⟨a0,len0,cap0,rfl⟩:=okWide_slice Tryz.underlying22 (hval 0 22 v0 rfl rfl)
 have k0:=h0
 have lt0 : ∀ x∈p0,x.block<W.heap.size:=by obtain ⟨m,hm⟩:=k0;exact DataW.trod_lt m _ _ _ hm
 obtain ⟨t,htl,hts,ht8⟩ : ∃ t:List Int,t.length=len0∧SliceIs W W.heap.size intCells 1 a0 t∧t.length * 8 ≤ 140737488351232:=by
  obtain ⟨fuel,hf⟩:=h0
  rcases open_ints Tryz.underlying22 Tryz.underlying3 (by kernel_rfl) hf with ⟨hcs,_⟩|⟨x,l,c,zs,hcs,_,hl,hm,hz,hx,hcell,hwz⟩
  ·simp [Value.cells] at hcs
   obtain ⟨rfl,rfl,rfl⟩:=hcs
   exact ⟨[],rfl,SliceIs.nil,by simp⟩
  ·simp [Value.cells] at hcs
   obtain ⟨rfl,rfl,rfl⟩:=hcs
   simp only [Prod.mk.injEq] at hx
   obtain ⟨rfl,_⟩:=hx
   have hs:=sized_slice hsz (j := 0) (t := 22) (e := 3) rfl rfl Tryz.underlying22
   rw [bytesInt] at hs
   simp only [lits,List.length_map,List.length_take,List.length_drop,reachBytes] at hs
   have hzl:zs.length=cap0:=by simpa using hz
   refine ⟨zs.take len0,by simp;omega,fun h => ?_,by simp;omega⟩
   have h1 : 0<zs.length:=by simp at h;omega
   obtain ⟨xb,xo,xs⟩:=x
   have hc0:=hcell 0 h1
   have hsp:xs=none:=by
    cases xs with
    | none=>rfl
    | some y =>
      simp only [Addr.add,World.cell?,Option.isSome_some,if_true] at hc0
      split at hc0 <;> simp at hc0
   subst hsp
   have hlt:xb<W.heap.size:=by
    rcases Nat.lt_or_ge xb W.heap.size with h|h
    ·exact h
    ·simp [Addr.add,World.cell?,Array.getElem?_eq_none h] at hc0
   refine ⟨xb,xo,rfl,hlt,fun i hi j u hu => ?_⟩
   have hj:j = 0:=by have:=(List.getElem?_eq_some_iff.1 hu).1;simp [intCells] at this;omega
   subst hj
   have hil:i<zs.length:=by simp at hi;omega
   have:=hcell i hil
   simp only [intCells,List.getElem?_cons_zero,Option.some.injEq] at hu
   subst hu
   rw [List.getElem_take]
   rw [List.getD_eq_getElem?_getD,List.getElem?_eq_getElem hil] at this
   unfold Addr.add at this
   split at this
   ·rename_i h0;subst h0;simpa using this
   ·simpa using this
 clear hA0 hval0
 subst htl
 refine (holdtogether_walk a0 cap0 t W hts ht8).mono fun e W' ⟨he,bel⟩ => ?_
 subst he
 exact ⟨_,rfl,_,_,_,[],_,[],hW',trodAll_mk1 (shut_bool Tryz.underlying4 _),(trodAll_cons_mk (Below.trod laidOut (by kernel_rfl) (of_decide_eq_true (by kernel_rfl)) k0 bel lt0) trodAll_mk0),rfl,bel.frame _,fun h=>by cases h⟩
theorem over:Rows.holdTogetherRow.holds Tryz.pinned (OpenSpec.ofChange Rows.holdTogetherSpec) :=
 OpenClaim.holds_of_wide 5 Tryz.f5 rfl rfl rfl rfl rfl rfl rfl ⟨rfl,rfl,rfl,rfl,rfl⟩ rfl rfl rfl rfl rfl (by kernel_rfl) Tryz.func5 (by kernel_rfl)
  (of_decide_eq_true (by kernel_rfl)) (by unfold Func.isWrapper;first|(rw [if_pos (by decide +kernel)];kernel_rfl)|(rw [if_neg (by decide +kernel)];exact ⟨rfl,rfl⟩))
  (fun os started H enc _=>lifted os started H enc)
theorem proved:Rows.HoldTogetherSaid:=over
#print axioms proved
end Go.Proofs.YtmckeeegphgekaaGreat.holdTogether
