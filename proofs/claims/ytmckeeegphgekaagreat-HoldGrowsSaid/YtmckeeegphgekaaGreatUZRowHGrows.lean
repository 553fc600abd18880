/-
  For every list of numbers the law HoldGrows returns true: links that are found later make a hold cover more versions, never fewer. No condition.
-/
import Derived.Test.YtmckeeegphgekaaGreatU17
import Derived.Test.YtmckeeegphgekaaGreatU15
import Derived.Test.YtmckeeegphgekaaGreatU10
import Derived.Test.YtmckeeegphgekaaGreatU14
import Derived.Test.YtmckeeegphgekaaGreatU16
import Derived.Test.YtmckeeegphgekaaGreatU2
import Derived.Test.YtmckeeegphgekaaGreatRows
import Derived.WalkKit
import Derived.ProofKit
import Derived.OpenShut
import Derived.ShutString
import Derived.ChangeOld
import Derived.Below
import Derived.SizedLaws
set_option linter.unusedVariables false
set_option linter.unusedSimpArgs false
namespace Go.Proofs.YtmckeeegphgekaaGreat
open Go.RowKit
set_option maxRecDepth 100000 in
set_option maxHeartbeats 8000000 in
theorem holdgrows_walk (A:Option Addr) (c:Nat) (t:List Int) (w:World) (hl:SliceIs w w.heap.size intCells 1 A t) (hn:t.length * 8 ≤ 140737488351232) :
 Calls Tryz.prog 4 #[.slice A t.length c] w fun e w'=>e = .returned (.bool true)∧Below w.heap.size w w':=by
 have HL0:=qh hl
 clear hl
 go_enter Tryz.func4,Tryz.ntmps4
 go_wp2_with fail
 refine (tape_New A c t _ HL0.out hn).mono ?_
 rintro e w1 ⟨⟨g,b,rfl,hg1,hb1,hk1⟩,hx1⟩
 have HK1:=qh hk1
 have hgl1:=hk1.ltg
 clear hk1 HL0
 go_wp2_with fail
 refine (tape_Tables g b 3 _ HK1.out (by omega) (by omega)).mono ?_
 rintro e w2 ⟨CA,cc,ts,rfl,ht2,hu2,hbd2,hs2,hok2,h02,hl32,hk2,hg2⟩
 have HK2:=qh hk2
 have HT2:=qh ht2
 have HU:=qh hu2
 have HS:=qh hs2
 have HOK:=qh hok2
 have hx2:Below w.heap.size w w2:=Below.grown hx1 hg2 hx1.size (fun q e=>by injection e with e;omega)
 have hz2:=hg2.size
 clear hk2 ht2 hu2 hbd2 hs2 hok2 hg2 HK1
 go_upto_region 3 with (fail)
 refine abs_world (P:=fun u=>Code.wp _ _ _ _ u) (R:=fun u=>Blk u w2.heap.size 34 #[.slice CA ts.length cc, .slice none 0 0, .slice none 0 0, .slice none 0 0, .slice none 0 0, .slice none 0 0, .slice none 0 0, .slice none 0 0]∧Below w2.heap.size w2 u) ⟨?_,?_⟩ ?_
 ·exact Blk.new' rfl
 ·exact belA
 rintro W ⟨hC,hbW⟩
 have HC:=qh hC
 have hzC:=hC.lt
 have HKW:=qh (HK2.out.below hbW)
 have hxW:Below w.heap.size w W:=below_nextN hx2 hbW hx2.size
 have HTW:=qh (HT2.out.next hbW)
 clear hC HK2 HT2
 refine wp_region_T (S:=(fun v=>Blk v w2.heap.size 34 #[.slice CA ts.length cc, .slice none 0 0, .slice none 0 0, .slice none 0 0, .slice none 0 0, .slice none 0 0, .slice none 0 0, .slice none 0 0])) [] (by kernel_rfl) HC.out (fun hHeld => ?_)
 refine tkT 0 hHeld ?_ (hy:=by intro v hSv;(try dsimp only at hSv);obtain ⟨p0,p1,p2,p3,p4,p5,p6,p7⟩:=Cat.blk hSv;go_simp;first|done|with_reducible rfl)
 refine tkT 1 hHeld ?_
 refine tkT 2 hHeld ?_ (hy:=by intro v hSv;(try dsimp only at hSv);obtain ⟨p0,p1,p2,p3,p4,p5,p6,p7⟩:=Cat.blk hSv;go_simp;first|done|with_reducible rfl)
 refine abs_world (P:=fun v=>wpT _ _ _ _ _ _ _ _ _ v) (R:=fun v=>Below W.heap.size W v) ((Below.refl _ _).drew) ?_
 clear hHeld
 rintro u0 hU0
 have hCu:=HC.out.below hU0 hzC
 have hHeld:=hCu
 have hzu0:=hU0.size
 refine r1T 3 (fun K hK => ?_)
 go_simp
 (go_at_call 11;(refine (tape_History g b w1.heap.size 6 CA cc ts.length ts u0 (HKW.out.below hU0) hgl1 (HTW.out.next hU0) HU.out rfl HS.out HOK.out h02 (by omega)).mono ?_))
 rintro e u1 ⟨LA,lc,l,rfl,hll,hoc,hk3,hg3⟩
 have hzg3:=hg3.size
 have hC1:=hCu.grown hg3 (fun e=>by injection e with e;omega)
 have hT1:=(HTW.out.next hU0).grown HU.out hgl1 hg3
 refine hK.out _ _ _ hC1 (fun hHeld => ?_)
 clear hK K
 refine r1T 4 (fun K hK => ?_)
 go_simp
 (go_at_call 10;(with_reducible refine (ref17_Versions CA cc ts.length ts LA lc l.length l u1 hT1 rfl HS.out HOK.out (by omega) hoc.read rfl (by omega) hoc.len).mono ?_))
 rintro e u2 ⟨⟨OA,oc,o,rfl,ho⟩,hb3⟩
 have hC2:=hC1.below hb3 (by omega)
 refine hK.out _ _ _ hC2 (fun hHeld => ?_)
 clear hK K
 refine tkT 5 hHeld ?_
 refine wpT_done (by kernel_rfl) ?_ _
 clear hHeld
 have hzb3:=hb3.size
 have hx5:Below w.heap.size w u2:=below_nextN (Below.grown (below_nextN hxW hU0 hxW.size) hg3 (by have:=hxW.size;omega) (fun q e=>by injection e with e;omega)) hb3 (by have:=hxW.size;omega)
 have hzx5:=hx5.size
 have HK5:=qh (hk3.below hb3)
 have HO5:=qh ho
 have HC5:=qh hC2
 have hol:o.length ≤ 64:=by have:=ho.len;omega
 have hgu:g<u1.heap.size:=by omega
 clear hCu hC1 hC2 hT1 hoc hk3 hg3 hb3 ho hU0 HKW HTW HC hbW hxW hx1 hx2
 go_wp2_with fail
 refine (tape_Holds g b 4 _ HK5.out (by omega)).mono ?_
 rintro e w6 ⟨v6,hs,rfl,hown6,hsn6,hl6,hk6,hg6⟩
 obtain ⟨HA,hcap,hv6,_,_⟩:=hown6.form
 subst hv6
 have HK6:=qh hk6
 have HH6:=qh hown6
 have HSH:=qh hsn6
 have HO6:=qh (HO5.out.kept hg6 hgu)
 have hz6:=hg6.size
 have hx6:Below w.heap.size w w6:=Below.grown hx5 hg6 hx5.size (fun q e=>by injection e with e;omega)
 clear hk6 hown6 hsn6 hg6 HK5 HO5 HC5
 go_wp2_with fail
 refine (tape_Links g b 7 _ HK6.out (by omega)).mono ?_
 rintro e w7 ⟨v7,lk,s,rfl,hown7,hgen,hs4,hl7,hk7,hg7⟩
 obtain ⟨KA,kcap,hv7,_,_⟩:=hown7.form
 subst hv7
 have HK7:=qh hk7
 have HLK7:=qh hown7
 have hval:=hgen.links (by omega)
 have HVAL:=qh hval
 have HSL:=qh (valid_sane hval)
 have HO7:=qh (HO6.out.kept hg7 hgu)
 have hz7:=hg7.size
 have hx7:Below w.heap.size w w7:=Below.grown hx6 hg7 hx6.size (fun q e=>by injection e with e;omega)
 have HH7:=qh (HH6.out.kept hg7 fun q hq e=>by have:=HH6.out.row q hq;injection e with e;omega)
 have hkc:lk.length≤kcap:=own_cap HLK7.out
 have HHS:Hid (∀ v,w7.grownBy v (some g)→SliceIs v v.heap.size Hold.cells 9 HA hs):=qh fun v hv=>own_read hold_len (HH7.out.kept hv fun q hq e=>by have:=HH7.out.row q hq;injection e with e;omega)
 have HLS:Hid (∀ v,w7.grownBy v (some g)→SliceIs v v.heap.size Link.cells 10 KA lk):=qh fun v hv=>own_read link_len (HLK7.out.kept hv fun q hq e=>by have:=HLK7.out.row q hq;injection e with e;omega)
 have HOS:Hid (∀ v,w7.grownBy v (some g)→SliceIs v v.heap.size Owned.cells 8 OA o∧OwnersIn v v.heap.size o):=qh fun v hv=>(HO7.out.kept hv hgu).read
 clear hk7 hown7 hgen hval hg7 HK6 HO6 HH6 hs4 hx6 hx5
 go_wp2_with fail
 go_loopw [8] (fun v8 wr => ∃ m:Nat,m≤hs.length∧v8 = .int .i64 m∧IsTape wr g b∧w7.grownBy wr (some g)) (fun v8 _=>hs.length - (intOf v8).toNat)
 case atStart=>exact ⟨0,Nat.zero_le _,rfl,HK7.out,grown_refl _ _⟩
 case round =>
  clear HK7
  obtain ⟨m,hm,rfl,hkr,hgr⟩:=hrel
  have HKR:=qh hkr
  have hzr:=hgr.size
  clear hkr
  by_cases hlt:m<hs.length
  rotate_left
  ·have hlt':decide (m<hs.length)=false:=by simpa using hlt
   have hxr:Below w.heap.size w wr:=Below.grown hx7 hgr hx7.size (fun q e=>by injection e with e;omega)
   go_wp2_with fail
   refine (hawake_any _).mono ?_
   rintro e w9 ⟨rfl,hb9⟩
   go_wp2_with fail
   go_ret
   exact ⟨rfl,below_nextN hxr hb9 hxr.size⟩
  have hlt':decide (m<hs.length)=true:=by simpa using hlt
  have hsm:=HSH.out hs[m] (List.getElem_mem hlt)
  obtain ⟨⟨sht,shc,⟨ws,⟨wk,wn,wt⟩⟩,sq,d0,d1⟩,hx⟩ : ∃ x:Hold,hs[m]=x:=⟨_,rfl⟩
  rw [hx] at hsm
  have hsw:ws.size ≤ 1000000:=hsm
  have HX:=qh hx
  clear hx hsm
  go_wp2_with fail
  obtain ⟨wo,rfl⟩ : ∃ wo:World,wo=wr:=⟨_,rfl⟩
  go_loopw [9] (fun v9 wr => ∃ i:Nat,i≤lk.length∧v9 = .int .i64 i∧Below wo.heap.size wo wr) (fun v9 _=>lk.length - (intOf v9).toNat)
  case atStart=>exact ⟨0,Nat.zero_le _,rfl,Below.refl _ _⟩
  case round =>
   obtain ⟨i,hi,rfl,hbi⟩:=hrel
   have hzi:=hbi.size
   have hgi:w7.grownBy wr (some g):=grown_trans hgr (grown_start _ hbi)
   by_cases hil:i<lk.length
   rotate_left
   ·have hil':decide (i<lk.length)=false:=by simpa using hil
    have HEX:Hid (∀ j (h:j<lk.length),i≤j→sq<lk[j].seq):=qh fun j h hj=>absurd hj (by omega)
    go_upto_region 9 with (fail)
    refine wp_region_bel (by kernel_rfl) (by kernel_rfl) ?_;(repeat (go_big_quiet_step (fail)));refine wpQuiet_nil ?_;intro wq hq
    obtain ⟨wp,rfl⟩ : ∃ wp:World,wp=wr:=⟨_,rfl⟩
    have hgq:w7.grownBy wq (some g):=grown_trans hgi (grown_start _ hq)
    have hkq:=HKR.out.below (below_nextN hbi hq hbi.size)
    clear hil'
    (
    obtain ⟨d,hd⟩ : ∃ d,lk.length - i=d:=⟨_,rfl⟩
    have hw1:IntKind.i64.wrap ((lk.length:Int) - (i:Int))=(d:Int):=by rw [show (lk.length:Int) - (i:Int)=(d:Int) by omega];exact IntWalk.i64_in _ (by omega)
    have hw2:IntKind.i64.wrap ((d:Int) + 1)=((d + 1:Nat):Int):=by rw [show (d:Int) + 1=((d + 1:Nat):Int) by omega];exact IntWalk.i64_in _ (by omega)
    have hdl:d ≤ 7:=by omega
    have HD:=qh hd
    clear hd
    go_wp2_with fail
    refine (tape_Next g b ((d + 1:Nat):Int) _ hkq (by omega) (by omega)).mono ?_
    rintro e w8 ⟨r,rfl,hr,hk8,hg8⟩
    have hr':r<d + 1:=by rcases hr with h|h <;> omega
    obtain ⟨nn,hnn⟩ : ∃ nn,i+r=nn:=⟨_,rfl⟩
    have hw3:IntKind.i64.wrap ((i:Int)+(r:Int))=(nn:Int):=by rw [show (i:Int)+(r:Int)=(nn:Int) by omega];exact IntWalk.i64_in _ (by omega)
    have hnl:nn≤lk.length:=by have:=HD.out;omega
    have hex2 : ∀ j (h:j<lk.length),nn≤j→sq<lk[j].seq:=fun j h hj=>HEX.out j h (by omega)
    have HEX2:=qh hex2
    have HK8:=qh hk8
    have hg78:w7.grownBy w8 (some g):=grown_trans hgq hg8
    clear hk8 hg8 hr hnn hex2 hw1 hw2
    go_wp2_with fail
    clear hw3
    go_loopw [10] (fun v10 wr => ∃ j:Nat,j≤o.length∧v10 = .int .i64 j∧Below w8.heap.size w8 wr) (fun v10 _=>o.length - (intOf v10).toNat)
    case atStart=>exact ⟨0,Nat.zero_le _,rfl,Below.refl _ _⟩
    case round =>
     obtain ⟨j,hj,rfl,hbj⟩:=hrel
     have hzj:=hbj.size
     have hgj:w7.grownBy wr (some g):=grown_trans hg78 (grown_start _ hbj)
     by_cases hjl:j<o.length
     rotate_left
     ·have hjl':decide (j<o.length)=false:=by simpa using hjl
      go_wp2_with fail
      go_roundw
      case rel=>exact ⟨m + 1,by omega,by go_num,HK8.out.below hbj,hgj⟩
      case measure=>simp [intOf];omega
     have hjl':decide (j<o.length)=true:=by simpa using hjl
     obtain ⟨ob,oo,hOe,hob,hc5⟩:=(HOS.out _ hgj).1.get hjl
     obtain ⟨g0,g1,g2,g3,g4,g5,g6,g7⟩:=Owned.cells8 hc5
     have hio:=(HOS.out _ hgj).2 o[j] (List.getElem_mem hjl)
     obtain ⟨⟨xt,xc,xs,xr,xd,xA,xcap,xo,xn,xl⟩,hy⟩ : ∃ y:Owned,o[j]=y:=⟨_,rfl⟩
     rw [hy] at g0 g1 g2 g3 g4 g5 g6 g7 hio
     simp only at g0 g1 g2 g3 g4 g5 g6 g7
     have HIO:=qh hio.1
     have hil:=hio.2
     simp only at hil
     subst hOe
     obtain ⟨hb,ho,hHe,hhb,hhc⟩:=(HHS.out _ hgj).get hlt
     obtain ⟨h0,h1,⟨h2,h3,h4,h5⟩,h6,h7,h8⟩:=Hold.cells9 hhc
     rw [HX.out] at h0 h1 h2 h3 h4 h5 h6 h7 h8
     simp only at h0 h1 h2 h3 h4 h5 h6 h7 h8
     first
     | subst hHe
     | (injection hHe with hHe;injection hHe with hHe1 hHe2;subst hHe1 hHe2)
     have hTK:SliceIs wr wr.heap.size Link.cells 10 KA (lk.take nn):=(HLS.out _ hgj).take nn
     have HTK:=qh hTK
     have HLW:=qh (HLS.out _ hgj)
     have HST:Hid (Sane (lk.take nn)):=qh fun y hy=>HSL.out y (List.mem_of_mem_take hy)
     have hnk:nn≤kcap:=by omega
     obtain ⟨f1,hf1⟩ : ∃ f,(holdOk (⟨sht,shc,⟨ws,⟨wk,wn,wt⟩⟩,sq,d0,d1⟩:Hold)&&validLinks (lk.take nn)&&coversB (⟨sht,shc,⟨ws,⟨wk,wn,wt⟩⟩,sq,d0,d1⟩:Hold) (lk.take nn) xt xc xo)=f:=⟨_,rfl⟩
     obtain ⟨f2,hf2⟩ : ∃ f,(holdOk (⟨sht,shc,⟨ws,⟨wk,wn,wt⟩⟩,sq,d0,d1⟩:Hold)&&validLinks lk&&coversB (⟨sht,shc,⟨ws,⟨wk,wn,wt⟩⟩,sq,d0,d1⟩:Hold) lk xt xc xo)=f:=⟨_,rfl⟩
     have himp:f1=true→f2=true:=fun h=>by
      rw [← hf1] at h
      simp only [Bool.and_eq_true] at h
      rw [← hf2]
      simp only [Bool.and_eq_true]
      exact ⟨⟨h.1.1,HVAL.out⟩,covers_take HVAL.out HEX2.out (fun hn=>by
       have:=(holdOk_iff _).1 h.1.1
       rcases this.2.2.2.2.2.2.2.1 with h|h
       ·exact absurd h hn
       ·exact h) h.2⟩
     have HF1:=qh hf1
     have HF2:=qh hf2
     have HIMP:=qh himp
     clear hc5 hy hio hhc hTK hf1 hf2 himp
     go_upto_region 15 with (fail)
     (
     refine wp_region_T (S:=(fun v=>Below wr.heap.size wr v)) [] (by kernel_rfl) ((Below.refl _ _).drew) (fun hHeld => ?_)
     refine tkT 0 hHeld ?_
     refine tkT 1 hHeld ?_
     refine tkT 2 hHeld ?_
     refine tkT 3 hHeld ?_ (hy:=by intro v hSv;(try dsimp only at hSv);have k1:=keepW hSv hb (by omega);go_simp;first|done|with_reducible rfl)
     refine tkT 4 hHeld ?_
     refine tkT 5 hHeld ?_
     refine tkT 6 hHeld ?_
     refine tkT 7 hHeld ?_
     refine tkT 8 hHeld ?_
     refine tkT 9 hHeld ?_
     refine tkT 10 hHeld ?_ (hy:=by intro v hSv;(try dsimp only at hSv);have k1:=keepW hSv ob (by omega);go_simp;first|done|with_reducible rfl)
     refine abs_world (P:=fun v=>wpT _ _ _ _ _ _ _ _ _ v) (R:=fun v=>Below wr.heap.size wr v) hHeld ?_
     clear hHeld
     rintro u0 hU0
     have hHeld:=hU0
     refine r1T 11 (fun K hK => ?_)
     go_simp
     (go_at_call 18;(refine (hold_Covers (⟨sht,shc,⟨ws,⟨wk,wn,wt⟩⟩,sq,d0,d1⟩:Hold) KA kcap nn (lk.take nn) xt xc xs xr xd xA xcap xo.length xo xn xl u0 (HTK.out.next hU0) (by first|rfl|(simp;omega)) (by omega) HST.out hsw (HIO.out.next (by assumption)) rfl hil HF1.out).mono ?_))
     rintro e u1 ⟨rfl,hbu⟩
     have hU1:=below_nextN hU0 hbu hU0.size
     refine hK.out _ _ _ hU1 (fun hHeld => ?_)
     clear hK K hbu
     refine tkT 12 hHeld ?_
     cases f1
     ·(
      refine unT 13 hHeld ?_
      refine unT 14 hHeld ?_
      refine unT 15 hHeld ?_
      refine unT 16 hHeld ?_
      refine unT 17 hHeld ?_
      refine unT 18 hHeld ?_
      refine unT 19 hHeld ?_
      refine unT 20 hHeld ?_
      refine unT 21 hHeld ?_
      refine r1T 22 (fun K hK => ?_)
      rw [if_neg (Bool.eq_false_iff.1 (by kernel_rfl))]
      refine hK.out _ _ _ hHeld (fun hHeld => ?_)
      clear hK K
      refine unT 23 hHeld ?_
      refine tkT 24 hHeld ?_)
      (
      refine wpT_done (by kernel_rfl) ?_ _
      clear hHeld
      clear h0 h1 h2 h3 h4 h5 h6 h7 h8
      clear g0 g1 g2 g3 g4 g5 g6 g7
      have hbN:=below_nextN hbj hU1 hzj
      go_wp2_with fail
      go_roundw
      case rel=>exact ⟨j + 1,by omega,by go_num,hbN⟩
      case measure=>simp [intOf];omega)
     ·obtain rfl:f2=true:=HIMP.out rfl
      (
      refine tkT 13 hHeld ?_
      refine tkT 14 hHeld ?_
      refine tkT 15 hHeld ?_
      refine tkT 16 hHeld ?_ (hy:=by intro v hSv;(try dsimp only at hSv);have k1:=keepW hSv hb (by omega);go_simp;first|done|with_reducible rfl)
      refine tkT 17 hHeld ?_
      refine tkT 18 hHeld ?_
      refine tkT 19 hHeld ?_
      refine tkT 20 hHeld ?_
      refine tkT 21 hHeld ?_ (hy:=by intro v hSv;(try dsimp only at hSv);have k1:=keepW hSv ob (by omega);go_simp;first|done|with_reducible rfl)
      refine r1T 22 (fun K hK => ?_)
      go_simp
      (go_at_call 18;(refine (hold_Covers (⟨sht,shc,⟨ws,⟨wk,wn,wt⟩⟩,sq,d0,d1⟩:Hold) KA kcap lk.length lk xt xc xs xr xd xA xcap xo.length xo xn xl u1 (HLW.out.next hU1) (by first|rfl|(simp;omega)) (by omega) HSL.out hsw (HIO.out.next (by assumption)) rfl hil HF2.out).mono ?_))
      rintro e u2 ⟨rfl,hbu⟩
      have hU1:=below_nextN hU1 hbu hU1.size
      refine hK.out _ _ _ hU1 (fun hHeld => ?_)
      clear hK K hbu
      refine tkT 23 hHeld ?_
      refine tkT 24 hHeld ?_)
      (
      refine wpT_done (by kernel_rfl) ?_ _
      clear hHeld
      clear h0 h1 h2 h3 h4 h5 h6 h7 h8
      clear g0 g1 g2 g3 g4 g5 g6 g7
      have hbN:=below_nextN hbj hU1 hzj
      go_wp2_with fail
      go_roundw
      case rel=>exact ⟨j + 1,by omega,by go_num,hbN⟩
      case measure=>simp [intOf];omega)))
   have hil':decide (i<lk.length)=true:=by simpa using hil
   obtain ⟨hb0,ho0,hHe,hhb0,hhc⟩:=(HHS.out _ hgi).get hlt
   obtain ⟨_,_,_,h6,_,_⟩:=Hold.cells9 hhc
   rw [HX.out] at h6
   simp only at h6
   obtain ⟨kb,ko,hKe,hkb,hkc5⟩:=(HLS.out _ hgi).get hil
   obtain ⟨_,_,s8,_⟩:=Link.cells10 hkc5
   subst hHe hKe
   have hk0:=keepQ (w:=wr) hb0 hhb0
   have hk1:=keepQ (w:=wr) kb hkb
   clear hhc hkc5
   by_cases hsq:lk[i].seq≤sq
   ·have hsq':decide (lk[i].seq≤sq)=true:=by simpa using hsq
    go_upto_region 9 with (fail)
    refine wp_region_bel (by kernel_rfl) (by kernel_rfl) ?_;(repeat (go_big_quiet_step (fail)));refine wpQuiet_nil ?_;intro wq hq
    clear hk0 hk1 h6 s8 hsq hsq' hil'
    go_wp2_with fail
    go_roundw
    case rel=>exact ⟨i + 1,by omega,by go_num,below_nextN hbi hq hbi.size⟩
    case measure=>simp [intOf];omega
   ·have hsq':decide (lk[i].seq≤sq)=false:=by simpa using hsq
    have HEX:Hid (∀ j (h:j<lk.length),i≤j→sq<lk[j].seq):=qh (after_exit (r := 0) HVAL.out hil (by omega))
    go_upto_region 9 with (fail)
    refine wp_region_bel (by kernel_rfl) (by kernel_rfl) ?_;(repeat (go_big_quiet_step (fail)));refine wpQuiet_nil ?_;intro wq hq
    clear hk0 hk1 h6 s8 hsq hsq' hil'
    obtain ⟨wp,rfl⟩ : ∃ wp:World,wp=wr:=⟨_,rfl⟩
    have hgq:w7.grownBy wq (some g):=grown_trans hgi (grown_start _ hq)
    have hkq:=HKR.out.below (below_nextN hbi hq hbi.size)
    (
    obtain ⟨d,hd⟩ : ∃ d,lk.length - i=d:=⟨_,rfl⟩
    have hw1:IntKind.i64.wrap ((lk.length:Int) - (i:Int))=(d:Int):=by rw [show (lk.length:Int) - (i:Int)=(d:Int) by omega];exact IntWalk.i64_in _ (by omega)
    have hw2:IntKind.i64.wrap ((d:Int) + 1)=((d + 1:Nat):Int):=by rw [show (d:Int) + 1=((d + 1:Nat):Int) by omega];exact IntWalk.i64_in _ (by omega)
    have hdl:d ≤ 7:=by omega
    have HD:=qh hd
    clear hd
    go_wp2_with fail
    refine (tape_Next g b ((d + 1:Nat):Int) _ hkq (by omega) (by omega)).mono ?_
    rintro e w8 ⟨r,rfl,hr,hk8,hg8⟩
    have hr':r<d + 1:=by rcases hr with h|h <;> omega
    obtain ⟨nn,hnn⟩ : ∃ nn,i+r=nn:=⟨_,rfl⟩
    have hw3:IntKind.i64.wrap ((i:Int)+(r:Int))=(nn:Int):=by rw [show (i:Int)+(r:Int)=(nn:Int) by omega];exact IntWalk.i64_in _ (by omega)
    have hnl:nn≤lk.length:=by have:=HD.out;omega
    have hex2 : ∀ j (h:j<lk.length),nn≤j→sq<lk[j].seq:=fun j h hj=>HEX.out j h (by omega)
    have HEX2:=qh hex2
    have HK8:=qh hk8
    have hg78:w7.grownBy w8 (some g):=grown_trans hgq hg8
    clear hk8 hg8 hr hnn hex2 hw1 hw2
    go_wp2_with fail
    clear hw3
    go_loopw [10] (fun v10 wr => ∃ j:Nat,j≤o.length∧v10 = .int .i64 j∧Below w8.heap.size w8 wr) (fun v10 _=>o.length - (intOf v10).toNat)
    case atStart=>exact ⟨0,Nat.zero_le _,rfl,Below.refl _ _⟩
    case round =>
     obtain ⟨j,hj,rfl,hbj⟩:=hrel
     have hzj:=hbj.size
     have hgj:w7.grownBy wr (some g):=grown_trans hg78 (grown_start _ hbj)
     by_cases hjl:j<o.length
     rotate_left
     ·have hjl':decide (j<o.length)=false:=by simpa using hjl
      go_wp2_with fail
      go_roundw
      case rel=>exact ⟨m + 1,by omega,by go_num,HK8.out.below hbj,hgj⟩
      case measure=>simp [intOf];omega
     have hjl':decide (j<o.length)=true:=by simpa using hjl
     obtain ⟨ob,oo,hOe,hob,hc5⟩:=(HOS.out _ hgj).1.get hjl
     obtain ⟨g0,g1,g2,g3,g4,g5,g6,g7⟩:=Owned.cells8 hc5
     have hio:=(HOS.out _ hgj).2 o[j] (List.getElem_mem hjl)
     obtain ⟨⟨xt,xc,xs,xr,xd,xA,xcap,xo,xn,xl⟩,hy⟩ : ∃ y:Owned,o[j]=y:=⟨_,rfl⟩
     rw [hy] at g0 g1 g2 g3 g4 g5 g6 g7 hio
     simp only at g0 g1 g2 g3 g4 g5 g6 g7
     have HIO:=qh hio.1
     have hil:=hio.2
     simp only at hil
     subst hOe
     obtain ⟨hb,ho,hHe,hhb,hhc⟩:=(HHS.out _ hgj).get hlt
     obtain ⟨h0,h1,⟨h2,h3,h4,h5⟩,h6,h7,h8⟩:=Hold.cells9 hhc
     rw [HX.out] at h0 h1 h2 h3 h4 h5 h6 h7 h8
     simp only at h0 h1 h2 h3 h4 h5 h6 h7 h8
     first
     | subst hHe
     | (injection hHe with hHe;injection hHe with hHe1 hHe2;subst hHe1 hHe2)
     have hTK:SliceIs wr wr.heap.size Link.cells 10 (some ⟨kb,ko,none⟩) (lk.take nn):=(HLS.out _ hgj).take nn
     have HTK:=qh hTK
     have HLW:=qh (HLS.out _ hgj)
     have HST:Hid (Sane (lk.take nn)):=qh fun y hy=>HSL.out y (List.mem_of_mem_take hy)
     have hnk:nn≤kcap:=by omega
     obtain ⟨f1,hf1⟩ : ∃ f,(holdOk (⟨sht,shc,⟨ws,⟨wk,wn,wt⟩⟩,sq,d0,d1⟩:Hold)&&validLinks (lk.take nn)&&coversB (⟨sht,shc,⟨ws,⟨wk,wn,wt⟩⟩,sq,d0,d1⟩:Hold) (lk.take nn) xt xc xo)=f:=⟨_,rfl⟩
     obtain ⟨f2,hf2⟩ : ∃ f,(holdOk (⟨sht,shc,⟨ws,⟨wk,wn,wt⟩⟩,sq,d0,d1⟩:Hold)&&validLinks lk&&coversB (⟨sht,shc,⟨ws,⟨wk,wn,wt⟩⟩,sq,d0,d1⟩:Hold) lk xt xc xo)=f:=⟨_,rfl⟩
     have himp:f1=true→f2=true:=fun h=>by
      rw [← hf1] at h
      simp only [Bool.and_eq_true] at h
      rw [← hf2]
      simp only [Bool.and_eq_true]
      exact ⟨⟨h.1.1,HVAL.out⟩,covers_take HVAL.out HEX2.out (fun hn=>by
       have:=(holdOk_iff _).1 h.1.1
       rcases this.2.2.2.2.2.2.2.1 with h|h
       ·exact absurd h hn
       ·exact h) h.2⟩
     have HF1:=qh hf1
     have HF2:=qh hf2
     have HIMP:=qh himp
     clear hc5 hy hio hhc hTK hf1 hf2 himp
     go_upto_region 15 with (fail)
     (
     refine wp_region_T (S:=(fun v=>Below wr.heap.size wr v)) [] (by kernel_rfl) ((Below.refl _ _).drew) (fun hHeld => ?_)
     refine tkT 0 hHeld ?_
     refine tkT 1 hHeld ?_
     refine tkT 2 hHeld ?_
     refine tkT 3 hHeld ?_ (hy:=by intro v hSv;(try dsimp only at hSv);have k1:=keepW hSv hb0 (by omega);go_simp;first|done|with_reducible rfl)
     refine tkT 4 hHeld ?_
     refine tkT 5 hHeld ?_
     refine tkT 6 hHeld ?_
     refine tkT 7 hHeld ?_
     refine tkT 8 hHeld ?_
     refine tkT 9 hHeld ?_
     refine tkT 10 hHeld ?_ (hy:=by intro v hSv;(try dsimp only at hSv);have k1:=keepW hSv ob (by omega);go_simp;first|done|with_reducible rfl)
     refine abs_world (P:=fun v=>wpT _ _ _ _ _ _ _ _ _ v) (R:=fun v=>Below wr.heap.size wr v) hHeld ?_
     clear hHeld
     rintro u0 hU0
     have hHeld:=hU0
     refine r1T 11 (fun K hK => ?_)
     go_simp
     (go_at_call 18;(refine (hold_Covers (⟨sht,shc,⟨ws,⟨wk,wn,wt⟩⟩,sq,d0,d1⟩:Hold) (some ⟨kb,ko,none⟩) kcap nn (lk.take nn) xt xc xs xr xd xA xcap xo.length xo xn xl u0 (HTK.out.next hU0) (by first|rfl|(simp;omega)) (by omega) HST.out hsw (HIO.out.next (by assumption)) rfl hil HF1.out).mono ?_))
     rintro e u1 ⟨rfl,hbu⟩
     have hU1:=below_nextN hU0 hbu hU0.size
     refine hK.out _ _ _ hU1 (fun hHeld => ?_)
     clear hK K hbu
     refine tkT 12 hHeld ?_
     cases f1
     ·(
      refine unT 13 hHeld ?_
      refine unT 14 hHeld ?_
      refine unT 15 hHeld ?_
      refine unT 16 hHeld ?_
      refine unT 17 hHeld ?_
      refine unT 18 hHeld ?_
      refine unT 19 hHeld ?_
      refine unT 20 hHeld ?_
      refine unT 21 hHeld ?_
      refine r1T 22 (fun K hK => ?_)
      rw [if_neg (Bool.eq_false_iff.1 (by kernel_rfl))]
      refine hK.out _ _ _ hHeld (fun hHeld => ?_)
      clear hK K
      refine unT 23 hHeld ?_
      refine tkT 24 hHeld ?_)
      (
      refine wpT_done (by kernel_rfl) ?_ _
      clear hHeld
      clear h0 h1 h2 h3 h4 h5 h6 h7 h8
      clear g0 g1 g2 g3 g4 g5 g6 g7
      have hbN:=below_nextN hbj hU1 hzj
      go_wp2_with fail
      go_roundw
      case rel=>exact ⟨j + 1,by omega,by go_num,hbN⟩
      case measure=>simp [intOf];omega)
     ·obtain rfl:f2=true:=HIMP.out rfl
      (
      refine tkT 13 hHeld ?_
      refine tkT 14 hHeld ?_
      refine tkT 15 hHeld ?_
      refine tkT 16 hHeld ?_ (hy:=by intro v hSv;(try dsimp only at hSv);have k1:=keepW hSv hb0 (by omega);go_simp;first|done|with_reducible rfl)
      refine tkT 17 hHeld ?_
      refine tkT 18 hHeld ?_
      refine tkT 19 hHeld ?_
      refine tkT 20 hHeld ?_
      refine tkT 21 hHeld ?_ (hy:=by intro v hSv;(try dsimp only at hSv);have k1:=keepW hSv ob (by omega);go_simp;first|done|with_reducible rfl)
      refine r1T 22 (fun K hK => ?_)
      go_simp
      (go_at_call 18;(refine (hold_Covers (⟨sht,shc,⟨ws,⟨wk,wn,wt⟩⟩,sq,d0,d1⟩:Hold) (some ⟨kb,ko,none⟩) kcap lk.length lk xt xc xs xr xd xA xcap xo.length xo xn xl u1 (HLW.out.next hU1) (by first|rfl|(simp;omega)) (by omega) HSL.out hsw (HIO.out.next (by assumption)) rfl hil HF2.out).mono ?_))
      rintro e u2 ⟨rfl,hbu⟩
      have hU1:=below_nextN hU1 hbu hU1.size
      refine hK.out _ _ _ hU1 (fun hHeld => ?_)
      clear hK K hbu
      refine tkT 23 hHeld ?_
      refine tkT 24 hHeld ?_)
      (
      refine wpT_done (by kernel_rfl) ?_ _
      clear hHeld
      clear h0 h1 h2 h3 h4 h5 h6 h7 h8
      clear g0 g1 g2 g3 g4 g5 g6 g7
      have hbN:=below_nextN hbj hU1 hzj
      go_wp2_with fail
      go_roundw
      case rel=>exact ⟨j + 1,by omega,by go_num,hbN⟩
      case measure=>simp [intOf];omega)))
end Go.Proofs.YtmckeeegphgekaaGreat
namespace Go.Proofs.YtmckeeegphgekaaGreat.holdGrows
open Go.ChangeShapes Go.WideShapes Go.ChangeAt Go.RowKit
theorem own:ownKnob Tryz.prog.godebug=none:=by kernel_rfl
theorem laidOut:laidOutB Tryz.prog=true:=by kernel_rfl
theorem bytesInt:Tryz.prog.bytesOf 3 = 8:=by kernel_rfl
set_option maxRecDepth 100000 in
theorem lifted (os:Os) (started:os.Started) (H:Type) (enc:TypeId × Value→H) :
 ReturnsInHanded {} Tryz.checked os 4 .any (Rows.holdGrowsSpec.pre6 enc Tryz.prog Tryz.f4 Rows.holdGrowsRow.domain false) (Rows.holdGrowsSpec.post enc Tryz.prog Tryz.f4 false true false false):=by
 refine returnsInHanded_of_change_sized (C:=Tryz.checked) own started (by kernel_rfl) Tryz.func4
  (ChangeSpec.witness6 (enc:=enc) (C:=Tryz.checked) false ⟨#[],#[.slice none 0 0],[]⟩ 8 (by kernel_rfl) (by kernel_rfl) (by kernel_rfl) (by kernel_rfl)) ?_
 intro W base args ds gs before hval0 hW hcnd hsz0 _
 have hval : ∀ (j:Nat) t v,Tryz.f4.params[j]? = some t→args[j]? = some v→Value.okWide Tryz.prog W .any base t v:=hval0
 have hsz:(DataW.weightsEach Tryz.prog (Tryz.f4.params.toList++Rows.holdGrowsSpec.plain.varTypes Tryz.prog) (ds++gs)).all (· ≤ reachBytes)=true:=hsz0
 have hW':=hW
 obtain ⟨p,q,hA0,hV,rfl,hfz,hnd⟩:=hW
 have hA:DataW.TrodAll enc Tryz.prog W 0 (fun _=>true) true Tryz.f4.params.toList args.toList ds p:=hA0
 rw [Tryz.params4] at hA hval hsz
 obtain ⟨v0,vs0,d0,ds0,p0,q0,hargs,rfl,rfl,h0,r0⟩:=trodAll_cons hA
 obtain ⟨rfl,rfl,rfl⟩:=trodAll_nil r0
 obtain rfl:args = #[v0]:=by cases args;simp_all
 obtain ⟨rfl,rfl⟩:=trodVars_none hV
 obtain ⟨a0,len0,cap0,rfl⟩:=okWide_slice Tryz.underlying22 (hval 0 22 v0 rfl rfl)
 have k0:=h0
 have lt0 : ∀ x∈p0,x.block<W.heap.size:=by obtain ⟨m,hm⟩:=k0;exact DataW.trod_lt m _ _ _ hm
 obtain ⟨t,htl,hts,ht8⟩ : ∃ t:List Int,t.length=len0∧SliceIs W W.heap.size intCells 1 a0 t∧t.length * 8 ≤ 140737488351232:=by
  obtain ⟨fuel,hf⟩:=h0
  rcases open_ints Tryz.underlying22 Tryz.underlying3 (by kernel_rfl) hf with ⟨hcs,_⟩|⟨x,l,c,zs,hcs,_,hl,hm,hz,hx,hcell,hwz⟩
  ·simp [Value.cells] at hcs
   obtain ⟨rfl,rfl,rfl⟩:=hcs
   exact ⟨[],rfl,SliceIs.nil,by simp⟩
  ·simp [Value.cells] at hcs
   obtain ⟨rfl,rfl,rfl⟩:=hcs
   simp only [Prod.mk.injEq] at hx
   obtain ⟨rfl,_⟩:=hx
   have hs:=sized_slice hsz (j := 0) (t := 22) (e := 3) rfl rfl Tryz.underlying22
   rw [bytesInt] at hs
   simp only [lits,List.length_map,List.length_take,List.length_drop,reachBytes] at hs
   have hzl:zs.length=cap0:=by simpa using hz
   refine ⟨zs.take len0,by simp;omega,fun h => ?_,by simp;omega⟩
   have h1 : 0<zs.length:=by simp at h;omega
   obtain ⟨xb,xo,xs⟩:=x
   have hc0:=hcell 0 h1
   have hsp:xs=none:=by
    cases xs with
    | none=>rfl
    | some y =>
      simp only [Addr.add,World.cell?,Option.isSome_some,if_true] at hc0
      split at hc0 <;> simp at hc0
   subst hsp
   have hlt:xb<W.heap.size:=by
    rcases Nat.lt_or_ge xb W.heap.size with h|h
    ·exact h
    ·simp [Addr.add,World.cell?,Array.getElem?_eq_none h] at hc0
   refine ⟨xb,xo,rfl,hlt,fun i hi j u hu => ?_⟩
   have hj:j = 0:=by have:=(List.getElem?_eq_some_iff.1 hu).1;simp [intCells] at this;omega
   subst hj
   have hil:i<zs.length:=by simp at hi;omega
   have:=hcell i hil
   simp only [intCells,List.getElem?_cons_zero,Option.some.injEq] at hu
   subst hu
   rw [List.getElem_take]
   rw [List.getD_eq_getElem?_getD,List.getElem?_eq_getElem hil] at this
   unfold Addr.add at this
   split at this
   ·rename_i h0;subst h0;simpa using this
   ·simpa using this
 clear hA0 hval0
 subst htl
 refine (holdgrows_walk a0 cap0 t W hts ht8).mono fun e W' ⟨he,bel⟩ => ?_
 subst he
 exact ⟨_,rfl,_,_,_,[],_,[],hW',trodAll_mk1 (shut_bool Tryz.underlying4 _),(trodAll_cons_mk (Below.trod laidOut (by kernel_rfl) (of_decide_eq_true (by kernel_rfl)) k0 bel lt0) trodAll_mk0),rfl,bel.frame _,fun h=>by cases h⟩
theorem over:Rows.holdGrowsRow.holds Tryz.pinned (OpenSpec.ofChange Rows.holdGrowsSpec) :=
 OpenClaim.holds_of_wide 4 Tryz.f4 rfl rfl rfl rfl rfl rfl rfl ⟨rfl,rfl,rfl,rfl,rfl⟩ rfl rfl rfl rfl rfl (by kernel_rfl) Tryz.func4 (by kernel_rfl)
  (of_decide_eq_true (by kernel_rfl)) (by unfold Func.isWrapper;first|(rw [if_pos (by decide +kernel)];kernel_rfl)|(rw [if_neg (by decide +kernel)];exact ⟨rfl,rfl⟩))
  (fun os started H enc _=>lifted os started H enc)
theorem proved:Rows.HoldGrowsSaid:=over
#print axioms proved
end Go.Proofs.YtmckeeegphgekaaGreat.holdGrows
