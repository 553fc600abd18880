/-
  For every list of numbers the law HoldUntil returns true: a version is blocked on every day before Until, and not on that day. No condition.
-/
import Derived.Test.YtmckeeegphgekaaGreatU17
import Derived.Test.YtmckeeegphgekaaGreatU15
import Derived.Test.YtmckeeegphgekaaGreatU10
import Derived.Test.YtmckeeegphgekaaGreatU14
import Derived.Test.YtmckeeegphgekaaGreatU16
import Derived.Test.YtmckeeegphgekaaGreatU2
import Derived.Test.YtmckeeegphgekaaGreatRows
import Derived.WalkKit
import Derived.ProofKit
import Derived.OpenShut
import Derived.ShutString
import Derived.ChangeOld
import Derived.Below
import Derived.SizedLaws
set_option linter.unusedVariables false
set_option linter.unusedSimpArgs false
namespace Go.Proofs.YtmckeeegphgekaaGreat
open Go.RowKit
set_option maxRecDepth 100000 in
set_option maxHeartbeats 8000000 in
theorem holduntil_walk (A:Option Addr) (c:Nat) (t:List Int) (w:World) (hl:SliceIs w w.heap.size intCells 1 A t) (hn:t.length * 8 ≤ 140737488351232) :
 Calls Tryz.prog 3 #[.slice A t.length c] w fun e w'=>e = .returned (.bool true)∧Below w.heap.size w w':=by
 have HL0:=qh hl
 clear hl
 go_enter Tryz.func3,Tryz.ntmps3
 go_wp2_with fail
 refine (tape_New A c t _ HL0.out hn).mono ?_
 rintro e w1 ⟨⟨g,b,rfl,hg1,hb1,hk1⟩,hx1⟩
 have HK1:=qh hk1
 have hgl1:=hk1.ltg
 clear hk1 HL0
 go_wp2_with fail
 refine (tape_Tables g b 3 _ HK1.out (by omega) (by omega)).mono ?_
 rintro e w2 ⟨CA,cc,ts,rfl,ht2,hu2,hbd2,hs2,hok2,h02,hl32,hk2,hg2⟩
 have HK2:=qh hk2
 have HT2:=qh ht2
 have HU:=qh hu2
 have HS:=qh hs2
 have HOK:=qh hok2
 have hx2:Below w.heap.size w w2:=Below.grown hx1 hg2 hx1.size (fun q e=>by injection e with e;omega)
 have hz2:=hg2.size
 clear hk2 ht2 hu2 hbd2 hs2 hok2 hg2 HK1
 go_upto_region 3 with (fail)
 refine abs_world (P:=fun u=>Code.wp _ _ _ _ u) (R:=fun u=>Blk u w2.heap.size 34 #[.slice CA ts.length cc, .slice none 0 0, .slice none 0 0, .slice none 0 0, .slice none 0 0, .slice none 0 0, .slice none 0 0, .slice none 0 0]∧Below w2.heap.size w2 u) ⟨?_,?_⟩ ?_
 ·exact Blk.new' rfl
 ·exact belA
 rintro W ⟨hC,hbW⟩
 have HC:=qh hC
 have hzC:=hC.lt
 have HKW:=qh (HK2.out.below hbW)
 have hxW:Below w.heap.size w W:=below_nextN hx2 hbW hx2.size
 have HTW:=qh (HT2.out.next hbW)
 clear hC HK2 HT2
 refine wp_region_T (S:=(fun v=>Blk v w2.heap.size 34 #[.slice CA ts.length cc, .slice none 0 0, .slice none 0 0, .slice none 0 0, .slice none 0 0, .slice none 0 0, .slice none 0 0, .slice none 0 0])) [] (by kernel_rfl) HC.out (fun hHeld => ?_)
 refine tkT 0 hHeld ?_ (hy:=by intro v hSv;(try dsimp only at hSv);obtain ⟨p0,p1,p2,p3,p4,p5,p6,p7⟩:=Cat.blk hSv;go_simp;first|done|with_reducible rfl)
 refine tkT 1 hHeld ?_
 refine tkT 2 hHeld ?_ (hy:=by intro v hSv;(try dsimp only at hSv);obtain ⟨p0,p1,p2,p3,p4,p5,p6,p7⟩:=Cat.blk hSv;go_simp;first|done|with_reducible rfl)
 refine abs_world (P:=fun v=>wpT _ _ _ _ _ _ _ _ _ v) (R:=fun v=>Below W.heap.size W v) ((Below.refl _ _).drew) ?_
 clear hHeld
 rintro u0 hU0
 have hCu:=HC.out.below hU0 hzC
 have hHeld:=hCu
 have hzu0:=hU0.size
 refine r1T 3 (fun K hK => ?_)
 go_simp
 (go_at_call 11;(refine (tape_History g b w1.heap.size 6 CA cc ts.length ts u0 (HKW.out.below hU0) hgl1 (HTW.out.next hU0) HU.out rfl HS.out HOK.out h02 (by omega)).mono ?_))
 rintro e u1 ⟨LA,lc,l,rfl,hll,hoc,hk3,hg3⟩
 have hzg3:=hg3.size
 have hC1:=hCu.grown hg3 (fun e=>by injection e with e;omega)
 have hT1:=(HTW.out.next hU0).grown HU.out hgl1 hg3
 refine hK.out _ _ _ hC1 (fun hHeld => ?_)
 clear hK K
 refine r1T 4 (fun K hK => ?_)
 go_simp
 (go_at_call 10;(with_reducible refine (ref17_Versions CA cc ts.length ts LA lc l.length l u1 hT1 rfl HS.out HOK.out (by omega) hoc.read rfl (by omega) hoc.len).mono ?_))
 rintro e u2 ⟨⟨OA,oc,o,rfl,ho⟩,hb3⟩
 have hC2:=hC1.below hb3 (by omega)
 refine hK.out _ _ _ hC2 (fun hHeld => ?_)
 clear hK K
 refine tkT 5 hHeld ?_
 refine wpT_done (by kernel_rfl) ?_ _
 clear hHeld
 have hzb3:=hb3.size
 have hx5:Below w.heap.size w u2:=below_nextN (Below.grown (below_nextN hxW hU0 hxW.size) hg3 (by have:=hxW.size;omega) (fun q e=>by injection e with e;omega)) hb3 (by have:=hxW.size;omega)
 have hzx5:=hx5.size
 have HK5:=qh (hk3.below hb3)
 have HO5:=qh ho
 have HC5:=qh hC2
 have hol:o.length ≤ 64:=by have:=ho.len;omega
 have hgu:g<u1.heap.size:=by omega
 clear hCu hC1 hC2 hT1 hoc hk3 hg3 hb3 ho hU0 HKW HTW HC hbW hxW hx1 hx2
 go_wp2_with fail
 refine (tape_Holds g b 5 _ HK5.out (by omega)).mono ?_
 rintro e w6 ⟨v6,hs,rfl,hown6,hsn6,hl6,hk6,hg6⟩
 obtain ⟨HA,hcap,hv6,_,_⟩:=hown6.form
 subst hv6
 have HK6:=qh hk6
 have HH6:=qh hown6
 have HSH:=qh hsn6
 have HO6:=qh (HO5.out.kept hg6 hgu)
 have hz6:=hg6.size
 have hx6:Below w.heap.size w w6:=Below.grown hx5 hg6 hx5.size (fun q e=>by injection e with e;omega)
 clear hk6 hown6 hsn6 hg6 HK5 HO5 HC5
 go_wp2_with fail
 refine (tape_Links g b 6 _ HK6.out (by omega)).mono ?_
 rintro e w7 ⟨v7,lk,s,rfl,hown7,hgen,hs4,hl7,hk7,hg7⟩
 obtain ⟨KA,kcap,hv7,_,_⟩:=hown7.form
 subst hv7
 have HK7:=qh hk7
 have HLK7:=qh hown7
 have hval:=hgen.links (by omega)
 have HVAL:=qh hval
 have HSL:=qh (valid_sane hval)
 have HO7:=qh (HO6.out.kept hg7 hgu)
 have hz7:=hg7.size
 have hx7:Below w.heap.size w w7:=Below.grown hx6 hg7 hx6.size (fun q e=>by injection e with e;omega)
 have HH7:=qh (HH6.out.kept hg7 fun q hq e=>by have:=HH6.out.row q hq;injection e with e;omega)
 clear hk7 hown7 hgen hval hg7 HK6 HO6 HH6 hs4
 go_wp2_with fail
 refine (tape_Next g b 30 _ HK7.out (by omega) (by omega)).mono ?_
 rintro e w8 ⟨q8,rfl,hq8,hk8,hg8⟩
 have hq8':q8 < 30:=by rcases hq8 with h|h <;> omega
 have HHS:=qh (own_read hold_len (HH7.out.kept hg8 fun q hq e=>by have:=HH7.out.row q hq;injection e with e;omega))
 have HLS:=qh (own_read link_len (HLK7.out.kept hg8 fun q hq e=>by have:=HLK7.out.row q hq;injection e with e;omega))
 have ho8:=(HO7.out.kept hg8 hgu).read
 have HOS:=qh ho8.1
 have HIN:=qh ho8.2
 have hx8:Below w.heap.size w w8:=Below.grown hx7 hg8 hx7.size (fun q e=>by injection e with e;omega)
 clear hk8 hg8 ho8 HK7 HH7 HLK7 HO7 hq8 hx7 hx6 hx5
 go_wp2_with fail
 go_loopw [9] (fun v9 wr => ∃ m:Nat,m≤o.length∧v9 = .int .i64 m∧Below w8.heap.size w8 wr) (fun v9 _=>o.length - (intOf v9).toNat)
 case atStart=>exact ⟨0,Nat.zero_le _,rfl,Below.refl _ _⟩
 case round =>
  obtain ⟨m,hm,rfl,hbr⟩:=hrel
  have hzr:=hbr.size
  have hxr:Below w.heap.size w wr:=below_nextN hx8 hbr hx8.size
  by_cases hlt:m<o.length
  rotate_left
  ·have hlt':decide (m<o.length)=false:=by simpa using hlt
   go_wp2_with fail
   refine (hawake_any _).mono ?_
   rintro e w9 ⟨rfl,hb9⟩
   go_wp2_with fail
   go_ret
   exact ⟨rfl,below_nextN hxr hb9 hxr.size⟩
  have hlt':decide (m<o.length)=true:=by simpa using hlt
  have hio:=HIN.out o[m] (List.getElem_mem hlt)
  obtain ⟨⟨xt,xc,xs,xr,xd,xA,xcap,xo,xn,xl⟩,hx⟩ : ∃ x:Owned,o[m]=x:=⟨_,rfl⟩
  rw [hx] at hio
  have HX:=qh hx
  have HIO:=qh hio.1
  have hil:=hio.2
  simp only at hil
  clear hx hio
  obtain ⟨b5,o5,hOe,hb5,hc5⟩:=(HOS.out.next hbr).get hlt
  obtain ⟨g0,g1,g2,g3,g4,g5,g6,g7⟩:=Owned.cells8 hc5
  rw [HX.out] at g0 g1 g2 g3 g4 g5 g6 g7
  simp only at g0 g1 g2 g3 g4 g5 g6 g7
  subst hOe
  go_wp2_with fail
  (with_reducible refine (hold_Until HA hcap hs.length hs KA kcap lk.length lk xt xc xs xr xd xA xcap xo.length xo xn xl q8 wr (HHS.out.next hbr) rfl (by omega) HSH.out (HLS.out.next hbr) rfl (by omega) HSL.out (HIO.out.next hbr) rfl hil).mono ?_)
  rintro e w9 ⟨⟨r,rfl,hr⟩,hb9⟩
  have hlaw:=until_law hr (by omega)
  have HLAW:=qh hlaw
  have hr0 : 0≤r:=by
   have h1:=hlaw.later
   by_cases hh:r = 0
   ·omega
   ·have:=h1 hh
    omega
  have hrt:=hlaw.top
  have hbr9:Below w8.heap.size w8 w9:=below_nextN hbr hb9 hzr
  clear g0 g1 g2 g3 g4 g5 g6 g7 hc5
  clear hr hb9 hlaw
  obtain ⟨b6,o6,hOe,_,hc5⟩:=(HOS.out.next hbr9).get hlt
  obtain ⟨g0,g1,g2,g3,g4,g5,g6,g7⟩:=Owned.cells8 hc5
  rw [HX.out] at g0 g1 g2 g3 g4 g5 g6 g7
  simp only at g0 g1 g2 g3 g4 g5 g6 g7
  injection hOe with hOe
  injection hOe with hOe1 hOe2
  subst hOe1 hOe2
  go_upto_region 10 with (fail)
  go_cut [66] from 41 to 66 (fun v66 wx=>v66 = .bool false∧Below w9.heap.size w9 wx)
  case first =>
   go_wp2_with fail
   (with_reducible refine (hold_Blocking HA hcap hs.length hs KA kcap lk.length lk xt xc xs xr xd xA xcap xo.length xo xn xl (q8:Int) w9 (HHS.out.next hbr9) rfl (by omega) HSH.out (HLS.out.next hbr9) rfl (by omega) HSL.out (HIO.out.next hbr9) rfl hil).mono ?_)
   rintro e w10 ⟨⟨vb,rfl,hown⟩,hbv⟩
   obtain ⟨BA,bc,hvb,_,_⟩:=hown.form
   subst hvb
   have hlz:=HLAW.out.zero
   have hll:=HLAW.out.later
   obtain ⟨nb,hnb⟩ : ∃ nb,(blocking hs lk xt xc xo q8).length=nb:=⟨_,rfl⟩
   rw [hnb] at hlz
   simp only [hnb]
   clear g0 g1 g2 g3 g4 g5 g6 g7 hc5
   clear hown hnb
   have k2:decide (1048576<r)=false:=by simp;omega
   by_cases hz:r = 0
   ·have k0:(r == 0)=true:=by simpa using hz
    have k1:((nb:Int) == 0)=true:=by have:=hlz.1 hz;simp;omega
    have k3:(r != 0)=false:=by simpa using hz
    clear hz hlz hll
    go_wp2_with fail
    go_meet
    exact ⟨rfl,hbv⟩
   ·have k0:(r == 0)=false:=by simpa using hz
    have k1:((nb:Int) == 0)=false:=by have:nb ≠ 0:=fun h=>hz (hlz.2 h);simp;omega
    have k3:(r != 0)=true:=by simpa using hz
    have k4:decide (r≤(q8:Int))=false:=by have:=hll hz;simp;omega
    clear hz hlz hll
    go_wp2_with fail
    go_meet
    exact ⟨rfl,hbv⟩
  case rest =>
  clear g0 g1 g2 g3 g4 g5 g6 g7 hc5
  obtain ⟨rfl,hbc⟩:=hcut
  obtain ⟨w10,rfl⟩ : ∃ w10:World,w10=wc:=⟨_,rfl⟩
  have hbr10:Below w8.heap.size w8 w10:=below_nextN hbr9 hbc hbr9.size
  clear hbc
  go_wp2_with fail
  obtain ⟨wo,rfl⟩ : ∃ wo:World,wo=wr:=⟨_,rfl⟩
  go_loopw [11] (fun v11 wr => ∃ d:Int,v11 = .int .i64 d∧(q8:Int)≤d∧Below w8.heap.size w8 wr) (fun v11 _=>(r - intOf v11).toNat)
  case atStart=>exact ⟨q8,rfl,Int.le_refl _,hbr10⟩
  case round =>
   clear hbr10
   obtain ⟨d,rfl,hd,hbd⟩:=hrel
   have hzd:=hbd.size
   by_cases hdr:d<r
   ·have hdr':decide (d<r)=true:=by simpa using hdr
    have hwd:IntKind.i64.wrap (d + 1)=d + 1:=IntWalk.i64_in _ (by omega)
    obtain ⟨b6,o6,hOe,_,hc5⟩:=(HOS.out.next hbd).get hlt
    obtain ⟨g0,g1,g2,g3,g4,g5,g6,g7⟩:=Owned.cells8 hc5
    rw [HX.out] at g0 g1 g2 g3 g4 g5 g6 g7
    simp only at g0 g1 g2 g3 g4 g5 g6 g7
    injection hOe with hOe
    injection hOe with hOe1 hOe2
    subst hOe1 hOe2
    have hh:=HLAW.out.held d hd hdr
    have HH1:=qh hh
    clear hh
    go_wp2_with fail
    (with_reducible refine (hold_Blocking HA hcap hs.length hs KA kcap lk.length lk xt xc xs xr xd xA xcap xo.length xo xn xl d wr (HHS.out.next hbd) rfl (by omega) HSH.out (HLS.out.next hbd) rfl (by omega) HSL.out (HIO.out.next hbd) rfl hil).mono ?_)
    rintro e w11 ⟨⟨vb,rfl,hown⟩,hbv⟩
    obtain ⟨BA,bc,hvb,_,_⟩:=hown.form
    subst hvb
    obtain ⟨nb,hnb⟩ : ∃ nb,(blocking hs lk xt xc xo d).length=nb:=⟨_,rfl⟩
    have hn0:=HH1.out
    rw [hnb] at hn0
    simp only [hnb]
    have k1:((nb:Int) == 0)=false:=by simp;omega
    have hbd2:Below w8.heap.size w8 w11:=below_nextN hbd hbv hzd
    clear g0 g1 g2 g3 g4 g5 g6 g7 hc5
    clear hown hbv hnb hn0
    go_wp2_with fail
    go_roundw
    case rel=>exact ⟨d + 1,by simp [hwd],by omega,hbd2⟩
    case measure=>simp [intOf];omega
   ·have hdr':decide (d<r)=false:=by simpa using hdr
    go_upto_region 17 with (fail)
    go_cut [96] from 83 to 96 (fun v96 wx=>v96 = .bool false∧Below w8.heap.size w8 wx)
    case first =>
     by_cases hp : 0<r
     ·have hp':decide (0<r)=true:=by simpa using hp
      have hf:=HLAW.out.free hp
      have HF:=qh hf
      clear hp hf
      obtain ⟨b6,o6,hOe,_,hc5⟩:=(HOS.out.next hbd).get hlt
      obtain ⟨g0,g1,g2,g3,g4,g5,g6,g7⟩:=Owned.cells8 hc5
      rw [HX.out] at g0 g1 g2 g3 g4 g5 g6 g7
      simp only at g0 g1 g2 g3 g4 g5 g6 g7
      injection hOe with hOe
      injection hOe with hOe1 hOe2
      subst hOe1 hOe2
      go_wp2_with fail
      (with_reducible refine (hold_Blocking HA hcap hs.length hs KA kcap lk.length lk xt xc xs xr xd xA xcap xo.length xo xn xl r wr (HHS.out.next hbd) rfl (by omega) HSH.out (HLS.out.next hbd) rfl (by omega) HSL.out (HIO.out.next hbd) rfl hil).mono ?_)
      rintro e w11 ⟨⟨vb,rfl,hown⟩,hbv⟩
      obtain ⟨BA,bc,hvb,_,_⟩:=hown.form
      subst hvb
      obtain ⟨nb,hnb⟩ : ∃ nb,(blocking hs lk xt xc xo r).length=nb:=⟨_,rfl⟩
      have hn0:=HF.out
      rw [hnb] at hn0
      subst hn0
      simp only [hnb]
      have hbd2:Below w8.heap.size w8 w11:=below_nextN hbd hbv hzd
      clear g0 g1 g2 g3 g4 g5 g6 g7 hc5
      clear hown hbv hnb
      go_wp2_with fail
      go_meet
      exact ⟨rfl,hbd2⟩
     ·have hp':decide (0<r)=false:=by simpa using hp
      clear hp
      go_wp2_with fail
      go_meet
      exact ⟨rfl,hbd⟩
    case rest =>
    obtain ⟨rfl,hbc⟩:=hcut
    go_wp2_with fail
    go_roundw
    case rel=>exact ⟨m + 1,by omega,by go_num,hbc⟩
    case measure=>simp [intOf];omega
end Go.Proofs.YtmckeeegphgekaaGreat
namespace Go.Proofs.YtmckeeegphgekaaGreat.holdUntil
open Go.ChangeShapes Go.WideShapes Go.ChangeAt Go.RowKit
theorem own:ownKnob Tryz.prog.godebug=none:=by kernel_rfl
theorem laidOut:laidOutB Tryz.prog=true:=by kernel_rfl
theorem bytesInt:Tryz.prog.bytesOf 3 = 8:=by kernel_rfl
set_option maxRecDepth 100000 in
theorem lifted (os:Os) (started:os.Started) (H:Type) (enc:TypeId × Value→H) :
 ReturnsInHanded {} Tryz.checked os 3 .any (Rows.holdUntilSpec.pre6 enc Tryz.prog Tryz.f3 Rows.holdUntilRow.domain false) (Rows.holdUntilSpec.post enc Tryz.prog Tryz.f3 false true false false):=by
 refine returnsInHanded_of_change_sized (C:=Tryz.checked) own started (by kernel_rfl) Tryz.func3
  (ChangeSpec.witness6 (enc:=enc) (C:=Tryz.checked) false ⟨#[],#[.slice none 0 0],[]⟩ 8 (by kernel_rfl) (by kernel_rfl) (by kernel_rfl) (by kernel_rfl)) ?_
 intro W base args ds gs before hval0 hW hcnd hsz0 _
 have hval : ∀ (j:Nat) t v,Tryz.f3.params[j]? = some t→args[j]? = some v→Value.okWide Tryz.prog W .any base t v:=hval0
 have hsz:(DataW.weightsEach Tryz.prog (Tryz.f3.params.toList++Rows.holdUntilSpec.plain.varTypes Tryz.prog) (ds++gs)).all (· ≤ reachBytes)=true:=hsz0
 have hW':=hW
 obtain ⟨p,q,hA0,hV,rfl,hfz,hnd⟩:=hW
 have hA:DataW.TrodAll enc Tryz.prog W 0 (fun _=>true) true Tryz.f3.params.toList args.toList ds p:=hA0
 rw [Tryz.params3] at hA hval hsz
 obtain ⟨v0,vs0,d0,ds0,p0,q0,hargs,rfl,rfl,h0,r0⟩:=trodAll_cons hA
 obtain ⟨rfl,rfl,rfl⟩:=trodAll_nil r0
 obtain rfl:args = #[v0]:=by cases args;simp_all
 obtain ⟨rfl,rfl⟩:=trodVars_none hV
 obtain ⟨a0,len0,cap0,rfl⟩:=okWide_slice Tryz.underlying22 (hval 0 22 v0 rfl rfl)
 have k0:=h0
 have lt0 : ∀ x∈p0,x.block<W.heap.size:=by obtain ⟨m,hm⟩:=k0;exact DataW.trod_lt m _ _ _ hm
 obtain ⟨t,htl,hts,ht8⟩ : ∃ t:List Int,t.length=len0∧SliceIs W W.heap.size intCells 1 a0 t∧t.length * 8 ≤ 140737488351232:=by
  obtain ⟨fuel,hf⟩:=h0
  rcases open_ints Tryz.underlying22 Tryz.underlying3 (by kernel_rfl) hf with ⟨hcs,_⟩|⟨x,l,c,zs,hcs,_,hl,hm,hz,hx,hcell,hwz⟩
  ·simp [Value.cells] at hcs
   obtain ⟨rfl,rfl,rfl⟩:=hcs
   exact ⟨[],rfl,SliceIs.nil,by simp⟩
  ·simp [Value.cells] at hcs
   obtain ⟨rfl,rfl,rfl⟩:=hcs
   simp only [Prod.mk.injEq] at hx
   obtain ⟨rfl,_⟩:=hx
   have hs:=sized_slice hsz (j := 0) (t := 22) (e := 3) rfl rfl Tryz.underlying22
   rw [bytesInt] at hs
   simp only [lits,List.length_map,List.length_take,List.length_drop,reachBytes] at hs
   have hzl:zs.length=cap0:=by simpa using hz
   refine ⟨zs.take len0,by simp;omega,fun h => ?_,by simp;omega⟩
   have h1 : 0<zs.length:=by simp at h;omega
   obtain ⟨xb,xo,xs⟩:=x
   have hc0:=hcell 0 h1
   have hsp:xs=none:=by
    cases xs with
    | none=>rfl
    | some y =>
      simp only [Addr.add,World.cell?,Option.isSome_some,if_true] at hc0
      split at hc0 <;> simp at hc0
   subst hsp
   have hlt:xb<W.heap.size:=by
    rcases Nat.lt_or_ge xb W.heap.size with h|h
    ·exact h
    ·simp [Addr.add,World.cell?,Array.getElem?_eq_none h] at hc0
   refine ⟨xb,xo,rfl,hlt,fun i hi j u hu => ?_⟩
   have hj:j = 0:=by have:=(List.getElem?_eq_some_iff.1 hu).1;simp [intCells] at this;omega
   subst hj
   have hil:i<zs.length:=by simp at hi;omega
   have:=hcell i hil
   simp only [intCells,List.getElem?_cons_zero,Option.some.injEq] at hu
   subst hu
   rw [List.getElem_take]
   rw [List.getD_eq_getElem?_getD,List.getElem?_eq_getElem hil] at this
   unfold Addr.add at this
   split at this
   ·rename_i h0;subst h0;simpa using this
   ·simpa using this
 clear hA0 hval0
 subst htl
 refine (holduntil_walk a0 cap0 t W hts ht8).mono fun e W' ⟨he,bel⟩ => ?_
 subst he
 exact ⟨_,rfl,_,_,_,[],_,[],hW',trodAll_mk1 (shut_bool Tryz.underlying4 _),(trodAll_cons_mk (Below.trod laidOut (by kernel_rfl) (of_decide_eq_true (by kernel_rfl)) k0 bel lt0) trodAll_mk0),rfl,bel.frame _,fun h=>by cases h⟩
theorem over:Rows.holdUntilRow.holds Tryz.pinned (OpenSpec.ofChange Rows.holdUntilSpec) :=
 OpenClaim.holds_of_wide 3 Tryz.f3 rfl rfl rfl rfl rfl rfl rfl ⟨rfl,rfl,rfl,rfl,rfl⟩ rfl rfl rfl rfl rfl (by kernel_rfl) Tryz.func3 (by kernel_rfl)
  (of_decide_eq_true (by kernel_rfl)) (by unfold Func.isWrapper;first|(rw [if_pos (by decide +kernel)];kernel_rfl)|(rw [if_neg (by decide +kernel)];exact ⟨rfl,rfl⟩))
  (fun os started H enc _=>lifted os started H enc)
theorem proved:Rows.HoldUntilSaid:=over
#print axioms proved
end Go.Proofs.YtmckeeegphgekaaGreat.holdUntil
