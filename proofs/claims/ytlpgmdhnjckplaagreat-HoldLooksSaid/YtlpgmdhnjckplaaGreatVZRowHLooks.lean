/-
  For every list of numbers and every day the law HoldLooks returns true: all functions of holds agree with the reference for built and spoilt holds, links and versions. No condition.
-/
import Derived.Test.YtlpgmdhnjckplaaGreatV15
import Derived.Test.YtlpgmdhnjckplaaGreatV10
import Derived.Test.YtlpgmdhnjckplaaGreatV14
import Derived.Test.YtlpgmdhnjckplaaGreatV16
import Derived.Test.YtlpgmdhnjckplaaGreatV2
import Derived.Test.YtlpgmdhnjckplaaGreatRows
import Derived.WalkKit
import Derived.ProofKit
import Derived.OpenShut
import Derived.ShutString
import Derived.ChangeOld
import Derived.Below
import Derived.SizedLaws
set_option linter.unusedVariables false
set_option linter.unusedSimpArgs false
set_option maxRecDepth 100000
set_option maxHeartbeats 16000000
namespace Go.Proofs.YtlpgmdhnjckplaaGreat
open Go.RowKit
theorem holdlooks_walk (A:Option Addr) (c:Nat) (t:List Int) (day:Int) (w:World) (hl:SliceIs w w.heap.size intCells 1 A t) (hn:t.length * 8 ≤ 140737488351232) :
 Calls Tryz.prog 3 #[.slice A t.length c, .int .i64 day] w fun e w'=>e = .returned (.bool true)∧Below w.heap.size w w':=by
 have HL0:=qh hl
 clear hl
 go_enter Tryz.func3,Tryz.ntmps3
 go_wp2_with fail
 refine (tape_New A c t _ HL0.out hn).mono ?_
 rintro e w1 ⟨⟨g,b,rfl,hg1,hb1,hk1⟩,hx1⟩
 have HK1:=qh hk1
 have hgl1:=hk1.ltg
 clear hk1 HL0
 go_wp2_with fail
 refine (tape_Tables g b 3 _ HK1.out (by omega) (by omega)).mono ?_
 rintro e w2 ⟨CA,cc,ts,rfl,ht2,hu2,hbd2,hs2,hok2,h02,hl32,hk2,hg2⟩
 have HK2:=qh hk2
 have HT2:=qh ht2
 have HU:=qh hu2
 have HS:=qh hs2
 have HOK:=qh hok2
 have hx2:Below w.heap.size w w2:=Below.grown hx1 hg2 hx1.size (fun q e=>by injection e with e;omega)
 have hz2:=hg2.size
 clear hk2 ht2 hu2 hbd2 hs2 hok2 hg2 HK1
 go_upto_region 3 with (fail)
 refine abs_world (P:=fun u=>Code.wp _ _ _ _ u) (R:=fun u=>Blk u w2.heap.size 34 #[.slice CA ts.length cc, .slice none 0 0, .slice none 0 0, .slice none 0 0, .slice none 0 0, .slice none 0 0, .slice none 0 0, .slice none 0 0]∧Below w2.heap.size w2 u) ⟨?_,?_⟩ ?_
 ·exact Blk.new' rfl
 ·exact belA
 rintro W ⟨hC,hbW⟩
 have HC:=qh hC
 have hzC:=hC.lt
 have HKW:=qh (HK2.out.below hbW)
 have hxW:Below w.heap.size w W:=below_nextN hx2 hbW hx2.size
 have HTW:=qh (HT2.out.next hbW)
 clear hC HK2 HT2
 refine wp_region_T (S:=(fun v=>Blk v w2.heap.size 34 #[.slice CA ts.length cc, .slice none 0 0, .slice none 0 0, .slice none 0 0, .slice none 0 0, .slice none 0 0, .slice none 0 0, .slice none 0 0])) [] (by kernel_rfl) HC.out (fun hHeld => ?_)
 refine tkT 0 hHeld ?_ (hy:=by intro v hSv;(try dsimp only at hSv);obtain ⟨p0,p1,p2,p3,p4,p5,p6,p7⟩:=Cat.blk hSv;go_simp;first|done|with_reducible rfl)
 refine tkT 1 hHeld ?_
 refine tkT 2 hHeld ?_ (hy:=by intro v hSv;(try dsimp only at hSv);obtain ⟨p0,p1,p2,p3,p4,p5,p6,p7⟩:=Cat.blk hSv;go_simp;first|done|with_reducible rfl)
 refine abs_world (P:=fun v=>wpT _ _ _ _ _ _ _ _ _ v) (R:=fun v=>Below W.heap.size W v) ((Below.refl _ _).drew) ?_
 clear hHeld
 rintro u0 hU0
 have hCu:=HC.out.below hU0 hzC
 have hHeld:=hCu
 have hzu0:=hU0.size
 refine r1T 3 (fun K hK => ?_)
 go_simp
 (go_at_call 11;(refine (tape_History g b w1.heap.size 6 CA cc ts.length ts u0 (HKW.out.below hU0) hgl1 (HTW.out.next hU0) HU.out rfl HS.out HOK.out h02 (by omega)).mono ?_))
 rintro e u1 ⟨LA,lc,l,rfl,hll,hoc,hk3,hg3⟩
 have hzg3:=hg3.size
 have hC1:=hCu.grown hg3 (fun e=>by injection e with e;omega)
 have hT1:=(HTW.out.next hU0).grown HU.out hgl1 hg3
 refine hK.out _ _ _ hC1 (fun hHeld => ?_)
 clear hK K
 refine r1T 4 (fun K hK => ?_)
 go_simp
 (go_at_call 10;(with_reducible refine (ref17_Versions CA cc ts.length ts LA lc l.length l u1 hT1 rfl HS.out HOK.out (by omega) hoc.read rfl (by omega) hoc.len).mono ?_))
 rintro e u2 ⟨⟨OA,oc,o,rfl,ho⟩,hb3⟩
 have hC2:=hC1.below hb3 (by omega)
 refine hK.out _ _ _ hC2 (fun hHeld => ?_)
 clear hK K
 refine tkT 5 hHeld ?_
 refine wpT_done (by kernel_rfl) ?_ _
 clear hHeld
 have hzb3:=hb3.size
 have hx5:Below w.heap.size w u2:=below_nextN (Below.grown (below_nextN hxW hU0 hxW.size) hg3 (by have:=hxW.size;omega) (fun q e=>by injection e with e;omega)) hb3 (by have:=hxW.size;omega)
 have hzx5:=hx5.size
 have HK5:=qh (hk3.below hb3)
 have HO5:=qh ho
 have HC5:=qh hC2
 have hol:o.length ≤ 64:=by have:=ho.len;omega
 have hgu:g<u1.heap.size:=by omega
 clear hCu hC1 hC2 hT1 hoc hk3 hg3 hb3 ho hU0 HKW HTW HC hbW hxW hx1 hx2
 go_wp2_with fail
 refine (tape_Holds g b 5 _ HK5.out (by omega)).mono ?_
 rintro e w6 ⟨v6,hs,rfl,hown6,hsn6,hl6,hk6,hg6⟩
 obtain ⟨HA,hcap,hv6,_,_⟩:=hown6.form
 subst hv6
 have HK6:=qh hk6
 have HH6:=qh hown6
 have HSH:=qh hsn6
 have HO6:=qh (HO5.out.kept hg6 hgu)
 have hz6:=hg6.size
 have hx6:Below w.heap.size w w6:=Below.grown hx5 hg6 hx5.size (fun q e=>by injection e with e;omega)
 clear hk6 hown6 hsn6 hg6 HK5 HO5 HC5
 go_wp2_with fail
 refine (tape_Links g b 6 _ HK6.out (by omega)).mono ?_
 rintro e w7 ⟨v7,lk,s,rfl,hown7,hgen,hs4,hl7,hk7,hg7⟩
 obtain ⟨KA,kcap,hv7,_,_⟩:=hown7.form
 subst hv7
 have HK7:=qh hk7
 have HLK7:=qh hown7
 have hval:=hgen.links (by omega)
 have HVAL:=qh hval
 have HSL:=qh (valid_sane hval)
 have HO7:=qh (HO6.out.kept hg7 hgu)
 have hz7:=hg7.size
 have hx7:Below w.heap.size w w7:=Below.grown hx6 hg7 hx6.size (fun q e=>by injection e with e;omega)
 have HH7:=qh (HH6.out.kept hg7 fun q hq e=>by have:=HH6.out.row q hq;injection e with e;omega)
 have HHS:Hid (∀ v,w7.grownBy v (some g)→SliceIs v v.heap.size Hold.cells 9 HA hs):=qh fun v hv=>own_read hold_len (HH7.out.kept hv fun q hq e=>by have:=HH7.out.row q hq;injection e with e;omega)
 have HLS:Hid (∀ v,w7.grownBy v (some g)→SliceIs v v.heap.size Link.cells 10 KA lk):=qh fun v hv=>own_read link_len (HLK7.out.kept hv fun q hq e=>by have:=HLK7.out.row q hq;injection e with e;omega)
 have HOS:Hid (∀ v,w7.grownBy v (some g)→SliceIs v v.heap.size Owned.cells 8 OA o∧OwnersIn v v.heap.size o):=qh fun v hv=>(HO7.out.kept hv hgu).read
 have HG7:Hid (w7.grownBy w7 (some g)):=qh (grown_refl _ _)
 clear hk7 hown7 hgen hval hg7 HK6 HO6 HH6 hs4
 go_wp2_with fail
 refine (tape_Next g b 30 _ HK7.out (by omega) (by omega)).mono ?_
 rintro e w8 ⟨q8,rfl,hq8,hk8,hg8⟩
 have HK8:=qh hk8
 have HG8:=qh (grown_trans HG7.out hg8)
 clear hk8
 go_wp2_with fail
 (with_reducible refine (looks19 HA hcap hs.length hs KA kcap lk.length lk OA oc o.length o (q8:Int) _ (HHS.out _ HG8.out) rfl (by omega) HSH.out (HLS.out _ HG8.out) rfl (by omega) HSL.out ((HOS.out _ HG8.out)).1 ((HOS.out _ HG8.out)).2 rfl (by omega)).mono ?_)
 rintro e w9 ⟨rfl,hb9⟩
 have HK9:=qh (HK8.out.below hb9)
 have HG9:=qh (grown_trans HG8.out (grown_start _ hb9))
 go_wp2_with fail
 (with_reducible refine (looks19 HA hcap hs.length hs KA kcap lk.length lk OA oc o.length o day _ (HHS.out _ HG9.out) rfl (by omega) HSH.out (HLS.out _ HG9.out) rfl (by omega) HSL.out ((HOS.out _ HG9.out)).1 ((HOS.out _ HG9.out)).2 rfl (by omega)).mono ?_)
 rintro e w10 ⟨rfl,hb10⟩
 have HK10:=qh (HK9.out.below hb10)
 have HG10:=qh (grown_trans HG9.out (grown_start _ hb10))
 go_wp2_with fail
 refine (tape_SpoilHolds g b HA hcap hs.length hs _ HK10.out (HHS.out _ HG10.out) rfl (by omega) HSH.out).mono ?_
 rintro e w11 ⟨v11,rfl,hs2,hown11,hsn11,hl11,hk11,hg11⟩
 obtain ⟨HA2,hcap2,hv11,_,_⟩:=hown11.form
 subst hv11
 have hzg:g<w10.heap.size:=HK10.out.ltg
 have HK11:=qh hk11
 have HG11:=qh (grown_trans HG10.out hg11)
 clear hk11
 go_wp2_with fail
 refine (tape_Next g b 30 _ HK11.out (by omega) (by omega)).mono ?_
 rintro e w12 ⟨q12,rfl,hq12,hk12,hg12⟩
 have HK12:=qh hk12
 have HG12:=qh (grown_trans HG11.out hg12)
 clear hk12
 have HH2:=qh (own_read hold_len (hown11.kept hg12 fun q hq e=>by have:=hown11.row q hq;injection e with e;omega))
 have HSH2:=qh hsn11
 clear hown11 hsn11
 go_wp2_with fail
 (with_reducible refine (looks19 HA2 hcap2 hs2.length hs2 KA kcap lk.length lk OA oc o.length o (q12:Int) _ HH2.out rfl (by omega) HSH2.out (HLS.out _ HG12.out) rfl (by omega) HSL.out ((HOS.out _ HG12.out)).1 ((HOS.out _ HG12.out)).2 rfl (by omega)).mono ?_)
 rintro e w13 ⟨rfl,hb13⟩
 have HK13:=qh (HK12.out.below hb13)
 have HG13:=qh (grown_trans HG12.out (grown_start _ hb13))
 go_wp2_with fail
 refine (tape_SpoilLinks g b KA kcap lk.length lk _ HK13.out (HLS.out _ HG13.out) rfl (by omega) HSL.out).mono ?_
 rintro e w14 ⟨v14,rfl,lk2,hown14,hsn14,hl14,hk14,hg14⟩
 obtain ⟨KA2,kcap2,hv14,_,_⟩:=hown14.form
 subst hv14
 have hzg3:g<w13.heap.size:=HK13.out.ltg
 have HK14:=qh hk14
 have HG14:=qh (grown_trans HG13.out hg14)
 clear hk14
 go_wp2_with fail
 refine (tape_Next g b 30 _ HK14.out (by omega) (by omega)).mono ?_
 rintro e w15 ⟨q15,rfl,hq15,hk15,hg15⟩
 have HK15:=qh hk15
 have HG15:=qh (grown_trans HG14.out hg15)
 clear hk15
 have HL2:=qh (own_read link_len (hown14.kept hg15 fun q hq e=>by have:=hown14.row q hq;injection e with e;omega))
 have HSL2:=qh hsn14
 clear hown14 hsn14
 go_wp2_with fail
 (with_reducible refine (looks19 HA hcap hs.length hs KA2 kcap2 lk2.length lk2 OA oc o.length o (q15:Int) _ (HHS.out _ HG15.out) rfl (by omega) HSH.out HL2.out rfl (by omega) HSL2.out ((HOS.out _ HG15.out)).1 ((HOS.out _ HG15.out)).2 rfl (by omega)).mono ?_)
 rintro e w16 ⟨rfl,hb16⟩
 have HK16:=qh (HK15.out.below hb16)
 have HG16:=qh (grown_trans HG15.out (grown_start _ hb16))
 go_wp2_with fail
 (with_reducible refine (tape_SpoilOwned g b u1.heap.size _ OA oc o.length o _ HK16.out (HO7.out.kept HG16.out hgu) hgu ?_ rfl (by omega)).mono ?_)
 ·have:=HG16.out.size
  omega
 rintro e w17 ⟨OA2,oc2,o2,rfl,hoo,hl17,hk17,hg17⟩
 have HK17:=qh hk17
 have HG17:=qh (grown_trans HG16.out hg17)
 clear hk17
 go_wp2_with fail
 refine (tape_Next g b 30 _ HK17.out (by omega) (by omega)).mono ?_
 rintro e w18 ⟨q18,rfl,hq18,hk18,hg18⟩
 have HK18:=qh hk18
 have HG18:=qh (grown_trans HG17.out hg18)
 clear hk18
 have HO2:=qh (hoo.kept hg18 hgu).read
 clear hoo
 go_wp2_with fail
 (with_reducible refine (looks19 HA hcap hs.length hs KA kcap lk.length lk OA2 oc2 o2.length o2 (q18:Int) _ (HHS.out _ HG18.out) rfl (by omega) HSH.out (HLS.out _ HG18.out) rfl (by omega) HSL.out (HO2.out).1 (HO2.out).2 rfl (by omega)).mono ?_)
 rintro e w19 ⟨rfl,hb19⟩
 have HK19:=qh (HK18.out.below hb19)
 have HG19:=qh (grown_trans HG18.out (grown_start _ hb19))
 go_wp2_with fail
 refine (hawake_any _).mono ?_
 rintro e w20 ⟨rfl,hb20⟩
 go_wp2_with fail
 go_ret
 have hx19:Below w.heap.size w w19:=Below.grown hx7 HG19.out hx7.size (fun q e=>by injection e with e;omega)
 exact ⟨rfl,below_nextN hx19 hb20 hx19.size⟩
end Go.Proofs.YtlpgmdhnjckplaaGreat
namespace Go.Proofs.YtlpgmdhnjckplaaGreat.holdLooks
open Go.ChangeShapes Go.WideShapes Go.ChangeAt Go.RowKit
theorem own:ownKnob Tryz.prog.godebug=none:=by kernel_rfl
theorem laidOut:laidOutB Tryz.prog=true:=by kernel_rfl
theorem bytesInt:Tryz.prog.bytesOf 3 = 8:=by kernel_rfl
theorem lifted (os:Os) (started:os.Started) (H:Type) (enc:TypeId × Value→H) :
 ReturnsInHanded {} Tryz.checked os 3 .any (Rows.holdLooksSpec.pre6 enc Tryz.prog Tryz.f3 Rows.holdLooksRow.domain false) (Rows.holdLooksSpec.post enc Tryz.prog Tryz.f3 false true false false):=by
 refine returnsInHanded_of_change_sized (C:=Tryz.checked) own started (by kernel_rfl) Tryz.func3
  (ChangeSpec.witness6 (enc:=enc) (C:=Tryz.checked) false ⟨#[],#[.slice none 0 0, .int .i64 0],[]⟩ 8 (by kernel_rfl) (by kernel_rfl) (by kernel_rfl) (by kernel_rfl)) ?_
 intro W base args ds gs before hval0 hW hcnd hsz0 _
 have hval : ∀ (j:Nat) t v,Tryz.f3.params[j]? = some t→args[j]? = some v→Value.okWide Tryz.prog W .any base t v:=hval0
 have hsz:(DataW.weightsEach Tryz.prog (Tryz.f3.params.toList++Rows.holdLooksSpec.plain.varTypes Tryz.prog) (ds++gs)).all (· ≤ reachBytes)=true:=hsz0
 have hW':=hW
 obtain ⟨p,q,hA0,hV,rfl,hfz,hnd⟩:=hW
 have hA:DataW.TrodAll enc Tryz.prog W 0 (fun _=>true) true Tryz.f3.params.toList args.toList ds p:=hA0
 rw [Tryz.params3] at hA hval hsz
 obtain ⟨v0,vs0,d0,ds0,p0,q0,hargs,rfl,rfl,h0,r0⟩:=trodAll_cons hA
 obtain ⟨v1,vs1,d1,ds1,p1,q1,rfl,rfl,rfl,h1,r1⟩:=trodAll_cons r0
 obtain ⟨rfl,rfl,rfl⟩:=trodAll_nil r1
 obtain rfl:args = #[v0,v1]:=by cases args;simp_all
 obtain ⟨rfl,rfl⟩:=trodVars_none hV
 obtain ⟨a0,len0,cap0,rfl⟩:=okWide_slice Tryz.underlying22 (hval 0 22 v0 rfl rfl)
 obtain ⟨sq,rfl,rfl,rfl,w1⟩:=open_int Tryz.underlying3 (hval 1 3 v1 rfl rfl) h1
 have hsq:sq ≤ 9223372036854775807:=(bounds_i64 w1).2
 have k0:=h0
 have lt0 : ∀ x∈p0,x.block<W.heap.size:=by obtain ⟨m,hm⟩:=k0;exact DataW.trod_lt m _ _ _ hm
 obtain ⟨t,htl,hts,ht8⟩ : ∃ t:List Int,t.length=len0∧SliceIs W W.heap.size intCells 1 a0 t∧t.length * 8 ≤ 140737488351232:=by
  obtain ⟨fuel,hf⟩:=h0
  rcases open_ints Tryz.underlying22 Tryz.underlying3 (by kernel_rfl) hf with ⟨hcs,_⟩|⟨x,l,c,zs,hcs,_,hl,hm,hz,hx,hcell,hwz⟩
  ·simp [Value.cells] at hcs
   obtain ⟨rfl,rfl,rfl⟩:=hcs
   exact ⟨[],rfl,SliceIs.nil,by simp⟩
  ·simp [Value.cells] at hcs
   obtain ⟨rfl,rfl,rfl⟩:=hcs
   simp only [Prod.mk.injEq] at hx
   obtain ⟨rfl,_⟩:=hx
   have hs:=sized_slice hsz (j := 0) (t := 22) (e := 3) rfl rfl Tryz.underlying22
   rw [bytesInt] at hs
   simp only [lits,List.length_map,List.length_take,List.length_drop,reachBytes] at hs
   have hzl:zs.length=cap0:=by simpa using hz
   refine ⟨zs.take len0,by simp;omega,fun h => ?_,by simp;omega⟩
   have h1 : 0<zs.length:=by simp at h;omega
   obtain ⟨xb,xo,xs⟩:=x
   have hc0:=hcell 0 h1
   have hsp:xs=none:=by
    cases xs with
    | none=>rfl
    | some y =>
      simp only [Addr.add,World.cell?,Option.isSome_some,if_true] at hc0
      split at hc0 <;> simp at hc0
   subst hsp
   have hlt:xb<W.heap.size:=by
    rcases Nat.lt_or_ge xb W.heap.size with h|h
    ·exact h
    ·simp [Addr.add,World.cell?,Array.getElem?_eq_none h] at hc0
   refine ⟨xb,xo,rfl,hlt,fun i hi j u hu => ?_⟩
   have hj:j = 0:=by have:=(List.getElem?_eq_some_iff.1 hu).1;simp [intCells] at this;omega
   subst hj
   have hil:i<zs.length:=by simp at hi;omega
   have:=hcell i hil
   simp only [intCells,List.getElem?_cons_zero,Option.some.injEq] at hu
   subst hu
   rw [List.getElem_take]
   rw [List.getD_eq_getElem?_getD,List.getElem?_eq_getElem hil] at this
   unfold Addr.add at this
   split at this
   ·rename_i h0;subst h0;simpa using this
   ·simpa using this
 clear hA0 hval0
 subst htl
 refine (holdlooks_walk a0 cap0 t sq W hts ht8).mono fun e W' ⟨he,bel⟩ => ?_
 subst he
 exact ⟨_,rfl,_,_,_,[],_,[],hW',trodAll_mk1 (shut_bool Tryz.underlying4 _),(trodAll_cons_mk (Below.trod laidOut (by kernel_rfl) (of_decide_eq_true (by kernel_rfl)) k0 bel lt0) (trodAll_cons_mk (shut_int Tryz.underlying3 w1) trodAll_mk0)),rfl,bel.frame _,fun h=>by cases h⟩
set_option maxHeartbeats 16000000 in
theorem facts:joinedFacts Tryz.pinned.checked.prog 3 Tryz.f3 Rows.holdLooksSpec Rows.holdLooksRow=true:=by
 unfold joinedFacts
 repeat' (with_reducible refine (Bool.and_eq_true _ _).mpr ⟨?_,?_⟩)
 all_goals (as_aux_lemma => kernel_rfl)
theorem over:Rows.holdLooksRow.holds Tryz.pinned (OpenSpec.ofChange Rows.holdLooksSpec) :=
 OpenClaim.holds_of_wide 3 Tryz.f3 rfl rfl rfl rfl rfl rfl rfl ⟨rfl,rfl,rfl,rfl,rfl⟩ rfl rfl rfl rfl rfl (by kernel_rfl) Tryz.func3 facts
  (of_decide_eq_true (by kernel_rfl)) (by unfold Func.isWrapper;first|(rw [if_pos (by decide +kernel)];kernel_rfl)|(rw [if_neg (by decide +kernel)];exact ⟨rfl,rfl⟩))
  (fun os started H enc _=>lifted os started H enc)
theorem proved:Rows.HoldLooksSaid:=over
#print axioms proved
end Go.Proofs.YtlpgmdhnjckplaaGreat.holdLooks
