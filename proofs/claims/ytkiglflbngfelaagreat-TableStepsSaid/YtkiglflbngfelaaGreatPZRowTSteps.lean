/-
  For every list of numbers the law TableSteps returns true: replaying a history gives the tables that Apply gives, one change after the other, and they stay valid. No condition.
-/
import Derived.Test.YtkiglflbngfelaaGreatPSup
import Derived.Test.YtkiglflbngfelaaGreatP33
import Derived.Test.YtkiglflbngfelaaGreatP31
import Derived.Test.YtkiglflbngfelaaGreatP32
import Derived.Test.YtkiglflbngfelaaGreatP27
import Derived.Test.YtkiglflbngfelaaGreatQ25
import Derived.Test.YtkiglflbngfelaaGreatQ10
import Derived.Test.YtkiglflbngfelaaGreatQ2
import Derived.Test.YtkiglflbngfelaaGreatRows
import Derived.WalkKit
import Derived.ProofKit
import Derived.OpenShut
import Derived.ShutString
import Derived.ChangeOld
import Derived.Below
import Derived.SizedLaws
set_option linter.unusedVariables false
set_option linter.unusedSimpArgs false
set_option maxRecDepth 100000
set_option maxHeartbeats 16000000
namespace Go.Proofs.YtkiglflbngfelaaGreat
open Go.RowKit Go
theorem chain_pok {ts:List Tab} {l:List Chg} {pl:List (List bB)} (h:sj ts l pl) : ∀ i,i≤l.length→POk ts (eD ts (l.take i)):=fun i hi=>by
 rcases Nat.lt_or_ge i l.length with h1|h1
 ·obtain ⟨rt,h2,h3⟩:=h.at_ i h1
  rw [← h2]
  exact (jK h3).1.pure
 ·rw [List.take_of_length_le h1,h.replay]
  exact h.ok
theorem steps_walk (A:Option Addr) (c:Nat) (t:List Int) (w:World) (hl:ag w w.heap.size intCells 1 A t) (hn:t.length * 8 ≤ 140737488351232) :
 Calls Tryz.prog 5 #[.slice A t.length c] w fun e w'=>e = .returned (.bool true)∧Below w.heap.size w w':=by
 have HL0:=qh hl
 clear hl
 go_enter Tryz.func5,Tryz.ntmps5
 go_wp2_with fail
 refine (Ky A c t _ HL0.out hn).mono ?_
 rintro e w1 ⟨⟨g,b,rfl,hg1,hb1,hk1⟩,hx1⟩
 have HK1:=qh hk1
 have QR:=hk1.ltg
 clear hk1 HL0
 go_wp2_with fail
 refine (Dn g b 3 _ HK1.out (by omega) (by omega)).mono ?_
 rintro e w2 ⟨CA,cc,ts,rfl,ht2,hu2,UC,hs2,hok2,h02,YK,hk2,hg2⟩
 have HK2:=qh hk2
 have HT2:=qh ht2
 have HU:=qh hu2
 have HS:=qh hs2
 have HOK:=qh hok2
 have hx2:Below w.heap.size w w2:=Below.grown hx1 hg2 hx1.size (fun q e=>by injection e with e;omega)
 have hz2:=hg2.size
 clear hk2 ht2 hu2 UC hs2 hok2 hg2 HK1
 go_upto_region 3 with (fail)
 refine ah (P:=fun u=>Code.wp _ _ _ _ u) (R:=fun u=>Blk u w2.heap.size 34 #[.slice CA ts.length cc, .slice none 0 0, .slice none 0 0, .slice none 0 0, .slice none 0 0, .slice none 0 0, .slice none 0 0, .slice none 0 0]∧Below w2.heap.size w2 u) ⟨?_,?_⟩ ?_
 ·exact Blk.new' rfl
 ·exact au
 rintro W ⟨hC,hbW⟩
 have HC:=qh hC
 have hzC:=hC.lt
 have HKW:=qh (HK2.out.below hbW)
 have hxW:Below w.heap.size w W:=aa hx2 hbW hx2.size
 have HTW:=qh (HT2.out.next hbW)
 obtain ⟨p0,p1,p2,p3,p4,p5,p6,p7⟩:=Cat.blk hC
 clear hC HK2 HT2
 go_wp2_with fail
 refine (zu g b w1.heap.size 10 CA cc ts.length ts W HKW.out QR HTW.out HU.out rfl HS.out HOK.out h02 (by omega)).mono ?_
 rintro e u1 ⟨LA,lc,l,rfl,hll,hoc,hk3,hg3,PD⟩
 have PQ:=qh PD
 have X9:=hg3.size
 have hC1:=HC.out.grown hg3 (fun e=>by injection e with e;omega)
 have hT1:=HTW.out.grown HU.out QR hg3
 have hx3:Below w.heap.size w u1:=Below.grown hxW hg3 hxW.size (fun q e=>by injection e with e;omega)
 have HC1:=qh hC1
 have HT1:=qh hT1
 have HK3:=qh hk3
 have HOC:=qh hoc
 have HLR:=qh hoc.read
 have hl8 : ∀ x∈l,x.row.length ≤ 1000000:=fun x hx=>Nat.le_trans (hoc.len x hx) (by omega)
 have HL8:=qh hl8
 obtain ⟨⟨pl,hch⟩,_,_⟩:=PQ.out
 have HCH:=qh hch
 have HPOK:=qh (chain_pok hch)
 clear p0 p1 p2 p3 p4 p5 p6 p7 hC1 hT1 hk3 hoc HKW HTW HC hbW PD hl8 hch
 obtain ⟨p0,p1,p2,p3,p4,p5,p6,p7⟩:=Cat.blk HC1.out
 go_upto_region 6 with (go_at_call 19;(with_reducible refine (tab_New CA cc ts.length ts _ HT1.out rfl HS.out HOK.out).mono ?_);rintro e u2 ⟨⟨yq,rfl,hyq,hrt0⟩,hb2⟩)
 have HRT0:=qh hrt0
 clear p0 p1 p2 p3 p4 p5 p6 p7 hrt0
 go_loopw [6,7] (fun vy vi wr => ∃ (i:Nat) (YA:Option Addr) (yc:Nat) (rt':List RTab),i≤l.length∧vi = .int .i64 i∧vy = .slice YA ts.length yc∧rt'.length=ts.length∧aP wr wr.heap.size YA rt'∧rt'.map ax=eD ts (l.take i)∧Below u1.heap.size u1 wr) (fun _ vi _=>l.length - (intOf vi).toNat)
 case atStart=>exact ⟨0,_,_,_,Nat.zero_le _,rfl,rfl,by simp,HRT0.out,by rw [List.map_replicate];rfl,hb2⟩
 case round =>
  obtain ⟨i,YA,yc,rt',hi,rfl,rfl,hyl,hyr,hyp,hbr⟩:=hrel
  have hwz:=hbr.size
  have hxr:=aa hx3 hbr hx3.size
  have HYL:=qh hyl
  have HYR:=qh hyr
  have HYP:=qh hyp
  have hC:=HC1.out.below hbr HC1.out.lt
  have HCr:=qh hC
  obtain ⟨p0,p1,p2,p3,p4,p5,p6,p7⟩:=Cat.blk hC
  have HTr:=qh (HT1.out.next hbr)
  have HRK:Hid (aO ts rt'):=qh (POk.back HOK.out (by rw [HYP.out];exact HPOK.out i hi))
  have HYS:Hid (fV rt'):=qh ((HRK.out.shape).sD HOK.out)
  clear hC hyl hyr hyp
  by_cases hlt:i<l.length
  ·obtain ⟨b5,o5,rfl,hb5,hc5⟩:=(HLR.out.1.below hbr).get hlt
   obtain ⟨⟨q0,q1,q2,q3⟩,q4,⟨q5,q6,q7⟩,q8,q9,q10,q11⟩:=Chg.uE hc5
   obtain ⟨rt0,h01,h02⟩:=HCH.out.at_ i hlt
   have hck:dZ ts rt' l[i] = 0:=by rw [check_pure (HYP.out.trans h01.symm)];exact h02
   have hnx:=BC ts hlt
   rw [if_pos (jK h02).2,← HYP.out] at hnx
   have hrow:=HLR.out.2 l[i] (lgm hlt)
   have hr8:=HL8.out l[i] (lgm hlt)
   obtain ⟨⟨kd,sq,dy,tb,A0,cp,row,key,cl,vl⟩,hx⟩ : ∃ x,l[i]=x:=⟨_,rfl⟩
   rw [hx] at q0 q1 q2 q3 q4 q5 q6 q7 q8 q9 q10 q11 hck hnx hrow hr8
   simp only at q0 q1 q2 q3 q4 q5 q6 q7 q8 q9 q10 q11 hrow hr8
   have HAP:Hid (∀ (u:World) (hu:Below wr.heap.size wr u),_):=qh fun (u:World) (hu:Below wr.heap.size wr u)=>IW CA cc ts.length ts YA yc ts.length rt' kd sq dy tb A0 cp row key cl vl u (HTr.out.next hu) rfl HS.out HOK.out (HYR.out.next hu) HYL.out HYS.out (hrow.next (aa hbr hu hwz)) hr8 hck
   have HNX:=qh hnx
   have Uj:decide (i<l.length)=true:=by simpa using hlt
   have hdr:Below wr.heap.size wr wr.drew:=brf.drew
   have wQ:b5<wr.heap.size:=by omega
   clear hc5 hck hnx h01 h02 hrow hx
   go_upto_region 8 with (fail)
   refine wp_region_held_drew (S:=fun u=>(u.cell? ⟨w2.heap.size,0,none⟩=some (.slice CA ts.length cc)∧u.cell? ⟨w2.heap.size,1,none⟩=some (.slice none 0 0)∧u.cell? ⟨w2.heap.size,2,none⟩=some (.slice none 0 0)∧u.cell? ⟨w2.heap.size,3,none⟩=some (.slice none 0 0)∧u.cell? ⟨w2.heap.size,4,none⟩=some (.slice none 0 0)∧u.cell? ⟨w2.heap.size,5,none⟩=some (.slice none 0 0)∧u.cell? ⟨w2.heap.size,6,none⟩=some (.slice none 0 0)∧u.cell? ⟨w2.heap.size,7,none⟩=some (.slice none 0 0))∧(u.cell? ⟨b5,o5+i * 12,none⟩=some (.int .i64 kd)∧u.cell? ⟨b5,o5+i * 12 + 1,none⟩=some (.int .i64 sq)∧u.cell? ⟨b5,o5+i * 12 + 2,none⟩=some (.int .i64 dy)∧u.cell? ⟨b5,o5+i * 12 + 3,none⟩=some (.int .i64 tb)∧u.cell? ⟨b5,o5+i * 12 + 4,none⟩=some (.slice A0 row.length cp)∧u.cell? ⟨b5,o5+i * 12 + 5,none⟩=some (.int .i64 key.kind)∧u.cell? ⟨b5,o5+i * 12 + 6,none⟩=some (.int .i64 key.num)∧u.cell? ⟨b5,o5+i * 12 + 7,none⟩=some (.string key.text)∧u.cell? ⟨b5,o5+i * 12 + 8,none⟩=some (.int .i64 cl)∧u.cell? ⟨b5,o5+i * 12 + 9,none⟩=some (.int .i64 vl.kind)∧u.cell? ⟨b5,o5+i * 12 + 10,none⟩=some (.int .i64 vl.num)∧u.cell? ⟨b5,o5+i * 12 + 11,none⟩=some (.string vl.text))) (by kernel_rfl) ⟨⟨p0,p1,p2,p3,p4,p5,p6,p7⟩,q0,q1,q2,q3,q4,q5,q6,q7,q8,q9,q10,q11⟩ (fun hHeld => ?_)
   refine tkH 0 hHeld ?_
   refine tkH 1 hHeld ?_
   refine tkH 2 hHeld ?_
   refine tkH 3 hHeld ?_
   refine tkH 4 hHeld ?_
   refine tkH 5 hHeld ?_
   refine wpAnyH_ready (rs := [6]) (by kernel_rfl) (by simp) ?_
   refine AllReadyH.cons rfl (fun K hK => ?_) AllReadyH.nil
   go_simp
   (go_at_call 20;(with_reducible refine (HAP.out _ hdr).mono ?_))
   rintro e w9 ⟨⟨A9,c9,m9,rt9,rfl,hz9⟩,hb9⟩
   obtain ⟨rfl,hl9,hr9,_,_,hp9⟩:=hz9 rfl
   have hy9:Below wr.heap.size wr w9:=hdr.trans hb9
   have HL9:=qh hl9
   have HR9:=qh hr9
   have HP9:Hid (rt9.map ax=eD ts (l.take (i + 1))):=qh (by rw [hp9];exact HNX.out.symm)
   have HK9:Hid (aO ts rt9):=qh (POk.back HOK.out (by rw [HP9.out];exact HPOK.out (i + 1) (by omega)))
   have HS9:Hid (fV rt9):=qh ((HK9.out.shape).sD HOK.out)
   have HB9:Hid (pb (aO ts rt9)=true):=qh (aT HK9.out)
   have HC9:=qh (HCr.out.below hy9 HCr.out.lt)
   have HT9:=qh (HTr.out.next hy9)
   clear hz9 hl9 hr9 hp9 hb9
   go_wp2_with fail
   refine hK.out _ _ ⟨Cat.blk HC9.out,(hy9.cell (p:=⟨b5,_,none⟩) wQ).trans q0,(hy9.cell (p:=⟨b5,_,none⟩) wQ).trans q1,(hy9.cell (p:=⟨b5,_,none⟩) wQ).trans q2,(hy9.cell (p:=⟨b5,_,none⟩) wQ).trans q3,(hy9.cell (p:=⟨b5,_,none⟩) wQ).trans q4,(hy9.cell (p:=⟨b5,_,none⟩) wQ).trans q5,(hy9.cell (p:=⟨b5,_,none⟩) wQ).trans q6,(hy9.cell (p:=⟨b5,_,none⟩) wQ).trans q7,(hy9.cell (p:=⟨b5,_,none⟩) wQ).trans q8,(hy9.cell (p:=⟨b5,_,none⟩) wQ).trans q9,(hy9.cell (p:=⟨b5,_,none⟩) wQ).trans q10,(hy9.cell (p:=⟨b5,_,none⟩) wQ).trans q11⟩ (fun hHeld => ?_)
   clear hK K
   (try simp only [Act.put,gP6])
   refine tkH 7 hHeld ?_
   refine tkH 8 hHeld ?_
   refine tkH 9 hHeld ?_
   refine tkH 10 hHeld ?_
   refine tkH 11 hHeld ?_
   refine wpAnyH_done (by kernel_rfl) ?_ _
   clear hHeld p0 p1 p2 p3 p4 p5 p6 p7 q0 q1 q2 q3 q4 q5 q6 q7 q8 q9 q10 q11
   obtain ⟨p0,p1,p2,p3,p4,p5,p6,p7⟩:=Cat.blk HC9.out
   go_wp2_with (go_at_call 21;(with_reducible refine (uN CA cc ts.length ts A9 c9 ts.length rt9 _ HT9.out rfl HS.out HOK.out HR9.out HL9.out HS9.out HB9.out).mono ?_);rintro e w10 ⟨rfl,uu⟩)
   have Qn:=aa hy9 uu hy9.size
   go_roundw
   case rel=>exact ⟨i + 1,A9,c9,rt9,by omega,by go_num,rfl,HL9.out,HR9.out.next uu,HP9.out,aa hbr Qn hwz⟩
   case measure=>exact meA
  ·have hlt':decide (i<l.length)=false:=by simpa using hlt
   have hie:i=l.length:=by omega
   have HPU2:Hid (rt'.map ax=eD ts l):=qh (by rw [HYP.out,hie,List.take_length])
   have HLRr:=qh (show jv wr wr.heap.size LA l from ⟨HLR.out.1.next hbr,fun x hx=>(HLR.out.2 x hx).next hbr⟩)
   clear hie
   go_wp2_with (first
    | (go_at_call 11;(with_reducible refine (tab_Replay CA cc ts.length ts LA lc l.length l _ HTr.out rfl HS.out HOK.out HLRr.out rfl (by omega) HL8.out HPOK.out).mono ?_);rintro e u8 ⟨⟨q8,rt8,rfl,hl8,hr8,_,hp8⟩,hb8⟩;have hx8:=aa hxr hb8 hxr.size;have HL9:=qh hl8;have HR9:=qh hr8;have HP9:=qh hp8;clear hl8 hr8 hp8;obtain ⟨p0,p1,p2,p3,p4,p5,p6,p7⟩:=Cat.blk (HCr.out.below hb8 HCr.out.lt);have HB8:=qh hb8)
    | (go_at_call 22;(with_reducible refine (Fv YA _ yc _ ts.length ts.length rt' rt8 _ (HYR.out.next hb8) HR9.out HYL.out HL9.out HYS.out (HPU2.out.trans HP9.out.symm)).mono ?_);rintro e u9 ⟨rfl,hb9⟩;have hx9:=aa hx8 hb9 hx8.size;clear p0 p1 p2 p3 p4 p5 p6 p7;obtain ⟨p0,p1,p2,p3,p4,p5,p6,p7⟩:=Cat.blk (HCr.out.below (aa hb8 hb9 hb8.size) HCr.out.lt))
    | (go_at_call 13;(with_reducible refine (law07_awake _).mono ?_);rintro e u11 ⟨rfl,qY⟩;have V7:=aa hx9 qY hx9.size))
   go_ret
   exact ⟨rfl,V7⟩
end Go.Proofs.YtkiglflbngfelaaGreat
namespace Go.Proofs.YtkiglflbngfelaaGreat.tableSteps
open Go.ChangeShapes Go.WideShapes Go.ChangeAt Go.RowKit
theorem own:ownKnob Tryz.prog.godebug=none:=by kernel_rfl
theorem laidOut:laidOutB Tryz.prog=true:=by kernel_rfl
theorem bytesInt:Tryz.prog.bytesOf 3 = 8:=by kernel_rfl
theorem lifted (os:Os) (started:os.Started) (H:Type) (enc:TypeId × Value→H) :
 ReturnsInHanded {} Tryz.checked os 5 .any (Rows.tableStepsSpec.pre6 enc Tryz.prog Tryz.f5 Rows.tableStepsRow.domain false) (Rows.tableStepsSpec.post enc Tryz.prog Tryz.f5 false true false false):=by
 refine returnsInHanded_of_change_sized (C:=Tryz.checked) own started (by kernel_rfl) Tryz.func5
  (ChangeSpec.witness6 (enc:=enc) (C:=Tryz.checked) false ⟨#[],#[.slice none 0 0],[]⟩ 8 (by kernel_rfl) (by kernel_rfl) (by kernel_rfl) (by kernel_rfl)) ?_
 intro W base args ds gs before hval0 hW hcnd hsz0 _
 have hval : ∀ (j:Nat) t v,Tryz.f5.params[j]? = some t→args[j]? = some v→Value.okWide Tryz.prog W .any base t v:=hval0
 have hsz:(DataW.weightsEach Tryz.prog (Tryz.f5.params.toList++Rows.tableStepsSpec.plain.varTypes Tryz.prog) (ds++gs)).all (· ≤ reachBytes)=true:=hsz0
 have hW':=hW
 obtain ⟨p,q,hA0,hV,rfl,hfz,hnd⟩:=hW
 have hA:DataW.TrodAll enc Tryz.prog W 0 (fun _=>true) true Tryz.f5.params.toList args.toList ds p:=hA0
 rw [Tryz.params5] at hA hval hsz
 obtain ⟨v0,vs0,d0,ds0,p0,q0,hargs,rfl,rfl,h0,r0⟩:=trodAll_cons hA
 obtain ⟨rfl,rfl,rfl⟩:=trodAll_nil r0
 obtain rfl:args = #[v0]:=by cases args;simp_all
 obtain ⟨rfl,rfl⟩:=trodVars_none hV
 obtain ⟨a0,SK,cap0,rfl⟩:=okWide_slice Tryz.underlying22 (hval 0 22 v0 rfl rfl)
 have k0:=h0
 have lt0 : ∀ x∈p0,x.block<W.heap.size:=by obtain ⟨m,hm⟩:=k0;exact DataW.trod_lt m _ _ _ hm
 obtain ⟨t,htl,hts,ht8⟩ : ∃ t:List Int,t.length=SK∧ag W W.heap.size intCells 1 a0 t∧t.length * 8 ≤ 140737488351232:=by
  obtain ⟨fuel,hf⟩:=h0
  rcases open_ints Tryz.underlying22 Tryz.underlying3 (by kernel_rfl) hf with ⟨hcs,_⟩|⟨x,l,c,zs,hcs,_,hl,hm,hz,hx,hcell,hwz⟩
  ·simp [Value.cells] at hcs
   obtain ⟨rfl,rfl,rfl⟩:=hcs
   exact ⟨[],rfl,ag.nil,by simp⟩
  ·simp [Value.cells] at hcs
   obtain ⟨rfl,rfl,rfl⟩:=hcs
   simp only [Prod.mk.injEq] at hx
   obtain ⟨rfl,_⟩:=hx
   have hs:=sized_slice hsz (j := 0) (t := 22) (e := 3) rfl rfl Tryz.underlying22
   rw [bytesInt] at hs
   simp only [lits,List.length_map,List.length_take,List.length_drop,reachBytes] at hs
   have hzl:zs.length=cap0:=by simpa using hz
   refine ⟨zs.take SK,by simp;omega,fun h => ?_,by simp;omega⟩
   have h1 : 0<zs.length:=by simp at h;omega
   obtain ⟨xb,xo,xs⟩:=x
   have hc0:=hcell 0 h1
   have hsp:xs=none:=by
    cases xs with
    | none=>rfl
    | some y =>
      simp only [Addr.add,World.cell?,Option.isSome_some,if_true] at hc0
      split at hc0 <;> simp at hc0
   subst hsp
   have hlt:xb<W.heap.size:=by
    rcases Nat.lt_or_ge xb W.heap.size with h|h
    ·exact h
    ·simp [Addr.add,World.cell?,Array.getElem?_eq_none h] at hc0
   refine ⟨xb,xo,rfl,hlt,fun i hi j u hu => ?_⟩
   have hj:j = 0:=by have:=(List.getElem?_eq_some_iff.1 hu).1;simp [intCells] at this;omega
   subst hj
   have hil:i<zs.length:=by simp at hi;omega
   have:=hcell i hil
   simp only [intCells,List.getElem?_cons_zero,Option.some.injEq] at hu
   subst hu
   rw [List.getElem_take]
   rw [List.getD_eq_getElem?_getD,List.getElem?_eq_getElem hil] at this
   unfold Addr.add at this
   split at this
   ·rename_i h0;subst h0;simpa using this
   ·simpa using this
 clear hA0 hval0
 subst htl
 refine (steps_walk a0 cap0 t W hts ht8).mono fun e W' ⟨he,bel⟩ => ?_
 subst he
 exact ⟨_,rfl,_,_,_,[],_,[],hW',trodAll_mk1 (shut_bool Tryz.underlying4 _),(trodAll_cons_mk (Below.trod laidOut (by kernel_rfl) (of_decide_eq_true (by kernel_rfl)) k0 bel lt0) trodAll_mk0),rfl,bel.frame _,fun h=>by cases h⟩
theorem facts:joinedFacts Tryz.pinned.checked.prog 5 Tryz.f5 Rows.tableStepsSpec Rows.tableStepsRow=true:=by
 unfold joinedFacts
 repeat' (with_reducible refine (Bool.and_eq_true _ _).mpr ⟨?_,?_⟩)
 all_goals (as_aux_lemma=>kernel_rfl)
theorem over:Rows.tableStepsRow.holds Tryz.pinned (OpenSpec.ofChange Rows.tableStepsSpec) :=
 OpenClaim.holds_of_wide 5 Tryz.f5 rfl rfl rfl rfl rfl rfl rfl ⟨rfl,rfl,rfl,rfl,rfl⟩ rfl rfl rfl rfl rfl (by kernel_rfl) Tryz.func5 facts
  (of_decide_eq_true (by kernel_rfl)) (by unfold Func.isWrapper;first|(rw [if_pos (by decide +kernel)];kernel_rfl)|(rw [if_neg (by decide +kernel)];exact ⟨rfl,rfl⟩))
  (fun os started H enc _=>lifted os started H enc)
theorem proved:Rows.TableStepsSaid:=over
#print axioms proved
end Go.Proofs.YtkiglflbngfelaaGreat.tableSteps
