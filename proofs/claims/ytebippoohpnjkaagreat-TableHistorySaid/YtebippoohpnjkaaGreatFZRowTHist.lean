/-
  For every list of numbers the law TableHistory returns true: History and Ordered agree with the definitions for histories, also with one change changed, removed, doubled or moved, and for spoilt catalogues. No condition.
-/
import Derived.Test.YtebippoohpnjkaaGreatF37
import Derived.Test.YtebippoohpnjkaaGreatF52
import Derived.Test.YtebippoohpnjkaaGreatF44
import Derived.Test.YtebippoohpnjkaaGreatF50
import Derived.Test.YtebippoohpnjkaaGreatRows
import Derived.ProofKit
import Derived.OpenShut
import Derived.ShutString
set_option linter.unusedVariables false
set_option linter.unusedSimpArgs false
set_option maxRecDepth 100000
set_option maxHeartbeats 16000000
namespace Go.Proofs.YtebippoohpnjkaaGreat
open Go.RowKit Go
theorem gh{P:Prop}(h:P:=by kernel_rfl):P:=h
theorem mQ(A:Option Addr)(c m:Nat)(ts:List Tab)(LA:Option Addr)(lc n:Nat)(l:List Chg)(w:World)(ht:aJ w w.heap.size A ts)(hm:ts.length=m)(hs:aI ts)(hl:dh w w.heap.size LA l)(hn:l.length=n)(hn6:n≤1024)(hrow:∀x∈l,x.row.length≤1000000):
 Calls Tryz.prog 33 #[.agg #[.slice A m c,.slice none 0 0,.slice none 0 0,.slice none 0 0,.slice none 0 0,.slice none 0 0,.slice none 0 0,.slice none 0 0],.slice LA n lc] w fun e w'=>e=.returned (.bool true)∧Below w.heap.size w w':=
 nY A c m ts Oth.nil LA lc n l w ht hm hs (bL.nil _ _) dN.nil gV.nil hl hn hn6 hrow
theorem Al(A:Option Addr)(c m:Nat)(ts:List Tab)(LA:Option Addr)(lc n:Nat)(l:List Chg)(w:World)(ht:aJ w w.heap.size A ts)(hm:ts.length=m)(hs:aI ts)(hok:aV ts)(hl:dh w w.heap.size LA l)(hn:l.length=n)(hn6:n≤1024)(hrow:∀x∈l,x.row.length≤1000000){r:Bool}(hr:pb (kC ts l)=r):
 Calls Tryz.prog 32 #[.agg #[.slice A m c,.slice none 0 0,.slice none 0 0,.slice none 0 0,.slice none 0 0,.slice none 0 0,.slice none 0 0,.slice none 0 0],.slice LA n lc] w fun e w'=>e=.returned (.bool r)∧Below w.heap.size w w':=
 vz (o:=Oth.nil) A c m ts LA lc n l w ht hm hs hok (dZ.nil ht hs hok) hl hn hn6 hrow hr
theorem Eg(A:Option Addr)(c:Nat)(t:List Int)(w:World)(hl:ah w w.heap.size intCells 1 A t)(hn:t.length*8≤140737488351232):
 Calls Tryz.prog 7 #[.slice A t.length c] w fun e w'=>e=.returned (.bool true)∧Below w.heap.size w w':=by
 have HL0:=qh hl
 clear hl
 go_enter Tryz.func7,Tryz.ntmps7
 go_wp2_with fail
 refine(BS A c t _ HL0.out hn).mono ?_
 rintro e w1 ⟨⟨g,b,rfl,hg1,hb1,hk1⟩,hx1⟩
 have HK1:=qh hk1
 have wh:=hk1.ltg
 clear hk1 HL0
 go_wp2_with fail
 refine(ve g b 3 _ HK1.out (by omega) (by omega)).mono ?_
 rintro e w2 ⟨CA,cc,ts,rfl,ht2,hu2,QF,hs2,hok2,h02,UU,hk2,hg2⟩
 have HK2:=qh hk2
 have HT2:=qh ht2
 have HU:=qh hu2
 have HS:=qh hs2
 have HOK:=qh hok2
 have hx2:Below w.heap.size w w2:=Below.grown hx1 hg2 hx1.size inB
 have hz2:=hg2.size
 clear hk2 ht2 hu2 QF hs2 hok2 hg2 HK1
 go_upto_region 3 with (fail)
 refine ai (P:=fun u=>Code.wp _ _ _ _ u) (R:=fun u=>Blk u w2.heap.size 39 #[.slice CA ts.length cc,.slice none 0 0,.slice none 0 0,.slice none 0 0,.slice none 0 0,.slice none 0 0,.slice none 0 0,.slice none 0 0]∧Below w2.heap.size w2 u) ⟨?_,?_⟩ ?_
 ·exact Blk.new' rfl
 ·exact ak
 rintro W ⟨hC,hbW⟩
 have HC:=qh hC
 have hzC:=hC.lt
 have HKW:=qh (HK2.out.below hbW)
 have hxW:Below w.heap.size w W:=ae hx2 hbW hx2.size
 have HTW:=qh (HT2.out.next hbW)
 obtain⟨p0,p1,p2,p3,p4,p5,p6,p7⟩:=Cat.blk hC
 clear hC HK2 HT2
 go_upto_region 4 with (go_at_call 12;(refine(qD g b w1.heap.size 8 CA cc ts.length ts _ HKW.out wh HTW.out HU.out rfl HS.out HOK.out h02 (by omega)).mono ?_);rintro e u1 ⟨LA,lc,l,rfl,hll,hoc,hk3,hg3,C8⟩;have Ru:=hg3.size;have HC1:=qh (HC.out.grown hg3 inA);have HT1:=qh (HTW.out.grown HU.out wh hg3);have hx4:Below w.heap.size w u1:=Below.grown hxW hg3 hxW.size inB;have HK3:=qh hk3;have Ga:=qh hoc;have GR:=qh C8;have HL8:Hid (∀x∈l,x.row.length≤1000000):=qh (fun x hx=>Nat.le_trans (hoc.len x hx) (by omega));clear hk3 hg3 hoc C8 p0 p1 p2 p3 p4 p5 p6 p7;obtain⟨p0,p1,p2,p3,p4,p5,p6,p7⟩:=Cat.blk HC1.out)
 obtain⟨⟨pl,hch⟩,_,Qp⟩:=GR.out
 have HHA:=qh (FE HOK.out hch Qp)
 have HOR:Hid (pb (kC ts l)=true):=qh (aU (IP HOK.out hch Qp (by omega)))
 clear hch Qp GR
 go_upto_region 5 with (go_at_call 31;(with_reducible refine(Ao CA cc ts.length ts LA lc l.length l _ HT1.out rfl HS.out HOK.out Ga.out.read rfl (by omega) HL8.out l.length 0 HHA.out.le HHA.out.pok HHA.out.good HHA.out.bad (ra:= 0) (rb:= 0) (.inr ⟨rfl,rfl,rfl⟩)).mono ?_);rintro e u2 ⟨rfl,hb2⟩;have hz2':=hb2.size;have hx5:=ae hx4 hb2 hx4.size;have HC2:=qh (HC1.out.below hb2 HC1.out.lt);have HT2:=qh (HT1.out.next hb2);have HK4:=qh (HK3.out.below hb2);have Q7:=qh (Ga.out.below hb2);clear p0 p1 p2 p3 p4 p5 p6 p7;obtain⟨p0,p1,p2,p3,p4,p5,p6,p7⟩:=Cat.blk HC2.out;clear HHA HT1 HK3 Ga hb2)
 go_upto_region 7 with (go_at_call 32;(with_reducible refine(Al CA cc ts.length ts LA lc l.length l _ HT2.out rfl HS.out HOK.out Q7.out.read rfl (by omega) HL8.out HOR.out).mono ?_);rintro e u3 ⟨rfl,hb3⟩;have Us:=hb3.size;have hx6:=ae hx5 hb3 hx5.size;have HC3:=qh (HC2.out.below hb3 HC2.out.lt);have HT3:=qh (HT2.out.next hb3);have HK5:=qh (HK4.out.below hb3);have TV:=qh (Q7.out.below hb3);clear p0 p1 p2 p3 p4 p5 p6 p7 HT2 HK4 Q7 hb3)
 have hdr:Below u3.heap.size u3 u3.drew:=brf.drew
 have hx4:Below w.heap.size w u3.drew:=ae hx6 hdr hx6.size
 have HC4:=qh (HC3.out.below hdr HC3.out.lt)
 have HT4:=qh (HT3.out.next hdr)
 have HK4:=qh (HK5.out.below hdr)
 have rO:=qh (TV.out.below hdr)
 have hzd:u3.heap.size≤u3.drew.heap.size:=hdr.size
 have NJ:W.heap.size≤u3.drew.heap.size:=by have:=Ru;omega
 have hgW:g<W.heap.size:=by have:=HKW.out.ltg;omega
 refine wp_region_held_drew (S:=fun u=>u.cell? ⟨w2.heap.size,0,none⟩=some (.slice CA ts.length cc)∧u.cell? ⟨w2.heap.size,1,none⟩=some (.slice none 0 0)∧u.cell? ⟨w2.heap.size,2,none⟩=some (.slice none 0 0)∧u.cell? ⟨w2.heap.size,3,none⟩=some (.slice none 0 0)∧u.cell? ⟨w2.heap.size,4,none⟩=some (.slice none 0 0)∧u.cell? ⟨w2.heap.size,5,none⟩=some (.slice none 0 0)∧u.cell? ⟨w2.heap.size,6,none⟩=some (.slice none 0 0)∧u.cell? ⟨w2.heap.size,7,none⟩=some (.slice none 0 0)) gh (Cat.blk HC3.out) (fun hHeld =>?_)
 clear HC3 HT3 HK5 TV hdr hx6 HC2 HC1 HOR HKW HTW HC
 refine tkH 0 hHeld ?_
 refine tkH 1 hHeld ?_
 refine tkH 2 hHeld ?_
 refine wpAnyH_ready (rs:= [3]) gh (by simp) ?_
 refine AllReadyH.cons rfl (fun K hK =>?_) AllReadyH.nil
 go_simp
 (go_at_call 23;(with_reducible refine(ja g b W.heap.size LA lc l.length l _ HK4.out rO.out hgW NJ rfl (by omega)).mono ?_))
 rintro e y5 ⟨PA,pc,po,rfl,hpl,hpo,hk6,hg6⟩
 have hz6:=hg6.size
 have HC5:=qh (HC4.out.grown hg6 inA)
 have HT5:=qh (HT4.out.grown HU.out wh hg6)
 have rM:=qh (rO.out.kept hg6 hgW)
 have HK5:=qh hk6
 have HPO:=qh hpo
 have HP9:Hid (∀x∈po,x.row.length≤1000000):=qh fun x hx=>Nat.le_trans (hpo.len x hx) (by omega)
 have hx5:Below w.heap.size w y5:=Below.grown hx4 hg6 hx4.size inB
 have Qz:W.heap.size≤y5.heap.size:=by omega
 have Ld:po.length≤1024:=by omega
 clear hk6 hg6 hpo HC4 HT4 rO HK4
 go_wp2_with fail
 refine hK.out _ _ (Cat.blk HC5.out) (fun hHeld =>?_)
 clear hK K
 (try simp only[Act.put,gP6])
 refine wpAnyH_ready (rs:= [4]) gh (by simp) ?_
 refine AllReadyH.cons rfl (fun K hK =>?_) AllReadyH.nil
 go_simp
 (go_at_call 33;(with_reducible refine(mQ CA cc ts.length ts PA pc po.length po _ HT5.out rfl HS.out HPO.out.read rfl Ld HP9.out).mono ?_))
 rintro e y6 ⟨rfl,hb5⟩
 have hz7:=hb5.size
 have HC4:=qh (HC5.out.below hb5 HC5.out.lt)
 have HT4:=qh (HT5.out.next hb5)
 have rO:=qh (rM.out.below hb5)
 have HK4:=qh (HK5.out.below hb5)
 have hx6:=ae hx5 hb5 hx5.size
 have Lx:W.heap.size≤y6.heap.size:=by omega
 clear hb5 HC5 HT5 rM HK5 HPO HP9 hpl Ld hz6 hz7
 go_wp2_with fail
 refine hK.out _ _ (Cat.blk HC4.out) (fun hHeld =>?_)
 clear hK K
 (try simp only[Act.put,gP6])
 have NJ:W.heap.size≤y6.heap.size:=Lx
 have hx4:=hx6
 clear Lx Qz hx5 hx6
 refine tkH 5 hHeld ?_
 refine tkH 6 hHeld ?_
 refine tkH 7 hHeld ?_
 refine tkH 8 hHeld ?_
 refine wpAnyH_ready (rs:= [9]) gh (by simp) ?_
 refine AllReadyH.cons rfl (fun K hK =>?_) AllReadyH.nil
 go_simp
 (go_at_call 23;(with_reducible refine(ja g b W.heap.size LA lc l.length l _ HK4.out rO.out hgW NJ rfl (by omega)).mono ?_))
 rintro e y5 ⟨PA,pc,po,rfl,hpl,hpo,hk6,hg6⟩
 have hz6:=hg6.size
 have HC5:=qh (HC4.out.grown hg6 inA)
 have HT5:=qh (HT4.out.grown HU.out wh hg6)
 have rM:=qh (rO.out.kept hg6 hgW)
 have HK5:=qh hk6
 have HPO:=qh hpo
 have HP9:Hid (∀x∈po,x.row.length≤1000000):=qh fun x hx=>Nat.le_trans (hpo.len x hx) (by omega)
 have hx5:Below w.heap.size w y5:=Below.grown hx4 hg6 hx4.size inB
 have Qz:W.heap.size≤y5.heap.size:=by omega
 have Ld:po.length≤1024:=by omega
 clear hk6 hg6 hpo HC4 HT4 rO HK4
 go_wp2_with fail
 refine hK.out _ _ (Cat.blk HC5.out) (fun hHeld =>?_)
 clear hK K
 (try simp only[Act.put,gP6])
 refine wpAnyH_ready (rs:= [10]) gh (by simp) ?_
 refine AllReadyH.cons rfl (fun K hK =>?_) AllReadyH.nil
 go_simp
 (go_at_call 33;(with_reducible refine(mQ CA cc ts.length ts PA pc po.length po _ HT5.out rfl HS.out HPO.out.read rfl Ld HP9.out).mono ?_))
 rintro e y6 ⟨rfl,hb5⟩
 have hz7:=hb5.size
 have HC4:=qh (HC5.out.below hb5 HC5.out.lt)
 have HT4:=qh (HT5.out.next hb5)
 have rO:=qh (rM.out.below hb5)
 have HK4:=qh (HK5.out.below hb5)
 have hx6:=ae hx5 hb5 hx5.size
 have Lx:W.heap.size≤y6.heap.size:=by omega
 clear hb5 HC5 HT5 rM HK5 HPO HP9 hpl Ld hz6 hz7
 go_wp2_with fail
 refine hK.out _ _ (Cat.blk HC4.out) (fun hHeld =>?_)
 clear hK K
 (try simp only[Act.put,gP6])
 have NJ:W.heap.size≤y6.heap.size:=Lx
 have hx4:=hx6
 clear Lx Qz hx5 hx6
 refine tkH 11 hHeld ?_
 refine tkH 12 hHeld ?_
 refine tkH 13 hHeld ?_
 refine tkH 14 hHeld ?_
 refine tkH 16 hHeld ?_
 refine wpAnyH_ready (rs:= [15]) gh (by simp) ?_
 refine AllReadyH.cons rfl (fun K hK =>?_) AllReadyH.nil
 go_simp
 (go_at_call 13;(with_reducible refine(wK g b CA cc ts.length ts _ HK4.out HT4.out (HU.out.ne wh) rfl HS.out HOK.out h02).mono ?_))
 rintro e y7 ⟨DA,dc,td,od,rfl,hTd,hNd,hSd,hOd,NW,Bu,Bz,hk9,hg9⟩
 have HC8:=qh (HC4.out.grown hg9 inA)
 have Ot:=qh (rO.out.kept hg9 hgW)
 have HTD:=qh hTd
 have HSD:=qh hSd
 have HOD:=qh hOd
 have Vy:=qh Bu
 have V5:=qh Bz
 have hx9:Below w.heap.size w y7:=Below.grown hx4 hg9 hx4.size inB
 clear hk9 hg9 hTd hNd hSd hOd NW Bu Bz HC4 HT4 HK4 rO
 go_wp2_with fail
 refine hK.out _ _ (Cat.blk HC8.out) (fun hHeld =>?_)
 clear hK K
 (try simp only[Act.put,gP6])
 refine wpAnyH_ready (rs:= [17]) gh (by simp) ?_
 refine AllReadyH.cons rfl (fun K hK =>?_) AllReadyH.nil
 go_simp
 (go_at_call 33;(with_reducible refine(nY DA dc td.length td od LA lc l.length l _ HTD.out rfl HSD.out HOD.out Vy.out V5.out Ot.out.read rfl (by omega) HL8.out).mono ?_))
 rintro e y8 ⟨rfl,rz⟩
 have Ow:=qh (HC8.out.below rz HC8.out.lt)
 have KY:=ae hx9 rz hx9.size
 clear rz HC8 Ot HTD HOD
 go_wp2_with fail
 refine hK.out _ _ (Cat.blk Ow.out) (fun hHeld =>?_)
 clear hK K
 (try simp only[Act.put,gP6])
 refine tkH 18 hHeld ?_
 refine tkH 19 hHeld ?_
 refine wpAnyH_ready (rs:= [20]) gh (by simp) ?_
 refine AllReadyH.cons rfl (fun K hK =>?_) AllReadyH.nil
 go_simp
 (go_at_call 27;(with_reducible refine(vN _).mono ?_))
 rintro e y9 ⟨rfl,QI⟩
 have Uv:=ae KY QI KY.size
 have Ub:=qh (Ow.out.below QI Ow.out.lt)
 clear QI Ow
 go_wp2_with fail
 refine hK.out _ _ (Cat.blk Ub.out) (fun hHeld =>?_)
 clear hK K
 (try simp only[Act.put,gP6])
 refine tkH 21 hHeld ?_
 refine tkH 22 hHeld ?_
 refine wpAnyH_done gh ?_ _
 clear hHeld Ub
 go_wp2_with fail
 go_ret
 exact⟨rfl,Uv⟩
end Go.Proofs.YtebippoohpnjkaaGreat
namespace Go.Proofs.YtebippoohpnjkaaGreat.tableHistory
open Go.ChangeShapes Go.WideShapes Go.ChangeAt Go.RowKit
theorem own:ownKnob Tryz.prog.godebug=none:=by kernel_rfl
theorem laidOut:laidOutB Tryz.prog=true:=by kernel_rfl
theorem bytesInt:Tryz.prog.bytesOf 3=8:=by kernel_rfl
theorem lifted(os:Os)(started:os.Started)(H:Type)(enc:TypeId × Value→H):
 ReturnsInHanded {} Tryz.checked os 7 .any (Rows.tableHistorySpec.pre6 enc Tryz.prog Tryz.f7 Rows.tableHistoryRow.domain false) (Rows.tableHistorySpec.post enc Tryz.prog Tryz.f7 false true false false):=by
 refine returnsInHanded_of_change_sized (C:=Tryz.checked) own started gh Tryz.func7
  (ChangeSpec.witness6 (enc:=enc) (C:=Tryz.checked) false ⟨#[],#[.slice none 0 0],[]⟩ 8 gh gh gh gh) ?_
 intro W base args ds gs before hval0 hW hcnd hsz0 _
 have hval:∀(j:Nat) t v,Tryz.f7.params[j]?=some t→args[j]?=some v→Value.okWide Tryz.prog W .any base t v:=hval0
 have hsz:(DataW.weightsEach Tryz.prog (Tryz.f7.params.toList++Rows.tableHistorySpec.plain.varTypes Tryz.prog) (ds++gs)).all (· ≤ reachBytes)=true:=hsz0
 have hW':=hW
 obtain⟨p,q,hA0,hV,rfl,hfz,hnd⟩:=hW
 have hA:DataW.TrodAll enc Tryz.prog W 0 (fun _=>true) true Tryz.f7.params.toList args.toList ds p:=hA0
 rw[Tryz.params7]at hA hval hsz
 obtain⟨v0,vs0,d0,ds0,p0,q0,hargs,rfl,rfl,h0,r0⟩:=trodAll_cons hA
 obtain⟨rfl,rfl,rfl⟩:=trodAll_nil r0
 obtain rfl:args=#[v0]:=by cases args;simp_all
 obtain⟨rfl,rfl⟩:=trodVars_none hV
 obtain⟨a0,KE,cap0,rfl⟩:=okWide_slice Tryz.underlying22 (hval 0 22 v0 rfl rfl)
 have k0:=h0
 have lt0:∀x∈p0,x.block<W.heap.size:=by obtain⟨m,hm⟩:=k0;exact DataW.trod_lt m _ _ _ hm
 obtain⟨t,htl,hts,ht8⟩:∃t:List Int,t.length=KE∧ah W W.heap.size intCells 1 a0 t∧t.length*8≤140737488351232:=by
  obtain⟨fuel,hf⟩:=h0
  rcases open_ints Tryz.underlying22 Tryz.underlying3 gh hf with ⟨hcs,_⟩|⟨x,l,c,zs,hcs,_,hl,hm,hz,hx,hcell,hwz⟩
  ·simp[Value.cells]at hcs
   obtain⟨rfl,rfl,rfl⟩:=hcs
   exact⟨[],rfl,ah.nil,by simp⟩
  ·simp[Value.cells]at hcs
   obtain⟨rfl,rfl,rfl⟩:=hcs
   simp only[Prod.mk.injEq]at hx
   obtain⟨rfl,_⟩:=hx
   have hs:=sized_slice hsz (j:= 0) (t:= 22) (e:= 3) rfl rfl Tryz.underlying22
   rw[bytesInt]at hs
   simp only[lits,List.length_map,List.length_take,List.length_drop,reachBytes]at hs
   have hzl:zs.length=cap0:=by simpa using hz
   refine⟨zs.take KE,by simp;omega,fun h =>?_,by simp;omega⟩
   have h1:0<zs.length:=by simp at h;omega
   obtain⟨xb,xo,xs⟩:=x
   have hc0:=hcell 0 h1
   have hsp:xs=none:=by
    cases xs with
    | none=>rfl
    | some y =>
      simp only[Addr.add,World.cell?,Option.isSome_some,if_true]at hc0
      split at hc0<;>simp at hc0
   subst hsp
   have hlt:xb<W.heap.size:=by
    rcases Nat.lt_or_ge xb W.heap.size with h|h
    ·exact h
    ·simp[Addr.add,World.cell?,Array.getElem?_eq_none h]at hc0
   refine⟨xb,xo,rfl,hlt,fun i hi j u hu =>?_⟩
   have hj:j=0:=by have:=(List.getElem?_eq_some_iff.1 hu).1;simp[intCells]at this;omega
   subst hj
   have hil:i<zs.length:=by simp at hi;omega
   have:=hcell i hil
   simp only[intCells,List.getElem?_cons_zero,Option.some.injEq]at hu
   subst hu
   rw[List.getElem_take]
   rw[List.getD_eq_getElem?_getD,List.getElem?_eq_getElem hil]at this
   unfold Addr.add at this
   split at this
   ·rename_i h0;subst h0;simpa using this
   ·simpa using this
 clear hA0 hval0
 subst htl
 refine(Eg a0 cap0 t W hts ht8).mono fun e W' ⟨he,bel⟩ =>?_
 subst he
 exact⟨_,rfl,_,_,_,[],_,[],hW',trodAll_mk1 (shut_bool Tryz.underlying4 _),(trodAll_cons_mk (Below.trod laidOut gh (of_decide_eq_true gh) k0 bel lt0) trodAll_mk0),rfl,bel.frame _,fun h=>by cases h⟩
theorem facts:joinedFacts Tryz.pinned.checked.prog 7 Tryz.f7 Rows.tableHistorySpec Rows.tableHistoryRow=true:=by
 unfold joinedFacts
 repeat' (with_reducible refine(Bool.and_eq_true _ _).mpr ⟨?_,?_⟩)
 all_goals(as_aux_lemma=>kernel_rfl)
theorem over:Rows.tableHistoryRow.holds Tryz.pinned (OpenSpec.ofChange Rows.tableHistorySpec):=
 OpenClaim.holds_of_wide 7 Tryz.f7 rfl rfl rfl rfl rfl rfl rfl ⟨rfl,rfl,rfl,rfl,rfl⟩ rfl rfl rfl rfl rfl gh Tryz.func7 facts
  (of_decide_eq_true gh) (by unfold Func.isWrapper;first|(rw[if_pos (by decide +kernel)];kernel_rfl)|(rw[if_neg (by decide +kernel)];exact⟨rfl,rfl⟩))
  (fun os started H enc _=>lifted os started H enc)
theorem proved:Rows.TableHistorySaid:=over
#print axioms proved
end Go.Proofs.YtebippoohpnjkaaGreat.tableHistory
