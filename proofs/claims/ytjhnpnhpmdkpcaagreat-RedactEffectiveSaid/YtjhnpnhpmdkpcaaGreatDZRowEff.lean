/-
  For every list of numbers the law RedactEffective returns true: the effective changes lead to the same tables, and redacting with nothing gives them. No condition.
-/
import Derived.Test.YtjhnpnhpmdkpcaaGreatD70
import Derived.Test.YtjhnpnhpmdkpcaaGreatD71
import Derived.Test.YtjhnpnhpmdkpcaaGreatD67
import Derived.Test.YtjhnpnhpmdkpcaaGreatD16
import Derived.Test.YtjhnpnhpmdkpcaaGreatD74
import Derived.Test.YtjhnpnhpmdkpcaaGreatRows
import Derived.ProofKit
import Derived.OpenShut
import Derived.ShutString
set_option linter.unusedVariables false
set_option linter.unusedSimpArgs false
set_option maxRecDepth 100000
set_option maxHeartbeats 16000000
namespace Go.Proofs.YtjhnpnhpmdkpcaaGreat
open Go.RowKit Go
theorem gh{P:Prop}(h:P:=by kernel_rfl):P:=h
structure EfI (w:World) (q0:Nat) (CA:Option Addr) (cc:Nat) (ts:List Tab) (LA:Option Addr) (l:List Chg) (EA:Option Addr) (el:List Chg):Prop where
 cat:Blk w q0 34 #[.slice CA ts.length cc,.slice none 0 0,.slice none 0 0,.slice none 0 0,.slice none 0 0,.slice none 0 0,.slice none 0 0,.slice none 0 0]
 tabs:aI w w.heap.size CA ts
 fl:dx w w.heap.size LA l
 fe:dx w w.heap.size EA el
theorem EfI.next{w w':World}{q0:Nat}{CA:Option Addr}{cc:Nat}{ts:List Tab}{LA:Option Addr}{l:List Chg}{EA:Option Addr}{el:List Chg}(h:EfI w q0 CA cc ts LA l EA el)(hb:Below w.heap.size w w'):EfI w' q0 CA cc ts LA l EA el:=
 ⟨h.cat.below hb h.cat.lt,h.tabs.next hb,h.fl.next hb,h.fe.next hb⟩
theorem NH(A:Option Addr)(c:Nat)(t:List Int)(w:World)(hl:ag w w.heap.size intCells 1 A t)(hn:t.length*8≤140737488351232):
 Calls Tryz.prog 5 #[.slice A t.length c] w fun e w'=>e=.returned (.bool true)∧Below w.heap.size w w':=by
 go_enter Tryz.func5,Tryz.ntmps5
 have HL0:=qh hl
 clear hl
 go_wp2_with fail
 refine(C8 A c t _ HL0.out hn).mono ?_
 rintro e w1 ⟨⟨g,b,rfl,hg1,hb1,hk1⟩,hx1⟩
 have HK1:=qh hk1
 have Co:=hk1.ltg
 clear hk1 HL0
 go_wp2_with fail
 refine(vP g b 3 _ HK1.out (by omega) (by omega)).mono ?_
 rintro e w2 ⟨CA,cc,ts,rfl,ht2,hu2,R4,hs2,hok2,h02,WG,hk2,hg2⟩
 have HK2:=qh hk2
 have HT2:=qh ht2
 have HU:=qh hu2
 have HS:=qh hs2
 have HOK:=qh hok2
 have hx2:Below w.heap.size w w2:=Below.grown hx1 hg2 hx1.size inB
 have hz2:=hg2.size
 clear hk2 ht2 hu2 R4 hs2 hok2 hg2 HK1
 go_upto_region 3 with (fail)
 refine ah (P:=fun u=>Code.wp _ _ _ _ u) (R:=fun u=>Blk u w2.heap.size 34 #[.slice CA ts.length cc,.slice none 0 0,.slice none 0 0,.slice none 0 0,.slice none 0 0,.slice none 0 0,.slice none 0 0,.slice none 0 0]∧Below w2.heap.size w2 u) ⟨?_,?_⟩ ?_
 ·exact Blk.new' rfl
 ·exact ai
 rintro W ⟨hC,hbW⟩
 have HC:=qh hC
 have hzC:=hC.lt
 have HKW:=qh (HK2.out.below hbW)
 have hxW:Below w.heap.size w W:=aa hx2 hbW hx2.size
 have HTW:=qh (HT2.out.next hbW)
 have hgW:g<W.heap.size:=HKW.out.ltg
 obtain⟨p0,p1,p2,p3,p4,p5,p6,p7⟩:=Cat.blk hC
 clear hC HK2 HT2
 go_upto_region 4 with (go_at_call 19;go_must ((refine(xh g b w1.heap.size 10 CA cc ts.length ts _ HKW.out Co HTW.out HU.out rfl HS.out HOK.out h02 (by omega)).mono ?_);rintro e u1 ⟨LA,lc,l,rfl,hll,hoc,hk3,hg3,hwi⟩;have V7:=hg3.size;have HC1:=qh (HC.out.grown hg3 inA);have HT1:=qh (HTW.out.grown HU.out Co hg3);have hx4:Below w.heap.size w u1:=Below.grown hxW hg3 hxW.size inB;have Ol:=qh hoc;have vL:=qh (hwi.Qq HOK.out (by omega));have HL8:Hid (∀x∈l,x.row.length≤1000000):=qh (fun x hx=>Nat.le_trans (hoc.len x hx) (by omega));clear hk3 hg3 hoc hwi p0 p1 p2 p3 p4 p5 p6 p7;obtain⟨p0,p1,p2,p3,p4,p5,p6,p7⟩:=Cat.blk HC1.out))
 have HLR:Hid (dx u1 u1.heap.size LA l):=qh Ol.out.read
 go_upto_region 5 with (go_at_call 20;go_must ((with_reducible refine(mH CA cc ts.length ts LA lc l.length l _ HT1.out rfl HS.out HLR.out rfl vL.out).mono ?_);rintro e u2 ⟨⟨EA,ec,el,rfl,hoe,hem,hel⟩,hb2⟩))
 have HEM:=qh hem
 have HOE:=qh hoe
 have HEL:Hid (dx u2 u2.heap.size EA el):=qh hoe.read
 have HEF:Hid (EfI u2 w2.heap.size CA cc ts LA l EA el):=qh ⟨HC1.out.below hb2 HC1.out.lt,HT1.out.next hb2,HLR.out.next hb2,HEL.out⟩
 have hxe:Below w.heap.size w u2:=aa hx4 hb2 hx4.size
 have HE8:Hid (∀x∈el,x.row.length≤1000000):=qh (fun x hx=>Nat.le_trans (hoe.len x hx) (by omega))
 have HEO:=qh (P5 vL.out hem)
 have hle:decide (el.length≤l.length)=true:=by simpa using hel
 have Yx:decide ((el.length:Int)≤(l.length:Int))=true:=by simp;omega
 clear hem hoe hb2 p0 p1 p2 p3 p4 p5 p6 p7 HC HC1 HT1 HTW HKW Ol HLR HOE HEL
 refine wp_region_held_drew (S:=fun u=>u.cell? ⟨w2.heap.size,0,none⟩=some (.slice CA ts.length cc)∧u.cell? ⟨w2.heap.size,1,none⟩=some (.slice none 0 0)∧u.cell? ⟨w2.heap.size,2,none⟩=some (.slice none 0 0)∧u.cell? ⟨w2.heap.size,3,none⟩=some (.slice none 0 0)∧u.cell? ⟨w2.heap.size,4,none⟩=some (.slice none 0 0)∧u.cell? ⟨w2.heap.size,5,none⟩=some (.slice none 0 0)∧u.cell? ⟨w2.heap.size,6,none⟩=some (.slice none 0 0)∧u.cell? ⟨w2.heap.size,7,none⟩=some (.slice none 0 0)) gh (Cat.blk HEF.out.cat) (fun hHeld =>?_)
 have hdr:=(Below.refl u2.heap.size u2).drew
 (replace HEF:=qh (HEF.out.next hdr))
 (replace hxe:=hxe.drew)
 clear hdr
 refine tkH 0 hHeld ?_
 refine tkH 1 hHeld ?_
 refine tkH 3 hHeld ?_
 refine tkH 4 hHeld ?_
 refine wpAnyH_ready (rs:= [2]) gh (by simp) ?_
 refine AllReadyH.cons rfl (fun K hK =>?_) AllReadyH.nil
 go_simp
 (go_at_call 21;go_must ((with_reducible refine(lX CA cc ts.length ts EA ec el.length el _ HEF.out.tabs rfl HS.out HOK.out HEF.out.fe rfl (by omega) HE8.out).mono ?_)))
 rintro e z1 ⟨⟨qa,ra,rfl,hla,hra,_,hpa⟩,hb⟩
 (replace HEF:=qh (HEF.out.next hb))
 (replace hxe:=aa hxe hb hxe.size)
 have HA:=qh hra
 have HLA:=qh hla
 have HSA:=qh (vS HOK.out hpa)
 have HPA:Hid (ra.map aB=bg ts l):=qh (hpa.trans (Gv vL.out HEM.out))
 clear hra hla hpa hb
 go_wp2_with fail
 refine hK.out _ _ (Cat.blk HEF.out.cat) (fun hHeld =>?_)
 clear hK K
 (try simp only[Act.put,gP6])
 refine wpAnyH_ready (rs:= [5]) gh (by simp) ?_
 refine AllReadyH.cons rfl (fun K hK =>?_) AllReadyH.nil
 go_simp
 (go_at_call 21;go_must ((with_reducible refine(lX CA cc ts.length ts LA lc l.length l _ HEF.out.tabs rfl HS.out HOK.out HEF.out.fl rfl (by omega) HL8.out).mono ?_)))
 rintro e z1 ⟨⟨qb,rb,rfl,hlb,hrb,_,hpb⟩,hb⟩
 (replace HA:=qh (HA.out.next hb))
 (replace HEF:=qh (HEF.out.next hb))
 (replace hxe:=aa hxe hb hxe.size)
 have HB:=qh hrb
 have HLB:=qh hlb
 have HPB:Hid (ra.map aB=rb.map aB):=qh (HPA.out.trans hpb.symm)
 clear hrb hlb hpb hb
 go_wp2_with fail
 refine hK.out _ _ (Cat.blk HEF.out.cat) (fun hHeld =>?_)
 clear hK K
 (try simp only[Act.put,gP6])
 refine wpAnyH_ready (rs:= [6]) gh (by simp) ?_
 refine AllReadyH.cons rfl (fun K hK =>?_) AllReadyH.nil
 go_simp
 (go_at_call 17;go_must ((with_reducible refine(xH (some ⟨qa,0,none⟩) (some ⟨qb,0,none⟩) ts.length ts.length ts.length ts.length ra rb _ HA.out HB.out HLA.out HLB.out HSA.out HPB.out).mono ?_)))
 rintro e z1 ⟨rfl,hb⟩
 (replace HEF:=qh (HEF.out.next hb))
 (replace hxe:=aa hxe hb hxe.size)
 clear hb HA HB HLA HLB HSA HPA HPB
 go_wp2_with fail
 refine hK.out _ _ (Cat.blk HEF.out.cat) (fun hHeld =>?_)
 clear hK K
 (try simp only[Act.put,gP6])
 refine tkH 7 hHeld ?_
 refine tkH 8 hHeld ?_
 refine tkH 9 hHeld ?_
 refine tkH 11 hHeld ?_
 refine wpAnyH_ready (rs:= [10]) gh (by simp) ?_
 refine AllReadyH.cons rfl (fun K hK =>?_) AllReadyH.nil
 go_simp
 (go_at_call 23;go_must ((with_reducible refine(l8 CA cc ts.length ts LA lc l.length l none 0 0 [] none 0 0 [] _ HEF.out.tabs rfl HS.out HEF.out.fl rfl vL.out ag.nil rfl (by decide) H8 ag.nil rfl (by decide) De).mono ?_)))
 rintro e z1 ⟨⟨KA,kc,kl,rfl,hok,hkm,hkl⟩,hb⟩
 (replace HEF:=qh (HEF.out.next hb))
 (replace hxe:=aa hxe hb hxe.size)
 have HK:=qh hok.read
 have HK8:Hid (∀x∈kl,x.row.length≤1000000):=qh (fun x hx=>Nat.le_trans (hok.len x hx) (by omega))
 have HKM:Hid (kl.map unC=el.map unC):=qh (by rw[hkm,yI];exact HEM.out.symm)
 clear hok hkm hb
 go_wp2_with fail
 refine hK.out _ _ (Cat.blk HEF.out.cat) (fun hHeld =>?_)
 clear hK K
 (try simp only[Act.put,gP6])
 refine wpAnyH_ready (rs:= [12]) gh (by simp) ?_
 refine AllReadyH.cons rfl (fun K hK =>?_) AllReadyH.nil
 go_simp
 (go_at_call 22;go_must ((with_reducible refine(oZ KA EA kc ec kl.length el.length kl el _ HK.out HEF.out.fe rfl rfl (by omega) HKM.out HK8.out).mono ?_)))
 rintro e z1 ⟨rfl,hb⟩
 (replace HEF:=qh (HEF.out.next hb))
 (replace hxe:=aa hxe hb hxe.size)
 clear hb HK HK8 HKM hkl
 go_wp2_with fail
 refine hK.out _ _ (Cat.blk HEF.out.cat) (fun hHeld =>?_)
 clear hK K
 (try simp only[Act.put,gP6])
 refine tkH 13 hHeld ?_
 refine tkH 14 hHeld ?_
 refine tkH 15 hHeld ?_
 refine tkH 16 hHeld ?_
 refine tkH 18 hHeld ?_
 refine wpAnyH_ready (rs:= [17]) gh (by simp) ?_
 refine AllReadyH.cons rfl (fun K hK =>?_) AllReadyH.nil
 go_simp
 (go_at_call 20;go_must ((with_reducible refine(mH CA cc ts.length ts EA ec el.length el _ HEF.out.tabs rfl HS.out HEF.out.fe rfl HEO.out).mono ?_)))
 rintro e z1 ⟨⟨KA2,kc2,kl2,rfl,hok,hkm,hkl⟩,hb⟩
 (replace HEF:=qh (HEF.out.next hb))
 (replace hxe:=aa hxe hb hxe.size)
 have HK:=qh hok.read
 have HK8:Hid (∀x∈kl2,x.row.length≤1000000):=qh (fun x hx=>Nat.le_trans (hok.len x hx) (by omega))
 have HKM:Hid (kl2.map unC=el.map unC):=qh (JL HEM.out hkm)
 clear hok hkm hb
 go_wp2_with fail
 refine hK.out _ _ (Cat.blk HEF.out.cat) (fun hHeld =>?_)
 clear hK K
 (try simp only[Act.put,gP6])
 refine wpAnyH_ready (rs:= [19]) gh (by simp) ?_
 refine AllReadyH.cons rfl (fun K hK =>?_) AllReadyH.nil
 go_simp
 (go_at_call 22;go_must ((with_reducible refine(oZ KA2 EA kc2 ec kl2.length el.length kl2 el _ HK.out HEF.out.fe rfl rfl (by omega) HKM.out HK8.out).mono ?_)))
 rintro e z1 ⟨rfl,hb⟩
 (replace HEF:=qh (HEF.out.next hb))
 (replace hxe:=aa hxe hb hxe.size)
 clear hb HK HK8 HKM hkl
 go_wp2_with fail
 refine hK.out _ _ (Cat.blk HEF.out.cat) (fun hHeld =>?_)
 clear hK K
 (try simp only[Act.put,gP6])
 refine tkH 20 hHeld ?_
 refine tkH 21 hHeld ?_
 refine tkH 22 hHeld ?_
 refine tkH 23 hHeld ?_
 refine tkH 24 hHeld ?_
 refine tkH 25 hHeld ?_
 refine tkH 26 hHeld ?_
 refine tkH 27 hHeld ?_
 refine tkH 28 hHeld ?_
 refine wpAnyH_ready (rs:= [29]) gh (by simp) ?_
 refine AllReadyH.cons rfl (fun K hK =>?_) AllReadyH.nil
 go_simp
 (go_at_call 16;(with_reducible refine(wz _).mono ?_))
 rintro e z1 ⟨rfl,hb⟩
 (replace HEF:=qh (HEF.out.next hb))
 (replace hxe:=aa hxe hb hxe.size)
 clear hb
 go_wp2_with fail
 refine hK.out _ _ (Cat.blk HEF.out.cat) (fun hHeld =>?_)
 clear hK K
 (try simp only[Act.put,gP6])
 refine tkH 30 hHeld ?_
 refine tkH 31 hHeld ?_
 refine wpAnyH_done gh ?_ _
 clear hHeld
 go_wp2_with fail
 go_ret
 exact⟨rfl,hxe⟩
end Go.Proofs.YtjhnpnhpmdkpcaaGreat
namespace Go.Proofs.YtjhnpnhpmdkpcaaGreat.redactEffective
open Go.ChangeShapes Go.WideShapes Go.ChangeAt Go.RowKit
theorem own:ownKnob Tryz.prog.godebug=none:=by kernel_rfl
theorem laidOut:laidOutB Tryz.prog=true:=by kernel_rfl
theorem bytesInt:Tryz.prog.bytesOf 3=8:=by kernel_rfl
theorem lifted(os:Os)(started:os.Started)(H:Type)(enc:TypeId × Value→H):
 ReturnsInHanded {} Tryz.checked os 5 .any (Rows.redactEffectiveSpec.pre6 enc Tryz.prog Tryz.f5 Rows.redactEffectiveRow.domain false) (Rows.redactEffectiveSpec.post enc Tryz.prog Tryz.f5 false true false false):=by
 refine returnsInHanded_of_change_sized (C:=Tryz.checked) own started gh Tryz.func5
  (ChangeSpec.witness6 (enc:=enc) (C:=Tryz.checked) false ⟨#[],#[.slice none 0 0],[]⟩ 8 gh gh gh gh) ?_
 intro W base args ds gs before hval0 hW hcnd hsz0 _
 have hval:∀(j:Nat) t v,Tryz.f5.params[j]?=some t→args[j]?=some v→Value.okWide Tryz.prog W .any base t v:=hval0
 have hsz:(DataW.weightsEach Tryz.prog (Tryz.f5.params.toList++Rows.redactEffectiveSpec.plain.varTypes Tryz.prog) (ds++gs)).all (· ≤ reachBytes)=true:=hsz0
 have hW':=hW
 obtain⟨p,q,hA0,hV,rfl,hfz,hnd⟩:=hW
 have hA:DataW.TrodAll enc Tryz.prog W 0 (fun _=>true) true Tryz.f5.params.toList args.toList ds p:=hA0
 rw[Tryz.params5]at hA hval hsz
 obtain⟨v0,vs0,d0,ds0,p0,q0,hargs,rfl,rfl,h0,r0⟩:=trodAll_cons hA
 obtain⟨rfl,rfl,rfl⟩:=trodAll_nil r0
 obtain rfl:args=#[v0]:=by cases args;simp_all
 obtain⟨rfl,rfl⟩:=trodVars_none hV
 obtain⟨a0,Mk,cap0,rfl⟩:=okWide_slice Tryz.underlying22 (hval 0 22 v0 rfl rfl)
 have k0:=h0
 have lt0:∀x∈p0,x.block<W.heap.size:=by obtain⟨m,hm⟩:=k0;exact DataW.trod_lt m _ _ _ hm
 obtain⟨t,htl,hts,ht8⟩:∃t:List Int,t.length=Mk∧ag W W.heap.size intCells 1 a0 t∧t.length*8≤140737488351232:=by
  obtain⟨fuel,hf⟩:=h0
  rcases open_ints Tryz.underlying22 Tryz.underlying3 gh hf with ⟨hcs,_⟩|⟨x,l,c,zs,hcs,_,hl,hm,hz,hx,hcell,hwz⟩
  ·simp[Value.cells]at hcs
   obtain⟨rfl,rfl,rfl⟩:=hcs
   exact⟨[],rfl,ag.nil,by simp⟩
  ·simp[Value.cells]at hcs
   obtain⟨rfl,rfl,rfl⟩:=hcs
   simp only[Prod.mk.injEq]at hx
   obtain⟨rfl,_⟩:=hx
   have hs:=sized_slice hsz (j:= 0) (t:= 22) (e:= 3) rfl rfl Tryz.underlying22
   rw[bytesInt]at hs
   simp only[lits,List.length_map,List.length_take,List.length_drop,reachBytes]at hs
   have hzl:zs.length=cap0:=by simpa using hz
   refine⟨zs.take Mk,by simp;omega,fun h =>?_,by simp;omega⟩
   have h1:0<zs.length:=by simp at h;omega
   obtain⟨xb,xo,xs⟩:=x
   have hc0:=hcell 0 h1
   have hsp:xs=none:=by
    cases xs with
    | none=>rfl
    | some y =>
      simp only[Addr.add,World.cell?,Option.isSome_some,if_true]at hc0
      split at hc0<;>simp at hc0
   subst hsp
   have hlt:xb<W.heap.size:=by
    rcases Nat.lt_or_ge xb W.heap.size with h|h
    ·exact h
    ·simp[Addr.add,World.cell?,Array.getElem?_eq_none h]at hc0
   refine⟨xb,xo,rfl,hlt,fun i hi j u hu =>?_⟩
   have hj:j=0:=by have:=(List.getElem?_eq_some_iff.1 hu).1;simp[intCells]at this;omega
   subst hj
   have hil:i<zs.length:=by simp at hi;omega
   have:=hcell i hil
   simp only[intCells,List.getElem?_cons_zero,Option.some.injEq]at hu
   subst hu
   rw[List.getElem_take]
   rw[List.getD_eq_getElem?_getD,List.getElem?_eq_getElem hil]at this
   unfold Addr.add at this
   split at this
   ·rename_i h0;subst h0;simpa using this
   ·simpa using this
 clear hA0 hval0
 subst htl
 refine(NH a0 cap0 t W hts ht8).mono fun e W' ⟨he,bel⟩ =>?_
 subst he
 exact⟨_,rfl,_,_,_,[],_,[],hW',trodAll_mk1 (shut_bool Tryz.underlying4 _),(trodAll_cons_mk (Below.trod laidOut gh (of_decide_eq_true gh) k0 bel lt0) trodAll_mk0),rfl,bel.frame _,fun h=>by cases h⟩
theorem facts:joinedFacts Tryz.pinned.checked.prog 5 Tryz.f5 Rows.redactEffectiveSpec Rows.redactEffectiveRow=true:=by
 unfold joinedFacts
 repeat' (with_reducible refine(Bool.and_eq_true _ _).mpr ⟨?_,?_⟩)
 all_goals(as_aux_lemma=>kernel_rfl)
theorem over:Rows.redactEffectiveRow.holds Tryz.pinned (OpenSpec.ofChange Rows.redactEffectiveSpec):=
 OpenClaim.holds_of_wide 5 Tryz.f5 rfl rfl rfl rfl rfl rfl rfl ⟨rfl,rfl,rfl,rfl,rfl⟩ rfl rfl rfl rfl rfl gh Tryz.func5 facts
  (of_decide_eq_true gh) (by unfold Func.isWrapper;first|(rw[if_pos (by decide +kernel)];kernel_rfl)|(rw[if_neg (by decide +kernel)];exact⟨rfl,rfl⟩))
  (fun os started H enc _=>lifted os started H enc)
theorem proved:Rows.RedactEffectiveSaid:=over
#print axioms proved
end Go.Proofs.YtjhnpnhpmdkpcaaGreat.redactEffective
