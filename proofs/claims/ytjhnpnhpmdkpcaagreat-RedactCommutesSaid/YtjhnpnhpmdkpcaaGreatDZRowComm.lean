/-
  For every list of numbers the law RedactCommutes returns true: replaying the redacted history gives the redacted tables, for every ordered list and any versions and records. No condition.
-/
import Derived.Test.YtjhnpnhpmdkpcaaGreatD70
import Derived.Test.YtjhnpnhpmdkpcaaGreatD71
import Derived.Test.YtjhnpnhpmdkpcaaGreatD67
import Derived.Test.YtjhnpnhpmdkpcaaGreatD16
import Derived.Test.YtjhnpnhpmdkpcaaGreatD74
import Derived.Test.YtjhnpnhpmdkpcaaGreatD73
import Derived.Test.YtjhnpnhpmdkpcaaGreatRows
import Derived.ProofKit
import Derived.OpenShut
import Derived.ShutString
set_option linter.unusedVariables false
set_option linter.unusedSimpArgs false
set_option maxRecDepth 100000
set_option maxHeartbeats 16000000
namespace Go.Proofs.YtjhnpnhpmdkpcaaGreat
open Go.RowKit Go
theorem gg{P:Prop}(h:P:=by kernel_rfl):P:=h
structure CoI (w:World) (q0:Nat) (CA:Option Addr) (cc:Nat) (ts:List Tab) (LA:Option Addr) (l:List Chg) (RA:Option Addr) (rt:List RTab) (VA:Option Addr) (v:List Vn) (GA:Option Addr) (s:List Src):Prop where
 cat:Blk w q0 34 #[.slice CA ts.length cc,.slice none 0 0,.slice none 0 0,.slice none 0 0,.slice none 0 0,.slice none 0 0,.slice none 0 0,.slice none 0 0]
 tabs:aI w w.heap.size CA ts
 fl:dx w w.heap.size LA l
 x:aR w w.heap.size RA rt
 fv:ag w w.heap.size Vn.cells 3 VA v
 fs:ag w w.heap.size Src.cells 2 GA s
theorem CoI.next{w w':World}{q0:Nat}{CA:Option Addr}{cc:Nat}{ts:List Tab}{LA:Option Addr}{l:List Chg}{RA:Option Addr}{rt:List RTab}{VA:Option Addr}{v:List Vn}{GA:Option Addr}{s:List Src}(h:CoI w q0 CA cc ts LA l RA rt VA v GA s)(hb:Below w.heap.size w w'):CoI w' q0 CA cc ts LA l RA rt VA v GA s:=
 ⟨h.cat.below hb h.cat.lt,h.tabs.next hb,h.fl.next hb,h.x.next hb,h.fv.next hb,h.fs.next hb⟩
theorem JQ(A:Option Addr)(c:Nat)(t:List Int)(w:World)(hl:ag w w.heap.size intCells 1 A t)(hn:t.length*8≤140737488351232):
 Calls Tryz.prog 6 #[.slice A t.length c] w fun e w'=>e=.returned (.bool true)∧Below w.heap.size w w':=by
 go_enter Tryz.func6,Tryz.ntmps6
 have HL0:=qh hl
 clear hl
 go_wp2_with fail
 refine(C8 A c t _ HL0.out hn).mono ?_
 rintro e w1 ⟨⟨g,b,rfl,hg1,hb1,hk1⟩,hx1⟩
 have HK1:=qh hk1
 have Co:=hk1.ltg
 clear hk1 HL0
 go_wp2_with fail
 refine(vP g b 3 _ HK1.out (by omega) (by omega)).mono ?_
 rintro e w2 ⟨CA,cc,ts,rfl,ht2,hu2,R4,hs2,hok2,h02,WG,hk2,hg2⟩
 have HK2:=qh hk2
 have HT2:=qh ht2
 have HU:=qh hu2
 have HS:=qh hs2
 have HOK:=qh hok2
 have hx2:Below w.heap.size w w2:=Below.grown hx1 hg2 hx1.size inB
 have hz2:=hg2.size
 clear hk2 ht2 hu2 R4 hs2 hok2 hg2 HK1
 go_upto_region 3 with (fail)
 refine ah (P:=fun u=>Code.wp _ _ _ _ u) (R:=fun u=>Blk u w2.heap.size 34 #[.slice CA ts.length cc,.slice none 0 0,.slice none 0 0,.slice none 0 0,.slice none 0 0,.slice none 0 0,.slice none 0 0,.slice none 0 0]∧Below w2.heap.size w2 u) ⟨?_,?_⟩ ?_
 ·exact Blk.new' rfl
 ·exact ai
 rintro W ⟨hC,hbW⟩
 have HC:=qh hC
 have hzC:=hC.lt
 have HKW:=qh (HK2.out.below hbW)
 have hxW:Below w.heap.size w W:=aa hx2 hbW hx2.size
 have HTW:=qh (HT2.out.next hbW)
 have hgW:g<W.heap.size:=HKW.out.ltg
 obtain⟨p0,p1,p2,p3,p4,p5,p6,p7⟩:=Cat.blk hC
 clear hC HK2 HT2
 go_upto_region 4 with (go_at_call 19;go_must ((refine(xh g b w1.heap.size 10 CA cc ts.length ts _ HKW.out Co HTW.out HU.out rfl HS.out HOK.out h02 (by omega)).mono ?_);rintro e u1 ⟨LA,lc,l,rfl,hll,hoc,hk3,hg3,hwi⟩;have V7:=hg3.size;have HK3:=qh hk3;have HG3:=qh hg3;have Ol:=qh hoc;have vL:=qh (hwi.Qq HOK.out (by omega));clear hk3 hg3 hoc hwi p0 p1 p2 p3 p4 p5 p6 p7))
 go_upto_if 18 with (go_at_call 24;go_must ((refine(aJ g b 2 _ HK3.out (by omega) (by omega)).mono ?_);rintro e u2 ⟨r2,rfl,hr2,hk4,hg4⟩;have HG4:Hid (W.grownBy u2 (some g)):=qh (ay HG3.out hg4);have HK4:=qh hk4;have Oj:=qh (Ol.out.kept hg4 hgW);clear hk4 hg4 Ol))
 go_cut [5] (fun v5 wc =>∃(LA:Option Addr) (lc:Nat) (l:List Chg),v5=.slice LA l.length lc∧l.length≤10∧lV wc W.heap.size LA lc l∧gu ts l∧aM wc g b∧W.grownBy wc (some g))
 case first =>
  by_cases hr0:r2=0
  ·subst hr0
   have HC2:=qh (HC.out.grown HG4.out inA)
   have HT2:=qh (HTW.out.grown HU.out Co HG4.out)
   obtain⟨p0,p1,p2,p3,p4,p5,p6,p7⟩:=Cat.blk HC2.out
   have hz4:=HG4.out.size
   go_wp2_with (go_at_call 9;go_must ((refine(zG g b w1.heap.size 10 CA cc ts.length ts _ HK4.out Co HT2.out HU.out rfl HS.out HOK.out h02 (by omega)).mono ?_);rintro e u3 ⟨LB,lb,lB,rfl,hlB,hoB,hk5,hg5,QC⟩;have HOB:=qh hoB;have HK5:=qh hk5;have HG5:Hid (W.grownBy u3 (some g)):=qh (ay HG4.out hg5);have XT:=qh (M6 HOK.out QC (by omega));clear hoB hk5 hg5 QC p0 p1 p2 p3 p4 p5 p6 p7))
   go_meet
   exact⟨LB,lb,lB,rfl,hlB,⟨HOB.out.own.mono hz4,fun x hx=>(HOB.out.rows x hx).mono hz4,HOB.out.len⟩,XT.out,HK5.out,HG5.out⟩
  ·have om:((r2:Int) == 0)=false:=by simp;omega
   have Yo:decide ((r2:Int)=0)=false:=by simp;omega
   go_wp2_with fail
   go_meet
   exact⟨LA,lc,l,rfl,hll,Oj.out,vL.out,HK4.out,HG4.out⟩
 case rest =>
  clear HK3 HG3 HG4 HK4 Oj vL hll
  obtain⟨LA,lc,l,rfl,hll,hoc,Ud,hk4,hg4⟩:=hcut
  have hz4:=hg4.size
  have vL:=qh Ud
  have HK4:=qh hk4
  have Oj:=qh hoc
  have HC2:=qh (HC.out.grown hg4 inA)
  have HT2:=qh (HTW.out.grown HU.out Co hg4)
  have hx4:Below w.heap.size w wc:=Below.grown hxW hg4 hxW.size inB
  have HL8:Hid (∀x∈l,x.row.length≤1000000):=qh (fun x hx=>Nat.le_trans (hoc.len x hx) (by omega))
  have HLU:Hid (∀a,LA=some a→W.heap.size≤a.block):=qh (xW hoc.own)
  have HLR:Hid (dx wc wc.heap.size LA l):=qh hoc.read
  obtain⟨p0,p1,p2,p3,p4,p5,p6,p7⟩:=Cat.blk HC2.out
  clear Ud hk4 hoc hg4 HC HTW HKW
  go_upto_region 7 with (go_at_call 21;go_must ((with_reducible refine(lX CA cc ts.length ts LA lc l.length l _ HT2.out rfl HS.out HOK.out HLR.out rfl (by omega) HL8.out).mono ?_);rintro e u2 ⟨⟨q,rt,rfl,hrl,hrt,hru,hpu⟩,hb2⟩))
  have hz5:=hb2.size
  have HC3:=qh (HC2.out.below hb2 HC2.out.lt)
  have HT3:=qh (HT2.out.next hb2)
  have HK5:=qh (HK4.out.below hb2)
  have SH:=qh (Oj.out.below hb2)
  have HRT:=qh hrt
  have HRU:Hid (RUp W.heap.size (some ⟨q,0,none⟩) rt):=qh (hru.mono hz4)
  have HRL:=qh hrl
  have HPU:=qh hpu
  have Hg:Hid (bS ts rt):=qh (POk.back HOK.out (by rw[hpu];exact OU vL.out))
  have HSM:=qh (IY Hg.out)
  have HCH:Hid (ag u2 u2.heap.size Chg.cells 12 LA l):=qh SH.out.read.1
  have hx5:Below w.heap.size w u2:=aa hx4 hb2 hx4.size
  clear hrt hru hrl hpu hb2 HC2 HT2 HK4 Oj HLR p0 p1 p2 p3 p4 p5 p6 p7
  go_upto_region 8 with (first
   | (go_at_call 11;go_must ((with_reducible refine(Fs g b W.heap.size (some ⟨q,0,none⟩) ts.length ts.length rt LA lc l.length l _ HK5.out hgW HRT.out HRU.out HRL.out HSM.out.1 HSM.out.2.1 HSM.out.2.2.1 HSM.out.2.2.2 HCH.out HLU.out rfl (by omega) (AA vL.out)).mono ?_);rintro e u3 ⟨vv,v,rfl,hvo,hvi,hvl,hk5,hg5⟩;obtain⟨VA,vc,rfl,_,_,_⟩:=hvo.slice Bo;have hz6:=hg5.size;have HK6:=qh hk5;have HC4:=qh (HC3.out.grown hg5 inA);have HT4:=qh (HT3.out.grown HU.out Co hg5);have Oa:=qh (HRT.out.grown HRU.out hgW hg5);have hx6:Below w.heap.size w u3:=Below.grown hx5 hg5 hx5.size inB;have E8:=qh (SH.out.kept hg5 hgW);have VQ:Hid (ag u3 u3.heap.size Chg.cells 12 LA l):=qh (lV.cells E8.out);have HVO:=qh hvo;have KV:=qh hvi.VX;clear hk5 hvi hvo hg5))
   | (go_at_call 25;go_must ((with_reducible refine(Bt g b W.heap.size LA lc l.length l _ HK6.out hgW VQ.out HLU.out rfl (by omega) (AA vL.out)).mono ?_);rintro e u4 ⟨sv,s,rfl,hso,hsi,hsl,hk6,hg6⟩;obtain⟨GA,gc,rfl,_,hss,_⟩:=hso.slice Ig;have HCO:Hid (CoI u4 w2.heap.size CA cc ts LA l (some ⟨q,0,none⟩) rt VA v GA s):=qh ⟨HC4.out.grown hg6 inA,HT4.out.grown HU.out Co hg6,(E8.out.kept hg6 hgW).read,Oa.out.grown HRU.out hgW hg6,lC Bo (HVO.out.kept hg6 (fun q hq e=>by injection e with e;have:=HVO.out.row q hq;omega)),hss⟩;have hxe:Below w.heap.size w u4:=Below.grown hx6 hg6 hx6.size inB;have KS:=qh hsi.VY;clear hk6 hsi hso hss hg6)))
  clear HK5 HK6 HC3 HC4 HT3 HT4 HRT Oa SH E8 HCH VQ HVO hx4 hx5 hx6
  refine wp_region_held_drew (S:=fun u=>u.cell? ⟨w2.heap.size,0,none⟩=some (.slice CA ts.length cc)∧u.cell? ⟨w2.heap.size,1,none⟩=some (.slice none 0 0)∧u.cell? ⟨w2.heap.size,2,none⟩=some (.slice none 0 0)∧u.cell? ⟨w2.heap.size,3,none⟩=some (.slice none 0 0)∧u.cell? ⟨w2.heap.size,4,none⟩=some (.slice none 0 0)∧u.cell? ⟨w2.heap.size,5,none⟩=some (.slice none 0 0)∧u.cell? ⟨w2.heap.size,6,none⟩=some (.slice none 0 0)∧u.cell? ⟨w2.heap.size,7,none⟩=some (.slice none 0 0)) gg (Cat.blk HCO.out.cat) (fun hHeld =>?_)
  have hdr:=(Below.refl u4.heap.size u4).drew
  (replace HCO:=qh (HCO.out.next hdr))
  (replace hxe:=hxe.drew)
  clear hdr
  refine tkH 0 hHeld ?_
  refine tkH 1 hHeld ?_
  refine tkH 2 hHeld ?_
  refine tkH 3 hHeld ?_
  refine tkH 4 hHeld ?_
  refine tkH 7 hHeld ?_
  refine tkH 8 hHeld ?_
  refine tkH 9 hHeld ?_
  refine tkH 10 hHeld ?_
  refine wpAnyH_ready (rs:= [5]) gg (by simp) ?_
  refine AllReadyH.cons rfl (fun K hK =>?_) AllReadyH.nil
  go_simp
  (go_at_call 23;go_must ((with_reducible refine(l8 CA cc ts.length ts LA lc l.length l VA vc v.length v GA gc s.length s _ HCO.out.tabs rfl HS.out HCO.out.fl rfl vL.out HCO.out.fv rfl (by omega) KV.out HCO.out.fs rfl (by omega) KS.out).mono ?_)))
  rintro e z1 ⟨⟨KA,kc,kl,rfl,hok,hkm,hkl⟩,hb⟩
  (replace HCO:=qh (HCO.out.next hb))
  (replace hxe:=aa hxe hb hxe.size)
  have HK:=qh hok.read
  have HK8:Hid (∀x∈kl,x.row.length≤1000000):=qh (fun x hx=>Nat.le_trans (hok.len x hx) (by omega))
  have HKM:=qh hkm
  clear hok hkm hb
  go_wp2_with fail
  refine hK.out _ _ (Cat.blk HCO.out.cat) (fun hHeld =>?_)
  clear hK K
  (try simp only[Act.put,gP6])
  refine wpAnyH_ready (rs:= [6]) gg (by simp) ?_
  refine AllReadyH.cons rfl (fun K hK =>?_) AllReadyH.nil
  go_simp
  (go_at_call 21;go_must ((with_reducible refine(lX CA cc ts.length ts KA kc kl.length kl _ HCO.out.tabs rfl HS.out HOK.out HK.out rfl (by omega) HK8.out).mono ?_)))
  rintro e z1 ⟨⟨qa,ra,rfl,hla,hra,_,hpa⟩,hb⟩
  (replace HCO:=qh (HCO.out.next hb))
  (replace hxe:=aa hxe hb hxe.size)
  have HA:=qh hra
  have HLA:=qh hla
  have HSA:=qh (vS HOK.out hpa)
  have HPA:Hid (ra.map aB=jF v s (rt.map aB)):=qh (by rw[hpa,←xG,HKM.out,wB HOK.out v s l vL.out.form,HPU.out])
  clear hra hla hpa hb HK HK8 HKM hkl
  go_wp2_with fail
  refine hK.out _ _ (Cat.blk HCO.out.cat) (fun hHeld =>?_)
  clear hK K
  (try simp only[Act.put,gP6])
  refine wpAnyH_ready (rs:= [11]) gg (by simp) ?_
  refine AllReadyH.cons rfl (fun K hK =>?_) AllReadyH.nil
  go_simp
  (go_at_call 13;go_must ((with_reducible refine(Dt CA cc ts.length ts (some ⟨q,0,none⟩) ts.length ts.length rt VA vc v.length v GA gc s.length s _ HCO.out.tabs rfl HS.out HCO.out.x HRL.out Hg.out HCO.out.fv rfl (by omega) KV.out HCO.out.fs rfl (by omega) KS.out).mono ?_)))
  rintro e z1 ⟨⟨qb,rb,rfl,_,hlb,hrb,_,hpb⟩,hb⟩
  (replace HA:=qh (HA.out.next hb))
  (replace HCO:=qh (HCO.out.next hb))
  (replace hxe:=aa hxe hb hxe.size)
  have HB:=qh hrb
  have HLB:=qh hlb
  have HPB:Hid (ra.map aB=rb.map aB):=qh (HPA.out.trans hpb.symm)
  clear hrb hlb hpb hb
  go_wp2_with fail
  refine hK.out _ _ (Cat.blk HCO.out.cat) (fun hHeld =>?_)
  clear hK K
  (try simp only[Act.put,gP6])
  refine wpAnyH_ready (rs:= [12]) gg (by simp) ?_
  refine AllReadyH.cons rfl (fun K hK =>?_) AllReadyH.nil
  go_simp
  (go_at_call 17;go_must ((with_reducible refine(xH (some ⟨qa,0,none⟩) (some ⟨qb,0,none⟩) ts.length ts.length ts.length ts.length ra rb _ HA.out HB.out HLA.out HLB.out HSA.out HPB.out).mono ?_)))
  rintro e z1 ⟨rfl,hb⟩
  (replace HCO:=qh (HCO.out.next hb))
  (replace hxe:=aa hxe hb hxe.size)
  clear hb HA HB HLA HLB HSA HPA HPB
  go_wp2_with fail
  refine hK.out _ _ (Cat.blk HCO.out.cat) (fun hHeld =>?_)
  clear hK K
  (try simp only[Act.put,gP6])
  refine tkH 13 hHeld ?_
  refine tkH 14 hHeld ?_
  refine tkH 15 hHeld ?_
  refine tkH 16 hHeld ?_
  refine tkH 17 hHeld ?_
  refine tkH 18 hHeld ?_
  refine tkH 19 hHeld ?_
  refine tkH 20 hHeld ?_
  refine tkH 21 hHeld ?_
  refine wpAnyH_ready (rs:= [22]) gg (by simp) ?_
  refine AllReadyH.cons rfl (fun K hK =>?_) AllReadyH.nil
  go_simp
  (go_at_call 16;(with_reducible refine(wz _).mono ?_))
  rintro e z1 ⟨rfl,hb⟩
  (replace HCO:=qh (HCO.out.next hb))
  (replace hxe:=aa hxe hb hxe.size)
  clear hb
  go_wp2_with fail
  refine hK.out _ _ (Cat.blk HCO.out.cat) (fun hHeld =>?_)
  clear hK K
  (try simp only[Act.put,gP6])
  refine tkH 23 hHeld ?_
  refine tkH 24 hHeld ?_
  refine wpAnyH_done gg ?_ _
  clear hHeld
  go_wp2_with fail
  go_ret
  exact⟨rfl,hxe⟩
end Go.Proofs.YtjhnpnhpmdkpcaaGreat
namespace Go.Proofs.YtjhnpnhpmdkpcaaGreat.redactCommutes
open Go.ChangeShapes Go.WideShapes Go.ChangeAt Go.RowKit
theorem own:ownKnob Tryz.prog.godebug=none:=by kernel_rfl
theorem laidOut:laidOutB Tryz.prog=true:=by kernel_rfl
theorem bytesInt:Tryz.prog.bytesOf 3=8:=by kernel_rfl
theorem lifted(os:Os)(started:os.Started)(H:Type)(enc:TypeId × Value→H):
 ReturnsInHanded {} Tryz.checked os 6 .any (Rows.redactCommutesSpec.pre6 enc Tryz.prog Tryz.f6 Rows.redactCommutesRow.domain false) (Rows.redactCommutesSpec.post enc Tryz.prog Tryz.f6 false true false false):=by
 refine returnsInHanded_of_change_sized (C:=Tryz.checked) own started gg Tryz.func6
  (ChangeSpec.witness6 (enc:=enc) (C:=Tryz.checked) false ⟨#[],#[.slice none 0 0],[]⟩ 8 gg gg gg gg) ?_
 intro W base args ds gs before hval0 hW hcnd hsz0 _
 have hval:∀(j:Nat) t v,Tryz.f6.params[j]?=some t→args[j]?=some v→Value.okWide Tryz.prog W .any base t v:=hval0
 have hsz:(DataW.weightsEach Tryz.prog (Tryz.f6.params.toList++Rows.redactCommutesSpec.plain.varTypes Tryz.prog) (ds++gs)).all (· ≤ reachBytes)=true:=hsz0
 have hW':=hW
 obtain⟨p,q,hA0,hV,rfl,hfz,hnd⟩:=hW
 have hA:DataW.TrodAll enc Tryz.prog W 0 (fun _=>true) true Tryz.f6.params.toList args.toList ds p:=hA0
 rw[Tryz.params6]at hA hval hsz
 obtain⟨v0,vs0,d0,ds0,p0,q0,hargs,rfl,rfl,h0,r0⟩:=trodAll_cons hA
 obtain⟨rfl,rfl,rfl⟩:=trodAll_nil r0
 obtain rfl:args=#[v0]:=by cases args;simp_all
 obtain⟨rfl,rfl⟩:=trodVars_none hV
 obtain⟨a0,Mk,cap0,rfl⟩:=okWide_slice Tryz.underlying22 (hval 0 22 v0 rfl rfl)
 have k0:=h0
 have lt0:∀x∈p0,x.block<W.heap.size:=by obtain⟨m,hm⟩:=k0;exact DataW.trod_lt m _ _ _ hm
 obtain⟨t,htl,hts,ht8⟩:∃t:List Int,t.length=Mk∧ag W W.heap.size intCells 1 a0 t∧t.length*8≤140737488351232:=by
  obtain⟨fuel,hf⟩:=h0
  rcases open_ints Tryz.underlying22 Tryz.underlying3 gg hf with ⟨hcs,_⟩|⟨x,l,c,zs,hcs,_,hl,hm,hz,hx,hcell,hwz⟩
  ·simp[Value.cells]at hcs
   obtain⟨rfl,rfl,rfl⟩:=hcs
   exact⟨[],rfl,ag.nil,by simp⟩
  ·simp[Value.cells]at hcs
   obtain⟨rfl,rfl,rfl⟩:=hcs
   simp only[Prod.mk.injEq]at hx
   obtain⟨rfl,_⟩:=hx
   have hs:=sized_slice hsz (j:= 0) (t:= 22) (e:= 3) rfl rfl Tryz.underlying22
   rw[bytesInt]at hs
   simp only[lits,List.length_map,List.length_take,List.length_drop,reachBytes]at hs
   have hzl:zs.length=cap0:=by simpa using hz
   refine⟨zs.take Mk,by simp;omega,fun h =>?_,by simp;omega⟩
   have h1:0<zs.length:=by simp at h;omega
   obtain⟨xb,xo,xs⟩:=x
   have hc0:=hcell 0 h1
   have hsp:xs=none:=by
    cases xs with
    | none=>rfl
    | some y =>
      simp only[Addr.add,World.cell?,Option.isSome_some,if_true]at hc0
      split at hc0<;>simp at hc0
   subst hsp
   have hlt:xb<W.heap.size:=by
    rcases Nat.lt_or_ge xb W.heap.size with h|h
    ·exact h
    ·simp[Addr.add,World.cell?,Array.getElem?_eq_none h]at hc0
   refine⟨xb,xo,rfl,hlt,fun i hi j u hu =>?_⟩
   have hj:j=0:=by have:=(List.getElem?_eq_some_iff.1 hu).1;simp[intCells]at this;omega
   subst hj
   have hil:i<zs.length:=by simp at hi;omega
   have:=hcell i hil
   simp only[intCells,List.getElem?_cons_zero,Option.some.injEq]at hu
   subst hu
   rw[List.getElem_take]
   rw[List.getD_eq_getElem?_getD,List.getElem?_eq_getElem hil]at this
   unfold Addr.add at this
   split at this
   ·rename_i h0;subst h0;simpa using this
   ·simpa using this
 clear hA0 hval0
 subst htl
 refine(JQ a0 cap0 t W hts ht8).mono fun e W' ⟨he,bel⟩ =>?_
 subst he
 exact⟨_,rfl,_,_,_,[],_,[],hW',trodAll_mk1 (shut_bool Tryz.underlying4 _),(trodAll_cons_mk (Below.trod laidOut gg (of_decide_eq_true gg) k0 bel lt0) trodAll_mk0),rfl,bel.frame _,fun h=>by cases h⟩
theorem facts:joinedFacts Tryz.pinned.checked.prog 6 Tryz.f6 Rows.redactCommutesSpec Rows.redactCommutesRow=true:=by
 unfold joinedFacts
 repeat' (with_reducible refine(Bool.and_eq_true _ _).mpr ⟨?_,?_⟩)
 all_goals(as_aux_lemma=>kernel_rfl)
theorem over:Rows.redactCommutesRow.holds Tryz.pinned (OpenSpec.ofChange Rows.redactCommutesSpec):=
 OpenClaim.holds_of_wide 6 Tryz.f6 rfl rfl rfl rfl rfl rfl rfl ⟨rfl,rfl,rfl,rfl,rfl⟩ rfl rfl rfl rfl rfl gg Tryz.func6 facts
  (of_decide_eq_true gg) (by unfold Func.isWrapper;first|(rw[if_pos (by decide +kernel)];kernel_rfl)|(rw[if_neg (by decide +kernel)];exact⟨rfl,rfl⟩))
  (fun os started H enc _=>lifted os started H enc)
theorem proved:Rows.RedactCommutesSaid:=over
#print axioms proved
end Go.Proofs.YtjhnpnhpmdkpcaaGreat.redactCommutes
