/-
  For every list of numbers the law TablePositions returns true: each cell of a record has the position of the last change that wrote it, and the value that it wrote. No condition.
-/
import Derived.Test.YtkiglflbngfelaaGreatPSup
import Derived.Test.YtkiglflbngfelaaGreatP33
import Derived.Test.YtkiglflbngfelaaGreatP33
import Derived.Test.YtkiglflbngfelaaGreatP31
import Derived.Test.YtkiglflbngfelaaGreatP32
import Derived.Test.YtkiglflbngfelaaGreatP27
import Derived.Test.YtkiglflbngfelaaGreatQ25
import Derived.Test.YtkiglflbngfelaaGreatQ10
import Derived.Test.YtkiglflbngfelaaGreatQ2
import Derived.Test.YtkiglflbngfelaaGreatP34
import Derived.Test.YtkiglflbngfelaaGreatRows
import Derived.WalkKit
import Derived.ProofKit
import Derived.OpenShut
import Derived.ShutString
import Derived.ChangeOld
import Derived.Below
import Derived.SizedLaws
set_option linter.unusedVariables false
set_option linter.unusedSimpArgs false
set_option maxRecDepth 100000
set_option maxHeartbeats 16000000
namespace Go.Proofs.YtkiglflbngfelaaGreat
open Go.RowKit Go
theorem chain_pok {ts:List Tab} {l:List Chg} {pl:List (List bB)} (h:sj ts l pl) : ∀ i,i≤l.length→POk ts (eD ts (l.take i)):=fun i hi=>by
 rcases Nat.lt_or_ge i l.length with h1|h1
 ·obtain ⟨rt,h2,h3⟩:=h.at_ i h1
  rw [← h2]
  exact (jK h3).1.pure
 ·rw [List.take_of_length_le h1,h.replay]
  exact h.ok
open Go.RowKit Go
theorem chain_kinds {ts:List Tab} {l:List Chg} {pl:List (List bB)} (h:sj ts l pl) (hok:aV ts) {i:Nat} (hi:i<ts.length) {n:Nat} (hn:ts[i].ae.length=n) : ∀ x∈l,(x.kind = 1∨x.kind = 2∨x.kind = 3)∧(x.kind = 1→x.table=(i:Int)→x.row.length=n)∧(x.kind = 1 → 0<x.row.length):=fun x hx=>by
 obtain ⟨j,hj,rfl⟩:=List.getElem_of_mem hx
 obtain ⟨rt,h1,h2⟩:=h.at_ j hj
 obtain ⟨k,hin⟩:=iO (jK h2).2
 have hc:=(hok.ae hin.lt).1
 refine ⟨hin.kind,fun h3 h4 => ?_,fun h3 => ?_⟩
 ·rw [wz hin hin.lt h3,← hn]
  have:k=i:=by have:=hin.tab;omega
  subst this
  rfl
 ·rw [wz hin hin.lt h3]
  exact hc
theorem positions_walk (A:Option Addr) (c:Nat) (t:List Int) (w:World) (hl:ag w w.heap.size intCells 1 A t) (hn:t.length * 8 ≤ 140737488351232) :
 Calls Tryz.prog 3 #[.slice A t.length c] w fun e w'=>e = .returned (.bool true)∧Below w.heap.size w w':=by
 have HL0:=qh hl
 clear hl
 go_enter Tryz.func3,Tryz.ntmps3
 go_wp2_with fail
 refine (Ky A c t _ HL0.out hn).mono ?_
 rintro e w1 ⟨⟨g,b,rfl,hg1,hb1,hk1⟩,hx1⟩
 have HK1:=qh hk1
 have QR:=hk1.ltg
 clear hk1 HL0
 go_wp2_with fail
 refine (Dn g b 3 _ HK1.out (by omega) (by omega)).mono ?_
 rintro e w2 ⟨CA,cc,ts,rfl,ht2,hu2,UC,hs2,hok2,h02,YK,hk2,hg2⟩
 have HK2:=qh hk2
 have HT2:=qh ht2
 have HU:=qh hu2
 have HS:=qh hs2
 have HOK:=qh hok2
 have hx2:Below w.heap.size w w2:=Below.grown hx1 hg2 hx1.size (fun q e=>by injection e with e;omega)
 have hz2:=hg2.size
 clear hk2 ht2 hu2 UC hs2 hok2 hg2 HK1
 go_upto_region 3 with (fail)
 refine ah (P:=fun u=>Code.wp _ _ _ _ u) (R:=fun u=>Blk u w2.heap.size 34 #[.slice CA ts.length cc, .slice none 0 0, .slice none 0 0, .slice none 0 0, .slice none 0 0, .slice none 0 0, .slice none 0 0, .slice none 0 0]∧Below w2.heap.size w2 u) ⟨?_,?_⟩ ?_
 ·exact Blk.new' rfl
 ·exact au
 rintro W ⟨hC,hbW⟩
 have HC:=qh hC
 have hzC:=hC.lt
 have HKW:=qh (HK2.out.below hbW)
 have hxW:Below w.heap.size w W:=aa hx2 hbW hx2.size
 have HTW:=qh (HT2.out.next hbW)
 obtain ⟨p0,p1,p2,p3,p4,p5,p6,p7⟩:=Cat.blk hC
 clear hC HK2 HT2
 go_wp2_with fail
 refine (zu g b w1.heap.size 10 CA cc ts.length ts W HKW.out QR HTW.out HU.out rfl HS.out HOK.out h02 (by omega)).mono ?_
 rintro e u1 ⟨LA,lc,l,rfl,hll,hoc,hk3,hg3,PD⟩
 have PQ:=qh PD
 have X9:=hg3.size
 have hC1:=HC.out.grown hg3 (fun e=>by injection e with e;omega)
 have hT1:=HTW.out.grown HU.out QR hg3
 have hx3:Below w.heap.size w u1:=Below.grown hxW hg3 hxW.size (fun q e=>by injection e with e;omega)
 have HC1:=qh hC1
 have HT1:=qh hT1
 have HK3:=qh hk3
 have HOC:=qh hoc
 have HLR:=qh hoc.read
 have hl8 : ∀ x∈l,x.row.length ≤ 1000000:=fun x hx=>Nat.le_trans (hoc.len x hx) (by omega)
 have HL8:=qh hl8
 obtain ⟨⟨pl,hch⟩,_,_⟩:=PQ.out
 have HCH:=qh hch
 have HPOK:=qh (chain_pok hch)
 clear p0 p1 p2 p3 p4 p5 p6 p7 hC1 hT1 hk3 hoc HKW HTW HC hbW PD hl8 hch
 obtain ⟨p0,p1,p2,p3,p4,p5,p6,p7⟩:=Cat.blk HC1.out
 have XK:=qh PQ.out.2.2
 go_upto_region 8 with (go_at_call 11;(with_reducible refine (tab_Replay CA cc ts.length ts LA lc l.length l _ HT1.out rfl HS.out HOK.out HLR.out rfl (by omega) HL8.out HPOK.out).mono ?_);rintro e aah ⟨⟨aae,rt,rfl,hrl,hrt,_,hpu⟩,hb2⟩;clear p0 p1 p2 p3 p4 p5 p6 p7;obtain ⟨p0,p1,p2,p3,p4,p5,p6,p7⟩:=Cat.blk (HC1.out.below hb2 HC1.out.lt))
 have HRL:=qh hrl
 have HRT:=qh hrt
 have HPU:=qh hpu
 have hz2:=hb2.size
 have HC2:=qh (HC1.out.below hb2 HC1.out.lt)
 have HT2:=qh (HT1.out.next hb2)
 have VB:=qh (show jv aah aah.heap.size LA l from ⟨HLR.out.1.next hb2,fun x hx=>(HLR.out.2 x hx).next hb2⟩)
 have hx4:Below w.heap.size w aah:=aa hx3 hb2 hx3.size
 have HRK:Hid (aO ts rt):=qh (POk.back HOK.out (by rw [HPU.out];have h:=HPOK.out l.length nlr;rwa [List.take_length] at h))
 have HREP:Hid (eD ts l=pl):=qh HCH.out.replay
 have h8:ts.length ≤ 8:=HOK.out.len
 have hll2:l.length ≤ 1000000:=by omega
 clear p0 p1 p2 p3 p4 p5 p6 p7 hrt hpu hrl hb2
 go_loopw [7,8,9,10] (fun vi _ _ _ wr => ∃ i:Nat,i≤rt.length∧vi = .int .i64 i∧Below aah.heap.size aah wr) (fun vi _ _ _ _=>rt.length - (intOf vi).toNat)
 case atStart=>exact ⟨0,Nat.zero_le _,rfl,Below.refl _ _⟩
 case round =>
  obtain ⟨i,hi,rfl,hbr⟩:=hrel
  have hwz:=hbr.size
  by_cases hlt:i<rt.length
  ·have hit:i<ts.length:=by rw [← HRL.out];exact hlt
   obtain ⟨b5,o5,he5,hb5,hc5⟩:=HRT.out.1.get hlt
   injection he5 with he5
   injection he5 with e51 e52
   subst e51 e52
   obtain ⟨b6,o6,he6,hb6,hc6⟩:=HT2.out.1.get hit
   have HE6:=qh he6
   have t0:=hc5 0 _ rfl
   obtain ⟨_,c1,_,_⟩:=Tab.cO hc6
   have bg:=HRT.out.2 rt[i] (lgm hlt)
   have htab:=(HRK.out.tab i hlt hit).pure
   have hwr : ∀ r∈rt[i].recs,∀ m,m<ts[i].ae.length→WroteOk l i m (aG r):=fun r hr m hm=>by
    have h1:=chain_wrote HCH.out (XK.out.imp fun h=>h.1) i (by rw [← HREP.out,← HPU.out];simpa using hlt) hit (aG r) ?_ m hm
    ·exact h1
    ·have e:pl[i]'(by rw [← HREP.out,← HPU.out];simpa using hlt)=rt[i].recs.map aG:=by
      have e1:pl=rt.map ax:=by rw [HPU.out,HREP.out]
      simp only [e1,List.getElem_map]
      rfl
     rw [e]
     exact List.mem_map_of_mem hr
   have hln : ∀ r∈rt[i].recs,r.row.length=ts[i].ae.length∧r.seq.length=ts[i].ae.length:=fun r hr=>by
    have h1:=htab.rcd (aG r) (List.mem_map_of_mem hr)
    exact ⟨h1.len,h1.qW⟩
   have QL:=HRK.out.n64 hlt
   have hc8:=(HOK.out.ae hit).2
   have hks:=fun n (hn:ts[i].ae.length=n)=>chain_kinds HCH.out HOK.out hit hn
   have YH:decide (i<rt.length)=true:=by simpa using hlt
   obtain ⟨⟨TR,tr,recs⟩,ht⟩ : ∃ t,rt[i]=t:=⟨_,rfl⟩
   obtain ⟨⟨tn,TA,tc,ae,ter,tre⟩,htt⟩ : ∃ t,ts[i]=t:=⟨_,rfl⟩
   rw [ht] at t0 bg hwr hln QL
   rw [htt] at c1 hwr hln hc8 hks
   simp only [Nat.mul_one,Nat.zero_add,Nat.add_zero] at t0 c1 bg hwr hln QL hc8 hks
   have mU:=qh bg
   have HWR:=qh hwr
   have HLN:=qh hln
   have HKS:=qh hks
   have HT0:=qh t0
   have HC0:=qh c1
   have hlt2:decide (i<ts.length)=true:=by simpa using hit
   clear hc5 hc6 bg htab hwr hln hks ht htt t0 c1 he6
   go_upto_region 11 with (fail)
   go_loopw [8,9,10] (fun vj _ _ wr => ∃ j:Nat,j≤recs.length∧vj = .int .i64 j∧Below aah.heap.size aah wr) (fun vj _ _ _=>recs.length - (intOf vj).toNat)
   case atStart=>exact ⟨0,Nat.zero_le _,rfl,hbr⟩
   case round =>
    clear hbr hwz
    obtain ⟨j,hj,rfl,hbr⟩:=hrel
    have hwz:=hbr.size
    have t0:=(hbr.cell (p:=⟨aae,_,none⟩) hb5).trans HT0.out
    by_cases hjt:j<recs.length
    ·obtain ⟨b7,o7,rfl,hb7,hc7⟩:=mU.out.1.get hjt
     obtain ⟨d0,d1,d2⟩:=Rcd.cells3 hc7
     obtain ⟨r1,r2⟩:=mU.out.2 recs[j] (lgm hjt)
     obtain ⟨hl1,hl2⟩:=HLN.out recs[j] (lgm hjt)
     have hw:=HWR.out recs[j] (lgm hjt)
     obtain ⟨⟨QA,qc,gU,QS,qs,gF,qd⟩,hqr⟩ : ∃ x:Rcd,recs[j]=x:=⟨_,rfl⟩
     rw [hqr] at d0 d1 d2 r1 r2 hl1 hl2 hw
     simp only at d0 d1 d2 r1 r2 hl1 hl2 hw
     have HR1:=qh r1
     have HR2:=qh r2
     have HL1:=qh hl1
     have HL2:=qh hl2
     have HW:=qh hw
     have hq8:gU.length ≤ 8:=by omega
     have hs8:gF.length ≤ 8:=by omega
     have hjd:decide (j<recs.length)=true:=by simpa using hjt
     replace d0:=(hbr.cell (p:=⟨b7,_,none⟩) hb7).trans d0
     replace d1:=(hbr.cell (p:=⟨b7,_,none⟩) hb7).trans d1
     replace d2:=(hbr.cell (p:=⟨b7,_,none⟩) hb7).trans d2
     clear hc7 r1 r2 hw hqr hl1 hl2
     go_upto_region 14 with (fail)
     refine ah (P:=fun u=>Code.wp _ _ _ _ u) (R:=fun u=>Blk u wr.heap.size 43 #[.slice QA gU.length qc, .slice QS gF.length qs, .int .i64 qd]∧Below wr.heap.size wr u) ⟨?_,?_⟩ ?_
     ·exact Blk.new' (by simp)
     ·exact au
     clear d0 d1 d2 t0
     rintro V ⟨hB,hbV⟩
     have hzB:=hB.lt
     have HB:=qh hB
     have hxV:=aa hbr hbV hwz
     have hzV:=hxV.size
     have r0:=hB.cell 0
     have r1:=hB.cell 1
     have r2:=hB.cell 2
     simp only [gE3] at r0 r1 r2
     obtain ⟨p0,_⟩:=Cat.blk (HC2.out.below hxV HC2.out.lt)
     have c1:=(hxV.cell (p:=⟨b6,_,none⟩) hb6).trans HC0.out
     have hzC:=HC2.out.lt
     have hk0:=aC (w:=V) wr.heap.size hzB
     have hk1:=aC (w:=V) w2.heap.size (by omega)
     have hk2:=aC (w:=V) b6 (by omega)
     have hn1:((gU.length:Int) != (ae.length:Int))=false:=by rw [HL1.out];simp
     have hn2:((gF.length:Int) != (gU.length:Int))=false:=by rw [HL1.out,HL2.out];simp
     rw [HE6.out] at p0
     clear hB
     refine af (by kernel_rfl) (by kernel_rfl) ?_;(repeat (go_big_quiet_step (fail)));refine wpQuiet_nil ?_;intro wq hq
     clear hk0 hk1 hk2 r0 r1 r2 p0 c1
     obtain ⟨V1,rfl⟩ : ∃ V1:World,V1=wq:=⟨_,rfl⟩
     have HB1:=qh (HB.out.below hq hzB)
     have hx1:=aa hxV hq hxV.size
     have V4:=hq.size
     clear hq
     go_upto_region 17 with (fail)
     go_loopw [10] (fun vm wr => ∃ m:Nat,m≤gU.length∧vm = .int .i64 m∧Below V1.heap.size V1 wr) (fun vm _=>gU.length - (intOf vm).toNat)
     case atStart=>exact ⟨0,Nat.zero_le _,rfl,Below.refl _ _⟩
     case round =>
      obtain ⟨m,hm,rfl,hbm⟩:=hrel
      have hmz:=hbm.size
      have hxm:=aa hx1 hbm hx1.size
      have hBm:=HB1.out.below hbm HB1.out.lt
      have r0:=hBm.cell 0
      have r1:=hBm.cell 1
      have r2:=hBm.cell 2
      simp only [gE3] at r0 r1 r2
      clear hBm
      by_cases hmt:m<gU.length
      ·have hmc:m<ae.length:=by rw [← HL1.out];exact hmt
       have hms:m<gF.length:=by rw [HL2.out];exact hmc
       have HWM:Hid (WroteOk l i m (gU,gF,qd)):=qh (HW.out m hmc)
       have HLM:Hid (jv wr wr.heap.size LA l):=qh ⟨VB.out.1.next hxm,fun x hx=>(VB.out.2 x hx).next hxm⟩
       have HKSM:=qh (HKS.out gU.length HL1.out.symm)
       have hmd:decide (m<gU.length)=true:=by simpa using hmt
       go_wp2_with (go_at_call 12;(with_reducible refine (law07_wrote LA lc l.length l i m QA qc gU QS qs gF qd _ HLM.out rfl hll2 (HR1.out.next hxm) (HR2.out.next hxm) hmt hms (by omega) HKSM.out HWM.out).mono ?_);rintro e w9 ⟨rfl,hb9⟩)
       go_roundw
       case rel=>exact ⟨m + 1,by omega,by go_num,aa hbm hb9 hmz⟩
       case measure=>exact meA
      ·have hmt':decide (m<gU.length)=false:=by simpa using hmt
       go_wp2_with fail
       go_roundw
       case rel=>exact ⟨j + 1,by omega,by go_num,hxm⟩
       case measure=>exact meA
    ·have Uh:decide (j<recs.length)=false:=by simpa using hjt
     go_wp2_with fail
     go_roundw
     case rel=>exact ⟨i + 1,by omega,by go_num,hbr⟩
     case measure=>exact meA
  ·have hlt':decide (i<rt.length)=false:=by simpa using hlt
   have hlt2:decide (i<ts.length)=false:=by rw [← HRL.out];exact hlt'
   have hxr:=aa hx4 hbr hx4.size
   go_wp2_with (go_at_call 13;(with_reducible refine (law07_awake _).mono ?_);rintro e u11 ⟨rfl,qY⟩)
   go_ret
   exact ⟨rfl,aa hxr qY hxr.size⟩
end Go.Proofs.YtkiglflbngfelaaGreat
namespace Go.Proofs.YtkiglflbngfelaaGreat.tablePositions
open Go.ChangeShapes Go.WideShapes Go.ChangeAt Go.RowKit
theorem own:ownKnob Tryz.prog.godebug=none:=by kernel_rfl
theorem laidOut:laidOutB Tryz.prog=true:=by kernel_rfl
theorem bytesInt:Tryz.prog.bytesOf 3 = 8:=by kernel_rfl
theorem lifted (os:Os) (started:os.Started) (H:Type) (enc:TypeId × Value→H) :
 ReturnsInHanded {} Tryz.checked os 3 .any (Rows.tablePositionsSpec.pre6 enc Tryz.prog Tryz.f3 Rows.tablePositionsRow.domain false) (Rows.tablePositionsSpec.post enc Tryz.prog Tryz.f3 false true false false):=by
 refine returnsInHanded_of_change_sized (C:=Tryz.checked) own started (by kernel_rfl) Tryz.func3
  (ChangeSpec.witness6 (enc:=enc) (C:=Tryz.checked) false ⟨#[],#[.slice none 0 0],[]⟩ 8 (by kernel_rfl) (by kernel_rfl) (by kernel_rfl) (by kernel_rfl)) ?_
 intro W base args ds gs before hval0 hW hcnd hsz0 _
 have hval : ∀ (j:Nat) t v,Tryz.f3.params[j]? = some t→args[j]? = some v→Value.okWide Tryz.prog W .any base t v:=hval0
 have hsz:(DataW.weightsEach Tryz.prog (Tryz.f3.params.toList++Rows.tablePositionsSpec.plain.varTypes Tryz.prog) (ds++gs)).all (· ≤ reachBytes)=true:=hsz0
 have hW':=hW
 obtain ⟨p,q,hA0,hV,rfl,hfz,hnd⟩:=hW
 have hA:DataW.TrodAll enc Tryz.prog W 0 (fun _=>true) true Tryz.f3.params.toList args.toList ds p:=hA0
 rw [Tryz.params3] at hA hval hsz
 obtain ⟨v0,vs0,d0,ds0,p0,q0,hargs,rfl,rfl,h0,r0⟩:=trodAll_cons hA
 obtain ⟨rfl,rfl,rfl⟩:=trodAll_nil r0
 obtain rfl:args = #[v0]:=by cases args;simp_all
 obtain ⟨rfl,rfl⟩:=trodVars_none hV
 obtain ⟨a0,SK,cap0,rfl⟩:=okWide_slice Tryz.underlying22 (hval 0 22 v0 rfl rfl)
 have k0:=h0
 have lt0 : ∀ x∈p0,x.block<W.heap.size:=by obtain ⟨m,hm⟩:=k0;exact DataW.trod_lt m _ _ _ hm
 obtain ⟨t,htl,hts,ht8⟩ : ∃ t:List Int,t.length=SK∧ag W W.heap.size intCells 1 a0 t∧t.length * 8 ≤ 140737488351232:=by
  obtain ⟨fuel,hf⟩:=h0
  rcases open_ints Tryz.underlying22 Tryz.underlying3 (by kernel_rfl) hf with ⟨hcs,_⟩|⟨x,l,c,zs,hcs,_,hl,hm,hz,hx,hcell,hwz⟩
  ·simp [Value.cells] at hcs
   obtain ⟨rfl,rfl,rfl⟩:=hcs
   exact ⟨[],rfl,ag.nil,by simp⟩
  ·simp [Value.cells] at hcs
   obtain ⟨rfl,rfl,rfl⟩:=hcs
   simp only [Prod.mk.injEq] at hx
   obtain ⟨rfl,_⟩:=hx
   have hs:=sized_slice hsz (j := 0) (t := 22) (e := 3) rfl rfl Tryz.underlying22
   rw [bytesInt] at hs
   simp only [lits,List.length_map,List.length_take,List.length_drop,reachBytes] at hs
   have hzl:zs.length=cap0:=by simpa using hz
   refine ⟨zs.take SK,by simp;omega,fun h => ?_,by simp;omega⟩
   have h1 : 0<zs.length:=by simp at h;omega
   obtain ⟨xb,xo,xs⟩:=x
   have hc0:=hcell 0 h1
   have hsp:xs=none:=by
    cases xs with
    | none=>rfl
    | some y =>
      simp only [Addr.add,World.cell?,Option.isSome_some,if_true] at hc0
      split at hc0 <;> simp at hc0
   subst hsp
   have hlt:xb<W.heap.size:=by
    rcases Nat.lt_or_ge xb W.heap.size with h|h
    ·exact h
    ·simp [Addr.add,World.cell?,Array.getElem?_eq_none h] at hc0
   refine ⟨xb,xo,rfl,hlt,fun i hi j u hu => ?_⟩
   have hj:j = 0:=by have:=(List.getElem?_eq_some_iff.1 hu).1;simp [intCells] at this;omega
   subst hj
   have hil:i<zs.length:=by simp at hi;omega
   have:=hcell i hil
   simp only [intCells,List.getElem?_cons_zero,Option.some.injEq] at hu
   subst hu
   rw [List.getElem_take]
   rw [List.getD_eq_getElem?_getD,List.getElem?_eq_getElem hil] at this
   unfold Addr.add at this
   split at this
   ·rename_i h0;subst h0;simpa using this
   ·simpa using this
 clear hA0 hval0
 subst htl
 refine (positions_walk a0 cap0 t W hts ht8).mono fun e W' ⟨he,bel⟩ => ?_
 subst he
 exact ⟨_,rfl,_,_,_,[],_,[],hW',trodAll_mk1 (shut_bool Tryz.underlying4 _),(trodAll_cons_mk (Below.trod laidOut (by kernel_rfl) (of_decide_eq_true (by kernel_rfl)) k0 bel lt0) trodAll_mk0),rfl,bel.frame _,fun h=>by cases h⟩
theorem facts:joinedFacts Tryz.pinned.checked.prog 3 Tryz.f3 Rows.tablePositionsSpec Rows.tablePositionsRow=true:=by
 unfold joinedFacts
 repeat' (with_reducible refine (Bool.and_eq_true _ _).mpr ⟨?_,?_⟩)
 all_goals (as_aux_lemma=>kernel_rfl)
theorem over:Rows.tablePositionsRow.holds Tryz.pinned (OpenSpec.ofChange Rows.tablePositionsSpec) :=
 OpenClaim.holds_of_wide 3 Tryz.f3 rfl rfl rfl rfl rfl rfl rfl ⟨rfl,rfl,rfl,rfl,rfl⟩ rfl rfl rfl rfl rfl (by kernel_rfl) Tryz.func3 facts
  (of_decide_eq_true (by kernel_rfl)) (by unfold Func.isWrapper;first|(rw [if_pos (by decide +kernel)];kernel_rfl)|(rw [if_neg (by decide +kernel)];exact ⟨rfl,rfl⟩))
  (fun os started H enc _=>lifted os started H enc)
theorem proved:Rows.TablePositionsSaid:=over
#print axioms proved
end Go.Proofs.YtkiglflbngfelaaGreat.tablePositions
