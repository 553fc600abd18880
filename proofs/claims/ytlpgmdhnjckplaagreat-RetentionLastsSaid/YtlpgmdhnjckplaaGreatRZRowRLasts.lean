/-
  For every list of numbers the law RetentionLasts returns true: with increasing days records stay expired, and no expired record has a last version that a duty keeps. No condition.
-/
import Derived.Test.YtlpgmdhnjckplaaGreatR23
import Derived.Test.YtlpgmdhnjckplaaGreatR18
import Derived.Test.YtlpgmdhnjckplaaGreatR15
import Derived.Test.YtlpgmdhnjckplaaGreatR10
import Derived.Test.YtlpgmdhnjckplaaGreatR14
import Derived.Test.YtlpgmdhnjckplaaGreatR2
import Derived.Test.YtlpgmdhnjckplaaGreatRows
import Derived.WalkKit
import Derived.ProofKit
import Derived.OpenShut
import Derived.ShutString
import Derived.ChangeOld
import Derived.Below
import Derived.SizedLaws
set_option linter.unusedVariables false
set_option linter.unusedSimpArgs false
set_option maxRecDepth 100000
set_option maxHeartbeats 16000000
namespace Go.Proofs.YtlpgmdhnjckplaaGreat
open Go.RowKit Go
theorem expOf_mem {ts:List Tab} {rt:List RTab} {o:List Owned} {day:Int} {s:Src} (h:s∈expOf ts rt o day):s∈expE ts rt o day rt.length:=by
 unfold expOf at h
 split at h
 ·exact h
 ·cases h
theorem expOf_mono {ts:List Tab} {rt:List RTab} {o:List Owned} {d d':Int} {s:Src} (hd:d≤d') (h:s∈expOf ts rt o d):s∈expOf ts rt o d':=by
 unfold expOf at h ⊢
 split at h
 ·rename_i hv
  rw [if_pos hv]
  exact expE_mono hd h
 ·cases h
theorem retlasts_walk (A:Option Addr) (c:Nat) (t:List Int) (w:World) (hl:SliceIs w w.heap.size intCells 1 A t) (hn:t.length * 8 ≤ 140737488351232) :
 Calls Tryz.prog 6 #[.slice A t.length c] w fun e w'=>e = .returned (.bool true)∧Below w.heap.size w w':=by
 have HL0:=qh hl
 clear hl
 go_enter Tryz.func6,Tryz.ntmps6
 go_wp2_with fail
 refine (tape_New A c t _ HL0.out hn).mono ?_
 rintro e w1 ⟨⟨g,b,rfl,hg1,hb1,hk1⟩,hx1⟩
 have HK1:=qh hk1
 have hgl1:=hk1.ltg
 clear hk1 HL0
 go_wp2_with fail
 refine (tape_Tables g b 3 _ HK1.out (by omega) (by omega)).mono ?_
 rintro e w2 ⟨CA,cc,ts,rfl,ht2,hu2,hbd2,hs2,hok2,h02,hl32,hk2,hg2⟩
 have HK2:=qh hk2
 have HT2:=qh ht2
 have HU:=qh hu2
 have HS:=qh hs2
 have HOK:=qh hok2
 have hx2:Below w.heap.size w w2:=Below.grown hx1 hg2 hx1.size (fun q e=>by injection e with e;omega)
 have hz2:=hg2.size
 clear hk2 ht2 hu2 hbd2 hs2 hok2 hg2 HK1
 go_upto_region 3 with (fail)
 refine abs_world (P:=fun u=>Code.wp _ _ _ _ u) (R:=fun u=>Blk u w2.heap.size 34 #[.slice CA ts.length cc, .slice none 0 0, .slice none 0 0, .slice none 0 0, .slice none 0 0, .slice none 0 0, .slice none 0 0, .slice none 0 0]∧Below w2.heap.size w2 u) ⟨?_,?_⟩ ?_
 ·exact Blk.new' rfl
 ·exact belA
 rintro W ⟨hC,hbW⟩
 have HC:=qh hC
 have hzC:=hC.lt
 have HKW:=qh (HK2.out.below hbW)
 have hxW:Below w.heap.size w W:=below_nextN hx2 hbW hx2.size
 have HTW:=qh (HT2.out.next hbW)
 obtain ⟨p0,p1,p2,p3,p4,p5,p6,p7⟩:=Cat.blk hC
 clear hC HK2 HT2
 go_wp2_with fail
 refine (tape_History g b w1.heap.size 8 CA cc ts.length ts W HKW.out hgl1 HTW.out HU.out rfl HS.out HOK.out h02 (by omega)).mono ?_
 rintro e u1 ⟨LA,lc,l,rfl,hll,hoc,hk3,hg3⟩
 have hzg3:=hg3.size
 have hC1:=HC.out.grown hg3 (fun e=>by injection e with e;omega)
 have hT1:=HTW.out.grown HU.out hgl1 hg3
 have hx3:Below w.heap.size w u1:=Below.grown hxW hg3 hxW.size (fun q e=>by injection e with e;omega)
 have HC1:=qh hC1
 have HT1:=qh hT1
 have HK3:=qh hk3
 have HOC:=qh hoc
 have hdr:Below u1.heap.size u1 u1.drew:=(Below.refl _ _).drew
 have HLR:=qh hoc.read
 clear p0 p1 p2 p3 p4 p5 p6 p7 hC1 hT1 hk3 hoc HKW HTW HC hbW
 go_upto_region 4 with (fail)
 refine wp_region_held_drew (S:=fun u=>u.cell? ⟨w2.heap.size,0,none⟩=some (.slice CA ts.length cc)∧u.cell? ⟨w2.heap.size,1,none⟩=some (.slice none 0 0)∧u.cell? ⟨w2.heap.size,2,none⟩=some (.slice none 0 0)∧u.cell? ⟨w2.heap.size,3,none⟩=some (.slice none 0 0)∧u.cell? ⟨w2.heap.size,4,none⟩=some (.slice none 0 0)∧u.cell? ⟨w2.heap.size,5,none⟩=some (.slice none 0 0)∧u.cell? ⟨w2.heap.size,6,none⟩=some (.slice none 0 0)∧u.cell? ⟨w2.heap.size,7,none⟩=some (.slice none 0 0)) (by kernel_rfl) (Cat.blk HC1.out) (fun hHeld => ?_)
 refine tkH 0 hHeld ?_
 refine tkH 1 hHeld ?_
 refine tkH 3 hHeld ?_
 refine tkH 4 hHeld ?_
 refine wpAnyH_ready (rs := [2]) (by kernel_rfl) (by simp) ?_
 refine AllReadyH.cons rfl (fun K hK => ?_) AllReadyH.nil
 go_simp
 (go_at_call 26;(with_reducible refine (ref07_Replay CA cc ts.length ts LA lc l.length l _ (HT1.out.next hdr) rfl HS.out HOK.out (HLR.out.next hdr) rfl (by omega) (fun x hx=>Nat.le_trans (HOC.out.len x hx) (by omega))).mono ?_))
 rintro e u2 ⟨⟨RA,rc,rt,rfl,hrl,hrt,hru,hsh,_⟩,hb2⟩
 have hx2':Below u1.heap.size u1 u2:=hdr.trans hb2
 have hz2':=hx2'.size
 have hC2:=HC1.out.below hx2' HC1.out.lt
 have HRT:=qh hrt
 have HRU:Hid (RUp u1.heap.size RA rt):=qh hru
 have HRL:=qh hrl
 have HSR:=qh (hsh.sane HOK.out)
 clear hrt hru hsh hb2 hrl
 go_wp2_with fail
 refine hK.out _ _ (Cat.blk hC2) (fun hHeld => ?_)
 clear hK K
 (try simp only [Act.put,List.getElem_toArray,List.getElem_cons_zero,List.getElem_cons_succ,List.setIfInBounds_toArray,List.set_cons_zero,List.set_cons_succ])
 refine wpAnyH_ready (rs := [5]) (by kernel_rfl) (by simp) ?_
 refine AllReadyH.cons rfl (fun K hK => ?_) AllReadyH.nil
 go_simp
 (go_at_call 10;(with_reducible refine (ref17_Versions CA cc ts.length ts LA lc l.length l _ (HT1.out.next hx2') rfl HS.out HOK.out (by omega) (HLR.out.next hx2') rfl (by omega) HOC.out.len).mono ?_))
 rintro e u3 ⟨⟨OA,oc,o,rfl,ho⟩,hb3⟩
 have hx3':Below u1.heap.size u1 u3:=below_nextN hx2' hb3 hz2'
 have hz3':=hx3'.size
 have hC3:=HC1.out.below hx3' HC1.out.lt
 have HC3:=qh hC3
 have HRT3:=qh (HRT.out.next hb3)
 have HO3:=qh (ho.lift hz2')
 have HT3:=qh (HT1.out.next hx3')
 have HK3':=qh (HK3.out.below hx3')
 have hol:o.length ≤ 1000:=by have:=ho.len;omega
 have hx4:Below w.heap.size w u3:=below_nextN hx3 hx3' hx3.size
 have HREC:Hid (∀ x∈o,1≤x.record∧x.record ≤ 1073741824):=qh fun x hx=>(ho.each x hx).2.2
 clear ho hb3 hC2
 go_wp2_with fail
 refine hK.out _ _ (Cat.blk hC3) (fun hHeld => ?_)
 clear hK K
 (try simp only [Act.put,List.getElem_toArray,List.getElem_cons_zero,List.getElem_cons_succ,List.setIfInBounds_toArray,List.set_cons_zero,List.set_cons_succ])
 refine tkH 6 hHeld ?_
 refine tkH 7 hHeld ?_
 refine wpAnyH_done (by kernel_rfl) ?_ _
 clear hHeld hC3 HC1 HRT HT1 HK3 HOC HLR
 have hgu:g<u1.heap.size:=by omega
 go_wp2_with fail
 refine (tape_Next g b 60 u3 HK3'.out (by omega) (by omega)).mono ?_
 rintro e u4 ⟨d,rfl,hnd,hk4,hg4⟩
 have hd60:d ≤ 1000:=by have:=hnd;unfold NextIs at this;omega
 have hz4:=hg4.size
 have HC4:=qh (HC3.out.grown hg4 (fun e=>by injection e with e;omega))
 have HT4:=qh (HT3.out.grown HU.out hgl1 hg4)
 have HRT4:=qh (HRT3.out.grown HRU.out hgu hg4)
 have HO4:=qh (HO3.out.kept hg4 hgu)
 have HK4:=qh hk4
 have hx5:Below w.heap.size w u4:=Below.grown hx4 hg4 hx4.size (fun q e=>by injection e with e;omega)
 clear hnd hk4 HC3 HT3 HRT3 HO3 HK3'
 have hdr4:Below u4.heap.size u4 u4.drew:=(Below.refl _ _).drew
 go_upto_region 6 with (fail)
 refine wp_region_held_drew (S:=fun u=>u.cell? ⟨w2.heap.size,0,none⟩=some (.slice CA ts.length cc)∧u.cell? ⟨w2.heap.size,1,none⟩=some (.slice none 0 0)∧u.cell? ⟨w2.heap.size,2,none⟩=some (.slice none 0 0)∧u.cell? ⟨w2.heap.size,3,none⟩=some (.slice none 0 0)∧u.cell? ⟨w2.heap.size,4,none⟩=some (.slice none 0 0)∧u.cell? ⟨w2.heap.size,5,none⟩=some (.slice none 0 0)∧u.cell? ⟨w2.heap.size,6,none⟩=some (.slice none 0 0)∧u.cell? ⟨w2.heap.size,7,none⟩=some (.slice none 0 0)) (by kernel_rfl) (Cat.blk HC4.out) (fun hHeld => ?_)
 refine tkH 0 hHeld ?_
 refine tkH 1 hHeld ?_
 refine tkH 2 hHeld ?_
 refine tkH 3 hHeld ?_
 refine tkH 5 hHeld ?_
 refine tkH 6 hHeld ?_
 refine tkH 7 hHeld ?_
 refine tkH 8 hHeld ?_
 refine tkH 9 hHeld ?_
 refine wpAnyH_ready (rs := [4]) (by kernel_rfl) (by simp) ?_
 refine AllReadyH.cons rfl (fun K hK => ?_) AllReadyH.nil
 go_simp
 (go_at_call 29;(with_reducible refine (ret_Expired CA cc ts.length ts RA rc ts.length rt OA oc o.length o d _ (HT4.out.next hdr4) rfl HS.out HOK.out (HRT4.out.next hdr4) HRL.out HSR.out (HO4.out.read.1.next hdr4) rfl (by omega) HREC.out).mono ?_))
 rintro e u5 ⟨⟨EA,ec,l1,rfl,hs1,hf1,hp1,_⟩,hb5⟩
 have hy5:Below u4.heap.size u4 u5:=hdr4.trans hb5
 have hzy5:=hy5.size
 have hC5:=HC4.out.below hy5 HC4.out.lt
 have HC5:=qh hC5
 have HS1:=qh hs1
 have HF1:Hid (∀ a,EA=some a→u4.heap.size≤a.block):=qh hf1
 have HP1:=qh hp1
 have HK5:=qh (HK4.out.below hy5)
 have HT5:=qh (HT4.out.next hy5)
 have HRT5:=qh (HRT4.out.next hy5)
 have HO5:=qh (HO4.out.below hy5)
 clear hs1 hf1 hp1 hb5
 go_wp2_with fail
 refine hK.out _ _ (Cat.blk hC5) (fun hHeld => ?_)
 clear hK K
 (try simp only [Act.put,List.getElem_toArray,List.getElem_cons_zero,List.getElem_cons_succ,List.setIfInBounds_toArray,List.set_cons_zero,List.set_cons_succ])
 refine wpAnyH_ready (rs := [10]) (by kernel_rfl) (by simp) ?_
 refine AllReadyH.cons rfl (fun K hK => ?_) AllReadyH.nil
 go_simp
 (go_at_call 15;(with_reducible refine (tape_Next g b 20 _ HK5.out (by omega) (by omega)).mono ?_))
 rintro e u6 ⟨d2,rfl,hnd,hk6,hg6⟩
 have hd20:d2 ≤ 1000:=by have:=hnd;unfold NextIs at this;omega
 have hz6:=hg6.size
 have hg4u:g<u4.heap.size:=by omega
 have hC6:=HC5.out.grown hg6 (fun e=>by injection e with e;omega)
 have HC6:=qh hC6
 have HT6:=qh (HT5.out.grown HU.out hgl1 hg6)
 have HRT6:=qh (HRT5.out.grown HRU.out hgu hg6)
 have HO6:=qh (HO5.out.kept hg6 hgu)
 have HS6:Hid (SliceIs u6 u6.heap.size Src.cells 2 EA l1):=qh (HS1.out.grown hg6 (fun a ha e=>by have h:=HF1.out a ha;injection e with e;omega))
 have hx6:Below w.heap.size w u6:=Below.grown (below_nextN hx5 hy5 hx5.size) hg6 (by have:=hx5.size;omega) (fun q e=>by injection e with e;omega)
 clear hnd hk6 HC5 HT5 HRT5 HO5 HS1
 go_wp2_with fail
 refine hK.out _ _ (Cat.blk hC6) (fun hHeld => ?_)
 clear hK K
 (try simp only [Act.put,List.getElem_toArray,List.getElem_cons_zero,List.getElem_cons_succ,List.setIfInBounds_toArray,List.set_cons_zero,List.set_cons_succ])
 have hwr:IntKind.i64.wrap ((d:Int)+(d2:Int))=((d+d2:Nat):Int):=by rw [show (d:Int)+(d2:Int)=((d+d2:Nat):Int) by omega];exact IntWalk.i64_in _ (by omega)
 obtain ⟨dd,hdd⟩ : ∃ x,d+d2=x:=⟨_,rfl⟩
 rw [hdd] at hwr
 have hdle:d≤dd:=by omega
 refine tkH 11 hHeld ?_
 refine wpAnyH_ready (rs := [12]) (by kernel_rfl) (by simp) ?_
 refine AllReadyH.cons rfl (fun K hK => ?_) AllReadyH.nil
 go_simp
 (go_at_call 29;(with_reducible refine (ret_Expired CA cc ts.length ts RA rc ts.length rt OA oc o.length o dd _ HT6.out rfl HS.out HOK.out HRT6.out HRL.out HSR.out HO6.out.read.1 rfl (by omega) HREC.out).mono ?_))
 rintro e u7 ⟨⟨EB,ed,l2,rfl,hs2,_,hp2,_⟩,hb7⟩
 have hC7:=HC6.out.below hb7 HC6.out.lt
 have HC7:=qh hC7
 have HT7:=qh (HT6.out.next hb7)
 have HO7:=qh ((HO6.out.below hb7).read.1)
 have HS7:=qh (HS6.out.next hb7)
 have HS2:=qh hs2
 have HP2:=qh hp2
 have hx7:Below w.heap.size w u7:=below_nextN hx6 hb7 hx6.size
 have hzC7:=hC7.lt
 clear hs2 hp2 hb7 HC6 HT6 HRT6 HO6 HS6
 go_wp2_with fail
 refine hK.out _ _ (Cat.blk hC7) (fun hHeld => ?_)
 clear hK K
 (try simp only [Act.put,List.getElem_toArray,List.getElem_cons_zero,List.getElem_cons_succ,List.setIfInBounds_toArray,List.set_cons_zero,List.set_cons_succ])
 refine tkH 13 hHeld ?_
 refine tkH 14 hHeld ?_
 refine wpAnyH_done (by kernel_rfl) ?_ _
 clear hHeld hC7 hwr
 have HIN:Hid (∀ s∈l1,s∈l2):=qh fun s hs=>HP2.out.mem_iff.2 (expOf_mono (show (d:Int)≤(dd:Int) by omega) (HP1.out.mem_iff.1 hs))
 have HNK:Hid (∀ s∈l1,∀ x∈o,x.table=s.tab→x.record=s.seq→x.last=true→keepsB (endE ts x) d=false):=qh fun s hs x hx h1 h2 h3=>expE_kept (expOf_mem (HP1.out.mem_iff.1 hs)) hx h1 h2 h3
 have hl1n:l1.length ≤ 1000000:=by
  rw [HP1.out.length_eq]
  unfold expOf
  split
  ·rename_i hv
   have hv:=pb_iff.1 hv
   have h:=expE_len (ts:=ts) (rt:=rt) (o:=o) (day:=(d:Int)) (fun i h=>(hv.tab i h (by have:=hv.len;omega)).len) rt.length
   have h2:=hv.len
   omega
  ·simp
 have hl2n:l2.length ≤ 1000000:=by
  rw [HP2.out.length_eq]
  unfold expOf
  split
  ·rename_i hv
   have hv:=pb_iff.1 hv
   have h:=expE_len (ts:=ts) (rt:=rt) (o:=o) (day:=(dd:Int)) (fun i h=>(hv.tab i h (by have:=hv.len;omega)).len) rt.length
   have h2:=hv.len
   omega
  ·simp
 go_upto_region 8 with (fail)
 go_loopw [11] (fun vi wr => ∃ i:Nat,i≤l1.length∧vi = .int .i64 i∧Below u7.heap.size u7 wr) (fun vi _=>l1.length - (intOf vi).toNat)
 case atStart=>exact ⟨0,Nat.zero_le _,rfl,Below.refl _ _⟩
 case round =>
  obtain ⟨i,hi,rfl,hbr⟩:=hrel
  have hwz:=hbr.size
  have hxr:=below_nextN hx7 hbr hx7.size
  by_cases hlt:i<l1.length
  ·obtain ⟨b5,o5,rfl,hb5,hc5⟩:=(HS7.out.below hbr).get hlt
   have s0:=hc5 0 _ rfl
   have s1:=hc5 1 _ rfl
   simp only [Nat.add_zero] at s0 s1
   have HMEM:Hid (decide (l1[i]∈l2)=true):=qh (decide_eq_true (HIN.out l1[i] (List.getElem_mem hlt)))
   have HN1:=qh (HNK.out l1[i] (List.getElem_mem hlt))
   clear hc5
   go_upto_region 13 with (go_at_call 30;(with_reducible refine (ref15_Has EB ed l2.length l2 l1[i] _ (HS2.out.next hbr) rfl hl2n HMEM.out).mono ?_);rintro e w8 ⟨rfl,hb8⟩)
   refine abs_world (P:=fun u=>Code.wp _ _ _ _ u) (R:=fun u=>Below wr.heap.size wr u) hb8 ?_
   clear hb8 s0 s1
   rintro V hbV
   have hyV:=below_nextN hbr hbV hwz
   go_loopw [12] (fun vj wi => ∃ j:Nat,j≤o.length∧vj = .int .i64 j∧Below V.heap.size V wi) (fun vj _=>o.length - (intOf vj).toNat)
   case atStart=>exact ⟨0,Nat.zero_le _,rfl,Below.refl _ _⟩
   case round =>
    obtain ⟨j,hj,rfl,hbj⟩:=hrel
    have hjz:=hbj.size
    have hyj:=below_nextN hyV hbj hyV.size
    have hyz:=hyj.size
    by_cases hjl:j<o.length
    ·obtain ⟨b5',o5',he5,hb5',hc5⟩:=(HS7.out.below hyj).get hlt
     injection he5 with he5
     injection he5 with he51 he52
     subst he51 he52
     have s0:=hc5 0 _ rfl
     have s1:=hc5 1 _ rfl
     simp only [Nat.add_zero] at s0 s1
     obtain ⟨b6,o6,rfl,hb6,hc6⟩:=(HO7.out.below hyj).get hjl
     obtain ⟨g0,g1,g2,g3,g4,g5,g6,g7⟩:=Owned.cells8 hc6
     have hnk:=HN1.out o[j] (List.getElem_mem hjl)
     obtain ⟨x,hx⟩ : ∃ x,o[j]=x:=⟨_,rfl⟩
     obtain ⟨sr,hsr⟩ : ∃ x,l1[i]=x:=⟨_,rfl⟩
     rw [hx] at g0 g1 g2 g3 g4 g5 g6 g7 hnk
     rw [hsr] at s0 s1 hnk
     have HNK2:=qh hnk
     obtain ⟨p0,p1,p2,p3,p4,p5,p6,p7⟩:=Cat.blk (HC7.out.below hyj hzC7)
     have hk0:=keepQ (w:=wr) b5 (by omega)
     have hk1:=keepQ (w:=wr) b6 (by omega)
     have hk2:=keepQ (w:=wr) w2.heap.size (by omega)
     clear hc5 hc6 hx hsr hnk hb5'
     cases ht:(x.table==sr.tab)
     ·go_upto_region 15 with (fail)
      refine wp_region_bel (by kernel_rfl) (by kernel_rfl) ?_;(repeat (go_big_quiet_step (fail)));refine wpQuiet_nil ?_;intro wq hq
      clear g0 g1 g2 g3 g4 g5 g6 g7 s0 s1 p0 p1 p2 p3 p4 p5 p6 p7 hk0 hk1 hk2
      go_wp2_with fail
      go_roundw
      case rel=>exact ⟨j + 1,by omega,by go_num,below_nextN hbj hq hjz⟩
      case measure=>simp [intOf];omega
     ·cases hr:(x.record==sr.seq)
      ·go_upto_region 15 with (fail)
       refine wp_region_bel (by kernel_rfl) (by kernel_rfl) ?_;(repeat (go_big_quiet_step (fail)));refine wpQuiet_nil ?_;intro wq hq
       clear g0 g1 g2 g3 g4 g5 g6 g7 s0 s1 p0 p1 p2 p3 p4 p5 p6 p7 hk0 hk1 hk2
       go_wp2_with fail
       go_roundw
       case rel=>exact ⟨j + 1,by omega,by go_num,below_nextN hbj hq hjz⟩
       case measure=>simp [intOf];omega
      ·cases hla:x.last
       ·rw [hla] at g7
        go_upto_region 15 with (fail)
        refine wp_region_bel (by kernel_rfl) (by kernel_rfl) ?_;(repeat (go_big_quiet_step (fail)));refine wpQuiet_nil ?_;intro wq hq
        clear g0 g1 g2 g3 g4 g5 g6 g7 s0 s1 p0 p1 p2 p3 p4 p5 p6 p7 hk0 hk1 hk2
        go_wp2_with fail
        go_roundw
        case rel=>exact ⟨j + 1,by omega,by go_num,below_nextN hbj hq hjz⟩
        case measure=>simp [intOf];omega
       ·have hkp:=HNK2.out (by simpa using ht) (by simpa using hr) hla
        have hkc:=fun (u:World) (hu:Below wr.heap.size wr u)=>ret_Kept CA cc ts.length ts x d u (HT7.out.next (below_nextN hyj hu hyz)) rfl HS.out HOK.out hkp
        rw [hla] at g7 hkc
        have HKC:=qh hkc
        clear hkp hkc
        go_upto_region 15 with (fail)
        refine wp_region_bel (by kernel_rfl) (by kernel_rfl) ?_;(repeat (go_big_quiet_step ((go_at_call 23;with_reducible exact bel_of (HKC.out _ (BelOf.h _))))));refine wpQuiet_nil ?_;intro wq hq
        clear g0 g1 g2 g3 g4 g5 g6 g7 s0 s1 p0 p1 p2 p3 p4 p5 p6 p7 hk0 hk1 hk2
        go_wp2_with fail
        go_roundw
        case rel=>exact ⟨j + 1,by omega,by go_num,below_nextN hbj hq hjz⟩
        case measure=>simp [intOf];omega
    ·have hjl':decide (j<o.length)=false:=by simpa using hjl
     go_wp2_with fail
     go_roundw
     case rel=>exact ⟨i + 1,by omega,by go_num,hyj⟩
     case measure=>simp [intOf];omega
  ·have hlt':decide (i<l1.length)=false:=by simpa using hlt
   go_wp2_with fail
   refine (law18_awake _).mono ?_
   rintro e w8 ⟨rfl,hb8⟩
   go_wp2_with fail
   go_ret
   exact ⟨rfl,below_nextN hxr hb8 hxr.size⟩
end Go.Proofs.YtlpgmdhnjckplaaGreat
namespace Go.Proofs.YtlpgmdhnjckplaaGreat.retentionLasts
open Go.ChangeShapes Go.WideShapes Go.ChangeAt Go.RowKit
theorem own:ownKnob Tryz.prog.godebug=none:=by kernel_rfl
theorem laidOut:laidOutB Tryz.prog=true:=by kernel_rfl
theorem bytesInt:Tryz.prog.bytesOf 3 = 8:=by kernel_rfl
theorem lifted (os:Os) (started:os.Started) (H:Type) (enc:TypeId × Value→H) :
 ReturnsInHanded {} Tryz.checked os 6 .any (Rows.retentionLastsSpec.pre6 enc Tryz.prog Tryz.f6 Rows.retentionLastsRow.domain false) (Rows.retentionLastsSpec.post enc Tryz.prog Tryz.f6 false true false false):=by
 refine returnsInHanded_of_change_sized (C:=Tryz.checked) own started (by kernel_rfl) Tryz.func6
  (ChangeSpec.witness6 (enc:=enc) (C:=Tryz.checked) false ⟨#[],#[.slice none 0 0],[]⟩ 8 (by kernel_rfl) (by kernel_rfl) (by kernel_rfl) (by kernel_rfl)) ?_
 intro W base args ds gs before hval0 hW hcnd hsz0 _
 have hval : ∀ (j:Nat) t v,Tryz.f6.params[j]? = some t→args[j]? = some v→Value.okWide Tryz.prog W .any base t v:=hval0
 have hsz:(DataW.weightsEach Tryz.prog (Tryz.f6.params.toList++Rows.retentionLastsSpec.plain.varTypes Tryz.prog) (ds++gs)).all (· ≤ reachBytes)=true:=hsz0
 have hW':=hW
 obtain ⟨p,q,hA0,hV,rfl,hfz,hnd⟩:=hW
 have hA:DataW.TrodAll enc Tryz.prog W 0 (fun _=>true) true Tryz.f6.params.toList args.toList ds p:=hA0
 rw [Tryz.params6] at hA hval hsz
 obtain ⟨v0,vs0,d0,ds0,p0,q0,hargs,rfl,rfl,h0,r0⟩:=trodAll_cons hA
 obtain ⟨rfl,rfl,rfl⟩:=trodAll_nil r0
 obtain rfl:args = #[v0]:=by cases args;simp_all
 obtain ⟨rfl,rfl⟩:=trodVars_none hV
 obtain ⟨a0,len0,cap0,rfl⟩:=okWide_slice Tryz.underlying22 (hval 0 22 v0 rfl rfl)
 have k0:=h0
 have lt0 : ∀ x∈p0,x.block<W.heap.size:=by obtain ⟨m,hm⟩:=k0;exact DataW.trod_lt m _ _ _ hm
 obtain ⟨t,htl,hts,ht8⟩ : ∃ t:List Int,t.length=len0∧SliceIs W W.heap.size intCells 1 a0 t∧t.length * 8 ≤ 140737488351232:=by
  obtain ⟨fuel,hf⟩:=h0
  rcases open_ints Tryz.underlying22 Tryz.underlying3 (by kernel_rfl) hf with ⟨hcs,_⟩|⟨x,l,c,zs,hcs,_,hl,hm,hz,hx,hcell,hwz⟩
  ·simp [Value.cells] at hcs
   obtain ⟨rfl,rfl,rfl⟩:=hcs
   exact ⟨[],rfl,SliceIs.nil,by simp⟩
  ·simp [Value.cells] at hcs
   obtain ⟨rfl,rfl,rfl⟩:=hcs
   simp only [Prod.mk.injEq] at hx
   obtain ⟨rfl,_⟩:=hx
   have hs:=sized_slice hsz (j := 0) (t := 22) (e := 3) rfl rfl Tryz.underlying22
   rw [bytesInt] at hs
   simp only [lits,List.length_map,List.length_take,List.length_drop,reachBytes] at hs
   have hzl:zs.length=cap0:=by simpa using hz
   refine ⟨zs.take len0,by simp;omega,fun h => ?_,by simp;omega⟩
   have h1 : 0<zs.length:=by simp at h;omega
   obtain ⟨xb,xo,xs⟩:=x
   have hc0:=hcell 0 h1
   have hsp:xs=none:=by
    cases xs with
    | none=>rfl
    | some y =>
      simp only [Addr.add,World.cell?,Option.isSome_some,if_true] at hc0
      split at hc0 <;> simp at hc0
   subst hsp
   have hlt:xb<W.heap.size:=by
    rcases Nat.lt_or_ge xb W.heap.size with h|h
    ·exact h
    ·simp [Addr.add,World.cell?,Array.getElem?_eq_none h] at hc0
   refine ⟨xb,xo,rfl,hlt,fun i hi j u hu => ?_⟩
   have hj:j = 0:=by have:=(List.getElem?_eq_some_iff.1 hu).1;simp [intCells] at this;omega
   subst hj
   have hil:i<zs.length:=by simp at hi;omega
   have:=hcell i hil
   simp only [intCells,List.getElem?_cons_zero,Option.some.injEq] at hu
   subst hu
   rw [List.getElem_take]
   rw [List.getD_eq_getElem?_getD,List.getElem?_eq_getElem hil] at this
   unfold Addr.add at this
   split at this
   ·rename_i h0;subst h0;simpa using this
   ·simpa using this
 clear hA0 hval0
 subst htl
 refine (retlasts_walk a0 cap0 t W hts ht8).mono fun e W' ⟨he,bel⟩ => ?_
 subst he
 exact ⟨_,rfl,_,_,_,[],_,[],hW',trodAll_mk1 (shut_bool Tryz.underlying4 _),(trodAll_cons_mk (Below.trod laidOut (by kernel_rfl) (of_decide_eq_true (by kernel_rfl)) k0 bel lt0) trodAll_mk0),rfl,bel.frame _,fun h=>by cases h⟩
theorem facts:joinedFacts Tryz.pinned.checked.prog 6 Tryz.f6 Rows.retentionLastsSpec Rows.retentionLastsRow=true:=by
 unfold joinedFacts
 repeat' (with_reducible refine (Bool.and_eq_true _ _).mpr ⟨?_,?_⟩)
 all_goals (as_aux_lemma=>kernel_rfl)
theorem over:Rows.retentionLastsRow.holds Tryz.pinned (OpenSpec.ofChange Rows.retentionLastsSpec) :=
 OpenClaim.holds_of_wide 6 Tryz.f6 rfl rfl rfl rfl rfl rfl rfl ⟨rfl,rfl,rfl,rfl,rfl⟩ rfl rfl rfl rfl rfl (by kernel_rfl) Tryz.func6 facts
  (of_decide_eq_true (by kernel_rfl)) (by unfold Func.isWrapper;first|(rw [if_pos (by decide +kernel)];kernel_rfl)|(rw [if_neg (by decide +kernel)];exact ⟨rfl,rfl⟩))
  (fun os started H enc _=>lifted os started H enc)
theorem proved:Rows.RetentionLastsSaid:=over
#print axioms proved
end Go.Proofs.YtlpgmdhnjckplaaGreat.retentionLasts
