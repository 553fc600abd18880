/-
  Contracts and plain laws of this seat, part 65: RedE, RedH.
-/
import Derived.Test.YtjhnpnhpmdkpcaaGreatB63
import Derived.Test.YtjhnpnhpmdkpcaaGreatB60
import Derived.Test.YtjhnpnhpmdkpcaaGreatB52
import Derived.Test.YtjhnpnhpmdkpcaaGreatB20
import Derived.Test.YtjhnpnhpmdkpcaaGreatB28
import Derived.Test.YtjhnpnhpmdkpcaaGreatB14
set_option linter.unusedVariables false
set_option linter.unusedSimpArgs false
set_option maxRecDepth 100000
set_option maxHeartbeats 16000000
namespace Go.Proofs.YtjhnpnhpmdkpcaaGreat
open Go.RowKit Go
theorem form_fol {ts:List Tab} {x:Chg} (hok:CatOk ts) (h:formE ts x = 0):FolOk ts.length x:=by
 obtain ⟨k,hin⟩:=formE_in h
 have hc:=hok.cols hin.lt
 have hsq:=hin.seq
 simp only [withinB,Bool.and_eq_true,decide_eq_true_eq] at hsq
 refine ⟨⟨k,hin.tab,hin.lt⟩,fun h1 => ?_,⟨by omega,by omega⟩,(form_key h hok).1,?_⟩
 ·have hi:=form_ins h h1 hin
  rw [hi.len]
  exact hc.1
 ·by_cases h1:x.kind = 1
  ·have hi:=form_ins h h1 hin
   rw [hi.len]
   exact hc.2
  ·rw [hin.rest h1]
   omega
theorem form_col {ts:List Tab} {x:Chg} (hok:CatOk ts) (h:formE ts x = 0) : -9223372036854775808≤x.column∧x.column ≤ 9223372036854775807:=by
 obtain ⟨k,hin⟩:=formE_in h
 have hc:=hok.cols hin.lt
 rcases hin.kind with h1|h1|h1
 ·have hb:=(formE_parts h).1
  unfold invalidB at hb
  rw [Bool.or_eq_false_iff] at hb
  have hb:=hb.2
  rw [h1] at hb
  simp [badIns] at hb
  omega
 ·obtain ⟨c,hu⟩:=form_upd h h1 hin
  have:=hu.lt
  rw [hu.col]
  omega
 ·have hb:=(formE_parts h).1
  unfold invalidB at hb
  rw [Bool.or_eq_false_iff] at hb
  have hb:=hb.2
  rw [h1] at hb
  simp [badDel] at hb
  omega
theorem OrdOk.form {ts:List Tab} {l:List Chg} (h:OrdOk ts l) : ∀ x∈l,formE ts x = 0:=fun x hx=>by
 obtain ⟨i,hi,rfl⟩:=List.getElem_of_mem hx
 exact (h.at_ i hi).form
theorem OrdOk.fol {ts:List Tab} {l:List Chg} (h:OrdOk ts l) : ∀ x∈l,FolOk ts.length x:=fun x hx=>form_fol h.cat (h.form x hx)
theorem tab_OrderedZ (A:Option Addr) (c m:Nat) (ts:List Tab) (LA:Option Addr) (lc n:Nat) (l:List Chg) (w:World) (ht:TabsIn w w.heap.size A ts) (hm:ts.length=m) (hs:SaneCat ts) (hl:ChgsIn w w.heap.size LA l) (hn:l.length=n) (ho:OrdOk ts l) :
 Calls Tryz.prog 48 #[.agg #[.slice A m c, .slice none 0 0, .slice none 0 0, .slice none 0 0, .slice none 0 0, .slice none 0 0, .slice none 0 0, .slice none 0 0], .slice LA n lc] w fun e w'=>e = .returned (.bool true)∧Below w.heap.size w w' :=
 tab_Ordered (o:=Oth.nil) A c m ts LA lc n l w ht hm hs ho.cat (CatG.nil ht hs ho.cat) hl hn (by have:=ho.len;omega) (fun x hx=>by have:=(ho.fol x hx).len;omega) (pb_true ho)
theorem KeptL.ownC {w:World} {pk base:Nat} {KA:Option Addr} {kc:Nat} {kl:List Chg} (h:KeptL w pk KA kc kl) (hb:base≤pk + 1):OwnC w base KA kc kl:=⟨h.own.mono hb,fun x hx=>(h.rows x hx).mono hb,h.len⟩
theorem flatMap_one {α β : Type} (f : α → β) (l:List α):l.flatMap (fun x => [f x])=l.map f:=by
 induction l with
 | nil=>rfl
 | cons a t ih=>simp [ih]
theorem idle_RedEffective (w:World):CallsD Tryz.prog 47 #[] .returning w fun e u' w'=>e = .returned (.tuple #[])∧u' = .returning∧w'=w:=by
 refine callsD_of_wpS Tryz.func47 rfl fun c₀ cs hu => ?_
 apply wpS_region
 cases c₀
 simp_all [wpOpsS,go_sem,recoverD,Tryz.ntmps47,bodyPostS,results,Tryz.results47]
theorem red_Effective (A:Option Addr) (c m:Nat) (ts:List Tab) (LA:Option Addr) (lc n:Nat) (l:List Chg) (w:World) (ht:TabsIn w w.heap.size A ts) (hm:ts.length=m) (hs:SaneCat ts) (hl:ChgsIn w w.heap.size LA l) (hn:l.length=n) (ho:OrdOk ts l) :
 Calls Tryz.prog 20 #[.agg #[.slice A m c, .slice none 0 0, .slice none 0 0, .slice none 0 0, .slice none 0 0, .slice none 0 0, .slice none 0 0, .slice none 0 0], .slice LA n lc] w fun e w'=>(∃ KA kc kl,e = .returned (.slice KA kl.length kc)∧OwnC w' w.heap.size KA kc kl∧kl.map unC=(folL (List.replicate m Alive0) l).map (fun e=>unC e.1)∧kl.length≤n)∧Below w.heap.size w w':=by
 subst hm hn
 have HT:=qh ht
 have HS:=qh hs
 have HO:=qh ho
 have HL:=qh hl
 have h8:=ho.cat.len
 have hl1:=ho.len
 clear ht hs ho hl
 go_enter_defers Tryz.func20,Tryz.ntmps20
 go_upto_region 2 with (fail)
 refine abs_world (P:=fun u=>Code.wp _ _ _ _ u) (R:=fun u=>Blk u w.heap.size 34 #[.slice A ts.length c, .slice none 0 0, .slice none 0 0, .slice none 0 0, .slice none 0 0, .slice none 0 0, .slice none 0 0, .slice none 0 0]∧Below w.heap.size w u) ⟨?_,?_⟩ ?_
 ·exact Blk.new _ _ _
 ·exact belA
 rintro W ⟨hC,hbW⟩
 have HC:=qh hC
 have hCl:=hC.lt
 obtain ⟨p0,p1,p2,p3,p4,p5,p6,p7⟩:=Cat.blk hC
 clear hC
 go_upto_region 4 with (go_at_call 48;(with_reducible refine (tab_OrderedZ A c ts.length ts LA lc l.length l _ (HT.out.next hbW) rfl HS.out (HL.out.next hbW) rfl HO.out).mono ?_);rintro e w1 ⟨rfl,hb1⟩;have hx1:Below w.heap.size w w1:=below_nextN hbW hb1 hbW.size)
 have HC1:=qh (HC.out.below hb1 hCl)
 have hz1:=hx1.size
 have hc1:=hb1.size
 clear p0 p1 p2 p3 p4 p5 p6 p7
 go_upto_region 5 with (fail)
 obtain ⟨pk,hpk⟩ : ∃ pk,w1.heap.size=pk:=⟨_,rfl⟩
 have HPK:=qh hpk
 rw [hpk]
 have hpkw:w.heap.size≤pk:=by omega
 refine abs_world (P:=fun u=>Code.wp _ _ _ _ u) (R:=fun u=>Blk u pk 36 #[.slice none 0 0]∧Below w1.heap.size w1 u) ⟨?_,?_⟩ ?_
 ·exact Blk.new' hpk
 ·exact belA
 clear hpk
 rintro U ⟨hV,hbU⟩
 have HV:=qh hV
 have hx2:=below_nextN hx1 hbU hz1
 have HC2:=qh (HC1.out.below hbU HC1.out.lt)
 have hzU:=hV.lt
 obtain ⟨p0,p1,p2,p3,p4,p5,p6,p7⟩:=Cat.blk HC2.out
 clear hV HC HC1
 have HKE:Hid (KeptL U pk none 0 []):=qh ⟨HV.out,Owns.nil,(fun x hx=>by cases hx),(fun x hx=>by cases hx)⟩
 have HLU:Hid (ChgsIn U pk LA l):=qh (((HL.out.below hx2).mono hpkw))
 have hF : ∀ (args:Array Value) (u:World),Sem.run Tryz.prog (callFunc 50 args) u = .ok (.enter 50 args) u:=fun args u=>by kernel_rfl
 go_upto_region 6 with (go_at_call 49;(with_reducible refine (red_follow A ts.length c none 0 0 none 0 0 none 0 0 none 0 0 none 0 0 none 0 0 none 0 0 50 #[.pointer (some ⟨pk,0,none⟩)] pk (fun e => [unC e.1]) LA lc l.length l none 0 [] _ hF omA HLU.out rfl hl1 HO.out.fol (red_keepE pk _ LA l HLU.out (fun x hx=>(HO.out.fol x hx).len)) HKE.out (Nat.zero_le _)).mono ?_);rintro e w4 ⟨rfl,⟨KA,kc,kl,hk4,hkm,hkl⟩,hb4⟩)
 have HK4:=qh hk4
 have hx4:Below w.heap.size w w4:=hx2.trans (hb4.mono hpkw)
 have kv:=hk4.var.cell 0
 simp only [gE3] at kv
 clear p0 p1 p2 p3 p4 p5 p6 p7 hk4
 go_wp2_with fail
 refine leaves_cons (f := 47) (args := #[]) spA (by simp [go_sem]) ?_
 refine (idle_RedEffective _).mono ?_
 rintro e u' w'' ⟨rfl,rfl,rfl⟩
 refine ⟨_,results_tmp rfl _ _ _,?_⟩
 exact ⟨⟨KA,kc,kl,rfl,HK4.out.ownC omA,by rw [hkm,List.map_nil,List.nil_append,flatMap_one],by simpa using hkl⟩,hx4⟩
open Go.RowKit Go
theorem idle_RedHistory (w:World):CallsD Tryz.prog 58 #[] .returning w fun e u' w'=>e = .returned (.tuple #[])∧u' = .returning∧w'=w:=by
 refine callsD_of_wpS Tryz.func58 rfl fun c₀ cs hu => ?_
 apply wpS_region
 cases c₀
 simp_all [wpOpsS,go_sem,recoverD,Tryz.ntmps58,bodyPostS,results,Tryz.results58]
theorem red_History (A:Option Addr) (c m:Nat) (ts:List Tab) (LA:Option Addr) (lc n:Nat) (l:List Chg) (VA:Option Addr) (vc vn:Nat) (v:List Vn) (GA:Option Addr) (gc gn:Nat) (s:List Src) (w:World) (ht:TabsIn w w.heap.size A ts) (hm:ts.length=m) (hs:SaneCat ts) (hl:ChgsIn w w.heap.size LA l) (hn:l.length=n) (ho:OrdOk ts l)
 (hV:SliceIs w w.heap.size Vn.cells 3 VA v) (hvn:v.length=vn) (hv6:vn ≤ 1000000) (hvk : ∀ x∈v,∃ kl,Go.keyOf Tryz.prog 56 (vnV x)=some kl)
 (hG:SliceIs w w.heap.size Src.cells 2 GA s) (hgn:s.length=gn) (hg6:gn ≤ 1000000) (hgk : ∀ x∈s,∃ kl,Go.keyOf Tryz.prog 51 (srcK x)=some kl) :
 Calls Tryz.prog 23 #[.agg #[.slice A m c, .slice none 0 0, .slice none 0 0, .slice none 0 0, .slice none 0 0, .slice none 0 0, .slice none 0 0, .slice none 0 0], .slice LA n lc, .slice VA vn vc, .slice GA gn gc] w fun e w'=>(∃ KA kc kl,e = .returned (.slice KA kl.length kc)∧OwnC w' w.heap.size KA kc kl∧kl.map unC=(folL (List.replicate m Alive0) l).flatMap (hisV v s)∧kl.length≤n)∧Below w.heap.size w w':=by
 subst hm hn hvn hgn
 have HT:=qh ht
 have HS:=qh hs
 have HO:=qh ho
 have HL:=qh hl
 have HV:=qh hV
 have HVK:=qh hvk
 have HG:=qh hG
 have HGK:=qh hgk
 have h8:=ho.cat.len
 have hl1:=ho.len
 clear ht hs ho hl hV hvk hG hgk
 go_enter_defers Tryz.func23,Tryz.ntmps23
 go_upto_region 2 with (fail)
 refine abs_world (P:=fun u=>Code.wp _ _ _ _ u) (R:=fun u=>Blk u w.heap.size 34 #[.slice A ts.length c, .slice none 0 0, .slice none 0 0, .slice none 0 0, .slice none 0 0, .slice none 0 0, .slice none 0 0, .slice none 0 0]∧Below w.heap.size w u) ⟨?_,?_⟩ ?_
 ·exact Blk.new _ _ _
 ·exact belA
 rintro W ⟨hC,hbW⟩
 have HC:=qh hC
 have hCl:=hC.lt
 obtain ⟨p0,p1,p2,p3,p4,p5,p6,p7⟩:=Cat.blk hC
 clear hC
 go_upto_region 4 with (go_at_call 48;(with_reducible refine (tab_OrderedZ A c ts.length ts LA lc l.length l _ (HT.out.next hbW) rfl HS.out (HL.out.next hbW) rfl HO.out).mono ?_);rintro e w1 ⟨rfl,hb1⟩;have hx1:Below w.heap.size w w1:=below_nextN hbW hb1 hbW.size)
 have HC1:=qh (HC.out.below hb1 hCl)
 have hz1:=hx1.size
 have hc1:=hb1.size
 clear p0 p1 p2 p3 p4 p5 p6 p7
 go_upto_region 5 with (first
  | (go_at_call 37;(with_reducible refine (red_setOfV VA vc v.length v _ (HV.out.next hx1) rfl hv6 HVK.out).mono ?_);rintro e w2 ⟨⟨bv,rfl,_,hMv⟩,hb2⟩;have hx2:Below w.heap.size w w2:=below_nextN hx1 hb2 hx1.size;have HMv:=qh hMv;have HC2:=qh (HC1.out.below hb2 HC1.out.lt);clear hMv)
  | (go_at_call 38;(with_reducible refine (red_setOfS GA gc s.length s _ (HG.out.next hx2) rfl hg6 HGK.out).mono ?_);rintro e w3 ⟨⟨bs,rfl,_,hMs⟩,hb3⟩;have hx3:Below w.heap.size w w3:=below_nextN hx2 hb3 hx2.size;have HMs:=qh hMs;have HMv3:=qh (HMv.out.below hb3 HMv.out.lt);have HC3:=qh (HC2.out.below hb3 HC2.out.lt);have hz3:=hx3.size;clear hMs))
 obtain ⟨pg,hpg⟩ : ∃ pg,w3.heap.size=pg:=⟨_,rfl⟩
 have HPG:=qh hpg
 rw [hpg]
 refine abs_world (P:=fun u=>Code.wp _ _ _ _ u) (R:=fun u=>Blk u pg 88 #[.map (some bv)]∧Blk u (pg + 1) 91 #[.map (some bs)]∧Below w3.heap.size w3 u) ⟨?_,?_,?_⟩ ?_
 ·exact (Blk.new' hpg).alloc _
 ·exact Blk.new' smA
 ·exact belA
 rintro Z ⟨hPg,hPa,hbZ⟩
 have HPg:=qh hPg
 have HPa:=qh hPa
 have hgz:=hPg.lt
 have haz:=hPa.lt
 have hx4:=below_nextN hx3 hbZ hz3
 have HMV4:=qh (HMv3.out.below hbZ HMv3.out.lt)
 have HMS4:=qh (HMs.out.below hbZ HMs.out.lt)
 have HC4:=qh (HC3.out.below hbZ HC3.out.lt)
 have hvl:=HMV4.out.lt
 have hsl:=HMS4.out.lt
 have hz4:=hx4.size
 have hzz:=hbZ.size
 clear hPg hPa HMv HMs HMv3 HC HC1 HC2 HC3 hpg
 go_upto_region 6 with (fail)
 obtain ⟨pk,hpk⟩ : ∃ pk,Z.heap.size=pk:=⟨_,rfl⟩
 have HPK:=qh hpk
 rw [hpk]
 have hpkw:w.heap.size≤pk:=by omega
 refine abs_world (P:=fun u=>Code.wp _ _ _ _ u) (R:=fun u=>Blk u pk 36 #[.slice none 0 0]∧Below Z.heap.size Z u) ⟨?_,?_⟩ ?_
 ·exact Blk.new' hpk
 ·exact belA
 have hgk:pg<pk:=by omega
 have hak:pg + 1<pk:=by omega
 have hvk:bv<pk:=by omega
 have hsk:bs<pk:=by omega
 clear hpk
 rintro U ⟨hVr,hbU⟩
 have HVR:=qh hVr
 have hx5:=below_nextN hx4 hbU hz4
 have HC5:=qh (HC4.out.below hbU HC4.out.lt)
 have hzU:=hVr.lt
 obtain ⟨p0,p1,p2,p3,p4,p5,p6,p7⟩:=Cat.blk HC5.out
 clear hVr
 have HKE:Hid (KeptL U pk none 0 []):=qh ⟨HVR.out,Owns.nil,(fun x hx=>by cases hx),(fun x hx=>by cases hx)⟩
 have HLU:Hid (ChgsIn U pk LA l):=qh (((HL.out.below hx5).mono hpkw))
 have hF : ∀ (args:Array Value) (u:World),Sem.run Tryz.prog (callFunc 59 args) u = .ok (.enter 59 args) u:=fun args u=>by kernel_rfl
 have HVIS:=qh (red_keepH ts.length pg (pg + 1) pk bv bs v s U LA l HLU.out HO.out.fol omA (fun x hx=>form_col HO.out.cat (HO.out.form x hx)) (HPg.out.below hbU hgz) (HPa.out.below hbU haz) (HMV4.out.below hbU hvl) (HMS4.out.below hbU hsl) hgk hak hvk hsk)
 go_upto_region 7 with (go_at_call 49;(with_reducible refine (red_follow A ts.length c none 0 0 none 0 0 none 0 0 none 0 0 none 0 0 none 0 0 none 0 0 59 #[.pointer (some ⟨pg,0,none⟩), .pointer (some ⟨pg + 1,0,none⟩), .pointer (some ⟨pk,0,none⟩)] pk (hisV v s) LA lc l.length l none 0 [] _ hF omA HLU.out rfl hl1 HO.out.fol HVIS.out HKE.out (Nat.zero_le _)).mono ?_);rintro e w4 ⟨rfl,⟨KA,kc,kl,hk4,hkm,hkl⟩,hb4⟩)
 have HK4:=qh hk4
 have hx6:Below w.heap.size w w4:=hx5.trans (hb4.mono hpkw)
 have kv:=hk4.var.cell 0
 simp only [gE3] at kv
 clear p0 p1 p2 p3 p4 p5 p6 p7 hk4
 go_wp2_with fail
 refine leaves_cons (f := 58) (args := #[]) spA (by simp [go_sem]) ?_
 refine (idle_RedHistory _).mono ?_
 rintro e u' w'' ⟨rfl,rfl,rfl⟩
 refine ⟨_,results_tmp rfl _ _ _,?_⟩
 exact ⟨⟨KA,kc,kl,rfl,HK4.out.ownC omA,by rw [hkm,List.map_nil,List.nil_append],by simpa using hkl⟩,hx6⟩
end Go.Proofs.YtjhnpnhpmdkpcaaGreat
