/-
  Contracts and plain laws of this seat, part 57: RedN, RedT.
-/
import Derived.Test.YtjhnpnhpmdkpcaaGreatB56
import Derived.Test.YtjhnpnhpmdkpcaaGreatB31
import Derived.Test.YtjhnpnhpmdkpcaaGreatB1
import Derived.Test.YtjhnpnhpmdkpcaaGreatB2
import Derived.Test.YtjhnpnhpmdkpcaaGreatB7
set_option linter.unusedVariables false
set_option linter.unusedSimpArgs false
set_option maxRecDepth 100000
set_option maxHeartbeats 16000000
namespace Go.Proofs.YtjhnpnhpmdkpcaaGreat
open Go.RowKit Go
theorem red_versionOf (tb day:Int) (k:Nat) (A:Option Addr) (rl rc:Nat) (SA:Option Addr) (sc:Nat) (sq:List Int) (w:World) (hS:SliceIs w w.heap.size intCells 1 SA sq) (hk:k<sq.length) {z:Int} (hz:sq[k]=z) :
 Calls Tryz.prog 41 #[.int .i64 tb, .agg #[.slice A rl rc, .slice SA sq.length sc, .int .i64 day], .int .i64 k] w fun e w'=>e = .returned (.agg #[.int .i64 tb, .int .i64 k, .int .i64 z])∧Below w.heap.size w w':=by
 have HS:=qh hS
 clear hS
 go_enter Tryz.func41,Tryz.ntmps41
 go_upto_region 1 with (fail)
 refine abs_world (P:=fun u=>Code.wp _ _ _ _ u) (R:=fun u=>Blk u w.heap.size 48 #[.slice A rl rc, .slice SA sq.length sc, .int .i64 day]∧Blk u (w.heap.size + 1) 56 #[.int .i64 0, .int .i64 0, .int .i64 0]∧Below w.heap.size w u) ⟨?_,?_,?_⟩ ?_
 ·exact (Blk.new _ _ _).alloc _
 ·exact Blk.new' spA
 ·exact belA
 rintro W ⟨hR,hV,hbW⟩
 have r1:=hR.cell 1
 have v0:=hV.cell 0
 have v1:=hV.cell 1
 have v2:=hV.cell 2
 simp only [gE3] at r1 v0 v1 v2
 have hfr:=fun j=>hV.frozen j
 have hk':decide (k<sq.length)=true:=by simpa using hk
 obtain ⟨b5,o5,rfl,hb5,hc5⟩:=(HS.out.next hbW).get hk
 have s0:=hc5 0 _ rfl
 simp only [Nat.mul_one,Nat.add_zero] at s0
 rw [hz] at s0
 clear hc5 hz hR hV
 go_wp2_with fail
 refine bodyPost_ret (v := .agg #[.int .i64 tb, .int .i64 k, .int .i64 z]) (by simp [results,Tryz.results41,go_sem,v0,v1,v2]) rfl ?_
 exact ⟨rfl,by exact belA⟩
section
variable {P:Program} {ops:Array Oper} {Q:Exit→Act→World→Prop} {md:Region.Mode} {S:World→Prop}
theorem unR (i:Nat) {oi:Oper} {n:Nat} {listed:Array Bool} {a a':Act} {w:World} (hS:S w) (h:wpAnyH P md ops Q S n (listed.setIfInBounds i true) a' w)
 (hi:ops[i]? = some oi:=by exact rfl) (hs:Region.noSelect ops=true:=by kernel_rfl) (hf:Region.free md ops listed i=true:=by kernel_rfl) (hr:(Region.ready md ops listed).contains i=true:=by kernel_rfl)
 (hQ : ∀ c a w,Q (.panic c) (a.put oi.dst undef) w→Q (.panic c) a w:=by exact fun _ _ _ h=>h) (hn:Region.wanted oi (yielded ops a.tmps)=false:=by kernel_rfl)
 (ha:a.put oi.dst undef=a':=by ((try simp only [Act.put,gP6]);exact rfl)):wpAnyH P md ops Q S (n + 1) listed a w :=
 wpAnyH_take hi hs hf hr hQ (Or.inr ⟨hn,rfl⟩) hS (ha▸h)
end
theorem zero_boolR (u:World):(zeroValue 4).run Tryz.prog u = .ok (.bool false) u:=by kernel_rfl
theorem red_goneT (pg pi pr b n:Nat) (i:Nat) (v:List Vn) (A:Option Addr) (rl rc:Nat) (SA:Option Addr) (sc:Nat) (sq:List Int) (day:Int) (k:Nat) (w:World)
 (hg:Blk w pg 88 #[.map (some b)]) (hi:Blk w pi 3 #[.int .i64 i]) (hr:Blk w pr 48 #[.slice A rl rc, .slice SA sq.length sc, .int .i64 day]) (hM:MapH Tryz.prog 56 w b n (setF vnV v)) (hS:SliceIs w w.heap.size intCells 1 SA sq) (hk:k<sq.length) (hi6:i ≤ 1000000) (hl6:sq.length ≤ 1000000) (hq : ∀ s∈sq,-9223372036854775808≤s∧s ≤ 9223372036854775807) {r:Bool} (hres:(decide (0<k)&&decide ((⟨(i:Int),(k:Int),sq[k]⟩:Vn)∈v))=r) :
 Calls Tryz.prog 40 #[.int .i64 k, .pointer (some ⟨pg,0,none⟩), .pointer (some ⟨pi,0,none⟩), .pointer (some ⟨pr,0,none⟩)] w fun e w'=>e = .returned (.bool r)∧Below w.heap.size w w':=by
 by_cases h0:k = 0
 ·have HR:Hid (r=false):=qh (by have h1:decide (0<k)=false:=(by simp [h0]);rw [← hres,h1];rfl)
  have hk0:((k:Int) != 0)=false:=by rw [h0];rfl
  clear hg hi hr hM hS hk hq hres h0
  go_enter Tryz.func40,Tryz.ntmps40
  go_upto_region 1 with (fail)
  refine wp_region_held_drew (S:=fun u=>True) krA trivial (fun hHeld => ?_)
  refine tkH 0 hHeld ?_
  refine tkH 1 hHeld ?_
  refine tkH 2 hHeld ?_
  refine unR 3 hHeld ?_
  refine unR 4 hHeld ?_
  refine unR 5 hHeld ?_
  refine unR 6 hHeld ?_
  refine unR 7 hHeld ?_
  refine unR 8 hHeld ?_
  refine tkH 9 hHeld ?_
  refine tkH 10 hHeld ?_
  refine wpAnyH_done krA ?_ _
  clear hHeld
  go_wp2_with fail
  go_ret
  exact ⟨ret_bool HR.out.symm,by exact belA⟩
 ·have hk0:((k:Int) != 0)=true:=by simp;omega
  have hd:decide (0<k)=true:=by simp;omega
  rw [hd,Bool.true_and] at hres
  obtain ⟨z,hz⟩ : ∃ z,sq[k]=z:=⟨_,rfl⟩
  have hzq:=hq sq[k] (lgm hk)
  rw [hz] at hres hzq
  obtain ⟨kl,hkl⟩:=vn_key (a:=(i:Int)) (b:=(k:Int)) (c:=z) ⟨by omega,by omega⟩ ⟨by omega,by omega⟩ hzq
  have HLK:Hid (∀ u,MapH Tryz.prog 56 u b n (setF vnV v)→(Instr.lookup 88 (.map (some b)) (.agg #[.int .i64 i, .int .i64 k, .int .i64 z]) false).run Tryz.prog u = .ok (.bool r) u):=qh fun u hu=>by
   have h:=hu.look vn_keyed Tryz.underlying88 (zero_boolR u) hkl
   have h2:((setF vnV v) (.agg #[.int .i64 i, .int .i64 k, .int .i64 z])).getD (.bool false) = .bool (decide ((⟨(i:Int),(k:Int),z⟩:Vn)∈v)):=setF_get vnV_inj v ⟨(i:Int),(k:Int),z⟩
   rw [h2,hres] at h
   exact h
  have HG:=qh hg
  have HI:=qh hi
  have HB:=qh hr
  have HM:=qh hM
  have HS:=qh hS
  have HZ:=qh hz
  have hgl:=hg.lt
  have hil:=hi.lt
  have hrl:=hr.lt
  have hMl:=hM.lt
  clear hg hi hr hM hS hq hres hz hzq hkl h0 hd
  go_enter Tryz.func40,Tryz.ntmps40
  go_upto_region 1 with (fail)
  have hdr:Below w.heap.size w w.drew:=brf.drew
  refine wp_region_held_drew (S:=fun u=>u.cell? ⟨pg,0,none⟩=some (.map (some b))∧u.cell? ⟨pi,0,none⟩=some (.int .i64 i)∧u.cell? ⟨pr,0,none⟩=some (.slice A rl rc)∧u.cell? ⟨pr,1,none⟩=some (.slice SA sq.length sc)∧u.cell? ⟨pr,2,none⟩=some (.int .i64 day)∧(Instr.lookup 88 (.map (some b)) (.agg #[.int .i64 i, .int .i64 k, .int .i64 z]) false).run Tryz.prog u = .ok (.bool r) u) krA ⟨HG.out.cell 0,HI.out.cell 0,HB.out.cell 0,HB.out.cell 1,HB.out.cell 2,HLK.out _ HM.out⟩ (fun hHeld => ?_)
  refine tkH 0 hHeld ?_
  refine tkH 1 hHeld ?_
  refine tkH 2 hHeld ?_
  refine tkH 3 hHeld ?_
  refine tkH 4 hHeld ?_
  refine tkH 5 hHeld ?_
  refine tkH 6 hHeld ?_
  refine wpAnyH_ready (rs := [7]) krA spA ?_
  refine AllReadyH.cons rfl (fun K hK => ?_) AllReadyH.nil
  go_simp
  (go_at_call 41;(with_reducible refine (red_versionOf i day k A rl rc SA sc sq _ (HS.out.next hdr) hk HZ.out).mono ?_))
  rintro e w1 ⟨rfl,hb1⟩
  have hx1:=below_nextN hdr hb1 hdr.size
  go_wp2_with fail
  refine hK.out _ _ ⟨(HG.out.below hx1 hgl).cell 0,(HI.out.below hx1 hil).cell 0,(HB.out.below hx1 hrl).cell 0,(HB.out.below hx1 hrl).cell 1,(HB.out.below hx1 hrl).cell 2,HLK.out _ (HM.out.below hx1 hMl)⟩ (fun hHeld => ?_)
  clear hK K
  (try simp only [Act.put,gP6])
  refine tkH 8 hHeld ?_
  refine tkH 9 hHeld ?_
  refine tkH 10 hHeld ?_
  refine wpAnyH_done krA ?_ _
  clear hHeld
  go_wp2_with fail
  go_ret
  exact ⟨rfl,hx1⟩
theorem Owns.putVal {w:World} {base g n cap i:Nat} {l:List Val} (h:Owns w base 53 Val.cells 3 (.slice (some ⟨g,0,none⟩) n cap) l) (hn:n=l.length) (hi:i<l.length) (x:Val) :
 Owns (((w.setCell ⟨g,i * 3,none⟩ (.int .i64 x.kind)).setCell ⟨g,i * 3 + 1,none⟩ (.int .i64 x.num)).setCell ⟨g,i * 3 + 2,none⟩ (.string x.text)) base 53 Val.cells 3 (.slice (some ⟨g,0,none⟩) n cap) (l.set i x):=by
 have h0:=h.store1 val_len hn hi ⟨x.kind,l[i].num,l[i].text⟩ (j := 0) (o:=i * 3) (u := .int .i64 x.kind) omA rfl rfl
 have h1:=h0.store1 val_len (by simpa using hn) (i:=i) (by simpa using hi) ⟨x.kind,x.num,l[i].text⟩ (j := 1) (o:=i * 3 + 1) (u := .int .i64 x.num) omA rfl (by simp [Val.cells])
 have h2:=h1.store1 val_len (by simpa using hn) (i:=i) (by simpa using hi) x (j := 2) (o:=i * 3 + 2) (u := .string x.text) omA rfl (by simp [Val.cells])
 simpa only [List.set_set] using h2
def mixL (R l:List Val) (j:Nat):List Val:=R.take j++l.drop j
theorem mixL_len {R l:List Val} (h:R.length=l.length) {j:Nat} (hj:j≤l.length):(mixL R l j).length=l.length:=by
 unfold mixL
 rw [List.length_append,List.length_take,List.length_drop]
 omega
theorem mixL_zero (R l:List Val):mixL R l 0=l:=by simp [mixL]
theorem mixL_all {R l:List Val} (h:R.length=l.length):mixL R l l.length=R:=by
 unfold mixL
 rw [List.drop_length,List.append_nil,← h,List.take_length]
theorem mixL_set {R l:List Val} (h:R.length=l.length) {j:Nat} (hj:j<l.length) (hR:j<R.length):(mixL R l j).set j R[j]=mixL R l (j + 1):=by
 unfold mixL
 rw [List.set_append_right _ _ (by rw [List.length_take];omega),List.length_take,Nat.min_eq_left omA,Nat.sub_self,List.drop_eq_getElem_cons hj,List.set_cons_zero,List.take_succ_eq_append_getElem hR,List.append_assoc,List.singleton_append]
theorem mixL_same {R l:List Val} (h:R.length=l.length) {j:Nat} (hj:j<l.length) (hR:j<R.length) (he:R[j]=l[j]):mixL R l j=mixL R l (j + 1):=by
 unfold mixL
 rw [List.drop_eq_getElem_cons hj,List.take_succ_eq_append_getElem hR,List.append_assoc,List.singleton_append,he]
theorem redRow_at {v:List Vn} {i:Nat} {row:List Val} {sq:List Int} {j:Nat} (hj:j<row.length) (hs:j<sq.length):(redRow v i row sq)[j]'(by rw [redRow_len];exact hj)=if (decide (0<j)&&decide ((⟨(i:Int),(j:Int),sq[j]⟩:Vn)∈v))=true then ⟨0,0,⟨#[]⟩⟩ else row[j]:=by
 unfold redRow
 rw [List.getElem_mapIdx,List.getD_eq_getElem?_getD,List.getElem?_eq_getElem hs,Option.getD_some]
 simp
theorem red_nulledT (pg pi pr b n:Nat) (i:Nat) (v:List Vn) (A:Option Addr) (rc:Nat) (row:List Val) (SA:Option Addr) (sc:Nat) (sq:List Int) (day:Int) (w:World)
 (hg:Blk w pg 88 #[.map (some b)]) (hi:Blk w pi 3 #[.int .i64 i]) (hr:Blk w pr 48 #[.slice A row.length rc, .slice SA sq.length sc, .int .i64 day]) (hM:MapH Tryz.prog 56 w b n (setF vnV v)) (hR:SliceIs w w.heap.size Val.cells 3 A row) (hS:SliceIs w w.heap.size intCells 1 SA sq) (h0 : 0<row.length) (hk:row.length=sq.length) (hi6:i ≤ 1000000) (hl6:sq.length ≤ 1000000) (hq : ∀ s∈sq,-9223372036854775808≤s∧s ≤ 9223372036854775807) :
 Calls Tryz.prog 39 #[.agg #[.slice A row.length rc, .slice SA sq.length sc, .int .i64 day], .func (.func 40) #[] #[.pointer (some ⟨pg,0,none⟩), .pointer (some ⟨pi,0,none⟩), .pointer (some ⟨pr,0,none⟩)]] w fun e w' =>
  (∃ A' c',e = .returned (.slice A' row.length c')∧Owns w' w.heap.size 53 Val.cells 3 (.slice A' row.length c') (redRow v i row sq))∧Below w.heap.size w w':=by
 obtain ⟨b0,o0,rfl,hb0,hc0⟩:=hR h0
 have HG:=qh hg
 have HI:=qh hi
 have HB:=qh hr
 have HM:=qh hM
 have HR:=qh hR
 have HS:=qh hS
 have HQ:=qh hq
 have hgl:=hg.lt
 have hil:=hi.lt
 have hrl:=hr.lt
 have hMl:=hM.lt
 have HKL:=qh hk
 have hr6:row.length ≤ 1000000:=by omega
 have HLN:Hid ((redRow v i row sq).length=row.length):=qh (redRow_len v i row sq)
 clear hg hi hr hM hR hS hq hc0 hk
 go_enter Tryz.func39,Tryz.ntmps39
 go_upto_region 1 with (fail)
 refine abs_world (P:=fun u=>Code.wp _ _ _ _ u) (R:=fun u=>Blk u w.heap.size 48 #[.slice (some ⟨b0,o0,none⟩) row.length rc, .slice SA sq.length sc, .int .i64 day]∧Below w.heap.size w u) ⟨?_,?_⟩ ?_
 ·first|exact Blk.new _ _ _|exact Blk.new' rfl
 ·exact belA
 rintro W ⟨hD,hbW⟩
 have r0:=hD.cell 0
 simp only [gE3] at r0
 clear hD
 go_upto_region 2 with (go_at_call 76;(with_reducible refine (clone_vals b0 o0 rc row.length row _ (HR.out.next hbW) rfl omA).mono ?_);rintro e w1 ⟨⟨A5,c5,rfl,how⟩,hb1⟩)
 have hx1:=below_nextN hbW hb1 hbW.size
 have HOW:=qh (how.mono hbW.size)
 obtain ⟨q,rfl⟩ : ∃ q,A5=some ⟨q,0,none⟩:=by
  rcases how.2 with ⟨_,h⟩|⟨q,cap,cur,h,_⟩
  ·rw [h] at h0;simp at h0
  ·injection h with h
   exact ⟨q,h⟩
 clear how r0
 go_wp2_with fail
 go_loopw [12] (fun vi wr => ∃ j:Nat,j≤row.length∧vi = .int .i64 j∧Owns wr w.heap.size 53 Val.cells 3 (.slice (some ⟨q,0,none⟩) row.length c5) (mixL (redRow v i row sq) row j)∧Below w.heap.size w wr) (fun vi _=>row.length - (intOf vi).toNat)
 case atStart=>exact ⟨0,Nat.zero_le _,rfl,by rw [mixL_zero];exact HOW.out,hx1⟩
 case round =>
  obtain ⟨j,hj,rfl,ho,hbr⟩:=hrel
  have hwz:=hbr.size
  have HO:=qh ho
  have HLM:Hid (row.length=(mixL (redRow v i row sq) row j).length):=qh (mixL_len HLN.out hj).symm
  clear ho
  by_cases hlt:j<row.length
  ·have hlt':decide (j<row.length)=true:=by simpa using hlt
   have hjs:j<sq.length:=by rw [← HKL.out];exact hlt
   obtain ⟨r,hr⟩ : ∃ r,(decide (0<j)&&decide ((⟨(i:Int),(j:Int),sq[j]⟩:Vn)∈v))=r:=⟨_,rfl⟩
   have HRR:=qh hr
   have hRj:j<(redRow v i row sq).length:=by rw [HLN.out];exact hlt
   have HAT:Hid ((redRow v i row sq)[j]=if r=true then ⟨0,0,⟨#[]⟩⟩ else row[j]):=qh (by rw [redRow_at hlt hjs,hr])
   clear hr
   cases r
   ·have HMX:Hid (mixL (redRow v i row sq) row j=mixL (redRow v i row sq) row (j + 1)):=qh (mixL_same HLN.out hlt hRj (by rw [HAT.out];rfl))
    go_wp2_with (go_at_call 40;(with_reducible refine (red_goneT pg pi pr b n i v (some ⟨b0,o0,none⟩) row.length rc SA sc sq day j _ (HG.out.below hbr hgl) (HI.out.below hbr hil) (HB.out.below hbr hrl) (HM.out.below hbr hMl) (HS.out.next hbr) hjs hi6 hl6 HQ.out HRR.out).mono ?_);rintro e w2 ⟨rfl,hb2⟩)
    go_roundw
    case rel=>exact ⟨j + 1,by omega,by go_num,by rw [← HMX.out];exact HO.out.below hb2 nlr,below_nextN hbr hb2 hwz⟩
    case measure=>exact meA
   ·have hjm:j<(mixL (redRow v i row sq) row j).length:=by rw [← HLM.out];exact hlt
    have HMX:Hid ((mixL (redRow v i row sq) row j).set j ⟨0,0,⟨#[]⟩⟩=mixL (redRow v i row sq) row (j + 1)):=qh (by
     have h:=mixL_set HLN.out hlt hRj
     rw [HAT.out] at h
     exact h)
    go_upto_region 6 with (go_at_call 40;(with_reducible refine (red_goneT pg pi pr b n i v (some ⟨b0,o0,none⟩) row.length rc SA sc sq day j _ (HG.out.below hbr hgl) (HI.out.below hbr hil) (HB.out.below hbr hrl) (HM.out.below hbr hMl) (HS.out.next hbr) hjs hi6 hl6 HQ.out HRR.out).mono ?_);rintro e w2 ⟨rfl,hb2⟩)
    have HO2:=qh (HO.out.below hb2 nlr)
    have hqb:w.heap.size≤q:=HO2.out.row q rfl
    have hx2:=below_nextN hbr hb2 hwz
    have c0:=HO2.out.getE val_len HLM.out hjm (j := 0) rfl
    have c1:=HO2.out.getE val_len HLM.out hjm (j := 1) rfl
    have c2:=HO2.out.getE val_len HLM.out hjm (j := 2) rfl
    have hfz:=fun j=>HO2.out.frzE HLM.out j
    simp only [Nat.add_zero] at c0
    go_wp2_with fail
    go_roundw
    case rel=>exact ⟨j + 1,by omega,by go_num,by rw [← HMX.out];with_reducible exact HO2.out.putVal HLM.out hjm ⟨0,0,⟨#[]⟩⟩,by exact belA⟩
    case measure=>exact meA
  ·have hlt':decide (j<row.length)=false:=by simpa using hlt
   obtain rfl:j=row.length:=by omega
   have HFIN:Hid (Owns wr w.heap.size 53 Val.cells 3 (.slice (some ⟨q,0,none⟩) row.length c5) (redRow v i row sq)):=qh (by have h:=HO.out;rwa [mixL_all HLN.out] at h)
   go_wp2_with fail
   go_ret
   exact ⟨⟨_,_,rfl,HFIN.out⟩,hbr⟩
open Go.RowKit Go
theorem res_redT {d:Nat} {v:Value} (hd:d ≠ 8) (t:Array Value):results Tryz.f13 (t.setIfInBounds d v)=results Tryz.f13 t:=by
 simp [results,Tryz.results13,Array.getElem?_setIfInBounds_ne hd]
theorem idle_RedTables (w:World):CallsD Tryz.prog 35 #[] .returning w fun e u' w'=>e = .returned (.tuple #[])∧u' = .returning∧w'=w:=by
 refine callsD_of_wpS Tryz.func35 rfl fun c₀ cs hu => ?_
 apply wpS_region
 cases c₀
 simp_all [wpOpsS,go_sem,recoverD,Tryz.ntmps35,bodyPostS,results,Tryz.results35]
theorem red_Tables (A0:Option Addr) (n0 c0:Nat) (A1:Option Addr) (n1 c1:Nat) (A2:Option Addr) (n2 c2:Nat) (A3:Option Addr) (n3 c3:Nat) (A4:Option Addr) (n4 c4:Nat) (A5:Option Addr) (n5 c5:Nat) (A6:Option Addr) (n6 c6:Nat) (A7:Option Addr) (n7 c7:Nat) (RA:Option Addr) (rc n:Nat) (rt:List RTab) (VA:Option Addr) (vc vn:Nat) (v:List Vn) (GA:Option Addr) (gc gn:Nat) (s:List Src) (w:World)
 (hv : ∀ u,Below w.heap.size w u→Calls Tryz.prog 36 #[.agg #[.slice A0 n0 c0, .slice A1 n1 c1, .slice A2 n2 c2, .slice A3 n3 c3, .slice A4 n4 c4, .slice A5 n5 c5, .slice A6 n6 c6, .slice A7 n7 c7], .slice RA n rc] u fun e u'=>e = .returned (.bool true)∧Below u.heap.size u u')
 (hR:RTabsIn w w.heap.size RA rt) (hn:rt.length=n) (hsr:SaneR rt) (h0 : ∀ t∈rt,∀ r∈t.recs,0<r.row.length∧r.row.length=r.seq.length ∧ ∀ x∈r.seq,(-9223372036854775808:Int)≤x∧x ≤ 9223372036854775807)
 (hV:SliceIs w w.heap.size Vn.cells 3 VA v) (hvn:v.length=vn) (hv6:vn ≤ 1000000) (hvk : ∀ x∈v,∃ kl,Go.keyOf Tryz.prog 56 (vnV x)=some kl)
 (hG:SliceIs w w.heap.size Src.cells 2 GA s) (hgn:s.length=gn) (hg6:gn ≤ 1000000) (hgk : ∀ x∈s,∃ kl,Go.keyOf Tryz.prog 51 (srcK x)=some kl) :
 Calls Tryz.prog 13 #[.agg #[.slice A0 n0 c0, .slice A1 n1 c1, .slice A2 n2 c2, .slice A3 n3 c3, .slice A4 n4 c4, .slice A5 n5 c5, .slice A6 n6 c6, .slice A7 n7 c7], .slice RA n rc, .slice VA vn vc, .slice GA gn gc] w fun e w' =>
  (∃ B q rt',e = .returned (.slice (some ⟨q,0,none⟩) n n)∧w.heap.size≤B∧rt'.length=n∧Owns w' B 45 RTab.cells 1 (.slice (some ⟨q,0,none⟩) n n) rt'∧OwnT w' B rt'∧rt'.map pureT=redE v s (rt.map pureT))∧Below w.heap.size w w':=by
 subst hn hvn hgn
 have hn6:=hsr.len
 obtain ⟨i7,hi7,hz7,hs7,hb7⟩:=info_parts infoRTab
 obtain ⟨ir,hir,hzr1,hzr2,hzr3⟩:=info_parts infoRcd
 have hmk : ∀ u:World,(Instr.makeSlice 38 (.int .i64 (rt.length:Int)) (.int .i64 (rt.length:Int))).run Tryz.prog u = .ok (.slice (some ⟨u.heap.size,0,none⟩) rt.length rt.length) (u.alloc (.cells (madeCells (RTab.cells zeroT).toArray (rt.length * 1)) 45)):=fun u=>by
  have:=run_make_rowN (P:=Tryz.prog) 38 45 i7 (.slice none 0 0) Tryz.underlying38 hi7 hz7 .i64 .i64 rt.length rt.length nlr (by rw [hb7];omega) omA u
  rw [hs7] at this
  exact this
 have HVAL:=qh hv
 have HL:=qh hR
 have HS:=qh hsr
 have H0:=qh h0
 have HV:=qh hV
 have HVK:=qh hvk
 have HG:=qh hG
 have HGK:=qh hgk
 clear hv hR hsr h0 hV hvk hG hgk hi7 hz7 hs7 hb7
 go_enter_defers Tryz.func13,Tryz.ntmps13
 go_upto_region 2 with (fail)
 refine abs_world (P:=fun u=>Code.wp _ _ _ _ u) (R:=fun u=>Blk u w.heap.size 34 #[.slice A0 n0 c0, .slice A1 n1 c1, .slice A2 n2 c2, .slice A3 n3 c3, .slice A4 n4 c4, .slice A5 n5 c5, .slice A6 n6 c6, .slice A7 n7 c7]∧Below w.heap.size w u) ⟨?_,?_⟩ ?_
 ·exact Blk.new _ _ _
 ·exact belA
 rintro W ⟨hC,hbW⟩
 have p0:=hC.cell 0
 have p1:=hC.cell 1
 have p2:=hC.cell 2
 have p3:=hC.cell 3
 have p4:=hC.cell 4
 have p5:=hC.cell 5
 have p6:=hC.cell 6
 have p7:=hC.cell 7
 simp only [gE3] at p0 p1 p2 p3 p4 p5 p6 p7
 clear hC
 go_upto_region 4 with (go_at_call 36;(with_reducible refine (HVAL.out _ hbW).mono ?_);rintro e w1 ⟨rfl,hb1⟩;have hx1:Below w.heap.size w w1:=below_nextN hbW hb1 hbW.size)
 clear p0 p1 p2 p3 p4 p5 p6 p7
 go_upto_region 5 with (first
  | (go_at_call 37;(with_reducible refine (red_setOfV VA vc v.length v _ (HV.out.next hx1) rfl hv6 HVK.out).mono ?_);rintro e w2 ⟨⟨bv,rfl,_,hMv⟩,hb2⟩;have hx2:Below w.heap.size w w2:=below_nextN hx1 hb2 hx1.size;have HMv:=qh hMv;clear hMv)
  | (go_at_call 38;(with_reducible refine (red_setOfS GA gc s.length s _ (HG.out.next hx2) rfl hg6 HGK.out).mono ?_);rintro e w3 ⟨⟨bs,rfl,_,hMs⟩,hb3⟩;have hx3:Below w.heap.size w w3:=below_nextN hx2 hb3 hx2.size;have HMs:=qh hMs;have HMv3:=qh (HMv.out.below hb3 HMv.out.lt);have hz3:=hb3.size;clear hMs))
 refine abs_world (P:=fun u=>Code.wp _ _ _ _ u) (R:=fun u=>Blk u w3.heap.size 88 #[.map (some bv)]∧Below w3.heap.size w3 u) ⟨?_,?_⟩ ?_
 ·exact Blk.new' rfl
 ·exact belA
 rintro w4 ⟨hP,hb4⟩
 have HP4:=qh hP
 have hpl:=hP.lt
 have HMv4:=qh (HMv3.out.below hb4 HMv3.out.lt)
 have HMs4:=qh (HMs.out.below hb4 HMs.out.lt)
 have hx4:=below_nextN hx3 hb4 hx3.size
 have hvl:=HMv4.out.lt
 have hsl:=HMs4.out.lt
 have hz4:=hx4.size
 clear hP HMv HMs HMv3
 go_upto_region 6 with (fail)
 clear hmk
 refine abs_world (P:=fun u=>Code.wp _ _ _ _ u) (R:=fun u=>Owns u w4.heap.size 45 RTab.cells 1 (.slice (some ⟨w4.heap.size,0,none⟩) rt.length rt.length) (List.replicate rt.length zeroT)∧Below w4.heap.size w4 u) ⟨?_,?_⟩ ?_
 ·exact Owns.made rtab_len omA (by rw [Nat.mul_one];exact Blk.new' rfl) nlr mxA
 ·exact belA
 rintro Z ⟨hO,hbZ⟩
 have HO:=qh hO
 have hqZ:=hO.lt w4.heap.size rfl
 clear hO
 go_wp2_with fail
 go_loopw [30] (fun vi wr => ∃ (m:Nat) (l:List RTab),m≤rt.length∧vi = .int .i64 m∧RedTo v s rt l m 0∧Owns wr w4.heap.size 45 RTab.cells 1 (.slice (some ⟨w4.heap.size,0,none⟩) rt.length rt.length) l∧OwnT wr w4.heap.size l∧Below w4.heap.size w4 wr) (fun vi _=>rt.length - (intOf vi).toNat)
 case atStart=>exact ⟨0,_,Nat.zero_le _,rfl,RedTo.zero v s rt,HO.out,OwnT.zero _ _ _,hbZ⟩
 case round =>
  obtain ⟨m,l,hm,rfl,hct,hol,hot,hbr⟩:=hrel
  have HCT:=qh hct
  have HOL:=qh hol
  have HOT:=qh hot
  have hqo:=hol.lt w4.heap.size rfl
  have hwz:=hbr.size
  have hxr:=below_nextN hx4 hbr hx4.size
  clear hct hol hot
  by_cases hlt:m<rt.length
  ·obtain ⟨b,o,hAe,hb,hc⟩:=(HL.out.1.below hxr).get hlt
   have c0:=hc 0 _ rfl
   have hrecs:=HL.out.2 rt[m] (lgm hlt)
   have hrl:=HS.out.recs rt[m] (lgm hlt)
   have hrw:=HS.out.row rt[m] (lgm hlt)
   have h0:=H0.out rt[m] (lgm hlt)
   have HNX:=qh (fun (l:List RTab) (h:RedTo v s rt l m rt[m].recs.length)=>h.next hlt rfl)
   have HPT:=qh (fun (l:List RTab) (k:Nat) (h:RedTo v s rt l m k)=>h.put hlt)
   have HSK:=qh (fun (l:List RTab) (k:Nat) (h:RedTo v s rt l m k)=>h.skip hlt)
   obtain ⟨⟨TA,tc,recs⟩,hx⟩ : ∃ x:RTab,rt[m]=x:=⟨_,rfl⟩
   rw [hx] at c0 hrecs hrl hrw h0 HNX HPT HSK
   simp only [Nat.mul_one,Nat.add_zero] at c0 hrecs hrl hrw h0 HNX HPT HSK
   have HR:=qh hrecs
   have HRW:=qh hrw
   have HH0:=qh h0
   subst hAe
   clear hc hx hrecs hrw h0
   go_upto_region 9 with (fail)
   refine abs_world (P:=fun u=>Code.wp _ _ _ _ u) (R:=fun u=>Blk u wr.heap.size 3 #[.int .i64 m]∧Below wr.heap.size wr u) ⟨?_,?_⟩ ?_
   ·exact Blk.new' rfl
   ·exact belA
   rintro X1 ⟨hI,hbI⟩
   have HI:=qh hI
   have hil:=hI.lt
   have hbI4:=below_nextN hbr hbI hwz
   have HOL1:=qh (HOL.out.below hbI nlr)
   have HOT1:=qh (HOT.out.below hbI nlr)
   clear hI c0
   go_wp2_with fail
   obtain ⟨wo,rfl⟩ : ∃ wo:World,wo=wr:=⟨_,rfl⟩
   go_loopw [37] (fun vk wi => ∃ (k:Nat) (l:List RTab),k≤recs.length∧vk = .int .i64 k∧RedTo v s rt l m k∧Owns wi w4.heap.size 45 RTab.cells 1 (.slice (some ⟨w4.heap.size,0,none⟩) rt.length rt.length) l∧OwnT wi w4.heap.size l∧Below w4.heap.size w4 wi∧Blk wi wo.heap.size 3 #[.int .i64 m]) (fun vk _=>recs.length - (intOf vk).toNat)
   case atStart=>exact ⟨0,l,Nat.zero_le _,rfl,HCT.out,HOL1.out,HOT1.out,hbI4,HI.out⟩
   case round =>
    clear HCT HOL HOT HOL1 HOT1
    obtain ⟨k,l,hk,rfl,hct,hol,hot,hbi,hI⟩:=hrel
    have HCT:=qh hct
    have hml:m<l.length:=by rw [hct.len];exact hlt
    have hrk:=hct.reclen hlt hml
    have hiz:=hbi.size
    have hxi:=below_nextN hx4 hbi hx4.size
    have HOL:=qh hol
    have HOT:=qh hot
    have HI2:=qh hI
    have hil2:=hI.lt
    clear hct hol hot hI
    by_cases hkl:k<recs.length
    ·obtain ⟨b2,o2,rfl,hb2,hc2⟩:=(HR.out.1.below hxi).get hkl
     obtain ⟨d0,d1,d2⟩:=Rcd.cells3 hc2
     have hri:=(HR.out.2 recs[k] (lgm hkl)).below hxi
     have hr1:=HRW.out recs[k] (lgm hkl)
     obtain ⟨h01,h02,h03⟩:=HH0.out recs[k] (lgm hkl)
     have HPK:=qh (fun (hst:stays s m (pureR recs[k])=true) (r':Rcd) (h:pureR r'=redR v m (pureR recs[k]))=>HPT.out l k HCT.out hml hkl hst h)
     have HKK:=qh (fun (hst:stays s m (pureR recs[k])=false)=>HSK.out l k HCT.out hkl hst)
     obtain ⟨⟨RA2,rc2,row,SA,sc,sq,dy⟩,hy⟩ : ∃ x:Rcd,recs[k]=x:=⟨_,rfl⟩
     rw [hy] at d0 d1 d2 hri hr1 HPK HKK h01 h02 h03
     simp only at d0 d1 d2 hri hr1 HPK HKK h01 h02 h03
     have hs0 : 0<sq.length:=by omega
     have hs0':decide (0<sq.length)=true:=by simpa using hs0
     have hs0i:decide ((0:Int)<(sq.length:Int))=true:=by simp;omega
     obtain ⟨rb,ro,rfl,hrb,_⟩:=hri.1.get h01
     obtain ⟨sb,so,rfl,hsb,hsc⟩:=hri.2.get hs0
     have hq0:=hsc 0 _ rfl
     obtain ⟨z0,hz0⟩ : ∃ z,sq[0]=z:=⟨_,rfl⟩
     have h3z:=h03 sq[0] (lgm hs0)
     rw [hz0] at hq0 h3z
     simp only [Nat.zero_mul,Nat.add_zero] at hq0
     obtain ⟨st,hst⟩ : ∃ st,decide ((⟨(m:Int),z0⟩:Src)∈s)=st:=⟨_,rfl⟩
     have HST:Hid (stays s m (pureR ⟨some ⟨rb,ro,none⟩,rc2,row,some ⟨sb,so,none⟩,sc,sq,dy⟩) = !st):=qh (by
      have e1:sq.headD 0=z0:=by rw [← hz0];cases sq with
       | nil=>simp at hs0
       | cons a t=>rfl
      show (!decide ((⟨(m:Int),sq.headD 0⟩:Src)∈s))=_
      rw [e1,hst])
     obtain ⟨kl,hkl2⟩:=srcK_key (a:=(m:Int)) (b:=z0) ⟨by omega,by omega⟩ h3z
     have HLK:Hid (∀ u,MapH Tryz.prog 51 u bs s.length (setF srcK s)→(Instr.lookup 91 (.map (some bs)) (.agg #[.int .i64 m, .int .i64 z0]) false).run Tryz.prog u = .ok (.bool st) u):=qh fun u hu=>by
      have h:=hu.look srcK_keyed Tryz.underlying91 (zero_boolR u) hkl2
      have h2:((setF srcK s) (.agg #[.int .i64 m, .int .i64 z0])).getD (.bool false) = .bool (decide ((⟨(m:Int),z0⟩:Src)∈s)):=setF_get srcK_inj s ⟨(m:Int),z0⟩
      rw [h2,hst] at h
      exact h
     have HRI:=qh hri
     have HKL:=qh h02
     have HQ3:=qh h03
     have HQ0:=qh hq0
     clear hc2 hy hri hsc hz0 h3z hst hkl2 h02 h03 hq0
     go_upto_region 12 with (fail)
     obtain ⟨X,hX⟩ : ∃ X,wr.heap.size=X:=⟨_,rfl⟩
     have htx:=(HOT.out.tab l[m] (lgm hml)).lt
     rw [hX] at htx
     rw [hX]
     refine abs_world (P:=fun u=>Code.wp _ _ _ _ u) (R:=fun u=>Blk u X 48 #[.slice (some ⟨rb,ro,none⟩) row.length rc2, .slice (some ⟨sb,so,none⟩) sq.length sc, .int .i64 dy]∧Below wr.heap.size wr u) ⟨?_,?_⟩ ?_
     ·exact Blk.new' hX
     ·exact belA
     have HXI:Hid (X=wr.heap.size):=qh hX.symm
     clear hX
     rintro W9 ⟨hB9,hb9⟩
     have hwz9:=hb9.size
     have hx9:=below_nextN hxi hb9 hxi.size
     have hb94:=below_nextN hbi hb9 hiz
     have hXz:=hB9.lt
     have e0:=hB9.cell 0
     have e1:=hB9.cell 1
     have e2:=hB9.cell 2
     simp only [gE3] at e0 e1 e2
     have HB9:=qh hB9
     have HI9:=qh (HI2.out.below hb9 hil2)
     have i0:=HI9.out.cell 0
     simp only [gE3] at i0
     have hq0:=(hb9.cell (p:=⟨sb,so,none⟩) (show sb<wr.heap.size by have:=hxi.size;omega)).trans HQ0.out
     have hk0:=keepQ (w:=W9) X hXz
     have hk1:=keepQ (w:=W9) wo.heap.size omA
     have hk2:=keepQ (w:=W9) sb (by have:=hxi.size;omega)
     have HM9:=qh (HMs4.out.below hb94 hsl)
     have hlk : ∀ x:BelOf W9,(Instr.lookup 91 (.map (some bs)) (.agg #[.int .i64 m, .int .i64 z0]) false).run Tryz.prog x.u = .ok (.bool st) x.u:=fun x=>HLK.out _ (HM9.out.below x.h HM9.out.lt)
     clear hB9 d0 d1 d2
     refine wp_region_bel krA krA ?_;(repeat (go_big_quiet_step (fail)));refine wpQuiet_nil ?_;intro wq hq
     clear hk0 hk1 hk2 hlk hq0 i0 e0 e1 e2
     have hbq:=below_nextN hb9 hq hwz9
     have hbq4:=below_nextN hbi hbq hiz
     have hqz:=hbq.size
     have hxq:=below_nextN hxi hbq hxi.size
     cases st
     case true =>
      have HNXT:=qh (HKK.out (by rw [HST.out];rfl))
      go_wp2_with fail
      go_roundw
      case rel=>exact ⟨k + 1,l,by omega,by go_num,HNXT.out,HOL.out.below hbq nlr,HOT.out.below hbq nlr,hbq4,HI2.out.below hbq hil2⟩
      case measure=>exact meA
     have hXq:X<wq.heap.size:=by have:=hq.size;omega
     have HBq:=qh (HB9.out.below hq hXz)
     have e0:=HBq.out.cell 0
     have e1:=HBq.out.cell 1
     have e2:=HBq.out.cell 2
     simp only [gE3] at e0 e1 e2
     have hl6:sq.length ≤ 1000000:=by have:=HKL.out;omega
     have hm6:m ≤ 1000000:=by omega
     have HRq:=qh ((HRI.out.mono hxi.size).next hbq)
     have HRAq:=qh (show SliceIs wq wq.heap.size Val.cells 3 (some ⟨rb,ro,none⟩) row from HRq.out.1)
     have HRSq:=qh (show SliceIs wq wq.heap.size intCells 1 (some ⟨sb,so,none⟩) sq from HRq.out.2)
     have HOLq:=qh (HOL.out.below hbq nlr)
     have HOTq:=qh (HOT.out.below hbq nlr)
     have HIq:=qh (HI2.out.below hbq hil2)
     clear hb9 HM9
     go_upto_region 14 with (go_at_call 39;(with_reducible refine (red_nulledT w3.heap.size wo.heap.size X bv v.length m v (some ⟨rb,ro,none⟩) rc2 row (some ⟨sb,so,none⟩) sc sq dy _ (HP4.out.below hbq4 hpl) HIq.out HBq.out (HMv4.out.below hbq4 hvl) HRAq.out HRSq.out h01 HKL.out hm6 hl6 HQ3.out).mono ?_);rintro e w5 ⟨⟨RA',rcp,rfl,hown1⟩,hb5⟩)
     have hz5:=hb5.size
     have HOWN1:Hid (Owns w5 wq.heap.size 53 Val.cells 3 (.slice RA' (redRow v m row sq).length rcp) (redRow v m row sq)):=qh (by rw [redRow_len];exact hown1)
     have HRL:Hid ((redRow v m row sq).length=row.length):=qh (redRow_len v m row sq)
     clear hown1 e0 e1 e2
     have hB5:=HBq.out.below hb5 hXq
     have e0:=hB5.cell 0
     have e1:=hB5.cell 1
     have e2:=hB5.cell 2
     have i0:=(HIq.out.below hb5 omA).cell 0
     simp only [gE3] at e0 e1 e2 i0
     have hqq:w4.heap.size<wq.heap.size:=HOLq.out.lt w4.heap.size rfl
     have gq:=HOLq.out.getE rtab_len (by rw [HCT.out.len]) hml (j := 0) rfl
     simp only [Nat.mul_one,Nat.add_zero] at gq
     have g0:=(hb5.cell (p:=⟨w4.heap.size,m,none⟩) hqq).trans gq
     clear gq
     obtain ⟨⟨TA2,tc2,cur⟩,hlm⟩ : ∃ x:RTab,l[m]=x:=⟨_,rfl⟩
     have HLM:=qh hlm
     have htb:=HOTq.out.tab l[m] (lgm hml)
     rw [hlm] at htb htx
     have HTB:=qh htb
     have HTX:=qh htx
     rw [hlm] at g0 hrk
     simp only at g0 hrk
     have hcl:cur.length ≤ 1000000:=by omega
     have hmd:decide (m<rt.length)=true:=by simpa using hlt
     have hX5:X<w5.heap.size:=by omega
     have hi5:wo.heap.size<w5.heap.size:=by omega
     have hq5:w4.heap.size<w5.heap.size:=by omega
     have HRK:=qh hrk
     clear hB5 hlm htb htx hrk
     refine wp_region_T (S:=(fun w'=>w'.cell? ⟨wo.heap.size,0,none⟩=some (.int .i64 m)∧w'.cell? ⟨X,1,none⟩=some (.slice (some ⟨sb,so,none⟩) sq.length sc)∧w'.cell? ⟨X,2,none⟩=some (.int .i64 dy)∧w'.cell? ⟨w4.heap.size,m,none⟩=some (.slice TA2 cur.length tc2))) [16] krA ⟨i0,e1,e2,g0⟩ (fun hHeld => ?_)
     refine tkT 0 hHeld ?_ (hQ:=by exact fun c a w h=>panicD (d := 52) (res_redT (by decide)) c a w h)
     refine tkT 1 hHeld ?_ (hQ:=by exact fun c a w h=>panicD (d := 53) (res_redT (by decide)) c a w h)
     refine tkT 2 hHeld ?_ (hQ:=by exact fun c a w h=>panicD (d := 54) (res_redT (by decide)) c a w h)
     refine tkT 3 hHeld ?_ (hQ:=by exact fun c a w h=>panicD (d := 55) (res_redT (by decide)) c a w h)
     refine tkT 4 hHeld ?_ (hQ:=by exact fun c a w h=>panicD (d := 56) (res_redT (by decide)) c a w h)
     refine tkT 5 hHeld ?_ (hQ:=by exact fun c a w h=>panicD (d := 57) (res_redT (by decide)) c a w h)
     refine tkT 6 hHeld ?_ (hQ:=by exact fun c a w h=>panicD (d := 58) (res_redT (by decide)) c a w h)
     refine tkT 7 hHeld ?_ (hQ:=by exact fun c a w h=>panicD (d := 59) (res_redT (by decide)) c a w h)
     refine tkT 8 hHeld ?_ (hQ:=by exact fun c a w h=>panicD (d := 60) (res_redT (by decide)) c a w h)
     refine tkT 10 hHeld ?_ (hQ:=by exact fun c a w h=>panicD (d := 62) (res_redT (by decide)) c a w h)
     refine tkT 11 hHeld ?_ (hQ:=by exact fun c a w h=>panicD (d := 63) (res_redT (by decide)) c a w h)
     refine r1T 9 (fun K hK => ?_)
     go_simp
     (go_at_call 42;(with_reducible refine (clone_ints sb so sc sq.length sq _ (HRSq.out.next hb5.drew) rfl hl6).mono ?_))
     rintro e w2 ⟨⟨SA',scp,rfl,hown2⟩,hb2⟩
     have hb52:Below w5.heap.size w5 w2:=below_nextN brf.drew hb2 nlr
     have hbq2:Below wq.heap.size wq w2:=below_nextN hb5 hb52 hz5
     have hz2:=hb52.size
     have HOWN2:Hid (Owns w2 w5.heap.size 3 intCells 1 (.slice SA' sq.length scp) sq):=qh hown2
     have HOWN12:=qh (HOWN1.out.below hb52 nlr)
     have i02:=(hb52.cell (p:=⟨wo.heap.size,0,none⟩) hi5).trans i0
     have e12:=(hb52.cell (p:=⟨X,1,none⟩) hX5).trans e1
     have e22:=(hb52.cell (p:=⟨X,2,none⟩) hX5).trans e2
     have g2:=(hb52.cell (p:=⟨w4.heap.size,m,none⟩) hq5).trans g0
     have hX2:X<w2.heap.size:=by omega
     have hi2:wo.heap.size<w2.heap.size:=by omega
     have hq2:w4.heap.size<w2.heap.size:=by omega
     clear hown2 hb2 i0 e1 e2 g0
     go_wp2_with fail
     refine hK.out _ _ _ ⟨i02,e12,e22,g2⟩ (fun hHeld => ?_)
     clear hK K
     refine tkT 12 hHeld ?_ (hQ:=by exact fun c a w h=>panicD (d := 64) (res_redT (by decide)) c a w h)
     refine r1T 13 (fun K hK => ?_)
     go_simp
     refine hK.out _ _ _ ⟨?_,?_,?_,?_⟩ (fun hHeld => ?_)
     iterate 4 (go_simp)
     clear hK K
     refine r1T 14 (fun K hK => ?_)
     (refine step_append_list _ rfl (.tmp 57) (.tmp 65) 45 rfl 48 ir _ Rcd.cells 3 56 Tryz.underlying45 hir hzr1 hzr2 hzr3 rfl omA rcd_len rcd_one w4.heap.size (.slice TA2 cur.length tc2) cur rfl (HTB.out.below (B:=wq.heap.size) belA nlr) _ _ _ [⟨RA',rcp,redRow v m row sq,SA',scp,sq,dy⟩] rfl rfl (Blk.one (enc:=Rcd.cells) (x:=⟨RA',rcp,redRow v m row sq,SA',scp,sq,dy⟩) ((Blk.new' rfl).eq (by simp only [Rcd.cells,HRL.out])) spA) smA mxA smA ?_;intro v3 w6 hown3 hg3 hat3)
     obtain ⟨A9,c9,rfl,hO3,hT3⟩:=copy_last HOLq.out HOTq.out omA belA hml HLM.out (HOWN12.out.alloc _) ((HOWN2.out.alloc _).mono hz5) hown3 hg3 hat3
     have g3:=hO3.getE rtab_len (by rw [HCT.out.len]) hml (j := 0) rfl
     have f3:=hO3.frzE (by rw [HCT.out.len]) m
     rw [HLM.out] at g3
     simp only [Nat.mul_one,Nat.add_zero] at g3
     have HBI:=qh ((HIq.out.below hbq2 omA).alloc (.cells (Rcd.cells ⟨RA',rcp,redRow v m row sq,SA',scp,sq,dy⟩).toArray 48))
     have hneI:=fun e=>(HTB.out.below hbq2 nlr).neBlk (HIq.out.below hbq2 omA) (by decide) wo.heap.size e rfl
     have kx3:=(fun j=>World.cell?_of_block (a:=⟨X,j,none⟩) (hg3.block X smA (fun e=>by have:=HTX.out X e.symm;omega)))
     have ki3:=(fun j=>World.cell?_of_block (a:=⟨wo.heap.size,j,none⟩) (hg3.block wo.heap.size smA (fun e=>hneI e.symm)))
     have hx3:Below w4.heap.size w4 w6:=Below.grown (below_nextN hbq4 belA omA) hg3 smA HTB.out.row
     have HI6:Hid (Blk w6 wo.heap.size 3 #[.int .i64 m]):=qh (((HIq.out.below hbq2 omA).alloc _).grown hg3 (fun e=>hneI e.symm))
     refine hK.out _ _ _ ⟨?_,?_,?_,?_⟩ (fun hHeld => ?_)
     iterate 4 (go_simp)
     clear hK K
     refine tkT 15 hHeld ?_ (hQ:=by exact fun c a w h=>panicD (d := 67) (res_redT (by decide)) c a w h)
     refine rzT 16 (fun K hK => ?_)
     go_simp
     refine hK.out _ _ _ ?_
     clear hK K
     refine wpT_done krA ?_ _
     clear hHeld
     obtain ⟨hO4,hT4⟩:=copy_store hO3 (by rw [HCT.out.len]) (by simpa using hT3) hml
     have HO4:=qh hO4
     have HT4:=qh hT4
     have HNEW:=qh (HPK.out (by rw [HST.out];rfl) ⟨RA',rcp,redRow v m row sq,SA',scp,sq,dy⟩ rfl A9 c9)
     clear hO4 hT4 hO3 hT3 g3 f3 g2 i02 e12 e22 kx3 ki3 hneI
     go_wp2_with fail
     go_roundw
     case rel=>exact ⟨k + 1,_,by omega,by go_num,by (have h:=HNEW.out;rw [HLM.out] at h;exact h),by simpa using HO4.out,by simpa using HT4.out,hx3.setCell nlr _,HI6.out.far (by show wo.heap.size≠w4.heap.size;omega) _⟩
     case measure=>exact meA
    ·have hkl':decide (k<recs.length)=false:=by simpa using hkl
     have hke:k=recs.length:=by omega
     have HNXT:Hid (RedTo v s rt l (m + 1) 0):=qh (HNX.out l (by rw [← hke];exact HCT.out))
     clear hke
     go_wp2_with fail
     go_roundw
     case rel=>exact ⟨m + 1,l,by omega,by go_num,HNXT.out,HOL.out,HOT.out,hbi⟩
     case measure=>exact meA
  ·have hlt':decide (m<rt.length)=false:=by simpa using hlt
   have hme:m=rt.length:=by omega
   have HDN:Hid (l.map pureT=redE v s (rt.map pureT)):=qh (RedTo.done (by rw [← hme];exact HCT.out))
   have HLN:=qh HCT.out.len
   clear hme
   go_wp2_with fail
   refine leaves_cons (f := 35) (args := #[]) spA (by simp [go_sem]) ?_
   refine (idle_RedTables _).mono ?_
   rintro e u' w'' ⟨rfl,rfl,rfl⟩
   refine ⟨_,results_tmp rfl _ _ _,?_⟩
   exact ⟨⟨w4.heap.size,w4.heap.size,l,rfl,hz4,HLN.out,HOL.out,HOT.out,HDN.out⟩,hxr⟩
end Go.Proofs.YtjhnpnhpmdkpcaaGreat
