/-
  Contracts and plain laws of this seat, part 22: PSort, PRet1, PRet2, PRet3.
-/
import Derived.Test.YtlpgmdhnjckplaaGreatSortLay
import Derived.Shelf.SlSortCmp.NoneTotal
import Derived.Test.YtlpgmdhnjckplaaGreatR1
import Derived.Test.YtlpgmdhnjckplaaGreatR4
import Derived.Test.YtlpgmdhnjckplaaGreatR21
import Derived.Test.YtlpgmdhnjckplaaGreatR18
import Derived.Test.YtlpgmdhnjckplaaGreatR3
import Derived.DeepKeys4
import Derived.Test.YtlpgmdhnjckplaaGreatR7
set_option linter.unusedVariables false
set_option linter.unusedSimpArgs false
set_option maxRecDepth 100000
set_option maxHeartbeats 16000000
namespace Go.Proofs.YtlpgmdhnjckplaaGreat
open Go.RowKit Go.Shelf Go.Sort
theorem flatK_eq {α : Type} [Inhabited α] {enc : α → List Value} {k:Nat} (hk : ∀ x,(enc x).length=k) (l:List α):flatK enc k l.toArray=(l.flatMap enc).toArray:=by
 apply ext_get!
 ·simp [flat_length hk]
 ·intro t ht
  have ht:t<l.length*k:=by simpa using ht
  have hk0 : 0<k:=by
   rcases Nat.eq_zero_or_pos k with h|h
   ·rw [h] at ht;omega
   ·exact h
  have hi:t / k<l.length:=Nat.div_lt_of_lt_mul (by rw [Nat.mul_comm];exact ht)
  have hj:t % k<(enc l[t / k]).length:=by rw [hk];exact Nat.mod_lt _ hk0
  rw [get_flatK enc k _ t (by simpa using ht)]
  have h1:=flat_get hk l (t / k) hi (t % k) _ (List.getElem?_eq_getElem hj)
  rw [Nat.div_add_mod' t k] at h1
  have e1:l.toArray[t / k]! = l[t / k]:=by rw [getElem!_pos _ _ (by simpa using hi)];simp
  have hfl:t<(l.flatMap enc).length:=by rw [flat_length hk];exact ht
  rw [e1,getElem!_pos (enc l[t / k]) (t % k) hj,getElem!_pos (l.flatMap enc).toArray t (by simpa using hfl)]
  rw [List.getElem?_eq_getElem hfl] at h1
  simpa using (Option.some.inj h1).symm
theorem take_putId (cur:Array Value) (ts:List Value) (h:ts.length≤cur.size):(putCells id 0 ts.toArray cur).toList.take ts.length=ts:=by
 apply List.ext_getElem?
 intro j
 by_cases hj:j<ts.length
 ·rw [List.getElem?_take_of_lt hj,Array.getElem?_toList]
  simp [putCells,hj,show j<cur.size by omega]
 ·rw [List.getElem?_take_eq_none omA,List.getElem?_eq_none omA]
theorem cmpSrc_swo:SWO (ltOf cmpSrc) where
 irrefl x:=by simp only [ltOf,decide_eq_false_iff_not];rw [cmpSrc_lt];exact lessS_irrefl x
 trans x y z h1 h2:=by
  simp only [ltOf,decide_eq_true_eq,cmpSrc_lt] at *
  exact lessS_trans h1 h2
 ntrans x y z h1 h2:=by
  simp only [ltOf,decide_eq_false_iff_not,cmpSrc_lt] at *
  unfold lessS at *
  omega
theorem ret_cmp (x y:Src) (w:World) :
 Calls Tryz.prog 76 #[.agg #[.int .i64 x.tab, .int .i64 x.seq], .agg #[.int .i64 y.tab, .int .i64 y.seq]] w fun e w' =>
  e = .returned (.int .i64 (cmpSrc x y))∧Ext w w':=by
 go_enter Tryz.func76,Tryz.ntmps76
 go_upto_region 1 with (fail)
 obtain ⟨W,hW⟩ : ∃ W,W=(w.alloc (.cells #[.int .i64 x.tab, .int .i64 x.seq] 68)).alloc (.cells #[.int .i64 y.tab, .int .i64 y.seq] 68):=⟨_,rfl⟩
 rw [← hW]
 have hb0:Blk W w.heap.size 68 #[.int .i64 x.tab, .int .i64 x.seq]:=by rw [hW];exact (Blk.new _ _ _).alloc _
 have hb1:Blk W (w.heap.size + 1) 68 #[.int .i64 y.tab, .int .i64 y.seq]:=by rw [hW];exact Blk.new' spA
 have hxW:Ext w W:=by rw [hW];exact extA
 have e0:=hb0.cell 0
 have e1:=hb0.cell 1
 have e2:=hb1.cell 0
 have e3:=hb1.cell 1
 simp only [List.getElem?_toArray,List.getElem?_cons_zero,List.getElem?_cons_succ] at e0 e1 e2 e3
 have mz0:=hb0.lt
 have mz1:=hb1.lt
 clear hb0 hb1 hW
 refine wp_region_held_drew (S:=(fun w'=>w'.cell? ⟨w.heap.size,0,none⟩=some (.int .i64 x.tab)∧w'.cell? ⟨w.heap.size,1,none⟩=some (.int .i64 x.seq)∧w'.cell? ⟨w.heap.size + 1,0,none⟩=some (.int .i64 y.tab)∧w'.cell? ⟨w.heap.size + 1,1,none⟩=some (.int .i64 y.seq))) krA ⟨e0,e1,e2,e3⟩ (fun hHeld => ?_)
 refine tkH 0 hHeld ?_
 refine tkH 1 hHeld ?_
 refine tkH 2 hHeld ?_
 refine tkH 3 hHeld ?_
 refine tkH 5 hHeld ?_
 refine tkH 6 hHeld ?_
 refine tkH 7 hHeld ?_
 refine tkH 8 hHeld ?_
 refine wpAnyH_ready (rs := [4]) krA spA ?_
 refine AllReadyH.cons rfl (fun K hK => ?_) AllReadyH.nil
 go_simp
 (go_at_call 133;(with_reducible refine (cmp_int _ _ _).mono ?_);rintro e w1 ⟨rfl,rfl⟩)
 go_wp2_with fail
 refine hK.out _ _ ⟨?_,?_,?_,?_⟩ (fun hHeld => ?_)
 iterate 4 (simp only [*])
 clear hK K
 (try simp only [Act.put,List.getElem_toArray,List.getElem_cons_zero,List.getElem_cons_succ,List.setIfInBounds_toArray,List.set_cons_zero,List.set_cons_succ])
 refine wpAnyH_ready (rs := [9]) krA spA ?_
 refine AllReadyH.cons rfl (fun K hK => ?_) AllReadyH.nil
 go_simp
 (go_at_call 133;(with_reducible refine (cmp_int _ _ _).mono ?_);rintro e w1 ⟨rfl,rfl⟩)
 go_wp2_with fail
 refine hK.out _ _ ⟨?_,?_,?_,?_⟩ (fun hHeld => ?_)
 iterate 4 (simp only [*])
 clear hK K
 (try simp only [Act.put,List.getElem_toArray,List.getElem_cons_zero,List.getElem_cons_succ,List.setIfInBounds_toArray,List.set_cons_zero,List.set_cons_succ])
 refine wpAnyH_ready (rs := [10]) krA spA ?_
 refine AllReadyH.cons rfl (fun K hK => ?_) AllReadyH.nil
 go_simp
 go_wp2_with fail
 refine hK.out _ _ ⟨?_,?_,?_,?_⟩ (fun hHeld => ?_)
 iterate 4 (go_simp)
 clear hK K
 (try simp only [Act.put,List.getElem_toArray,List.getElem_cons_zero,List.getElem_cons_succ,List.setIfInBounds_toArray,List.set_cons_zero,List.set_cons_succ])
 refine wpAnyH_ready (rs := [11]) krA spA ?_
 refine AllReadyH.cons rfl (fun K hK => ?_) AllReadyH.nil
 go_simp
 (go_at_call 132;(with_reducible refine (cmp_Or _ 2 2 [cmpInt x.tab y.tab,cmpInt x.seq y.seq] _ ?_ spA omA).mono ?_);(exact Blk.two (t := 3) (by with_reducible first|exact (Blk.new' spA).drew|exact Blk.new' spA) spA);rintro e w2 ⟨rfl,rfl⟩)
 go_wp2_with fail
 refine hK.out _ _ ⟨?_,?_,?_,?_⟩ (fun hHeld => ?_)
 iterate 4 (simp only [*])
 clear hK K
 (try simp only [Act.put,List.getElem_toArray,List.getElem_cons_zero,List.getElem_cons_succ,List.setIfInBounds_toArray,List.set_cons_zero,List.set_cons_succ])
 refine tkH 12 hHeld ?_
 refine wpAnyH_done krA ?_ _
 go_wp2_with fail
 go_ret
 exact ⟨ret_int (by rw [orOf_two];rfl),by exact extA⟩
theorem sort_ret (base g c:Nat) (l:List Src) (w:World) (h:Owns w base 68 Src.cells 2 (.slice (some ⟨g,0,none⟩) l.length c) l) (hn:l.length ≤ 1000000) :
 Calls Tryz.prog 75 #[.slice (some ⟨g,0,none⟩) l.length c, .func (.func 76) #[] #[]] w fun e w' =>
  e = .returned (.tuple #[]) ∧ ∃ l':List Src,l'.Perm l∧l'.Pairwise (fun a b=>lessS a b∨a=b)∧Owns w' base 68 Src.cells 2 (.slice (some ⟨g,0,none⟩) l.length c) l'∧w.grownBy w' (some g):=by
 have eg : ∀ args w,(callFunc 76 args).run Tryz.prog w = .ok (.enter 76 args) w:=enters_of Tryz.func76 krA rfl
 have hcmp:CmpLays Tryz.prog 76 #[] Src.cells 2 cmpSrc g 0 l.toArray.size w:=fun m os dk _ x y =>
  (ret_cmp x y _).mono fun e w' ⟨he,hx⟩=>⟨he,hx.grow⟩
 have hg:=h.blk_lt
 have hH:HoldsK Src.cells 2 w g 0 l.toArray:=by
  intro j hj
  rw [flatK_eq src_len] at hj ⊢
  have hj:j<(l.flatMap Src.cells).length:=by simpa using hj
  refine ⟨?_,h.frz _⟩
  rw [Nat.zero_add,World.ownsRow.cellAt h _ (by rw [← flat_length src_len];exact hj),List.getElem?_eq_getElem hj,getElem!_pos _ _ (by simpa using hj)]
  simp
 have hcon:=AnyQ.slices_SortFunc Tryz.sortSrcL 2 Tryz.isAgg68 Tryz.sizeOf68 Src.cells src_len (fun x v hv=>src_one x v hv) cmpSrc cmpSrc_swo 76 #[] g 0 c l.toArray w eg hcmp hH hg.2 smA
 change Calls Tryz.prog 75 _ _ _ at hcon
 refine hcon.mono ?_
 rintro e w' ⟨rfl,d',n,os,⟨hp1,_,hp2⟩,hs,rfl⟩
 have hlen:d'.toList.length=l.length:=by simpa using hp1
 refine ⟨rfl,d'.toList,?_,?_,?_,?_⟩
 ·have e1:(d'.extract 0 l.toArray.size).toList=d'.toList:=by rw [← hp1];simp
  have e2:(l.toArray.extract 0 l.toArray.size).toList=l:=by simp
  rw [e1,e2] at hp2
  exact hp2
 ·refine List.pairwise_iff_getElem.2 fun i j hi hj hij => ?_
  have h1:=hs i j (Nat.zero_le _) hij (by rw [List.size_toArray,← hlen];exact hj)
  rw [getElem!_pos d' j (by simpa using hj),getElem!_pos d' i (by simpa using hi)] at h1
  simp only [ltOf,decide_eq_false_iff_not,cmpSrc_lt] at h1
  rcases lessS_tri d'[i] d'[j] with h2|h2|h2
  ·exact .inl h2
  ·exact .inr h2
  ·exact absurd h2 h1
 ·rcases h.2 with ⟨h',_⟩|⟨g',cap',cur,h',hb,hgb,hnc,hcm,hcs,ht⟩
  ·simp at h'
  ·injection h' with h1 _ h3
   injection h1 with h1
   injection h1 with h1
   subst h1 h3
   have hfl:(d'.toList.flatMap Src.cells).length=l.length * 2:=by rw [flat_length src_len,hlen]
   refine ⟨by rw [flat_length src_len], .inr ⟨g,c,putCells id 0 (flatK Src.cells 2 d') cur,by rw [hlen],hb,?_,by omega,hcm,by simp [putCells,hcs],?_⟩⟩
   ·unfold sortWorldK putRowK
    rw [heap_grow_old _ _ (by simpa using hg.2)]
    simp [putRow,mapBlock,Sort.ahead,Array.getElem?_modify,hgb,onCells]
   ·have e3:flatK Src.cells 2 d'=(d'.toList.flatMap Src.cells).toArray:=flatK_eq src_len d'.toList
    rw [e3,hlen,← hfl]
    exact take_putId _ _ (by rw [hfl,hcs];omega)
 ·unfold sortWorldK putRowK
  refine ⟨rfl,rfl,rfl,by simp,fun k hk hne => ?_⟩
  rw [heap_grow_old _ _ (by simpa using hk)]
  have:g≠k:=fun e=>hne (by rw [e])
  simp [putRow,mapBlock,Sort.ahead,Array.getElem?_modify,this]
theorem sort_ret_nil (w:World) :
 Calls Tryz.prog 75 #[.slice none 0 0, .func (.func 76) #[] #[]] w fun e w'=>e = .returned (.tuple #[])∧w=w':=by
 go_enter Tryz.func75,Tryz.ntmps75
 go_wp2_with (first
  | (go_at_call 131;(with_reducible refine (Tryz.bits_Len 0 _ omA omA).mono ?_);rintro e w1 ⟨rfl,rfl⟩)
  | (go_at_call 130;(refine (pdq_nil _ _).mono ?_);rintro e w1 ⟨rfl,rfl⟩))
 first|go_end0|(refine bodyPost_ret (results_none rfl _ _ _) rfl ?_)
 exact ⟨rfl,rfl⟩
theorem sort_retN (base g c n:Nat) (l:List Src) (w:World) (hln:l.length=n) (h:Owns w base 68 Src.cells 2 (.slice (some ⟨g,0,none⟩) n c) l) (hn:n ≤ 1000000) :
 Calls Tryz.prog 75 #[.slice (some ⟨g,0,none⟩) n c, .func (.func 76) #[] #[]] w fun e w' =>
  e = .returned (.tuple #[]) ∧ ∃ l':List Src,l'.Perm l∧l'.Pairwise (fun a b=>lessS a b∨a=b)∧Owns w' base 68 Src.cells 2 (.slice (some ⟨g,0,none⟩) n c) l'∧w.grownBy w' (some g):=by
 subst hln
 exact sort_ret base g c l w h hn
open Go.RowKit Go
theorem lPRet11 {P:Prop} (h:P:=by
 go_wp2_with fail
 go_meet
 exact ⟨rfl,rfl⟩):P:=h
theorem endE_out {ts:List Tab} {x:Owned} (h:x.table < 0∨(ts.length:Int)≤x.table∨x.day < 0 ∨ 1048576<x.day):endE ts x = 0:=by
 unfold endE
 split
 ·rename_i h0
  rw [List.getElem?_eq_none omA]
 ·rfl
theorem endE_in {ts:List Tab} {x:Owned} {k:Nat} (hk:k<ts.length) (ht:x.table=(k:Int)) (h0 : 0≤x.day) (h1:x.day ≤ 1048576):endE ts x=if 0≤x.col then (match ts[k].cols[x.col.toNat]? with
 | some c=>if c.duty = 0 then 0 else x.day+c.duty
 | none => 0) else 0:=by
 unfold endE
 rw [if_pos ⟨by omega,h0,h1⟩,ht,Int.toNat_natCast,List.getElem?_eq_getElem hk]
 rfl
theorem ret_end (A:Option Addr) (c m:Nat) (ts:List Tab) (x:Owned) (w:World) (ht:TabsIn w w.heap.size A ts) (hm:ts.length=m) (hs:SaneCat ts) (hok:CatOk ts) {r:Int} (hr:endE ts x=r) :
 Calls Tryz.prog 63 #[.agg #[.slice A m c, .slice none 0 0, .slice none 0 0, .slice none 0 0, .slice none 0 0, .slice none 0 0, .slice none 0 0, .slice none 0 0], .agg #[.int .i64 x.table, .int .i64 x.col, .int .i64 x.seq, .int .i64 x.record, .int .i64 x.day, .slice x.A x.own.length x.cap, .bool x.null, .bool x.last]] w fun e w'=>e = .returned (.int .i64 r)∧Below w.heap.size w w':=by
 subst hm hr
 have h8:=hok.len
 have HT:=qh ht.1
 have HT2:=qh ht.2
 have HOK:=qh hok
 clear ht hs hok
 go_enter Tryz.func63,Tryz.ntmps63
 go_upto_region 2 with (fail)
 refine abs_world (P:=fun u=>Code.wp _ _ _ _ u) (R:=fun u=>Blk u w.heap.size 34 #[.slice A ts.length c, .slice none 0 0, .slice none 0 0, .slice none 0 0, .slice none 0 0, .slice none 0 0, .slice none 0 0, .slice none 0 0]∧Blk u (w.heap.size + 1) 55 #[.int .i64 x.table, .int .i64 x.col, .int .i64 x.seq, .int .i64 x.record, .int .i64 x.day, .slice x.A x.own.length x.cap, .bool x.null, .bool x.last]∧Blk u (w.heap.size + 1 + 1) 52 #[.int .i64 x.table, .int .i64 x.col, .int .i64 x.seq]∧Below w.heap.size w u) ⟨?_,?_,?_,?_⟩ ?_
 ·exact ((Blk.new _ _ _).alloc _).alloc _
 ·exact (Blk.new' spA).alloc _
 ·exact Blk.new' spA
 ·exact belA
 rintro W ⟨hC,hO,hV,hbW⟩
 obtain ⟨p0,_⟩:=Cat.blk hC
 have d4:=hO.cell 4
 have v0:=hV.cell 0
 have v1:=hV.cell 1
 simp only [List.getElem?_toArray,List.getElem?_cons_zero,List.getElem?_cons_succ] at d4 v0 v1
 have hVz:=hV.lt
 clear hC hO hV
 obtain ⟨r1,hr1⟩ : ∃ b,decide (x.table < 0)=b:=⟨_,rfl⟩
 obtain ⟨r2,hr2⟩ : ∃ b,decide ((ts.length:Int)≤x.table)=b:=⟨_,rfl⟩
 obtain ⟨r3,hr3⟩ : ∃ b,decide (x.day < 0)=b:=⟨_,rfl⟩
 obtain ⟨r4,hr4⟩ : ∃ b,decide (1048576<x.day)=b:=⟨_,rfl⟩
 go_cut [29] (fun v wc=>v = .bool (r1||(r2||(r3||r4)))∧W=wc)
 case first =>
  cases r1
  ·cases r2
   ·cases r3
    ·cases r4
     ·exact lPRet11
     ·exact lPRet11
    ·exact lPRet11
   ·exact lPRet11
  ·exact lPRet11
 case rest =>
  obtain ⟨rfl,rfl⟩:=hcut
  cases hb:(r1||(r2||(r3||r4)))
  ·simp only [Bool.or_eq_false_iff] at hb
   obtain ⟨rfl,rfl,rfl,rfl⟩:=hb
   rw [decide_eq_false_iff_not] at hr1 hr2 hr3 hr4
   obtain ⟨k,hk⟩ : ∃ k:Nat,x.table=(k:Int):=⟨x.table.toNat,by omega⟩
   have hkl:k<ts.length:=by omega
   have HE:=qh (endE_in hkl hk omA omA)
   obtain ⟨b5,o5,rfl,hb5,hc5⟩:=(HT.out.below hbW).get hkl
   obtain ⟨t0,t1,t2,t3⟩:=Tab.cells4 hc5
   have hcs:SliceIs w w.heap.size Col.cells 7 ts[k].A ts[k].cols:=(HT2.out ts[k] (List.getElem_mem hkl)).1
   have HCS:=qh hcs
   rw [hk] at v0
   have d1 : 0≤x.day:=by omega
   have d2:x.day ≤ 1048576:=by omega
   obtain ⟨b6,o6,he6,hb6,_⟩:=(HCS.out.below hbW).get (HOK.out.cols hkl).1
   rw [he6] at t1
   clear hcs hc5 t0 t2 t3 hr1 hr2 hr3 hr4
   go_upto_region 5 with (fail)
   by_cases hc0:x.col < 0
   ·have e0:decide (x.col < 0)=true:=by simpa using hc0
    have HE0:Hid (endE ts x = 0):=qh (by rw [HE.out,if_neg omA])
    clear hc0
    go_wp2_with fail
    go_ret
    exact ⟨ret_int HE0.out.symm,hbW⟩
   ·have e0:decide (x.col < 0)=false:=by simpa using hc0
    obtain ⟨j,hj⟩ : ∃ j:Nat,x.col=(j:Int):=⟨x.col.toNat,by omega⟩
    rw [hj] at v1 e0
    by_cases hjl:j<ts[k].cols.length
    ·obtain ⟨b6',o6',he6',_,hc6⟩:=(HCS.out.below hbW).get hjl
     rw [he6] at he6'
     injection he6' with he6'
     injection he6' with he1 he2
     subst he1 he2
     obtain ⟨_,_,_,_,_,_,c6⟩:=Col.cells7 hc6
     have HE0:Hid (endE ts x=if ts[k].cols[j].duty = 0 then 0 else x.day+ts[k].cols[j].duty):=qh (by
      rw [HE.out,if_pos omA,hj,Int.toNat_natCast,List.getElem?_eq_getElem hjl])
     have hdu:=(HOK.out.colOk hkl hjl).duty
     rw [withinB,Bool.and_eq_true,decide_eq_true_iff,decide_eq_true_iff] at hdu
     obtain ⟨du,hd⟩ : ∃ du,ts[k].cols[j].duty=du:=⟨_,rfl⟩
     rw [hd] at c6 hdu
     have HD:=qh hd
     have e1:decide ((ts[k].cols.length:Int)≤(j:Int))=false:=by simp;omega
     clear hc6 hd he6 HE hj hc0
     by_cases hd0:du = 0
     ·have e2:(du == 0)=true:=by simpa using hd0
      have HZ:=qh hd0
      clear hd0
      go_wp2_with fail
      go_ret
      exact ⟨ret_int (by rw [HE0.out,HD.out,if_pos HZ.out]),hbW⟩
     ·have e2:(du == 0)=false:=by simpa using hd0
      have HZ:=qh hd0
      clear hd0
      go_upto_region 7 with (fail)
      have hk0:=keepQ (w:=W) (w.heap.size + 1) omA
      have hk1:=keepQ (w:=W) (w.heap.size + 1 + 1) omA
      have hk2:=keepQ (w:=W) b6 (by have:=hbW.size;omega)
      refine wp_region_bel krA krA ?_;(repeat (go_big_quiet_step (fail)));refine wpQuiet_nil ?_;intro wq hq
      go_wp2_with fail
      go_ret
      exact ⟨ret_int (by rw [HE0.out,HD.out,if_neg HZ.out]),below_nextN hbW hq hbW.size⟩
    ·have HE0:Hid (endE ts x = 0):=qh (by rw [HE.out,if_pos omA,hj,Int.toNat_natCast,List.getElem?_eq_none omA])
     have e1:decide ((ts[k].cols.length:Int)≤(j:Int))=true:=by simp;omega
     clear hj hc0 HE
     go_wp2_with fail
     go_ret
     exact ⟨ret_int HE0.out.symm,hbW⟩
  ·have HE0:Hid (endE ts x = 0):=qh (endE_out (by
    rw [← hr1,← hr2,← hr3,← hr4] at hb
    simpa [Bool.or_eq_true] using hb))
   go_wp2_with fail
   go_ret
   exact ⟨ret_int HE0.out.symm,hbW⟩
theorem ret_keeps (u day:Int) (w:World) {r:Bool} (hr:keepsB u day=r):Calls Tryz.prog 65 #[.int .i64 u, .int .i64 day] w fun e w'=>e = .returned (.bool r)∧w=w':=by
 subst hr
 cases h1:(u != 0)
 ·go_enter Tryz.func65,Tryz.ntmps65
  go_wp2_with fail
  go_ret
  exact ⟨ret_bool (by simp only [keepsB,h1];rfl),rfl⟩
 ·cases h2:decide (day<u)
  ·go_enter Tryz.func65,Tryz.ntmps65
   go_wp2_with fail
   go_ret
   exact ⟨ret_bool (by simp only [keepsB,h1,h2];rfl),rfl⟩
  ·go_enter Tryz.func65,Tryz.ntmps65
   go_wp2_with fail
   go_ret
   exact ⟨ret_bool (by simp only [keepsB,h1,h2];rfl),rfl⟩
open Go.RowKit Go
theorem idle_RetUntil (w:World):CallsD Tryz.prog 61 #[] .returning w fun e u' w'=>e = .returned (.tuple #[])∧u' = .returning∧w'=w:=by
 refine callsD_of_wpS Tryz.func61 rfl fun c₀ cs hu => ?_
 apply wpS_region
 cases c₀
 simp_all [wpOpsS,go_sem,recoverD,Tryz.ntmps61,bodyPostS,results,Tryz.results61]
theorem ret_Until (A:Option Addr) (c m:Nat) (ts:List Tab) (x:Owned) (w:World) (ht:TabsIn w w.heap.size A ts) (hm:ts.length=m) (hs:SaneCat ts) (hok:CatOk ts) {r:Int} (hr:endE ts x=r) :
 Calls Tryz.prog 21 #[.agg #[.slice A m c, .slice none 0 0, .slice none 0 0, .slice none 0 0, .slice none 0 0, .slice none 0 0, .slice none 0 0, .slice none 0 0], .agg #[.int .i64 x.table, .int .i64 x.col, .int .i64 x.seq, .int .i64 x.record, .int .i64 x.day, .slice x.A x.own.length x.cap, .bool x.null, .bool x.last]] w fun e w'=>e = .returned (.int .i64 r)∧Below w.heap.size w w':=by
 subst hm
 have HT:=qh ht
 have HS:=qh hs
 have HOK:=qh hok
 clear ht hs hok
 go_enter_defers Tryz.func21,Tryz.ntmps21
 go_upto_region 2 with (fail)
 refine abs_world (P:=fun u=>Code.wp _ _ _ _ u) (R:=fun u=>Blk u w.heap.size 34 #[.slice A ts.length c, .slice none 0 0, .slice none 0 0, .slice none 0 0, .slice none 0 0, .slice none 0 0, .slice none 0 0, .slice none 0 0]∧Blk u (w.heap.size + 1) 55 #[.int .i64 x.table, .int .i64 x.col, .int .i64 x.seq, .int .i64 x.record, .int .i64 x.day, .slice x.A x.own.length x.cap, .bool x.null, .bool x.last]∧Below w.heap.size w u) ⟨?_,?_,?_⟩ ?_
 ·exact (Blk.new _ _ _).alloc _
 ·exact Blk.new' spA
 ·exact belA
 rintro W ⟨hB,hO,hbW⟩
 have hzW:=hO.lt
 have HB:=qh hB
 have HO:=qh hO
 obtain ⟨p0,p1,p2,p3,p4,p5,p6,p7⟩:=Cat.blk hB
 clear hB hO
 go_wp2_with (first
  | (go_at_call 62;(with_reducible refine (cat_Valid A c ts.length ts _ (HT.out.next hbW) rfl HS.out HOK.out).mono ?_);rintro e w1 ⟨rfl,hb1⟩;have hx1:Below w.heap.size w w1:=below_nextN hbW hb1 hbW.size;clear p0 p1 p2 p3 p4 p5 p6 p7;obtain ⟨p0,p1,p2,p3,p4,p5,p6,p7⟩:=Cat.blk (HB.out.below hb1 omA);obtain ⟨q0,q1,q2,q3,q4,q5,q6,q7⟩:=Owned.blk (HO.out.below hb1 hzW))
  | (go_at_call 63;(with_reducible refine (ret_end A c ts.length ts x _ (HT.out.next hx1) rfl HS.out HOK.out hr).mono ?_);rintro e w2 ⟨rfl,hb2⟩;have hx2:Below w.heap.size w w2:=below_nextN hx1 hb2 hx1.size))
 refine leaves_cons (f := 61) (args := #[]) spA (by simp [go_sem]) ?_;refine (idle_RetUntil _).mono ?_;rintro e u' w'' ⟨rfl,rfl,rfl⟩;refine ⟨_,results_tmp rfl _ _ _,?_⟩
 exact ⟨rfl,hx2⟩
theorem idle_RetKept (w:World):CallsD Tryz.prog 64 #[] .returning w fun e u' w'=>e = .returned (.tuple #[])∧u' = .returning∧w'=w:=by
 refine callsD_of_wpS Tryz.func64 rfl fun c₀ cs hu => ?_
 apply wpS_region
 cases c₀
 simp_all [wpOpsS,go_sem,recoverD,Tryz.ntmps64,bodyPostS,results,Tryz.results64]
theorem ret_Kept (A:Option Addr) (c m:Nat) (ts:List Tab) (x:Owned) (day:Int) (w:World) (ht:TabsIn w w.heap.size A ts) (hm:ts.length=m) (hs:SaneCat ts) (hok:CatOk ts) {r:Bool} (hr:keepsB (endE ts x) day=r) :
 Calls Tryz.prog 23 #[.agg #[.slice A m c, .slice none 0 0, .slice none 0 0, .slice none 0 0, .slice none 0 0, .slice none 0 0, .slice none 0 0, .slice none 0 0], .agg #[.int .i64 x.table, .int .i64 x.col, .int .i64 x.seq, .int .i64 x.record, .int .i64 x.day, .slice x.A x.own.length x.cap, .bool x.null, .bool x.last], .int .i64 day] w fun e w'=>e = .returned (.bool r)∧Below w.heap.size w w':=by
 subst hm
 have HT:=qh ht
 have HS:=qh hs
 have HOK:=qh hok
 clear ht hs hok
 go_enter_defers Tryz.func23,Tryz.ntmps23
 go_wp2_with (first
  | (go_at_call 21;(with_reducible refine (ret_Until A c ts.length ts x _ (HT.out.next belA) rfl HS.out HOK.out rfl).mono ?_);rintro e w1 ⟨rfl,hb1⟩;have hx1:Below w.heap.size w w1:=below_nextN belA hb1 leA)
  | (go_at_call 65;(with_reducible refine (ret_keeps (endE ts x) day _ hr).mono ?_);rintro e w2 ⟨rfl,rfl⟩))
 refine leaves_cons (f := 64) (args := #[]) spA (by simp [go_sem]) ?_;refine (idle_RetKept _).mono ?_;rintro e u' w'' ⟨rfl,rfl,rfl⟩;refine ⟨_,results_tmp rfl _ _ _,?_⟩
 exact ⟨rfl,hx1⟩
theorem src_keyed:Maps.Keyed Tryz.prog 68:=Maps.Keyed.of_law (deep_law_laid (m := 5) krA (by decide) (of_decide_eq_true krA) krA krA)
theorem int_lits {d:Nat} {a:Int} (ha : 0≤a∧a ≤ 1073741824):Tryz.prog.keyLits (d + 1) 3 [.int .i64 a]=some [.int .i64 a]:=by
 have hw:(Lit.int .i64 a).wf=true:=by
  have h1:IntKind.i64.min≤a:=Int.le_trans (by decide) ha.1
  simp [Lit.wf,h1];omega
 unfold Program.keyLits
 rw [Tryz.underlying3]
 simp [hw]
theorem src_key {a b:Int} (ha : 0≤a∧a ≤ 1073741824) (hb : 0≤b∧b ≤ 1073741824) : ∃ kl,Go.keyOf Tryz.prog 68 (.agg #[.int .i64 a, .int .i64 b])=some kl:=by
 have hsz:Tryz.prog.cellsOf 68 = 2:=by kernel_rfl
 have hs3:Tryz.prog.cellsOf 3 = 1:=by kernel_rfl
 have hkt:Tryz.prog.keyType 68=true:=by kernel_rfl
 obtain ⟨n,hn⟩ : ∃ n,Tryz.prog.types.size=n + 1:=⟨Tryz.prog.types.size - 1,by kernel_rfl⟩
 have hf:(Value.agg #[.int .i64 a, .int .i64 b]).formed Tryz.prog 68=true:=by
  unfold Value.formed
  rw [Tryz.underlying68,hsz]
  rfl
 have hl:Tryz.prog.keyLits (Tryz.prog.types.size + 1) 68 [.int .i64 a, .int .i64 b]=some [.int .i64 a, .int .i64 b]:=by
  rw [hn]
  unfold Program.keyLits
  rw [Tryz.underlying68]
  simp [hsz,hs3,int_lits ha,int_lits hb]
 refine ⟨.string (keyBytes [.int .i64 a, .int .i64 b]),?_⟩
 unfold Go.keyOf
 rw [Tryz.underlying68,hkt,hf]
 show Option.map (fun ls=>Lit.string (keyBytes ls)) (Tryz.prog.keyLits (Tryz.prog.types.size + 1) 68 [.int .i64 a, .int .i64 b])=_
 rw [hl]
 rfl
noncomputable def keptF (ts:List Tab) (o:List Owned) (day:Int) (m:Nat):Value→Option Value:=fun v=>if pb (∃ j,∃ h:j<o.length,j<m∧(o[j].last&&keepsB (endE ts o[j]) day)=true∧v = .agg #[.int .i64 o[j].table, .int .i64 o[j].record])=true then some (.bool true) else none
theorem keptF_new {ts:List Tab} {o:List Owned} {day:Int} {m:Nat} (hm:m<o.length) (hk:(o[m].last&&keepsB (endE ts o[m]) day)=true):keptF ts o day (m + 1) (.agg #[.int .i64 o[m].table, .int .i64 o[m].record])=some (.bool true):=by
 unfold keptF
 rw [if_pos (pb_true ⟨m,hm,by omega,hk,rfl⟩)]
theorem keptF_old {ts:List Tab} {o:List Owned} {day:Int} {m:Nat} (hm:m<o.length) {u:Value} (hu:(o[m].last&&keepsB (endE ts o[m]) day)=false∨u ≠ .agg #[.int .i64 o[m].table, .int .i64 o[m].record]):keptF ts o day (m + 1) u=keptF ts o day m u:=by
 unfold keptF
 have e:(∃ j,∃ h:j<o.length,j<m + 1∧(o[j].last&&keepsB (endE ts o[j]) day)=true∧u = .agg #[.int .i64 o[j].table, .int .i64 o[j].record]) ↔ ∃ j,∃ h:j<o.length,j<m∧(o[j].last&&keepsB (endE ts o[j]) day)=true∧u = .agg #[.int .i64 o[j].table, .int .i64 o[j].record]:=by
  constructor
  ·rintro ⟨j,h1,h2,h3,h4⟩
   rcases Nat.lt_or_ge j m with h5|h5
   ·exact ⟨j,h1,h5,h3,h4⟩
   ·obtain rfl:j=m:=by omega
    rcases hu with hu|hu
    ·rw [h3] at hu;cases hu
    ·exact absurd h4 hu
  ·rintro ⟨j,h1,h2,h3,h4⟩
   exact ⟨j,h1,by omega,h3,h4⟩
 rw [propext e]
theorem keptF_at {ts:List Tab} {o:List Owned} {day:Int} (s:Src):(keptF ts o day o.length (.agg #[.int .i64 s.tab, .int .i64 s.seq])).getD (.bool false) = .bool (keptS ts o day s):=by
 unfold keptF
 by_cases h:keptS ts o day s=true
 ·have h1:=h
  unfold keptS at h1
  rw [List.any_eq_true] at h1
  obtain ⟨x,hx,h2⟩:=h1
  obtain ⟨j,hj,rfl⟩:=List.getElem_of_mem hx
  simp only [Bool.and_eq_true,beq_iff_eq] at h2
  rw [if_pos (pb_true ⟨j,hj,hj,by rw [h2.1.1,h2.1.2];rfl,by rw [h2.2.1,h2.2.2]⟩),h]
  rfl
 ·rw [if_neg,Bool.eq_false_iff.2 h]
  ·rfl
  ·rw [pb_iff]
   rintro ⟨j,hj,_,h3,h4⟩
   refine h ?_
   unfold keptS
   rw [List.any_eq_true]
   refine ⟨o[j],List.getElem_mem hj,?_⟩
   injection h4 with h4
   simp only [Array.mk.injEq,List.cons.injEq,Value.int.injEq,true_and,and_true] at h4
   rw [h3,h4.1,h4.2]
   simp
theorem made_kept (w:World) (ts:List Tab) (o:List Owned) (day:Int):MapV Tryz.prog 68 4 (w.alloc (.map #[] 0)) w.heap.size 0 (keptF ts o day 0) :=
 (MapV.made w _ _ _).eqf fun x kl _=>by
   unfold keptF
   rw [pb_false (by rintro ⟨j,_,h,_⟩;omega)]
   rfl
open Go.RowKit Go
theorem keeps_in {ts:List Tab} {x:Owned} {day:Int} (h:keepsB (endE ts x) day=true) : 0≤x.table∧x.table<ts.length:=by
 refine Classical.byContradiction fun hc => ?_
 have h0:endE ts x = 0:=endE_out omA
 rw [h0] at h
 simp [keepsB] at h
theorem expT_len (ts:List Tab) (o:List Owned) (day:Int) (i:Nat) (ret:Int) (recs:List Rcd):(expT ts o day i ret recs).length≤recs.length:=by
 unfold expT
 rw [List.length_map]
 exact List.length_filter_le _ _
theorem expE_len {ts:List Tab} {rt:List RTab} {o:List Owned} {day:Int} (h : ∀ i (h:i<rt.length),rt[i].recs.length ≤ 64) : ∀ n,(expE ts rt o day n).length ≤ 64*n
 | 0=>by simp [expE]
 | n + 1=>by
   have h1:=expE_len (ts:=ts) (o:=o) (day:=day) h n
   have h2:(expAt ts rt o day n).length ≤ 64:=by
    unfold expAt
    split
    ·simp
    ·refine Nat.le_trans (expT_len ..) ?_
     unfold recsI
     by_cases hn:n<rt.length
     ·rw [List.getElem?_eq_getElem hn];exact h n hn
     ·rw [List.getElem?_eq_none omA];simp
   rw [expE,List.length_append]
   omega
theorem expAt_get {ts:List Tab} {rt:List RTab} {o:List Owned} {day:Int} {i:Nat} (h:i<ts.length) (h':i<rt.length):expAt ts rt o day i=if ts[i].retain = 0 then [] else expT ts o day i ts[i].retain rt[i].recs:=by
 unfold expAt retainAt recsI
 rw [List.getElem?_eq_getElem h,List.getElem?_eq_getElem h']
theorem expT_succ (ts:List Tab) (o:List Owned) (day:Int) (i:Nat) (ret:Int) {recs:List Rcd} {j:Nat} (hj:j<recs.length):expT ts o day i ret (recs.take (j + 1))=expT ts o day i ret (recs.take j)++(if (decide (recs[j].day+ret≤day) && !keptS ts o day (srcR i recs[j]))=true then [srcR i recs[j]] else []):=by
 unfold expT
 rw [List.take_succ_eq_append_getElem hj,List.filter_append,List.map_append]
 congr 1
 split
 ·rename_i h
  simp only [List.filter_cons,h,List.filter_nil]
  rfl
 ·rename_i h
  simp only [List.filter_cons,h,List.filter_nil]
  rfl
noncomputable def expOf (ts:List Tab) (rt:List RTab) (o:List Owned) (day:Int):List Src:=if pb (RTabsOk ts rt)=true then expE ts rt o day rt.length else []
theorem idle_RetExpired (w:World):CallsD Tryz.prog 73 #[] .returning w fun e u' w'=>e = .returned (.tuple #[])∧u' = .returning∧w'=w:=by
 refine callsD_of_wpS Tryz.func73 rfl fun c₀ cs hu => ?_
 apply wpS_region
 cases c₀
 simp_all [wpOpsS,go_sem,recoverD,Tryz.ntmps73,bodyPostS,results,Tryz.results73]
theorem ret_Expired (A:Option Addr) (c m:Nat) (ts:List Tab) (RA:Option Addr) (rc n:Nat) (rt:List RTab) (OA:Option Addr) (oc k:Nat) (o:List Owned) (day:Int) (w:World) (ht:TabsIn w w.heap.size A ts) (hm:ts.length=m) (hs:SaneCat ts) (hok:CatOk ts) (hR:RTabsIn w w.heap.size RA rt) (hn:rt.length=n) (hsr:SaneR rt) (hO:SliceIs w w.heap.size Owned.cells 8 OA o) (hol:o.length=k) (hk:k ≤ 1000000) (hrec : ∀ x∈o,1≤x.record∧x.record ≤ 1073741824) :
 Calls Tryz.prog 29 #[.agg #[.slice A m c, .slice none 0 0, .slice none 0 0, .slice none 0 0, .slice none 0 0, .slice none 0 0, .slice none 0 0, .slice none 0 0], .slice RA n rc, .slice OA k oc, .int .i64 day] w fun e w' =>
  (∃ EA ec l,e = .returned (.slice EA l.length ec)∧SliceIs w' w'.heap.size Src.cells 2 EA l∧(∀ a,EA=some a→w.heap.size≤a.block)∧l.Perm (expOf ts rt o day)∧l.Pairwise (fun a b=>lessS a b∨a=b))∧Below w.heap.size w w':=by
 subst hm hn hol
 obtain ⟨i0,hi0,hz0,hz1,hz2⟩:=info_parts infoSrc
 have h8:=hok.len
 have HT:=qh ht
 have HT1:=qh ht.1
 have HS:=qh hs
 have HOK:=qh hok
 have HR:=qh hR
 have HR1:=qh hR.1
 have HR2:=qh hR.2
 have HSR:=qh hsr
 have HO:=qh hO
 have HREC:=qh hrec
 have hmm := @run_makeMap Tryz.prog
 clear ht hs hok hR hsr hO hrec
 go_enter_defers Tryz.func29,Tryz.ntmps29
 go_upto_region 2 with (fail)
 refine abs_world (P:=fun u=>Code.wp _ _ _ _ u) (R:=fun u=>Blk u w.heap.size 34 #[.slice A ts.length c, .slice none 0 0, .slice none 0 0, .slice none 0 0, .slice none 0 0, .slice none 0 0, .slice none 0 0, .slice none 0 0]∧Below w.heap.size w u) ⟨?_,?_⟩ ?_
 ·exact Blk.new _ _ _
 ·exact belA
 rintro W ⟨hB,hbW⟩
 have hzW:=hB.lt
 have HB:=qh hB
 obtain ⟨p0,p1,p2,p3,p4,p5,p6,p7⟩:=Cat.blk hB
 clear hB
 cases hv:pb (RTabsOk ts rt)
 ·have HV:=qh hv
  clear hv hmm
  go_wp2_with (go_at_call 74;(with_reducible refine (tab_Valid A c ts.length ts RA rc rt.length rt _ (HT.out.next hbW) rfl HS.out HOK.out (HR.out.next hbW) rfl HSR.out HV.out).mono ?_);rintro e w1 ⟨rfl,hb1⟩;have hx1:Below w.heap.size w w1:=below_nextN hbW hb1 hbW.size)
  refine leaves_cons (f := 73) (args := #[]) spA (by simp [go_sem]) ?_;refine (idle_RetExpired _).mono ?_;rintro e u' w'' ⟨rfl,rfl,rfl⟩;refine ⟨_,results_tmp rfl _ _ _,?_⟩
  exact ⟨⟨none,0,[],rfl,SliceIs.nil,(fun a ha=>by cases ha),by unfold expOf;rw [HV.out];exact List.Perm.refl _,List.Pairwise.nil⟩,hx1⟩
 ·have HV:=qh hv
  have HVV:=qh (pb_iff.1 hv)
  clear hv
  go_upto_region 4 with (go_at_call 74;(with_reducible refine (tab_Valid A c ts.length ts RA rc rt.length rt _ (HT.out.next hbW) rfl HS.out HOK.out (HR.out.next hbW) rfl HSR.out HV.out).mono ?_);rintro e w1 ⟨rfl,hb1⟩)
  refine abs_world (P:=fun u=>Code.wp _ _ _ _ u) (R:=fun u=>Below W.heap.size W u) hb1 ?_
  ·clear hb1 p0 p1 p2 p3 p4 p5 p6 p7
   rintro W1 hb1
   have hx1:=below_nextN hbW hb1 hbW.size
   have hz1':=hb1.size
   go_upto_region 6 with (fail)
   clear hmm
   go_loopw [26] (fun vi wr => ∃ i:Nat,i≤o.length∧vi = .int .i64 i∧MapV Tryz.prog 68 4 wr W1.heap.size i (keptF ts o day i)∧Below W1.heap.size W1 wr) (fun vi _=>o.length - (intOf vi).toNat)
   case atStart=>exact ⟨0,Nat.zero_le _,rfl,made_kept W1 ts o day,by exact belA⟩
   case round =>
    obtain ⟨i,hi,rfl,hM,hbr⟩:=hrel
    have hwz:=hbr.size
    have hMl:=hM.lt
    have HM:=qh hM
    have hxr:=below_nextN hx1 hbr hx1.size
    have HBr:=qh (HB.out.below (below_nextN hb1 hbr hb1.size) hzW)
    clear hM
    by_cases hlt:i<o.length
    ·obtain ⟨b5,o5,rfl,hb5,hc5⟩:=(HO.out.below hxr).get hlt
     obtain ⟨q0,q1,q2,q3,q4,q5,q6,q7⟩:=Owned.cells8 hc5
     have hrc:=HREC.out o[i] (List.getElem_mem hlt)
     obtain ⟨x,hx⟩ : ∃ x,o[i]=x:=⟨_,rfl⟩
     have HX:=qh hx
     rw [hx] at q0 q1 q2 q3 q4 q5 q6 q7 hrc
     clear hc5 hx
     go_upto_region 8 with (fail)
     refine abs_world (P:=fun u=>Code.wp _ _ _ _ u) (R:=fun u=>Blk u wr.heap.size 55 #[.int .i64 x.table, .int .i64 x.col, .int .i64 x.seq, .int .i64 x.record, .int .i64 x.day, .slice x.A x.own.length x.cap, .bool x.null, .bool x.last]∧Below wr.heap.size wr u) ⟨?_,?_⟩ ?_
     ·exact Blk.new _ _ _
     ·exact belA
     rintro U ⟨hD,hbU⟩
     have hDl:=hD.lt
     have hyU:=below_nextN hbr hbU hwz
     have hxU:=below_nextN hx1 hyU hx1.size
     have hUz:=hbU.size
     have HD:=qh hD
     have HMU:=qh (HM.out.below hbU hMl)
     clear q0 q1 q2 q3 q4 q5 q6 q7
     obtain ⟨q0,q1,q2,q3,q4,q5,q6,q7⟩:=Owned.blk hD
     obtain ⟨p0,p1,p2,p3,p4,p5,p6,p7⟩:=Cat.blk (HBr.out.below hbU omA)
     clear hD
     cases hl:x.last
     ·have HF:Hid (keptF ts o day (i + 1)=keptF ts o day i):=qh (funext fun u=>keptF_old hlt (.inl (by rw [HX.out,hl];rfl)))
      rw [hl] at q7
      clear hl
      go_wp2_with fail
      go_roundw
      case rel=>exact ⟨i + 1,by omega,by go_num,by rw [HF.out];exact HMU.out.mono (Nat.le_succ i),hyU⟩
      case measure=>simp [intOf];omega
     ·have hend:=fun u (hu:Below U.heap.size U u)=>ret_end A c ts.length ts x u (HT.out.next (below_nextN hxU hu hxU.size)) rfl HS.out HOK.out rfl
      rw [hl] at hend q7
      have HEND:=qh hend
      clear hend
      cases hkp:keepsB (endE ts x) day
      ·have HF:Hid (keptF ts o day (i + 1)=keptF ts o day i):=qh (funext fun u=>keptF_old hlt (.inl (by rw [HX.out,hkp];simp)))
       have HKP:=qh hkp
       clear hl hkp
       go_wp2_with (first
        | (go_at_call 63;(with_reducible refine (HEND.out _ (Below.refl _ _)).mono ?_);rintro e w1 ⟨rfl,hb2⟩)
        | (go_at_call 65;(with_reducible refine (ret_keeps (endE ts x) day _ HKP.out).mono ?_);rintro e w2 ⟨rfl,rfl⟩))
       go_roundw
       case rel=>exact ⟨i + 1,by omega,by go_num,by rw [HF.out];exact (HMU.out.below hb2 HMU.out.lt).mono (Nat.le_succ i),below_nextN hyU hb2 hyU.size⟩
       case measure=>simp [intOf];omega
      ·have htb:=keeps_in hkp
       obtain ⟨kl,hkl⟩:=src_key (a:=x.table) (b:=x.record) ⟨by omega,by omega⟩ ⟨by omega,by omega⟩
       have hnew:keptF ts o day (i + 1) (.agg #[.int .i64 x.table, .int .i64 x.record])=some (.bool true):=by have h:=keptF_new (ts:=ts) (day:=day) hlt (by rw [HX.out,hl,hkp];rfl);rw [HX.out] at h;exact h
       have hold : ∀ u,u ≠ .agg #[.int .i64 x.table, .int .i64 x.record]→keptF ts o day (i + 1) u=keptF ts o day i u:=fun u hu=>keptF_old hlt (.inr (by rw [HX.out];exact hu))
       have HNEW:=qh hnew
       have HOLD:=qh hold
       have HKP:=qh hkp
       clear hl hkp hnew hold
       go_wp2_with (first
        | (go_at_call 63;(with_reducible refine (HEND.out _ (Below.refl _ _)).mono ?_);rintro e w1 ⟨rfl,hb2⟩;clear q0 q1 q2 q3 q4 q5 q6 q7;obtain ⟨q0,q1,q2,q3,q4,q5,q6,q7⟩:=Owned.blk (HD.out.below hb2 hDl))
        | (go_at_call 65;(with_reducible refine (ret_keeps (endE ts x) day _ HKP.out).mono ?_);rintro e w2 ⟨rfl,rfl⟩)
        | (at_mapUpdate;refine wpList_storeV _ rfl _ _ _ _ rfl 68 4 src_keyed Tryz.underlying156 W1.heap.size i _ rfl (HMU.out.below hb2 HMU.out.lt) (by unfold maxLen;omega) (.agg #[.int .i64 x.table, .int .i64 x.record]) _ rfl hkl (.bool true) rfl _ (pe_bool _) (keptF ts o day (i + 1)) HNEW.out HOLD.out ?_;intro w3 hM3 hg3))
       go_roundw
       case rel=>exact ⟨i + 1,by omega,by go_num,hM3,Below.grown (below_nextN hyU hb2 hyU.size) hg3 (by have:=hb2.size;omega) (fun q e=>by injection e with e;omega)⟩
       case measure=>simp [intOf];omega
    ·have hlt':decide (i<o.length)=false:=by simpa using hlt
     obtain rfl:i=o.length:=by omega
     have HBV:=HBr
     obtain ⟨V,rfl⟩ : ∃ V:World,V=wr:=⟨_,rfl⟩
     clear hlt hi
     go_upto_region 13 with (fail)
     go_loopw [12,49] (fun vo vi wr => ∃ i:Nat,i≤rt.length∧vi = .int .i64 i∧Owns wr V.heap.size 68 Src.cells 2 vo (expE ts rt o day i)∧Below V.heap.size V wr) (fun _ vi _=>rt.length - (intOf vi).toNat)
     case atStart=>exact ⟨0,Nat.zero_le _,rfl,Owns.nil,Below.refl _ _⟩
     case round =>
      obtain ⟨i,hi,rfl,hown,hbi⟩:=hrel
      have hiz:=hbi.size
      have hxi:=below_nextN hxr hbi hxr.size
      have HOWN:=qh hown
      clear hown
      by_cases hlt:i<rt.length
      ·have hlts:i<ts.length:=by have:=HVV.out.len;omega
       obtain ⟨b5,o5,rfl,hb5,hc5⟩:=(HT1.out.below hxi).get hlts
       obtain ⟨_,_,_,t3⟩:=Tab.cells4 hc5
       obtain ⟨b6,o6,rfl,hb6,hc6⟩:=(HR1.out.below hxi).get hlt
       have r0:=hc6 0 _ rfl
       simp only [Nat.mul_one,Nat.add_zero] at r0
       obtain ⟨p0,_⟩:=Cat.blk (HBV.out.below hbi omA)
       have hsh:=HOK.out.shape hlts
       simp only [shapeB,withinB,Bool.and_eq_true,decide_eq_true_eq] at hsh
       obtain ⟨_,hr1,hr2⟩:=hsh
       have hrin:RecsIn w w.heap.size rt[i].A rt[i].recs:=HR2.out rt[i] (List.getElem_mem hlt)
       have htab:=HVV.out.tab i hlt hlts
       have HEXP:=qh (expAt_get (o:=o) (day:=day) hlts hlt)
       obtain ⟨ret,hret⟩ : ∃ r,ts[i].retain=r:=⟨_,rfl⟩
       obtain ⟨recs,hrecs⟩ : ∃ l,rt[i].recs=l:=⟨_,rfl⟩
       obtain ⟨RI,hRI⟩ : ∃ a,rt[i].A=a:=⟨_,rfl⟩
       have HRET:=qh hret
       have HRECS:=qh hrecs
       have hlenE:=expE_len (ts:=ts) (rt:=rt) (o:=o) (day:=day) (fun i h=>(HVV.out.tab i h (by have:=HVV.out.len;omega)).len) i
       rw [hret] at t3 hr1 hr2
       rw [hrecs] at r0 hrin htab
       rw [hRI] at r0 hrin
       have HRI:=qh hrin.1
       have HRI2:=qh hrin.2
       have HTAB:=qh htab
       have h64:=htab.len
       have hcpos:=(HOK.out.cols hlts).1
       clear hc5 hc6 hrin hret hrecs htab hRI
       go_upto_region 16 with (fail)
       by_cases hr0:ret = 0
       ·have e0:(ret == 0)=true:=by simpa using hr0
        have HNIL:Hid (expE ts rt o day (i + 1)=expE ts rt o day i):=qh (by rw [expE,HEXP.out,if_pos (by rw [HRET.out];exact hr0),List.append_nil])
        clear hr0
        go_wp2_with fail
        go_roundw
        case rel=>exact ⟨i + 1,by omega,by go_num,by rw [HNIL.out];exact HOWN.out,hbi⟩
        case measure=>simp [intOf];omega
       ·have e0:(ret == 0)=false:=by simpa using hr0
        have HSTEP:Hid (expE ts rt o day (i + 1)=expE ts rt o day i++expT ts o day i ret recs):=qh (by rw [expE,HEXP.out,if_neg (by rw [HRET.out];exact hr0),HRET.out,HRECS.out])
        clear hr0
        go_upto_region 18 with (fail)
        obtain ⟨Y,rfl⟩ : ∃ Y:World,Y=wr:=⟨_,rfl⟩
        go_loopw [12,64] (fun vo vj wi => ∃ j:Nat,j≤recs.length∧vj = .int .i64 j∧Owns wi V.heap.size 68 Src.cells 2 vo (expE ts rt o day i++expT ts o day i ret (recs.take j))∧Below V.heap.size V wi) (fun _ vj _=>recs.length - (intOf vj).toNat)
        case atStart=>exact ⟨0,Nat.zero_le _,rfl,by (have h:=HOWN.out;simpa [expT] using h),hbi⟩
        case round =>
         obtain ⟨j,hj,rfl,hown,hbj⟩:=hrel
         have hjz:=hbj.size
         have hxj:=below_nextN hxr hbj hxr.size
         have hxjz:=hxj.size
         have hrow:=hown.row
         have HOW:=qh hown
         clear hown
         by_cases hjl:j<recs.length
         ·obtain ⟨b7,o7,rfl,hb7,hc7⟩:=(HRI.out.below hxj).get hjl
          obtain ⟨g0,g1,g2⟩:=Rcd.cells3 hc7
          have hat:=(HTAB.out.at_ j hjl).ok
          have hsl : 0<recs[j].seq.length:=by rw [hat.slen];exact hcpos
          have hpos:=(hat.cell 0 hcpos).pos hsl
          have hday:=hat.day
          rw [withinB,Bool.and_eq_true,decide_eq_true_iff,decide_eq_true_iff] at hpos hday
          obtain ⟨b8,o8,hA8,hb8,hc8⟩:=((HRI2.out recs[j] (List.getElem_mem hjl)).2.below hxj).get hsl
          have s0:=hc8 0 _ rfl
          rw [hA8] at g1
          have hhd:recs[j].seq[0]=headS recs[j]:=head_seq hsl
          rw [hhd] at s0 hpos
          simp only [Nat.zero_mul,Nat.add_zero] at s0
          have HSUCC:=qh (expT_succ ts o day i ret hjl)
          obtain ⟨hd,hhe⟩ : ∃ q,headS recs[j]=q:=⟨_,rfl⟩
          obtain ⟨dy,hdy⟩ : ∃ q,recs[j].day=q:=⟨_,rfl⟩
          rw [hhe] at s0 hpos
          rw [hdy] at g2 hday
          have hsrc:srcR i recs[j]=⟨(i:Int),hd⟩:=by unfold srcR;rw [hhe]
          have HSRC:=qh hsrc
          have HDY:=qh hdy
          have hLl:=expT_len ts o day i ret (recs.take j)
          rw [List.length_take] at hLl
          clear hc7 hc8 hat hhd hA8 hhe hdy hsrc
          go_upto_region 20 with (fail)
          refine abs_world (P:=fun u=>Code.wp _ _ _ _ u) (R:=fun u=>Blk u wr.heap.size 148 #[.slice recs[j].A recs[j].row.length recs[j].cap, .slice (some ⟨b8,o8,none⟩) recs[j].seq.length recs[j].scap, .int .i64 dy]∧Below wr.heap.size wr u) ⟨?_,?_⟩ ?_
          ·exact Blk.new _ _ _
          ·exact belA
          rintro U0 ⟨hD,hbU0⟩
          have hDl:=hD.lt
          have w1:=hD.cell 1
          have w2:=hD.cell 2
          simp only [List.getElem?_toArray,List.getElem?_cons_zero,List.getElem?_cons_succ] at w1 w2
          replace s0:=(hbU0.cell (p:=⟨b8,o8,none⟩) (show b8<wr.heap.size by omega)).trans s0
          have HD:=qh hD
          clear g0 g1 g2 hD
          go_upto_region 21 with (fail)
          refine abs_world (P:=fun u=>Code.wp _ _ _ _ u) (R:=fun u=>Blk u wr.heap.size 148 #[.slice recs[j].A recs[j].row.length recs[j].cap, .slice (some ⟨b8,o8,none⟩) recs[j].seq.length recs[j].scap, .int .i64 dy]∧Blk u U0.heap.size 68 #[.int .i64 i, .int .i64 hd]∧Below wr.heap.size wr u) ⟨?_,?_,?_⟩ ?_
          ·exact HD.out.alloc _
          ·exact Blk.new _ _ _
          ·exact hbU0.alloc hbU0.size _
          rintro U ⟨hD,hS,hbU⟩
          have u2:=hD.cell 2
          simp only [List.getElem?_toArray,List.getElem?_cons_zero,List.getElem?_cons_succ] at u2
          clear hD w1 w2
          have hUz:=hbU.size
          have hyU:=below_nextN hbj hbU hjz
          have v0:=hS.cell 0
          have v1:=hS.cell 1
          simp only [List.getElem?_toArray,List.getElem?_cons_zero,List.getElem?_cons_succ] at v0 v1
          obtain ⟨kl,hkl⟩:=src_key (a:=(i:Int)) (b:=hd) ⟨by omega,by omega⟩ ⟨by omega,by omega⟩
          have hlk:(Instr.lookup 156 (.map (some W1.heap.size)) (.agg #[.int .i64 i, .int .i64 hd]) false).run Tryz.prog U = .ok (.bool (keptS ts o day ⟨(i:Int),hd⟩)) U:=by
           have h:=(HM.out.below hyU omA).look src_keyed Tryz.underlying156 (zero_bool U) (pe_bool false) hkl
           rw [keptF_at ⟨(i:Int),hd⟩] at h
           exact h
          have HOU:=qh (HOW.out.below hbU (Nat.le_refl _))
          obtain ⟨kp,hkp⟩ : ∃ b,keptS ts o day ⟨(i:Int),hd⟩=b:=⟨_,rfl⟩
          rw [hkp] at hlk
          have HKP:=qh hkp
          clear s0 hS hkl hkp
          have hno : ∀ (hc:(decide (dy+ret≤day) && !kp)=false),Owns U V.heap.size 68 Src.cells 2 u12 (expE ts rt o day i++expT ts o day i ret (recs.take (j + 1))):=fun hc=>by
           rw [HSUCC.out,HDY.out,HSRC.out,HKP.out,hc]
           simpa using HOU.out
          have HNO:=qh hno
          clear hno
          by_cases hd0:dy+ret≤day
          ·have e1:decide (dy+ret≤day)=true:=by simpa using hd0
           cases kp
           ·have HYES:Hid (expT ts o day i ret (recs.take (j + 1))=expT ts o day i ret (recs.take j) ++ [⟨(i:Int),hd⟩]):=qh (by rw [HSUCC.out,HDY.out,HSRC.out,HKP.out,e1];rfl)
            obtain ⟨L,hL⟩ : ∃ L,expE ts rt o day i++expT ts o day i ret (recs.take j)=L:=⟨_,rfl⟩
            have hLL:L.length ≤ 1000:=by rw [← hL,List.length_append];omega
            have ho:=HOU.out
            rw [hL] at ho
            have HO2:=qh ho
            have HL:=qh hL
            have hVU:=hyU.size
            clear hd0 ho hL
            go_wp2_with (at_builtin;go_must (refine wpList_append_list _ rfl (.tmp 86) (.tmp 88) 64 rfl 68 i0 _ Src.cells 2 16 Tryz.underlying64 hi0 hz0 hz1 hz2 rfl omA src_len src_one V.heap.size u12 L rfl (HO2.out.alloc _) _ _ _ [⟨(i:Int),hd⟩] rfl rfl (Blk.one (enc:=Src.cells) (x:=⟨(i:Int),hd⟩) (Blk.new' rfl) spA) smA mxA smA ?_);intro v' w3 hown' hg' hat';have HOWN':=qh hown';clear hown';have hbel:Below V.heap.size V w3:=Below.grown (hyU.alloc omA _) hg' smA hrow)
            go_roundw
            case rel=>exact ⟨j + 1,by omega,by go_num,by rw [HYES.out,← List.append_assoc,HL.out];exact HOWN'.out,hbel⟩
            case measure=>simp [intOf];omega
           ·clear hd0
            go_wp2_with fail
            go_roundw
            case rel=>exact ⟨j + 1,by omega,by go_num,HNO.out (by rw [e1];rfl),hyU⟩
            case measure=>simp [intOf];omega
          ·have e1:decide (dy+ret≤day)=false:=by simpa using hd0
           clear hd0 hlk
           go_wp2_with fail
           go_roundw
           case rel=>exact ⟨j + 1,by omega,by go_num,HNO.out (by rw [e1];rfl),hyU⟩
           case measure=>simp [intOf];omega
         ·have hjl':decide (j<recs.length)=false:=by simpa using hjl
          obtain rfl:j=recs.length:=by omega
          have HFIN:Hid (Owns wr V.heap.size 68 Src.cells 2 u12 (expE ts rt o day (i + 1))):=qh (by have h:=HOW.out;rw [List.take_length] at h;rw [HSTEP.out];exact h)
          clear hjl
          go_wp2_with fail
          go_roundw
          case rel=>exact ⟨i + 1,by omega,by go_num,HFIN.out,hbj⟩
          case measure=>simp [intOf];omega
      ·have hlt':decide (i<rt.length)=false:=by simpa using hlt
       obtain rfl:i=rt.length:=by omega
       have hlenE:=expE_len (ts:=ts) (rt:=rt) (o:=o) (day:=day) (fun i h=>(HVV.out.tab i h (by have:=HVV.out.len;omega)).len) rt.length
       have hrl8:rt.length ≤ 8:=by rw [HVV.out.len];exact h8
       obtain ⟨L,hL⟩ : ∃ L,expE ts rt o day rt.length=L:=⟨_,rfl⟩
       have HEX:Hid (expOf ts rt o day=L):=qh (by unfold expOf;rw [HV.out,if_pos rfl,hL])
       have ho:=HOWN.out
       rw [hL] at ho hlenE
       have HO2:=qh ho
       clear hL HOWN
       rcases ho.2 with ⟨rfl,hz⟩|⟨g,cap,cur,rfl,hgb,_,_⟩
       ·obtain rfl:L = []:=List.eq_nil_of_length_eq_zero hz
        clear ho
        go_wp2_with (go_at_call 75;(with_reducible refine (sort_ret_nil _).mono ?_);rintro e w3 ⟨rfl,rfl⟩)
        refine leaves_cons (f := 73) (args := #[]) spA (by simp [go_sem]) ?_;refine (idle_RetExpired _).mono ?_;rintro e u' w'' ⟨rfl,rfl,rfl⟩;refine ⟨_,results_tmp rfl _ _ _,?_⟩
        exact ⟨⟨none,0,[],rfl,SliceIs.nil,(fun a ha=>by cases ha),by rw [HEX.out],List.Pairwise.nil⟩,hxi⟩
       ·clear ho
        go_wp2_with (go_at_call 75;(with_reducible refine (sort_retN V.heap.size g cap L.length L _ rfl HO2.out omA).mono ?_);rintro e w3 ⟨rfl,l',hp,hso,hO3,hg3⟩;have HP:=qh hp;have HSO:=qh hso;have HO3:=qh hO3;clear hp hso hO3)
        refine leaves_cons (f := 73) (args := #[]) spA (by simp [go_sem]) ?_;refine (idle_RetExpired _).mono ?_;rintro e u' w'' ⟨rfl,rfl,rfl⟩;refine ⟨_,results_tmp rfl _ _ _,?_⟩
        refine ⟨⟨some ⟨g,0,none⟩,cap,l',by rw [HP.out.length_eq];rfl,own_read (base:=V.heap.size) (c:=cap) (e := 68) src_len (by rw [HP.out.length_eq];exact HO3.out),(fun a ha=>by injection ha with ha;subst ha;exact Nat.le_trans hxr.size hgb),by rw [HEX.out];exact HP.out,HSO.out⟩,Below.grown hxi hg3 hxi.size (fun q e=>by injection e with e;have:=hxr.size;omega)⟩
end Go.Proofs.YtlpgmdhnjckplaaGreat
