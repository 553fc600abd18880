/-
  Contracts and plain laws of this seat, part 90.
-/
import Derived.Test.YtjidligipoldeaaGreatT89
import Derived.Test.YtjidligipoldeaaGreatT88
set_option linter.unusedVariables false
set_option linter.unusedSimpArgs false
set_option maxRecDepth 100000
set_option maxHeartbeats 16000000
set_option maxRecDepth 100000
namespace Go.Proofs.YtjidligipoldeaaGreat
open Go.RowKit Go Go.Shelf
theorem fh{P:Prop}(h:P:=by rw[←hwe];exact Blk.new' hg):P:=h
theorem fi{P:Prop}(h:P:=by have:=hv1.size;first|exact(hv1).alloc this _|exact ai):P:=h
theorem fj{P:Prop}(h:P:=by have:=hWd.size;first|exact(hWd).alloc this _|exact ai):P:=h
theorem fk{P:Prop}(h:P:=by rw[←hwe];exact(Blk.new' hg).drew):P:=h
theorem Az{w:World}{g:Nat}{a b:Int}{s:ByteArray}(h:Blk w g 50 #[.int .i64 a,.int .i64 b,.string s]):w.cell? ⟨g,0,none⟩=some (.int .i64 a)∧w.cell? ⟨g,1,none⟩=some (.int .i64 b)∧w.cell? ⟨g,2,none⟩=some (.string s):=⟨h.cell 0,h.cell 1,h.cell 2⟩
theorem lZ{w:World}{g:Nat}{a b:Int}{v:Value}(h:Blk w g 39 #[.int .i64 a,.int .i64 b,v]):w.cell? ⟨g,0,none⟩=some (.int .i64 a)∧w.cell? ⟨g,1,none⟩=some (.int .i64 b)∧w.cell? ⟨g,2,none⟩=some v:=⟨h.cell 0,h.cell 1,h.cell 2⟩
theorem l90_0{P:Prop}(h:P:=by
 refine hK.out _ _ _ (HSS.out _ (hbg _ rfl)) (fun hHeld =>?_)
 clear hK K
 refine tkT 12 hHeld ?_ (hQ:=hqB)
 refine aI krA ?_ _
 clear hHeld
 refine⟨rfl,bD ?_ ?_⟩
 ·kernel_rfl
 refine⟨rfl,?_⟩
 rw[HRS.out]
 refine⟨g,A3,c3,es3,rfl,rfl,hgu,?_,?_,HM3.out,hbg _ rfl⟩
 ·have h:=((HG.out.aH 0 (.int .i64 0)).aH 1 (.int .i64 1)).aH 2 (.slice A3 1 c3)
  simpa using h
 ·have n1:=HO3.out.own.aY HG.out (by decide)
  refine⟨?_,fun x hx =>?_,HO3.out.len⟩
  ·iterate 3 (refine aj.far ?_ n1 _)
   exact HO3.out.own
  ·have m1:=(HO3.out.rows x hx).aY HG.out (by decide)
   iterate 3 (refine aj.far ?_ m1 _)
   exact HO3.out.rows x hx):P:=h
theorem l6(w:World):Calls Tryz.prog 7 #[] w fun e w'=>e=.returned (.bool true)∧Below w.heap.size w w':=by
 go_enter Tryz.func7,Tryz.ntmps7
 go_upto_region 2 with (go_at_call 22;(with_reducible refine(CX _).mono ?_);rintro e w1 ⟨⟨CA,b,q,rfl,ht1⟩,hb1⟩;have HT1:=qh ht1;clear ht1)
 obtain⟨z,hz⟩:∃z,w1.heap.size=z:=⟨_,rfl⟩
 have HZZ:=qh hz
 go_upto_region 3 with (fail)
 rw[hz]
 refine ah (P:=fun u=>Code.wp _ _ _ _ u) (R:=fun u=>Blk u z 33 #[.slice CA 1 1,.slice none 0 0,.slice none 0 0,.slice none 0 0,.slice none 0 0,.slice none 0 0,.slice none 0 0,.slice none 0 0]∧Blk u (z+1) 50 #[.int .i64 1,.int .i64 1,.string ⟨#[]⟩]∧Below z w1 u) ⟨?_,?_,?_⟩ ?_
 ·exact(Blk.new' hz).alloc _
 ·exact Blk.new' smA
 ·rw[←hz];exact ai
 rintro W ⟨hC,hV,hbW⟩
 rw[←HZZ.out]at hbW
 have hxW:Below w.heap.size w W:=aa hb1 hbW hb1.size
 have HC:=qh hC
 have HV:=qh hV
 have hcl:=hC.lt
 have hvl:=hV.lt
 have HT:=qh (HT1.out.next (show Below w1.heap.size w1 W from hbW))
 clear hC hV hz
 have HSS:Hid (∀V,Below W.heap.size W V→(V.cell? ⟨z,0,none⟩=some (.slice CA 1 1)∧V.cell? ⟨z,1,none⟩=some (.slice none 0 0)∧V.cell? ⟨z,2,none⟩=some (.slice none 0 0)∧V.cell? ⟨z,3,none⟩=some (.slice none 0 0)∧V.cell? ⟨z,4,none⟩=some (.slice none 0 0)∧V.cell? ⟨z,5,none⟩=some (.slice none 0 0)∧V.cell? ⟨z,6,none⟩=some (.slice none 0 0)∧V.cell? ⟨z,7,none⟩=some (.slice none 0 0))∧(V.cell? ⟨z+1,0,none⟩=some (.int .i64 1)∧V.cell? ⟨z+1,1,none⟩=some (.int .i64 1)∧V.cell? ⟨z+1,2,none⟩=some (.string ⟨#[]⟩))):=qh (fun V hV=>⟨Cat.blk (HC.out.below hV hcl),Az (HV.out.below hV hvl)⟩)
 have hWd:Below W.heap.size W W.drew:=brf.drew
 obtain⟨RS,hRS⟩:∃RS:(Nat→Value)→World→Prop,RS=fun f w' =>∃(g:Nat) (A3:Option Addr) (c3:Nat) (es3:List Ent),f 3=.pointer (some ⟨g,0,none⟩)∧f 4=.int .i64 0∧W.heap.size≤g∧Blk w' g 39 #[.int .i64 0,.int .i64 1,.slice A3 1 c3]∧fK w' W.heap.size A3 c3 es3∧es3.map Ent.p=psA∧Below W.heap.size W w':=⟨_,rfl⟩
 have HRS:=qh hRS
 clear hRS
 refine gX .normal [3,4,13,14,15,16,17,18,19,20,21,22] RS ?_ ?_
 ·refine aJ (S:=fun u=>(u.cell? ⟨z,0,none⟩=some (.slice CA 1 1)∧u.cell? ⟨z,1,none⟩=some (.slice none 0 0)∧u.cell? ⟨z,2,none⟩=some (.slice none 0 0)∧u.cell? ⟨z,3,none⟩=some (.slice none 0 0)∧u.cell? ⟨z,4,none⟩=some (.slice none 0 0)∧u.cell? ⟨z,5,none⟩=some (.slice none 0 0)∧u.cell? ⟨z,6,none⟩=some (.slice none 0 0)∧u.cell? ⟨z,7,none⟩=some (.slice none 0 0))∧(u.cell? ⟨z+1,0,none⟩=some (.int .i64 1)∧u.cell? ⟨z+1,1,none⟩=some (.int .i64 1)∧u.cell? ⟨z+1,2,none⟩=some (.string ⟨#[]⟩))) [] krA (HSS.out _ hWd) (fun hHeld =>?_)
  refine tkT 0 hHeld ?_ (hQ:=hqB)
  refine tkT 2 hHeld ?_ (hQ:=hqB)
  refine tkT 3 hHeld ?_ (hQ:=hqB)
  refine kS (rs:= [1,4,10]) krA spA (jv.cons rfl (fun K hK =>?_) (jv.cons rfl (fun K hK =>?_) (jv.cons rfl (fun K hK =>?_) jv.nil)))
  ·go_simp
   (go_at_call 17;(with_reducible refine(tq _).mono ?_);rintro e v1 ⟨rfl,hn1⟩)
   have hv1:Below W.heap.size W v1:=aa hWd hn1 (hWd).size
   have hab:=hn1
   go_wp2_with fail
   refine hK.out _ _ _ (HSS.out _ hv1) (fun hHeld =>?_)
   clear hK K
   clear hab
   refine r2T 4 10 (fun K hK =>?_) (fun K hK =>?_)
   ·go_simp
    refine hK.out _ _ _ (HSS.out _ fi) (fun hHeld =>?_)
    clear hK K
    generalize hg:(v1).heap.size=bz
    generalize hwe:World.alloc (v1) _=v2
    have hab:Below (v1).heap.size (v1) v2:=by rw[←hwe];exact ai
    have hv2:Below W.heap.size W v2:=aa hv1 hab (hv1).size
    have HZ:Hid (Blk v2 bz 50 ([lI,sX].flatMap Val.cells).toArray):=qh fh
    clear hwe
    (replace hHeld:=HSS.out _ hv2)
    clear hab
    refine tkT 5 hHeld ?_ (hQ:=hqB)
    refine r2T 6 10 (fun K hK =>?_) (fun K hK =>?_)
    ·go_simp
     (go_at_call 23;(with_reducible refine(En CA 1 b q _ (HT.out.next hv2) bz (Blk.all bC HZ.out HZ.out.lt)).mono ?_);rintro e v3 ⟨⟨A3,c3,es3,rfl,hm3,ho3⟩,hab⟩)
     have hv3:Below W.heap.size W v3:=aa hv2 hab (hv2).size
     have HO3:Hid (fK v3 W.heap.size A3 c3 es3):=qh (ho3.mono (hv2).size)
     have HM3:=qh hm3
     clear hm3 ho3
     go_wp2_with fail
     refine hK.out _ _ _ (HSS.out _ hv3) (fun hHeld =>?_)
     clear hK K
     (replace HZ:=qh (HZ.out.below hab HZ.out.lt))
     clear hab
     refine tkT 7 hHeld ?_ (hQ:=hqB)
     refine tkT 8 hHeld ?_ (hQ:=hqB)
     refine tkT 9 hHeld ?_ (hQ:=hqB)
     refine r1T 10 (fun K hK =>?_)
     go_simp
     refine hK.out _ _ _ (HSS.out _ (by have:=hv3.size;first|exact(hv3).alloc this _|exact ai)) (fun hHeld =>?_)
     clear hK K
     generalize hg:(v3).heap.size=g
     generalize hwe:World.alloc (v3) _=v4
     have hab:Below (v3).heap.size (v3) v4:=by rw[←hwe];exact ai
     have hv4:Below W.heap.size W v4:=aa hv3 hab (hv3).size
     have HG:Hid (Blk v4 g 39 #[.int .i64 0,.int .i64 0,.slice none 0 0]):=qh fh
     have hgu:W.heap.size≤g:=by rw[←hg];first|exact Nat.le_refl _|exact(hv3).size
     clear hwe
     (replace hHeld:=HSS.out _ hv4)
     (replace HZ:=qh (HZ.out.below hab HZ.out.lt))
     (replace HO3:=qh (HO3.out.below hab))
     clear hab
     have hgl:=HG.out.lt
     have gf:=fun j=>HG.out.frozen j
     have g0:=HG.out.cell 0
     have g1:=HG.out.cell 1
     have g2:=HG.out.cell 2
     simp only[gE3]at g0 g1 g2
     refine r1T 11 (fun K hK =>?_)
     go_simp
     have hbg:∀Y,Y=(((v4).setCell ⟨g,0,none⟩ (.int .i64 0)).setCell ⟨g,1,none⟩ (.int .i64 1)).setCell ⟨g,2,none⟩ (.slice A3 1 c3)→Below W.heap.size W Y:=fun Y hY=>by
      rw[hY]
      iterate 3 (refine Below.setCell ?_ (show W.heap.size≤g from hgu) _)
      exact hv4
     exact l90_0
    ·go_simp
     refine hK.out _ _ _ (HSS.out _ (by have:=hv2.size;first|exact(hv2).alloc this _|exact ai)) (fun hHeld =>?_)
     clear hK K
     generalize hg:(v2).heap.size=g
     generalize hwe:World.alloc (v2) _=v5
     have hab:Below (v2).heap.size (v2) v5:=by rw[←hwe];exact ai
     have hv5:Below W.heap.size W v5:=aa hv2 hab (hv2).size
     have HG:Hid (Blk v5 g 39 #[.int .i64 0,.int .i64 0,.slice none 0 0]):=qh fh
     have hgu:W.heap.size≤g:=by rw[←hg];first|exact Nat.le_refl _|exact(hv2).size
     clear hwe
     (replace hHeld:=HSS.out _ hv5)
     (replace HZ:=qh (HZ.out.below hab HZ.out.lt))
     clear hab
     refine r1T 6 (fun K hK =>?_)
     go_simp
     (go_at_call 23;(with_reducible refine(En CA 1 b q _ (HT.out.next hv5) bz (Blk.all bC HZ.out HZ.out.lt)).mono ?_);rintro e v6 ⟨⟨A3,c3,es3,rfl,hm3,ho3⟩,hab⟩)
     have hv6:Below W.heap.size W v6:=aa hv5 hab (hv5).size
     have HO3:Hid (fK v6 W.heap.size A3 c3 es3):=qh (ho3.mono (hv5).size)
     have HM3:=qh hm3
     clear hm3 ho3
     go_wp2_with fail
     refine hK.out _ _ _ (HSS.out _ hv6) (fun hHeld =>?_)
     clear hK K
     (replace HZ:=qh (HZ.out.below hab HZ.out.lt))
     (replace HG:=qh (HG.out.below hab HG.out.lt))
     clear hab
     refine tkT 7 hHeld ?_ (hQ:=hqB)
     refine tkT 8 hHeld ?_ (hQ:=hqB)
     refine tkT 9 hHeld ?_ (hQ:=hqB)
     have hgl:=HG.out.lt
     have gf:=fun j=>HG.out.frozen j
     have g0:=HG.out.cell 0
     have g1:=HG.out.cell 1
     have g2:=HG.out.cell 2
     simp only[gE3]at g0 g1 g2
     refine r1T 11 (fun K hK =>?_)
     go_simp
     have hbg:∀Y,Y=(((v6).setCell ⟨g,0,none⟩ (.int .i64 0)).setCell ⟨g,1,none⟩ (.int .i64 1)).setCell ⟨g,2,none⟩ (.slice A3 1 c3)→Below W.heap.size W Y:=fun Y hY=>by
      rw[hY]
      iterate 3 (refine Below.setCell ?_ (show W.heap.size≤g from hgu) _)
      exact hv6
     exact l90_0
   ·go_simp
    refine hK.out _ _ _ (HSS.out _ fi) (fun hHeld =>?_)
    clear hK K
    generalize hg:(v1).heap.size=g
    generalize hwe:World.alloc (v1) _=v7
    have hab:Below (v1).heap.size (v1) v7:=by rw[←hwe];exact ai
    have hv7:Below W.heap.size W v7:=aa hv1 hab (hv1).size
    have HG:Hid (Blk v7 g 39 #[.int .i64 0,.int .i64 0,.slice none 0 0]):=qh fh
    have hgu:W.heap.size≤g:=by rw[←hg];first|exact Nat.le_refl _|exact(hv1).size
    clear hwe
    (replace hHeld:=HSS.out _ hv7)
    clear hab
    refine r1T 4 (fun K hK =>?_)
    go_simp
    refine hK.out _ _ _ (HSS.out _ (by have:=hv7.size;first|exact(hv7).alloc this _|exact ai)) (fun hHeld =>?_)
    clear hK K
    generalize hg:(v7).heap.size=bz
    generalize hwe:World.alloc (v7) _=v8
    have hab:Below (v7).heap.size (v7) v8:=by rw[←hwe];exact ai
    have hv8:Below W.heap.size W v8:=aa hv7 hab (hv7).size
    have HZ:Hid (Blk v8 bz 50 ([lI,sX].flatMap Val.cells).toArray):=qh fh
    clear hwe
    (replace hHeld:=HSS.out _ hv8)
    (replace HG:=qh (HG.out.below hab HG.out.lt))
    clear hab
    refine tkT 5 hHeld ?_ (hQ:=hqB)
    refine r1T 6 (fun K hK =>?_)
    go_simp
    (go_at_call 23;(with_reducible refine(En CA 1 b q _ (HT.out.next hv8) bz (Blk.all bC HZ.out HZ.out.lt)).mono ?_);rintro e v9 ⟨⟨A3,c3,es3,rfl,hm3,ho3⟩,hab⟩)
    have hv9:Below W.heap.size W v9:=aa hv8 hab (hv8).size
    have HO3:Hid (fK v9 W.heap.size A3 c3 es3):=qh (ho3.mono (hv8).size)
    have HM3:=qh hm3
    clear hm3 ho3
    go_wp2_with fail
    refine hK.out _ _ _ (HSS.out _ hv9) (fun hHeld =>?_)
    clear hK K
    (replace HZ:=qh (HZ.out.below hab HZ.out.lt))
    (replace HG:=qh (HG.out.below hab HG.out.lt))
    clear hab
    refine tkT 7 hHeld ?_ (hQ:=hqB)
    refine tkT 8 hHeld ?_ (hQ:=hqB)
    refine tkT 9 hHeld ?_ (hQ:=hqB)
    have hgl:=HG.out.lt
    have gf:=fun j=>HG.out.frozen j
    have g0:=HG.out.cell 0
    have g1:=HG.out.cell 1
    have g2:=HG.out.cell 2
    simp only[gE3]at g0 g1 g2
    refine r1T 11 (fun K hK =>?_)
    go_simp
    have hbg:∀Y,Y=(((v9).setCell ⟨g,0,none⟩ (.int .i64 0)).setCell ⟨g,1,none⟩ (.int .i64 1)).setCell ⟨g,2,none⟩ (.slice A3 1 c3)→Below W.heap.size W Y:=fun Y hY=>by
     rw[hY]
     iterate 3 (refine Below.setCell ?_ (show W.heap.size≤g from hgu) _)
     exact hv9
    exact l90_0
  ·go_simp
   refine hK.out _ _ _ (HSS.out _ fj) (fun hHeld =>?_)
   clear hK K
   generalize hg:W.heap.size=bz
   generalize hwe:World.drew (World.alloc W _)=v10
   have hab:Below W.heap.size W v10:=by rw[←hwe];exact ai
   have De:=hab
   have HZ:Hid (Blk v10 bz 50 ([lI,sX].flatMap Val.cells).toArray):=qh fk
   clear hwe
   (replace hHeld:=HSS.out _ De)
   clear hab
   refine tkT 5 hHeld ?_ (hQ:=hqB)
   refine r2T 1 10 (fun K hK =>?_) (fun K hK =>?_)
   ·go_simp
    (go_at_call 17;(with_reducible refine(tq _).mono ?_);rintro e v11 ⟨rfl,Uy⟩)
    have zD:Below W.heap.size W v11:=aa De Uy (De).size
    have hab:=Uy
    go_wp2_with fail
    refine hK.out _ _ _ (HSS.out _ zD) (fun hHeld =>?_)
    clear hK K
    (replace HZ:=qh (HZ.out.below hab HZ.out.lt))
    clear hab
    refine r2T 6 10 (fun K hK =>?_) (fun K hK =>?_)
    ·go_simp
     (go_at_call 23;(with_reducible refine(En CA 1 b q _ (HT.out.next zD) bz (Blk.all bC HZ.out HZ.out.lt)).mono ?_);rintro e v12 ⟨⟨A3,c3,es3,rfl,hm3,ho3⟩,hab⟩)
     have Iz:Below W.heap.size W v12:=aa zD hab (zD).size
     have HO3:Hid (fK v12 W.heap.size A3 c3 es3):=qh (ho3.mono (zD).size)
     have HM3:=qh hm3
     clear hm3 ho3
     go_wp2_with fail
     refine hK.out _ _ _ (HSS.out _ Iz) (fun hHeld =>?_)
     clear hK K
     (replace HZ:=qh (HZ.out.below hab HZ.out.lt))
     clear hab
     refine tkT 7 hHeld ?_ (hQ:=hqB)
     refine tkT 8 hHeld ?_ (hQ:=hqB)
     refine tkT 9 hHeld ?_ (hQ:=hqB)
     refine r1T 10 (fun K hK =>?_)
     go_simp
     refine hK.out _ _ _ (HSS.out _ (by have:=Iz.size;first|exact(Iz).alloc this _|exact ai)) (fun hHeld =>?_)
     clear hK K
     generalize hg:(v12).heap.size=g
     generalize hwe:World.alloc (v12) _=v13
     have hab:Below (v12).heap.size (v12) v13:=by rw[←hwe];exact ai
     have TD:Below W.heap.size W v13:=aa Iz hab (Iz).size
     have HG:Hid (Blk v13 g 39 #[.int .i64 0,.int .i64 0,.slice none 0 0]):=qh fh
     have hgu:W.heap.size≤g:=by rw[←hg];first|exact Nat.le_refl _|exact(Iz).size
     clear hwe
     (replace hHeld:=HSS.out _ TD)
     (replace HZ:=qh (HZ.out.below hab HZ.out.lt))
     (replace HO3:=qh (HO3.out.below hab))
     clear hab
     have hgl:=HG.out.lt
     have gf:=fun j=>HG.out.frozen j
     have g0:=HG.out.cell 0
     have g1:=HG.out.cell 1
     have g2:=HG.out.cell 2
     simp only[gE3]at g0 g1 g2
     refine r1T 11 (fun K hK =>?_)
     go_simp
     have hbg:∀Y,Y=(((v13).setCell ⟨g,0,none⟩ (.int .i64 0)).setCell ⟨g,1,none⟩ (.int .i64 1)).setCell ⟨g,2,none⟩ (.slice A3 1 c3)→Below W.heap.size W Y:=fun Y hY=>by
      rw[hY]
      iterate 3 (refine Below.setCell ?_ (show W.heap.size≤g from hgu) _)
      exact TD
     exact l90_0
    ·go_simp
     refine hK.out _ _ _ (HSS.out _ (by have:=zD.size;first|exact(zD).alloc this _|exact ai)) (fun hHeld =>?_)
     clear hK K
     generalize hg:(v11).heap.size=g
     generalize hwe:World.alloc (v11) _=v14
     have hab:Below (v11).heap.size (v11) v14:=by rw[←hwe];exact ai
     have Md:Below W.heap.size W v14:=aa zD hab (zD).size
     have HG:Hid (Blk v14 g 39 #[.int .i64 0,.int .i64 0,.slice none 0 0]):=qh fh
     have hgu:W.heap.size≤g:=by rw[←hg];first|exact Nat.le_refl _|exact(zD).size
     clear hwe
     (replace hHeld:=HSS.out _ Md)
     (replace HZ:=qh (HZ.out.below hab HZ.out.lt))
     clear hab
     refine r1T 6 (fun K hK =>?_)
     go_simp
     (go_at_call 23;(with_reducible refine(En CA 1 b q _ (HT.out.next Md) bz (Blk.all bC HZ.out HZ.out.lt)).mono ?_);rintro e v15 ⟨⟨A3,c3,es3,rfl,hm3,ho3⟩,hab⟩)
     have TC:Below W.heap.size W v15:=aa Md hab (Md).size
     have HO3:Hid (fK v15 W.heap.size A3 c3 es3):=qh (ho3.mono (Md).size)
     have HM3:=qh hm3
     clear hm3 ho3
     go_wp2_with fail
     refine hK.out _ _ _ (HSS.out _ TC) (fun hHeld =>?_)
     clear hK K
     (replace HZ:=qh (HZ.out.below hab HZ.out.lt))
     (replace HG:=qh (HG.out.below hab HG.out.lt))
     clear hab
     refine tkT 7 hHeld ?_ (hQ:=hqB)
     refine tkT 8 hHeld ?_ (hQ:=hqB)
     refine tkT 9 hHeld ?_ (hQ:=hqB)
     have hgl:=HG.out.lt
     have gf:=fun j=>HG.out.frozen j
     have g0:=HG.out.cell 0
     have g1:=HG.out.cell 1
     have g2:=HG.out.cell 2
     simp only[gE3]at g0 g1 g2
     refine r1T 11 (fun K hK =>?_)
     go_simp
     have hbg:∀Y,Y=(((v15).setCell ⟨g,0,none⟩ (.int .i64 0)).setCell ⟨g,1,none⟩ (.int .i64 1)).setCell ⟨g,2,none⟩ (.slice A3 1 c3)→Below W.heap.size W Y:=fun Y hY=>by
      rw[hY]
      iterate 3 (refine Below.setCell ?_ (show W.heap.size≤g from hgu) _)
      exact TC
     exact l90_0
   ·go_simp
    refine hK.out _ _ _ (HSS.out _ (by have:=De.size;first|exact(De).alloc this _|exact ai)) (fun hHeld =>?_)
    clear hK K
    generalize hg:(v10).heap.size=g
    generalize hwe:World.alloc (v10) _=v16
    have hab:Below (v10).heap.size (v10) v16:=by rw[←hwe];exact ai
    have Q9:Below W.heap.size W v16:=aa De hab (De).size
    have HG:Hid (Blk v16 g 39 #[.int .i64 0,.int .i64 0,.slice none 0 0]):=qh fh
    have hgu:W.heap.size≤g:=by rw[←hg];first|exact Nat.le_refl _|exact(De).size
    clear hwe
    (replace hHeld:=HSS.out _ Q9)
    (replace HZ:=qh (HZ.out.below hab HZ.out.lt))
    clear hab
    refine r1T 1 (fun K hK =>?_)
    go_simp
    (go_at_call 17;(with_reducible refine(tq _).mono ?_);rintro e v17 ⟨rfl,Ux⟩)
    have Mc:Below W.heap.size W v17:=aa Q9 Ux (Q9).size
    have hab:=Ux
    go_wp2_with fail
    refine hK.out _ _ _ (HSS.out _ Mc) (fun hHeld =>?_)
    clear hK K
    (replace HZ:=qh (HZ.out.below hab HZ.out.lt))
    (replace HG:=qh (HG.out.below hab HG.out.lt))
    clear hab
    refine r1T 6 (fun K hK =>?_)
    go_simp
    (go_at_call 23;(with_reducible refine(En CA 1 b q _ (HT.out.next Mc) bz (Blk.all bC HZ.out HZ.out.lt)).mono ?_);rintro e v18 ⟨⟨A3,c3,es3,rfl,hm3,ho3⟩,hab⟩)
    have TB:Below W.heap.size W v18:=aa Mc hab (Mc).size
    have HO3:Hid (fK v18 W.heap.size A3 c3 es3):=qh (ho3.mono (Mc).size)
    have HM3:=qh hm3
    clear hm3 ho3
    go_wp2_with fail
    refine hK.out _ _ _ (HSS.out _ TB) (fun hHeld =>?_)
    clear hK K
    (replace HZ:=qh (HZ.out.below hab HZ.out.lt))
    (replace HG:=qh (HG.out.below hab HG.out.lt))
    clear hab
    refine tkT 7 hHeld ?_ (hQ:=hqB)
    refine tkT 8 hHeld ?_ (hQ:=hqB)
    refine tkT 9 hHeld ?_ (hQ:=hqB)
    have hgl:=HG.out.lt
    have gf:=fun j=>HG.out.frozen j
    have g0:=HG.out.cell 0
    have g1:=HG.out.cell 1
    have g2:=HG.out.cell 2
    simp only[gE3]at g0 g1 g2
    refine r1T 11 (fun K hK =>?_)
    go_simp
    have hbg:∀Y,Y=(((v18).setCell ⟨g,0,none⟩ (.int .i64 0)).setCell ⟨g,1,none⟩ (.int .i64 1)).setCell ⟨g,2,none⟩ (.slice A3 1 c3)→Below W.heap.size W Y:=fun Y hY=>by
     rw[hY]
     iterate 3 (refine Below.setCell ?_ (show W.heap.size≤g from hgu) _)
     exact TB
    exact l90_0
  ·go_simp
   refine hK.out _ _ _ (HSS.out _ fj) (fun hHeld =>?_)
   clear hK K
   generalize hg:W.heap.size=g
   generalize hwe:World.drew (World.alloc W _)=v19
   have hab:Below W.heap.size W v19:=by rw[←hwe];exact ai
   have Fp:=hab
   have HG:Hid (Blk v19 g 39 #[.int .i64 0,.int .i64 0,.slice none 0 0]):=qh fk
   have hgu:W.heap.size≤g:=by rw[←hg];first|exact Nat.le_refl _|exact(hWd).size
   clear hwe
   (replace hHeld:=HSS.out _ Fp)
   clear hab
   refine r2T 1 4 (fun K hK =>?_) (fun K hK =>?_)
   ·go_simp
    (go_at_call 17;(with_reducible refine(tq _).mono ?_);rintro e v20 ⟨rfl,Uv⟩)
    have Ma:Below W.heap.size W v20:=aa Fp Uv (Fp).size
    have hab:=Uv
    go_wp2_with fail
    refine hK.out _ _ _ (HSS.out _ Ma) (fun hHeld =>?_)
    clear hK K
    (replace HG:=qh (HG.out.below hab HG.out.lt))
    clear hab
    refine r1T 4 (fun K hK =>?_)
    go_simp
    refine hK.out _ _ _ (HSS.out _ (by have:=Ma.size;first|exact(Ma).alloc this _|exact ai)) (fun hHeld =>?_)
    clear hK K
    generalize hg:(v20).heap.size=bz
    generalize hwe:World.alloc (v20) _=v21
    have hab:Below (v20).heap.size (v20) v21:=by rw[←hwe];exact ai
    have L9:Below W.heap.size W v21:=aa Ma hab (Ma).size
    have HZ:Hid (Blk v21 bz 50 ([lI,sX].flatMap Val.cells).toArray):=qh fh
    clear hwe
    (replace hHeld:=HSS.out _ L9)
    (replace HG:=qh (HG.out.below hab HG.out.lt))
    clear hab
    refine tkT 5 hHeld ?_ (hQ:=hqB)
    refine r1T 6 (fun K hK =>?_)
    go_simp
    (go_at_call 23;(with_reducible refine(En CA 1 b q _ (HT.out.next L9) bz (Blk.all bC HZ.out HZ.out.lt)).mono ?_);rintro e v22 ⟨⟨A3,c3,es3,rfl,hm3,ho3⟩,hab⟩)
    have Tz:Below W.heap.size W v22:=aa L9 hab (L9).size
    have HO3:Hid (fK v22 W.heap.size A3 c3 es3):=qh (ho3.mono (L9).size)
    have HM3:=qh hm3
    clear hm3 ho3
    go_wp2_with fail
    refine hK.out _ _ _ (HSS.out _ Tz) (fun hHeld =>?_)
    clear hK K
    (replace HZ:=qh (HZ.out.below hab HZ.out.lt))
    (replace HG:=qh (HG.out.below hab HG.out.lt))
    clear hab
    refine tkT 7 hHeld ?_ (hQ:=hqB)
    refine tkT 8 hHeld ?_ (hQ:=hqB)
    refine tkT 9 hHeld ?_ (hQ:=hqB)
    have hgl:=HG.out.lt
    have gf:=fun j=>HG.out.frozen j
    have g0:=HG.out.cell 0
    have g1:=HG.out.cell 1
    have g2:=HG.out.cell 2
    simp only[gE3]at g0 g1 g2
    refine r1T 11 (fun K hK =>?_)
    go_simp
    have hbg:∀Y,Y=(((v22).setCell ⟨g,0,none⟩ (.int .i64 0)).setCell ⟨g,1,none⟩ (.int .i64 1)).setCell ⟨g,2,none⟩ (.slice A3 1 c3)→Below W.heap.size W Y:=fun Y hY=>by
     rw[hY]
     iterate 3 (refine Below.setCell ?_ (show W.heap.size≤g from hgu) _)
     exact Tz
    exact l90_0
   ·go_simp
    refine hK.out _ _ _ (HSS.out _ (by have:=Fp.size;first|exact(Fp).alloc this _|exact ai)) (fun hHeld =>?_)
    clear hK K
    generalize hg:(v19).heap.size=bz
    generalize hwe:World.alloc (v19) _=v23
    have hab:Below (v19).heap.size (v19) v23:=by rw[←hwe];exact ai
    have Q8:Below W.heap.size W v23:=aa Fp hab (Fp).size
    have HZ:Hid (Blk v23 bz 50 ([lI,sX].flatMap Val.cells).toArray):=qh fh
    clear hwe
    (replace hHeld:=HSS.out _ Q8)
    (replace HG:=qh (HG.out.below hab HG.out.lt))
    clear hab
    refine tkT 5 hHeld ?_ (hQ:=hqB)
    refine r1T 1 (fun K hK =>?_)
    go_simp
    (go_at_call 17;(with_reducible refine(tq _).mono ?_);rintro e v24 ⟨rfl,Uu⟩)
    have hv24:Below W.heap.size W v24:=aa Q8 Uu (Q8).size
    have hab:=Uu
    go_wp2_with fail
    refine hK.out _ _ _ (HSS.out _ hv24) (fun hHeld =>?_)
    clear hK K
    (replace HZ:=qh (HZ.out.below hab HZ.out.lt))
    (replace HG:=qh (HG.out.below hab HG.out.lt))
    clear hab
    refine r1T 6 (fun K hK =>?_)
    go_simp
    (go_at_call 23;(with_reducible refine(En CA 1 b q _ (HT.out.next hv24) bz (Blk.all bC HZ.out HZ.out.lt)).mono ?_);rintro e v25 ⟨⟨A3,c3,es3,rfl,hm3,ho3⟩,hab⟩)
    have hv25:Below W.heap.size W v25:=aa hv24 hab (hv24).size
    have HO3:Hid (fK v25 W.heap.size A3 c3 es3):=qh (ho3.mono (hv24).size)
    have HM3:=qh hm3
    clear hm3 ho3
    go_wp2_with fail
    refine hK.out _ _ _ (HSS.out _ hv25) (fun hHeld =>?_)
    clear hK K
    (replace HZ:=qh (HZ.out.below hab HZ.out.lt))
    (replace HG:=qh (HG.out.below hab HG.out.lt))
    clear hab
    refine tkT 7 hHeld ?_ (hQ:=hqB)
    refine tkT 8 hHeld ?_ (hQ:=hqB)
    refine tkT 9 hHeld ?_ (hQ:=hqB)
    have hgl:=HG.out.lt
    have gf:=fun j=>HG.out.frozen j
    have g0:=HG.out.cell 0
    have g1:=HG.out.cell 1
    have g2:=HG.out.cell 2
    simp only[gE3]at g0 g1 g2
    refine r1T 11 (fun K hK =>?_)
    go_simp
    have hbg:∀Y,Y=(((v25).setCell ⟨g,0,none⟩ (.int .i64 0)).setCell ⟨g,1,none⟩ (.int .i64 1)).setCell ⟨g,2,none⟩ (.slice A3 1 c3)→Below W.heap.size W Y:=fun Y hY=>by
     rw[hY]
     iterate 3 (refine Below.setCell ?_ (show W.heap.size≤g from hgu) _)
     exact hv25
    exact l90_0
 rintro f w3 hf
 rw[HRS.out]at hf
 obtain⟨g,A3,c3,es3,hf3,hf4,hgu,hG,hO3,hm3,hb3⟩:=hf
 simp only[setL,List.setIfInBounds_toArray,List.set_cons_zero,List.set_cons_succ]
 rw[hf3,hf4]
 have hx3:Below w.heap.size w w3:=aa hxW hb3 hxW.size
 have HM3:=qh hm3
 have HO3:=qh hO3
 have HG3:=qh hG
 have hz3:=hb3.size
 have HT3:=qh (HT.out.next hb3)
 have HE3:=qh hO3.read
 clear hf3 hf4 hm3 hO3 hG HRS
 obtain⟨⟨p0,p1,p2,p3,p4,p5,p6,p7⟩,v0,v1,v2⟩:=HSS.out w3 hb3
 obtain⟨g0,g1,g2⟩:=lZ HG3.out
 have XD:=HG3.out.lt
 go_upto_region 5 with (go_at_call 23;(with_reducible refine(Yi CA 1 b q _ HT3.out A3 c3 es3 HE3.out HM3.out).mono ?_);rintro e w4 ⟨⟨A4,c4,es4,rfl,hm4,ho4⟩,hb4⟩;have HM4:=qh hm4;have HO4:=qh ho4;have HG4:=qh (HG3.out.below hb4 XD);clear hm4 ho4 g0 g1 g2;obtain⟨g0,g1,g2⟩:=lZ HG4.out;have gf:=(fun j=>HG4.out.frozen j);have ZY:=HG4.out.lt)
 obtain⟨W5,hW5⟩:∃W5,((w4.setCell ⟨g,0,none⟩ (.int .i64 0)).setCell ⟨g,1,none⟩ (.int .i64 2)).setCell ⟨g,2,none⟩ (.slice A4 2 c4)=W5:=⟨_,rfl⟩
 rw[hW5]
 have oQ:Below W.heap.size W W5:=by
  rw[←hW5]
  iterate 3 (refine Below.setCell ?_ (show W.heap.size≤g from hgu) _)
  exact aa hb3 hb4 hb3.size
 have HG5:Hid (Blk W5 g 39 #[.int .i64 0,.int .i64 2,.slice A4 2 c4]):=qh (by
  rw[←hW5]
  have h:=((HG4.out.aH 0 (.int .i64 0)).aH 1 (.int .i64 2)).aH 2 (.slice A4 2 c4)
  simpa using h)
 have HO5:Hid (fK W5 W.heap.size A4 c4 es4):=qh (by
  have n1:=HO4.out.own.aY HG4.out (by decide)
  rw[←hW5]
  refine⟨?_,fun x hx =>?_,HO4.out.len⟩
  ·iterate 3 (refine aj.far ?_ n1 _)
   exact HO4.out.own.mono hz3
  ·have m1:=(HO4.out.rows x hx).aY HG4.out (by decide)
   iterate 3 (refine aj.far ?_ m1 _)
   exact(HO4.out.rows x hx).mono hz3)
 clear hW5 g0 g1 g2 gf p0 p1 p2 p3 p4 p5 p6 p7 v0 v1 v2 hb4
 have hx5:Below w.heap.size w W5:=aa hxW oQ hxW.size
 have hz5:=oQ.size
 have HT5:=qh (HT.out.next oQ)
 have HE5:=qh HO5.out.read
 have hl4:es4.length=2:=ji HM4.out
 have hc4:2≤c4:=by
  have h:=uh HO5.out.own
  omega
 clear hl4
 obtain⟨⟨p0,p1,p2,p3,p4,p5,p6,p7⟩,v0,v1,v2⟩:=HSS.out W5 oQ
 obtain⟨g0,g1,g2⟩:=lZ HG5.out
 have Fv:=HG5.out.lt
 go_upto_region 6 with (go_at_call 10;(with_reducible refine(Yg CA 1 b q _ HT5.out A4 c4 es4 HE5.out hc4 HM4.out).mono ?_);rintro e w6 ⟨⟨A6,c6,es6,rfl,hm6,ho6⟩,hb6⟩;have HM6:=qh hm6;have HO6:=qh ho6;clear hm6 ho6)
 generalize hg6:w6.heap.size=g6
 generalize hW6:World.alloc w6 _=W6
 have Vg:Below w6.heap.size w6 W6:=by rw[←hW6];exact ai
 have HG6:Hid (Blk W6 g6 39 #[.int .i64 2,.int .i64 2,.slice A6 2 c6]):=qh (by rw[←hW6];exact Blk.new' hg6)
 have RQ:Below W5.heap.size W5 W6:=aa hb6 Vg hb6.size
 have IU:Below W.heap.size W W6:=aa oQ RQ oQ.size
 have hx6:Below w.heap.size w W6:=aa hxW IU hxW.size
 have YJ:=qh (HO6.out.below Vg)
 have Z5:W.heap.size≤g6:=by rw[←hg6];exact Nat.le_trans hz5 hb6.size
 have HGL:=qh (HG5.out.below RQ Fv)
 have YL:=qh (HO5.out.below RQ)
 clear hg6 hW6 g0 g1 g2 p0 p1 p2 p3 p4 p5 p6 p7 v0 v1 v2
 have HT6:=qh (HT.out.next IU)
 have HE6:=qh YL.out.read
 have hz6:=IU.size
 obtain⟨⟨p0,p1,p2,p3,p4,p5,p6,p7⟩,v0,v1,v2⟩:=HSS.out W6 IU
 obtain⟨g0,g1,g2⟩:=lZ HGL.out
 have IG:=HGL.out.lt
 go_upto_region 7 with (go_at_call 23;(with_reducible refine(Yh CA 1 b q _ HT6.out A4 c4 es4 HE6.out HM4.out).mono ?_);rintro e w7 ⟨⟨A7,c7,es7,rfl,hm7,ho7⟩,hb7⟩;have HM7:=qh hm7;have HO7:=qh ho7;have HG7:=qh (HGL.out.below hb7 IG);clear hm7 ho7 g0 g1 g2;obtain⟨g0,g1,g2⟩:=lZ HG7.out;have gf:=(fun j=>HG7.out.frozen j);have ZX:=HG7.out.lt)
 obtain⟨W8,hW8⟩:∃W8,((w7.setCell ⟨g,0,none⟩ (.int .i64 0)).setCell ⟨g,1,none⟩ (.int .i64 3)).setCell ⟨g,2,none⟩ (.slice A7 3 c7)=W8:=⟨_,rfl⟩
 rw[hW8]
 have RN:Below W.heap.size W W8:=by
  rw[←hW8]
  iterate 3 (refine Below.setCell ?_ (show W.heap.size≤g from hgu) _)
  exact aa IU hb7 IU.size
 have hgg:g6≠g:=by
  have h1:=HG6.out.lt
  intro e
  subst e
  have h2:#[(.int .i64 2:Value),.int .i64 2,.slice A6 2 c6]=#[.int .i64 0,.int .i64 2,.slice A4 2 c4]:=by
   have h3:=HG6.out
   have h4:=HGL.out
   unfold Blk at h3 h4
   rw[h3]at h4
   injection h4 with h4
   injection h4 with h4
  have h5:=congrArg (fun a=>a[0]?) h2
  simp at h5
 have HG8:Hid (Blk W8 g 39 #[.int .i64 0,.int .i64 3,.slice A7 3 c7]):=qh (by
  rw[←hW8]
  have h:=((HG7.out.aH 0 (.int .i64 0)).aH 1 (.int .i64 3)).aH 2 (.slice A7 3 c7)
  simpa using h)
 have Wj:Hid (Blk W8 g6 39 #[.int .i64 2,.int .i64 2,.slice A6 2 c6]):=qh (by
  rw[←hW8]
  iterate 3 (refine Blk.far ?_ (show g6≠g from hgg) _)
  exact HG6.out.below hb7 HG6.out.lt)
 have HO8:Hid (fK W8 W.heap.size A7 c7 es7):=qh (by
  have n1:=HO7.out.own.aY HG7.out (by decide)
  rw[←hW8]
  refine⟨?_,fun x hx =>?_,HO7.out.len⟩
  ·iterate 3 (refine aj.far ?_ n1 _)
   exact HO7.out.own.mono hz6
  ·have m1:=(HO7.out.rows x hx).aY HG7.out (by decide)
   iterate 3 (refine aj.far ?_ m1 _)
   exact(HO7.out.rows x hx).mono hz6)
 have YK:Hid (fK W8 W.heap.size A6 c6 es6):=qh (by
  have h0:=YJ.out.below hb7
  have hG7:=HGL.out.below hb7 IG
  have n1:=h0.own.aY hG7 (by decide)
  rw[←hW8]
  refine⟨?_,fun x hx =>?_,h0.len⟩
  ·iterate 3 (refine aj.far ?_ n1 _)
   exact h0.own.mono hz5
  ·have m1:=(h0.rows x hx).aY hG7 (by decide)
   iterate 3 (refine aj.far ?_ m1 _)
   exact(h0.rows x hx).mono hz5)
 clear hW8 g0 g1 g2 gf p0 p1 p2 p3 p4 p5 p6 p7 v0 v1 v2 hb7
 have hx8:Below w.heap.size w W8:=aa hxW RN hxW.size
 have HT8:=qh (HT.out.next RN)
 have HE8:=qh HO8.out.read
 have hl7:es7.length=3:=ji HM7.out
 have hc7:3≤c7:=by
  have h:=uh HO8.out.own
  omega
 clear hl7
 obtain⟨⟨p0,p1,p2,p3,p4,p5,p6,p7⟩,v0,v1,v2⟩:=HSS.out W8 RN
 obtain⟨g0,g1,g2⟩:=lZ HG8.out
 have ZW:=HG8.out.lt
 go_upto_region 8 with (go_at_call 10;(with_reducible refine(Yf CA 1 b q _ HT8.out A7 c7 es7 HE8.out hc7 HM7.out).mono ?_);rintro e w9 ⟨⟨A9,c9,rfl⟩,hb9⟩)
 generalize hg9:w9.heap.size=g9
 generalize hW9:World.alloc w9 _=W9
 have X0:Below w9.heap.size w9 W9:=by rw[←hW9];exact ai
 have HG9:Hid (Blk W9 g9 39 #[.int .i64 3,.int .i64 3,.slice A9 0 c9]):=qh (by rw[←hW9];exact Blk.new' hg9)
 have RO:Below W8.heap.size W8 W9:=aa hb9 X0 hb9.size
 have hx9:Below w.heap.size w W9:=aa hx8 RO hx8.size
 have Yo:=qh (Wj.out.below RO Wj.out.lt)
 have HE9:=qh (YK.out.below RO).read
 clear hg9 hW9 g0 g1 g2 p0 p1 p2 p3 p4 p5 p6 p7 v0 v1 v2
 obtain⟨x0,xs,hxs,hp0⟩:∃x0 xs,es6=x0::xs∧Ent.p x0=(0,⟨1,1,0,0,none,0,[lI,dS],dU,0,dU⟩):=by
  have h:=HM6.out
  cases es6 with
  | nil=>simp at h
  | cons x0 xs =>
    rw[List.map_cons]at h
    injection h with h1 h2
    exact⟨x0,xs,rfl,h1⟩
 have hr0:x0.chg.row=[lI,dS]:=congrArg (fun e=>e.2.row) hp0
 obtain⟨b5,o5,e5,hb5,hc5⟩:=HE9.out.1.get (i:= 0) (by rw[hxs];simp)
 have hx0:es6[0]'(by rw[hxs];simp)=x0:=by simp[hxs]
 rw[hx0]at hc5
 have hrow:=HE9.out.2 x0 (by rw[hxs];simp)
 obtain⟨q0,_,q5,_⟩:=Ent.bZ hc5
 rw[hr0]at hrow q5
 obtain⟨b7,o7,e7,aai,OU⟩:=hrow.get (i:= 1) spA
 have XO:=OU 0 _ rfl
 have XN:=OU 1 _ rfl
 have XM:=OU 2 _ rfl
 rw[e7]at q5
 subst e5
 simp only[List.length_cons,List.length_nil,Nat.zero_mul,Nat.zero_add,Nat.one_mul,Nat.add_zero,Nat.reduceAdd]at q5 XO XN XM
 obtain⟨t0,t1,t2⟩:=lZ Yo.out
 obtain⟨g0,g1,g2⟩:=lZ HG9.out
 have heq:=bu (x:=(⟨0,0,⟨#[]⟩⟩:Val)) (y:=⟨0,0,⟨#[]⟩⟩) (b:=true) spA
 have hgt:Tryz.prog.eqGuardType Tryz.prog.depth 50=false:=by kernel_rfl
 simp only at heq
 clear hc5 OU hrow hx0 hxs hp0 hr0 e7 q0
 go_wp2_with fail
 go_ret
 exact⟨rfl,hx9⟩
end Go.Proofs.YtjidligipoldeaaGreat
