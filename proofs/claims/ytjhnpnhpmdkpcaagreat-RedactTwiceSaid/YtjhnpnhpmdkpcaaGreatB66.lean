/-
  Contracts and plain laws of this seat, part 66: AwR, SameD.
-/
import Derived.Test.YtjhnpnhpmdkpcaaGreatB37
import Derived.Test.YtjhnpnhpmdkpcaaGreatB1
import Derived.Test.YtjhnpnhpmdkpcaaGreatB2
import Derived.Test.YtjhnpnhpmdkpcaaGreatB54
import Derived.Test.YtjhnpnhpmdkpcaaGreatB63
import Derived.Test.YtjhnpnhpmdkpcaaGreatB62
import Derived.Test.YtjhnpnhpmdkpcaaGreatB59
set_option linter.unusedVariables false
set_option linter.unusedSimpArgs false
set_option maxRecDepth 100000
set_option maxHeartbeats 16000000
namespace Go.Proofs.YtjhnpnhpmdkpcaaGreat
open Go.RowKit Go
def vY:Val:=⟨2,0,⟨#[121]⟩⟩
theorem v_y:valB vY=true:=by decide +kernel
def d1 (A:Option Addr) (cp:Nat):Chg:=⟨1,2,0,0,A,cp,[vOne,vX],nulV,0,nulV⟩
def d2:Chg:=⟨2,9,0,0,none,0,[],vOne,1,vY⟩
def d3:Chg:=⟨3,12,0,0,none,0,[],vOne,0,nulV⟩
def dd (A:Option Addr) (cp:Nat):List Chg := [d1 A cp,d2,d3]
theorem form_d1 (q:Nat) (A:Option Addr) (cp:Nat):formE [tabPl q] (d1 A cp) = 0:=by
 have h1:invalidB [tabPl q] (d1 A cp)=false:=by
  have e:rowB [vOne,vX]=true:=by decide +kernel
  have e2:badIns 2 (d1 A cp)=false:=by
   unfold badIns
   rw [show (d1 A cp).row = [vOne,vX] from rfl,e]
   show (((decide (nulV≠nulV)||(0:Int) != 0)||decide (nulV≠nulV))||(2:Int) != 2 || !true)=false
   decide +kernel
  have e3:invalidB [tabPl q] (d1 A cp)=(badHead 1 (d1 A cp)||badIns 2 (d1 A cp)):=rfl
  rw [e3,e2]
  rfl
 have h2:((keyOf (d1 A cp)).kind == 0)=false:=rfl
 have h3:pb (RowTyped (colsAt [tabPl q] (d1 A cp).table) (d1 A cp).row)=true:=pb_true (fun i h k=>by
  have h':i < 2:=h
  rcases (show i = 0∨i = 1 by omega) with rfl|rfl <;> rfl)
 have h4:badTyp (colsAt [tabPl q] (d1 A cp).table) (d1 A cp)=false:=rfl
 unfold formE
 rw [h1,h2,h3,h4]
 rfl
theorem form_d2 (q:Nat):formE [tabPl q] d2 = 0:=by
 have h1:invalidB [tabPl q] d2=false:=by
  have e3:invalidB [tabPl q] d2=(badHead 1 d2||badUpd 2 d2):=rfl
  have e2:badUpd 2 d2=false:=by decide +kernel
  rw [e3,e2]
  rfl
 have h2:((keyOf d2).kind == 0)=false:=rfl
 have h3:pb (RowTyped (colsAt [tabPl q] d2.table) d2.row)=true:=pb_true (fun i h k=>by cases h)
 have h4:badTyp (colsAt [tabPl q] d2.table) d2=false:=rfl
 have h5:pb (FixedCol (colsAt [tabPl q] d2.table) d2.column)=false:=fixP (by decide)
 unfold formE
 rw [h1,h2,h3,h4,h5]
 rfl
theorem form_d3 (q:Nat):formE [tabPl q] d3 = 0:=by
 have h1:invalidB [tabPl q] d3=false:=by
  have e3:invalidB [tabPl q] d3=(badHead 1 d3||badDel d3):=rfl
  have e2:badDel d3=false:=by decide +kernel
  rw [e3,e2]
  rfl
 have h2:((keyOf d3).kind == 0)=false:=rfl
 have h3:pb (RowTyped (colsAt [tabPl q] d3.table) d3.row)=true:=pb_true (fun i h k=>by cases h)
 have h4:badTyp (colsAt [tabPl q] d3.table) d3=false:=rfl
 unfold formE
 rw [h1,h2,h3,h4]
 rfl
theorem ord_dd (q:Nat) (A:Option Addr) (cp:Nat):OrdOk [tabPl q] (dd A cp):=by
 refine ⟨catP_ok q,by show 3 ≤ 1024;omega,fun i h => ?_⟩
 have h':i < 3:=h
 rcases (show i = 0∨i = 1∨i = 2 by omega) with rfl|rfl|rfl
 ·exact ⟨form_d1 q A cp,fun h0=>by omega⟩
 ·exact ⟨form_d2 q,fun _=>by show (2:Int) < 9∧(0:Int) ≤ 0;decide⟩
 ·exact ⟨form_d3 q,fun _=>by show (9:Int) < 12∧(0:Int) ≤ 0;decide⟩
theorem fol_dd (A:Option Addr) (cp:Nat):folL [Alive0] (dd A cp) = [(d1 A cp,⟨0,2⟩,0),(d2,⟨0,2⟩,0),(d3,⟨0,2⟩,0)]:=by
 have e1:folE [Alive0] (d1 A cp)=([(putF (fun _=>none) vOne (some 2),1)],[(d1 A cp,⟨0,2⟩,0)]):=folE_ins (al := [Alive0]) (x:=d1 A cp) (k := 0) spA rfl rfl (.inr (by decide))
 have e2:folE [(putF (fun _=>none) vOne (some 2),1)] d2=([(putF (fun _=>none) vOne (some 2),1)],[(d2,⟨0,2⟩,0)]):=folE_upd (al := [(putF (fun _=>none) vOne (some 2),1)]) (x:=d2) (k := 0) spA rfl (s := 2) (by show putF (fun _=>none) vOne (some 2) vOne=some 2;exact putF_same _ _ _) (by decide) (by decide)
 have e3:(folE [(putF (fun _=>none) vOne (some 2),1)] d3).2 = [(d3,⟨0,2⟩,0)]:=by rw [folE_del (al := [(putF (fun _=>none) vOne (some 2),1)]) (x:=d3) (k := 0) spA rfl (s := 2) (by show putF (fun _=>none) vOne (some 2) vOne=some 2;exact putF_same _ _ _) rfl];rfl
 show (folE [Alive0] (d1 A cp)).2++((folE (folE [Alive0] (d1 A cp)).1 d2).2++((folE (folE (folE [Alive0] (d1 A cp)).1 d2).1 d3).2 ++ []))=_
 rw [e1]
 show [(d1 A cp,(⟨0,2⟩:Src),(0:Int))]++((folE [(putF (fun _=>none) vOne (some 2),1)] d2).2++((folE (folE [(putF (fun _=>none) vOne (some 2),1)] d2).1 d3).2 ++ []))=_
 rw [e2]
 show [(d1 A cp,(⟨0,2⟩:Src),(0:Int))]++([(d2,(⟨0,2⟩:Src),(0:Int))]++((folE [(putF (fun _=>none) vOne (some 2),1)] d3).2 ++ []))=_
 rw [e3]
 rfl
theorem his_dd1 (A:Option Addr) (cp:Nat):(folL [Alive0] (dd A cp)).flatMap (hisV [⟨0,1,9⟩] []) = [unC (d1 none 0),{ d2 with val:=nulV },d3]:=by
 rw [fol_dd]
 rfl
theorem his_dd2 (A:Option Addr) (cp:Nat):(folL [Alive0] (dd A cp)).flatMap (hisV [] [⟨0,2⟩]) = []:=by
 rw [fol_dd]
 rfl
theorem law21_plain (w:World):Calls Tryz.prog 43 #[] w fun e w' =>
 (∃ A q,e = .returned (.agg #[.slice A 1 1, .slice none 0 0, .slice none 0 0, .slice none 0 0, .slice none 0 0, .slice none 0 0, .slice none 0 0, .slice none 0 0])∧TabsIn w' w'.heap.size A [tabPl q])∧Below w.heap.size w w':=by
 go_enter Tryz.func43,Tryz.ntmps43
 go_wp2_with fail
 refine abs_world (P:=fun u=>bodyPost _ _ _ _ _ u) (R:=fun u=>Blk u w.heap.size 34 #[.slice (some ⟨w.heap.size + 1 + 1,0,none⟩) 1 1, .slice none 0 0, .slice none 0 0, .slice none 0 0, .slice none 0 0, .slice none 0 0, .slice none 0 0, .slice none 0 0]∧Blk u (w.heap.size + 1) 73 ([colP0,colP1].flatMap Col.cells).toArray∧Blk u (w.heap.size + 1 + 1) 71 ([tabPl (w.heap.size + 1)].flatMap Tab.cells).toArray∧Below w.heap.size w u) ⟨?_,?_,?_,?_⟩ ?_
 ·exact ((Blk.new _ _ _).alloc _).alloc _
 ·exact ((Blk.new' spA).eq rfl).alloc _
 ·exact (Blk.new' spA).eq rfl
 ·exact belA
 rintro W ⟨hR,hC,hT,hbW⟩
 obtain ⟨p0,p1,p2,p3,p4,p5,p6,p7⟩:=Cat.blk hR
 refine bodyPost_ret (v := .agg #[.slice (some ⟨w.heap.size + 1 + 1,0,none⟩) 1 1, .slice none 0 0, .slice none 0 0, .slice none 0 0, .slice none 0 0, .slice none 0 0, .slice none 0 0, .slice none 0 0]) (by simp [results,Tryz.results43,go_sem,p0,p1,p2,p3,p4,p5,p6,p7]) rfl ⟨⟨_,w.heap.size + 1,rfl,?_,?_⟩,hbW⟩
 ·exact Blk.all tab_len hT hT.lt
 ·intro t ht
  rw [List.mem_singleton.1 ht]
  refine ⟨Blk.all col_len hC hC.lt,fun x hx => ?_⟩
  have hx:x=colP0∨x=colP1:=by simpa [tabPl] using hx
  rcases hx with rfl|rfl
  ·exact SliceIs.nil
  ·exact SliceIs.nil
theorem dd_in {w:World} {q z:Nat} {l:List Chg} (hl:l.map (fun x=>(x.A,x.row)) = [(some ⟨z,0,none⟩,[vOne,vX]),(none,[]),(none,[])]) (hV:Blk w z 53 ([vOne,vX].flatMap Val.cells).toArray) (hL:Blk w q 79 (l.flatMap Chg.cells).toArray):ChgsIn w w.heap.size (some ⟨q,0,none⟩) l:=by
 refine ⟨Blk.all chg_len hL hL.lt,fun x hx => ?_⟩
 have h1:(x.A,x.row)∈l.map (fun x=>(x.A,x.row)):=List.mem_map_of_mem hx
 rw [hl] at h1
 have h2:(x.A,x.row)=(some ⟨z,0,none⟩,[vOne,vX])∨(x.A,x.row)=(none,[]):=by simpa using h1
 rcases h2 with h2|h2
 ·injection h2 with h3 h4
  rw [h3,h4]
  exact Blk.all val_len hV hV.lt
 ·injection h2 with h3 h4
  rw [h3,h4]
  exact SliceIs.nil
theorem law21_three (w:World):Calls Tryz.prog 44 #[] w fun e w' =>
 (∃ q z,e = .returned (.slice (some ⟨q,0,none⟩) 3 3)∧w.heap.size≤z∧w.heap.size≤q∧Blk w' z 53 ([vOne,vX].flatMap Val.cells).toArray∧Blk w' q 79 ((dd (some ⟨z,0,none⟩) 2).flatMap Chg.cells).toArray)∧Below w.heap.size w w':=by
 have htx:=fun u:World=>ref01_Text ⟨#[120]⟩ u
 rw [show clean ⟨2,0,⟨#[120]⟩⟩=vX from clean_yes v_x] at htx
 simp only [vX] at htx
 have HTX:=qh htx
 have hty:=fun u:World=>ref01_Text ⟨#[121]⟩ u
 rw [show clean ⟨2,0,⟨#[121]⟩⟩=vY from clean_yes v_y] at hty
 simp only [vY] at hty
 have HTY:=qh hty
 clear htx hty
 go_enter Tryz.func44,Tryz.ntmps44
 go_upto_region 2 with (go_at_call 77;(refine (int_any 1 _ omA).mono ?_);rintro e w1 ⟨rfl,hb1⟩)
 have hwz:w.heap.size≤w1.heap.size:=hb1.1.size
 have hb1':Below w.heap.size w w1:=hb1.1
 refine abs_world (P:=fun u=>Code.wp _ _ _ _ u) (R:=fun u=>Blk u w1.heap.size 53 #[.int .i64 1, .int .i64 1, .string ⟨#[]⟩]∧Below w.heap.size w u) ⟨?_,?_⟩ ?_
 ·exact Blk.new' spA
 ·exact belA
 generalize w1.heap.size=z at *
 rintro W ⟨hV,hbW⟩
 have hzV:=hV.lt
 have HV:=qh hV
 have hy0:Below W.heap.size W W.drew:=brf.drew
 have hzW:=hbW.size
 clear hV
 refine wp_region_held_drew (S:=fun u=>u.cell? ⟨z,0,none⟩=some (.int .i64 1)∧u.cell? ⟨z,1,none⟩=some (.int .i64 1)∧u.cell? ⟨z,2,none⟩=some (.string ⟨#[]⟩)) krA ⟨(HV.out).cell 0,(HV.out).cell 1,(HV.out).cell 2⟩ (fun hHeld => ?_)
 refine tkH 0 hHeld ?_
 refine tkH 4 hHeld ?_
 refine tkH 7 hHeld ?_
 refine tkH 8 hHeld ?_
 refine wpAnyH_ready (rs := [1]) krA spA ?_
 refine AllReadyH.cons rfl (fun K hK => ?_) AllReadyH.nil
 go_simp
 (go_at_call 78;(with_reducible refine (HTX.out _).mono ?_))
 rintro e u2 ⟨rfl,hb2⟩
 have hb2':Below W.drew.heap.size W.drew u2:=hb2.1
 have hy2:Below W.heap.size W u2:=below_nextN hy0 hb2' hy0.size
 have hz2:=hy2.size
 clear hb2 hb2'
 go_wp2_with fail
 refine hK.out _ _ ⟨((HV.out.below hy2 hzV)).cell 0,((HV.out.below hy2 hzV)).cell 1,((HV.out.below hy2 hzV)).cell 2⟩ (fun hHeld => ?_)
 clear hK K
 (try simp only [Act.put,gP6])
 refine wpAnyH_ready (rs := [2,5]) krA spA ?_
 refine AllReadyH.cons rfl (fun K hK => ?_) (AllReadyH.cons rfl (fun K hK => ?_) AllReadyH.nil)
 ·go_simp
  generalize hu3:World.alloc u2 _=u3
  obtain ⟨zv,hzv⟩ : ∃ zv,u2.heap.size=zv:=⟨_,rfl⟩
  have HV3:Hid (Blk u3 zv 53 ([vOne,vX].flatMap Val.cells).toArray):=qh (by rw [← hu3];exact (Blk.new' hzv).eq rfl)
  have hb3:Below u2.heap.size u2 u3:=by rw [← hu3];exact belA
  have hy3:Below W.heap.size W u3:=below_nextN hy2 hb3 hz2
  have hz3:=hb3.size
  rw [hzv]
  have hzw:w.heap.size≤zv:=by omega
  clear hu3 hb3 hzv
  go_wp2_with fail
  refine hK.out _ _ ⟨((HV.out.below hy3 hzV)).cell 0,((HV.out.below hy3 hzV)).cell 1,((HV.out.below hy3 hzV)).cell 2⟩ (fun hHeld => ?_)
  clear hK K
  (try simp only [Act.put,gP6])
  refine tkH 3 hHeld ?_
  refine wpAnyH_ready (rs := [5]) krA spA ?_
  refine AllReadyH.cons rfl (fun K hK => ?_) AllReadyH.nil
  go_simp
  (go_at_call 78;(with_reducible refine (HTY.out _).mono ?_))
  rintro e u5 ⟨rfl,hb5⟩
  have hb5':Below u3.heap.size u3 u5:=hb5.1
  have hy5:Below W.heap.size W u5:=below_nextN hy3 hb5' hy3.size
  have HV5:Hid (Blk u5 zv 53 ([vOne,vX].flatMap Val.cells).toArray):=qh (HV3.out.below hb5' HV3.out.lt)
  have hz5:=hy5.size
  clear hb5 hb5' HV3
  go_wp2_with fail
  refine hK.out _ _ ⟨((HV.out.below hy5 hzV)).cell 0,((HV.out.below hy5 hzV)).cell 1,((HV.out.below hy5 hzV)).cell 2⟩ (fun hHeld => ?_)
  clear hK K
  (try simp only [Act.put,gP6])
  refine tkH 6 hHeld ?_
  refine wpAnyH_ready (rs := [9]) krA spA ?_
  refine AllReadyH.cons rfl (fun K hK => ?_) AllReadyH.nil
  go_simp
  generalize hu6:World.alloc u5 _=u6
  have HLL:Hid (Blk u6 u5.heap.size 79 ((dd (some ⟨zv,0,none⟩) 2).flatMap Chg.cells).toArray):=qh (by rw [← hu6];exact (Blk.new' rfl).eq rfl)
  have hb6:Below u5.heap.size u5 u6:=by rw [← hu6];exact belA
  have HVV:Hid (Blk u6 zv 53 ([vOne,vX].flatMap Val.cells).toArray):=qh (HV5.out.below hb6 HV5.out.lt)
  have hyF:Below W.heap.size W u6:=below_nextN hy5 hb6 hy5.size
  have hz6:=hb6.size
  have hzv:=HV5.out.lt
  clear hu6 hb6
  go_wp2_with fail
  refine hK.out _ _ ⟨((HV.out.below hyF hzV)).cell 0,((HV.out.below hyF hzV)).cell 1,((HV.out.below hyF hzV)).cell 2⟩ (fun hHeld => ?_)
  clear hK K
  (try simp only [Act.put,gP6])
  refine tkH 10 hHeld ?_
  refine wpAnyH_done krA ?_ _
  clear hHeld
  go_wp2_with fail
  go_ret
  exact ⟨⟨_,_,rfl,by omega,by omega,HVV.out,HLL.out⟩,below_nextN hbW hyF hbW.size⟩
 ·go_simp
  (go_at_call 78;(with_reducible refine (HTY.out _).mono ?_))
  rintro e u3 ⟨rfl,hb3⟩
  have hb3':Below u2.heap.size u2 u3:=hb3.1
  have hy3:Below W.heap.size W u3:=below_nextN hy2 hb3' hy2.size
  have hz3:=hy3.size
  clear hb3 hb3'
  go_wp2_with fail
  refine hK.out _ _ ⟨((HV.out.below hy3 hzV)).cell 0,((HV.out.below hy3 hzV)).cell 1,((HV.out.below hy3 hzV)).cell 2⟩ (fun hHeld => ?_)
  clear hK K
  (try simp only [Act.put,gP6])
  refine tkH 6 hHeld ?_
  refine wpAnyH_ready (rs := [2]) krA spA ?_
  refine AllReadyH.cons rfl (fun K hK => ?_) AllReadyH.nil
  go_simp
  generalize hu5:World.alloc u3 _=u5
  obtain ⟨zv,hzv⟩ : ∃ zv,u3.heap.size=zv:=⟨_,rfl⟩
  have HV5:Hid (Blk u5 zv 53 ([vOne,vX].flatMap Val.cells).toArray):=qh (by rw [← hu5];exact (Blk.new' hzv).eq rfl)
  have hb5:Below u3.heap.size u3 u5:=by rw [← hu5];exact belA
  have hy5:Below W.heap.size W u5:=below_nextN hy3 hb5 hz3
  have hz5:=hb5.size
  rw [hzv]
  have hzw:w.heap.size≤zv:=by omega
  clear hu5 hb5 hzv
  go_wp2_with fail
  refine hK.out _ _ ⟨((HV.out.below hy5 hzV)).cell 0,((HV.out.below hy5 hzV)).cell 1,((HV.out.below hy5 hzV)).cell 2⟩ (fun hHeld => ?_)
  clear hK K
  (try simp only [Act.put,gP6])
  refine tkH 3 hHeld ?_
  refine wpAnyH_ready (rs := [9]) krA spA ?_
  refine AllReadyH.cons rfl (fun K hK => ?_) AllReadyH.nil
  go_simp
  generalize hu6:World.alloc u5 _=u6
  have HLL:Hid (Blk u6 u5.heap.size 79 ((dd (some ⟨zv,0,none⟩) 2).flatMap Chg.cells).toArray):=qh (by rw [← hu6];exact (Blk.new' rfl).eq rfl)
  have hb6:Below u5.heap.size u5 u6:=by rw [← hu6];exact belA
  have HVV:Hid (Blk u6 zv 53 ([vOne,vX].flatMap Val.cells).toArray):=qh (HV5.out.below hb6 HV5.out.lt)
  have hyF:Below W.heap.size W u6:=below_nextN hy5 hb6 hy5.size
  have hz6:=hb6.size
  have hzv:=HV5.out.lt
  clear hu6 hb6
  go_wp2_with fail
  refine hK.out _ _ ⟨((HV.out.below hyF hzV)).cell 0,((HV.out.below hyF hzV)).cell 1,((HV.out.below hyF hzV)).cell 2⟩ (fun hHeld => ?_)
  clear hK K
  (try simp only [Act.put,gP6])
  refine tkH 10 hHeld ?_
  refine wpAnyH_done krA ?_ _
  clear hHeld
  go_wp2_with fail
  go_ret
  exact ⟨⟨_,_,rfl,by omega,by omega,HVV.out,HLL.out⟩,below_nextN hbW hyF hbW.size⟩
open Go.RowKit Go
theorem unC_row {x y:Chg} (h:unC x=unC y):y=⟨x.kind,x.seq,x.day,x.table,y.A,y.cap,x.row,x.key,x.column,x.val⟩:=by
 obtain ⟨a,b,c,d,A,cp,r,k,cl,v⟩:=x
 obtain ⟨a',b',c',d',A',cp',r',k',cl',v'⟩:=y
 unfold unC at h
 injection h with h1 h2 h3 h4 h5 h6 h7 h8 h9 h10
 simp only at h1 h2 h3 h4 h7 h8 h9 h10
 subst h1 h2 h3 h4 h7 h8 h9 h10
 rfl
theorem ref18_SameU (A A':Option Addr) (c c' n n':Nat) (l l':List Chg) (w:World) (h1:ChgsIn w w.heap.size A l) (h2:ChgsIn w w.heap.size A' l') (hn:l.length=n) (hn':l'.length=n') (hn6:n ≤ 1000000) (he:l.map unC=l'.map unC) (hrow : ∀ x∈l,x.row.length ≤ 1000000) :
 Calls Tryz.prog 22 #[.slice A n c, .slice A' n' c'] w fun e w'=>e = .returned (.bool true)∧Below w.heap.size w w':=by
 have hll:l'.length=l.length:=by
  have h:=congrArg List.length he
  simpa using h.symm
 have hnn:n'=n:=by omega
 subst hnn
 subst hn
 have H1:=qh h1.1
 have H2:=qh h2.1
 have R1:=qh h1.2
 have R2:=qh h2.2
 have HROW:=qh hrow
 have HE:=qh he
 have HLL:=qh hll
 clear h1 h2 hrow he hll hn'
 go_enter Tryz.func22,Tryz.ntmps22
 go_wp2_with fail
 go_loopw [5] (fun vi wr => ∃ i:Nat,i≤l.length∧vi = .int .i64 i∧Below w.heap.size w wr) (fun vi _=>l.length - (intOf vi).toNat)
 case atStart=>exact ⟨0,Nat.zero_le _,rfl,Below.refl _ _⟩
 case round =>
  obtain ⟨i,hi,rfl,hbr⟩:=hrel
  have hwz:=hbr.size
  by_cases hlt:i<l.length
  ·obtain ⟨b5,o5,rfl,hb5,hc5⟩:=(H1.out.below hbr).get hlt
   have hlt2:i<l'.length:=by rw [HLL.out];exact hlt
   obtain ⟨b6,o6,rfl,hb6,hc6⟩:=(H2.out.below hbr).get hlt2
   obtain ⟨⟨p0,p1,p2,p3⟩,p4,⟨p5,p6,p7⟩,p8,p9,p10,p11⟩:=Chg.cells12 hc5
   obtain ⟨⟨q0,q1,q2,q3⟩,q4,⟨q5,q6,q7⟩,q8,q9,q10,q11⟩:=Chg.cells12 hc6
   have hr:=HROW.out l[i] (lgm hlt)
   have r1:=R1.out l[i] (lgm hlt)
   have r2:=R2.out l'[i] (lgm hlt2)
   have hu:unC l[i]=unC l'[i]:=by
    have h1:(l.map unC)[i]'(by simpa using hlt)=(l'.map unC)[i]'(by simpa using hlt2):=by simp only [HE.out]
    simpa using h1
   have hy:=unC_row hu
   obtain ⟨A1,hA1⟩ : ∃ a,l'[i].A=a:=⟨_,rfl⟩
   obtain ⟨cp1,hcp1⟩ : ∃ a,l'[i].cap=a:=⟨_,rfl⟩
   rw [hA1,hcp1] at hy
   rw [hy] at q0 q1 q2 q3 q4 q5 q6 q7 q8 q9 q10 q11 r2
   obtain ⟨⟨kd,sq,dy,tb,A0,cp,row,key,cl,vl⟩,hx⟩ : ∃ x,l[i]=x:=⟨_,rfl⟩
   rw [hx] at p0 p1 p2 p3 p4 p5 p6 p7 p8 p9 p10 p11 q0 q1 q2 q3 q4 q5 q6 q7 q8 q9 q10 q11 hr r1 r2
   simp only at p0 p1 p2 p3 p4 p5 p6 p7 p8 p9 p10 p11 q0 q1 q2 q3 q4 q5 q6 q7 q8 q9 q10 q11 hr r1 r2
   have RA:=qh r1
   have RB:=qh r2
   clear r1 r2 hA1 hcp1 hy hu hx
   clear hc5 hc6
   have HE1:=qh (eqlVal_of (x:=key) (y:=key) (decide_eq_true rfl))
   have HE2:=qh (eqlVal_of (x:=vl) (y:=vl) (decide_eq_true rfl))
   go_upto_region 6 with (fail)
   go_cut [6,7] (fun v6 v7 wc => ∃ g g':Nat,v6 = .pointer (some ⟨g,0,none⟩)∧v7 = .pointer (some ⟨g',0,none⟩)∧Blk wc g 79 #[.int .i64 kd, .int .i64 sq, .int .i64 dy, .int .i64 tb, .slice A0 row.length cp, .int .i64 key.kind, .int .i64 key.num, .string key.text, .int .i64 cl, .int .i64 vl.kind, .int .i64 vl.num, .string vl.text]∧Blk wc g' 79 #[.int .i64 kd, .int .i64 sq, .int .i64 dy, .int .i64 tb, .slice A1 row.length cp1, .int .i64 key.kind, .int .i64 key.num, .string key.text, .int .i64 cl, .int .i64 vl.kind, .int .i64 vl.num, .string vl.text]∧Below wr.heap.size wr wc)
   case first =>
    have hl5:b5<wr.heap.size:=by omega
    have hl6:b6<wr.heap.size:=by omega
    refine wp_region_held_drew (S:=fun u=>(u.cell? ⟨b5,o5+i * 12,none⟩=some (.int .i64 kd)∧u.cell? ⟨b5,o5+i * 12 + 1,none⟩=some (.int .i64 sq)∧u.cell? ⟨b5,o5+i * 12 + 2,none⟩=some (.int .i64 dy)∧u.cell? ⟨b5,o5+i * 12 + 3,none⟩=some (.int .i64 tb)∧u.cell? ⟨b5,o5+i * 12 + 4,none⟩=some (.slice A0 row.length cp)∧u.cell? ⟨b5,o5+i * 12 + 5,none⟩=some (.int .i64 key.kind)∧u.cell? ⟨b5,o5+i * 12 + 6,none⟩=some (.int .i64 key.num)∧u.cell? ⟨b5,o5+i * 12 + 7,none⟩=some (.string key.text)∧u.cell? ⟨b5,o5+i * 12 + 8,none⟩=some (.int .i64 cl)∧u.cell? ⟨b5,o5+i * 12 + 9,none⟩=some (.int .i64 vl.kind)∧u.cell? ⟨b5,o5+i * 12 + 10,none⟩=some (.int .i64 vl.num)∧u.cell? ⟨b5,o5+i * 12 + 11,none⟩=some (.string vl.text))∧(u.cell? ⟨b6,o6+i * 12,none⟩=some (.int .i64 kd)∧u.cell? ⟨b6,o6+i * 12 + 1,none⟩=some (.int .i64 sq)∧u.cell? ⟨b6,o6+i * 12 + 2,none⟩=some (.int .i64 dy)∧u.cell? ⟨b6,o6+i * 12 + 3,none⟩=some (.int .i64 tb)∧u.cell? ⟨b6,o6+i * 12 + 4,none⟩=some (.slice A1 row.length cp1)∧u.cell? ⟨b6,o6+i * 12 + 5,none⟩=some (.int .i64 key.kind)∧u.cell? ⟨b6,o6+i * 12 + 6,none⟩=some (.int .i64 key.num)∧u.cell? ⟨b6,o6+i * 12 + 7,none⟩=some (.string key.text)∧u.cell? ⟨b6,o6+i * 12 + 8,none⟩=some (.int .i64 cl)∧u.cell? ⟨b6,o6+i * 12 + 9,none⟩=some (.int .i64 vl.kind)∧u.cell? ⟨b6,o6+i * 12 + 10,none⟩=some (.int .i64 vl.num)∧u.cell? ⟨b6,o6+i * 12 + 11,none⟩=some (.string vl.text))) krA ⟨⟨p0,p1,p2,p3,p4,p5,p6,p7,p8,p9,p10,p11⟩,⟨q0,q1,q2,q3,q4,q5,q6,q7,q8,q9,q10,q11⟩⟩ (fun hHeld => ?_)
    refine tkH 0 hHeld ?_
    refine tkH 1 hHeld ?_
    refine tkH 2 hHeld ?_
    refine tkH 3 hHeld ?_
    refine tkH 4 hHeld ?_
    refine tkH 5 hHeld ?_
    refine tkH 6 hHeld ?_
    refine tkH 7 hHeld ?_
    refine wpAnyH_ready (rs := [8,9]) krA spA ?_
    refine AllReadyH.cons rfl (fun K hK => ?_) (AllReadyH.cons rfl (fun K hK => ?_) AllReadyH.nil)
    ·go_simp
     refine hK.out _ _ ?_ (fun hHeld => ?_)
     ·(repeat' apply And.intro) <;> go_simp
     clear hK K
     (try simp only [Act.put,gP6])
     refine wpAnyH_ready (rs := [9]) krA spA ?_
     refine AllReadyH.cons rfl (fun K hK => ?_) AllReadyH.nil
     go_simp
     refine hK.out _ _ ?_ (fun hHeld => ?_)
     ·(repeat' apply And.intro) <;> go_simp
     clear hK K
     (try simp only [Act.put,gP6])
     refine wpAnyH_ready (rs := [10]) krA spA ?_
     refine AllReadyH.cons rfl (fun K hK => ?_) AllReadyH.nil
     go_simp
     refine hK.out _ _ ?_ (fun hHeld => ?_)
     ·(repeat' apply And.intro) <;> go_simp
     clear hK K
     (try simp only [Act.put,gP6])
     refine wpAnyH_ready (rs := [11]) krA spA ?_
     refine AllReadyH.cons rfl (fun K hK => ?_) AllReadyH.nil
     go_simp
     refine hK.out _ _ ?_ (fun hHeld => ?_)
     ·(repeat' apply And.intro) <;> go_simp
     clear hK K
     (try simp only [Act.put,gP6])
     refine wpAnyH_done krA ?_ _
     clear hHeld
     go_wp2_with fail
     go_meet
     exact ⟨_,_,rfl,rfl,((Blk.new _ _ _).alloc _).drew,(Blk.new' spA).drew,by exact belA⟩
    ·go_simp
     refine hK.out _ _ ?_ (fun hHeld => ?_)
     ·(repeat' apply And.intro) <;> go_simp
     clear hK K
     (try simp only [Act.put,gP6])
     refine wpAnyH_ready (rs := [8]) krA spA ?_
     refine AllReadyH.cons rfl (fun K hK => ?_) AllReadyH.nil
     go_simp
     refine hK.out _ _ ?_ (fun hHeld => ?_)
     ·(repeat' apply And.intro) <;> go_simp
     clear hK K
     (try simp only [Act.put,gP6])
     refine wpAnyH_ready (rs := [10]) krA spA ?_
     refine AllReadyH.cons rfl (fun K hK => ?_) AllReadyH.nil
     go_simp
     refine hK.out _ _ ?_ (fun hHeld => ?_)
     ·(repeat' apply And.intro) <;> go_simp
     clear hK K
     (try simp only [Act.put,gP6])
     refine wpAnyH_ready (rs := [11]) krA spA ?_
     refine AllReadyH.cons rfl (fun K hK => ?_) AllReadyH.nil
     go_simp
     refine hK.out _ _ ?_ (fun hHeld => ?_)
     ·(repeat' apply And.intro) <;> go_simp
     clear hK K
     (try simp only [Act.put,gP6])
     refine wpAnyH_done krA ?_ _
     clear hHeld
     go_wp2_with fail
     go_meet
     exact ⟨_,_,rfl,rfl,(Blk.new' spA).drew,((Blk.new _ _ _).alloc _).drew,by exact belA⟩
   case rest =>
    obtain ⟨g,g',rfl,rfl,hg,hg',hbc⟩:=hcut
    obtain ⟨⟨a0,a1,a2,a3⟩,a4,⟨a5,a6,a7⟩,a8,a9,a10,a11⟩:=Chg.blk12 (x:=⟨kd,sq,dy,tb,A0,cp,row,key,cl,vl⟩) hg
    obtain ⟨⟨e0,e1,e2,e3⟩,e4,⟨e5,e6,e7⟩,e8,e9,e10,e11⟩:=Chg.blk12 (x:=⟨kd,sq,dy,tb,A1,cp1,row,key,cl,vl⟩) hg'
    simp only at a0 a1 a2 a3 a4 a5 a6 a7 a8 a9 a10 a11 e0 e1 e2 e3 e4 e5 e6 e7 e8 e9 e10 e11
    have hyc:=below_nextN hbr hbc hwz
    have HG:=qh hg
    have HG':=qh hg'
    have eq1:=HE1.out
    have eq2:=HE2.out
    clear hg hg' p0 p1 p2 p3 p4 p5 p6 p7 p8 p9 p10 p11 q0 q1 q2 q3 q4 q5 q6 q7 q8 q9 q10 q11
    go_upto_region 9 with (fail)
    have hgl:=HG.out.lt
    have hgl':=HG'.out.lt
    have hcz:=hyc.size
    clear a0 a1 a2 a3 a5 a6 a7 a8 a9 a10 a11 e0 e1 e2 e3 e5 e6 e7 e8 e9 e10 e11 eq1 eq2
    go_wp2_with fail
    go_loopw [8] (fun vi w3 => ∃ k:Nat,k≤row.length∧vi = .int .i64 k∧Below wc.heap.size wc w3) (fun vi _=>row.length - (intOf vi).toNat)
    case atStart=>exact ⟨0,Nat.zero_le _,rfl,Below.refl _ _⟩
    case round =>
     obtain ⟨k,hk,rfl,hb3⟩:=hrel
     have hz3:=hb3.size
     have hy3:=below_nextN hyc hb3 hcz
     have a4:=(HG.out.below hb3 hgl).cell 4
     have e4:=(HG'.out.below hb3 hgl').cell 4
     simp only [gE3] at a4 e4
     by_cases hkl:k<row.length
     ·have hkl':decide (k<row.length)=true:=by simpa using hkl
      have hkli:decide ((k:Int)<(row.length:Int))=true:=by simp;omega
      obtain ⟨b7,o7,rfl,hb7,hc7⟩:=(RA.out.below hy3).get hkl
      obtain ⟨b8,o8,rfl,hb8,hc8⟩:=(RB.out.below hy3).get hkl
      obtain ⟨u0,u1,u2⟩:=Val.cells3 hc7
      obtain ⟨v0,v1,v2⟩:=Val.cells3 hc8
      have heq:=eqlVal_of (x:=row[k]) (y:=row[k]) (b:=true) spA
      have hk0:=keepQ (w:=wr) g omA
      have hk1:=keepQ (w:=wr) g' omA
      have hk2:=keepQ (w:=wr) b7 omA
      have hk3:=keepQ (w:=wr) b8 omA
      have hgt:Tryz.prog.eqGuardType Tryz.prog.depth 53=false:=by kernel_rfl
      clear hc7 hc8
      go_upto_region 12 with (fail)
      refine wp_region_bel krA krA ?_;(repeat (go_big_quiet_step (fail)));refine wpQuiet_nil ?_;intro wq hq
      clear hk0 hk1 hk2 hk3 u0 u1 u2 v0 v1 v2 heq a4 e4
      go_wp2_with fail
      go_roundw
      case rel=>exact ⟨k + 1,by omega,by go_num,below_nextN hb3 hq hz3⟩
      case measure=>exact meA
     ·have hkl':decide (k<row.length)=false:=by simpa using hkl
      have hkli:decide ((k:Int)<(row.length:Int))=false:=by simp;omega
      go_wp2_with fail
      go_roundw
      case rel=>exact ⟨i + 1,by omega,by go_num,hy3⟩
      case measure=>exact meA
  ·have hlt':decide (i<l.length)=false:=by simpa using hlt
   go_wp2_with fail
   go_ret
   exact ⟨rfl,hbr⟩
end Go.Proofs.YtjhnpnhpmdkpcaaGreat
