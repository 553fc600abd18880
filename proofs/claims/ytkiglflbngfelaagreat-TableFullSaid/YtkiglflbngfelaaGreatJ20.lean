/-
  Contracts and plain laws of this seat, part 20: PCat6, PCat7.
-/
import Derived.Test.YtkiglflbngfelaaGreatJ19
import Derived.Test.YtkiglflbngfelaaGreatJ3
import Derived.Laws.EntriesVeiled
set_option linter.unusedVariables false
set_option linter.unusedSimpArgs false
set_option maxRecDepth 100000
set_option maxHeartbeats 16000000
namespace Go.Proofs.YtkiglflbngfelaaGreat
open Go.RowKit Go
theorem chk_table (B g dm nm:Nat) (A:Option Addr) (c:Nat) (ts:List Tab) (n:Nat) (v:Value) (st:List Sto) (w:World) (hI:ChkIn w B g dm nm A c ts n n v st) (ht:TabsIn w B A ts) (hs:SaneCat ts) (hok:CatOk ts) (hn:n<ts.length) (hB:B≤w.heap.size) :
 Calls Tryz.prog 124 #[.pointer (some ⟨g,0,none⟩), .int .i64 n] w fun e w' =>
  (e = .returned (.int .i64 0) ∧ ∃ v' st',ChkIn w' B g dm nm A c ts (n + 1) (n + 1) v' st')∧Below B w w' ∧ ∀ q t cs,243≠t→t ≠ 176→Blk w q t cs→Blk w' q t cs:=by
 have h8:=hok.len
 have hnm:=(hok.tab n hn).name
 have hfr:=hok.notyet hn
 have hsh:=hok.shape hn
 have hcn:=hok.cols hn
 have hsz:=(hs.tabs ts[n] (lgm hn)).name
 have hcs:SliceIs w B Col.cells 7 ts[n].A ts[n].cols:=(ht.2 ts[n] (lgm hn)).1
 have hsh':=hsh
 simp only [shapeB,Bool.and_eq_true] at hsh'
 obtain ⟨⟨hw1,hw2⟩,hw3⟩:=hsh'
 have her:ts[n].erase = 0∨ts[n].erase = 1:=by
  rw [withinB,Bool.and_eq_true,decide_eq_true_iff,decide_eq_true_iff] at hw2
  omega
 obtain ⟨b5,o5,rfl,hb5,hc5⟩:=ht.1.get hn
 obtain ⟨t0,t1,t2,t3⟩:=Tab.cells4 hc5
 have HI:=qh hI
 have HT:=qh ht
 have HS:=qh hs
 have HOK:=qh hok
 have HNM:=qh hnm
 have HFR:=qh hfr
 have HCS:=qh hcs
 have HW1:=qh hw1
 have HW3:=qh hw3
 obtain ⟨p0,p8,p9,p10⟩:=Chk.blk hI.blk
 clear hI ht hs hok hnm hfr hcs hc5 hw1 hw2 hw3 hsh
 go_enter Tryz.func124,Tryz.ntmps124
 go_upto_region 2 with (fail)
 refine abs_world (P:=fun u=>Code.wp _ _ _ _ u) (R:=fun u=>Blk u w.heap.size 46 #[.string ts[n].name, .slice ts[n].A ts[n].cols.length ts[n].cap, .int .i64 ts[n].erase, .int .i64 ts[n].retain]∧Below w.heap.size w u) ⟨?_,?_⟩ ?_
 ·exact Blk.new _ _ _
 ·exact belA
 clear t0 t1 t2 t3 p0 p8 p9 p10
 rintro W ⟨hBT,hbW⟩
 have hWz:=hBT.lt
 have HBT:=qh hBT
 have HIW:=qh (HI.out.next hbW)
 obtain ⟨q0,q1,q2,q3⟩:=Tab.blk hBT
 clear hBT
 go_cut [6] (fun x wc=>x = .int .i64 0∧ChkIn wc B g dm nm (some ⟨b5,o5,none⟩) c ts (n + 1) n v st∧Blk wc w.heap.size 46 #[.string ts[n].name, .slice ts[n].A ts[n].cols.length ts[n].cap, .int .i64 ts[n].erase, .int .i64 ts[n].retain]∧Below B w wc ∧ ∀ q t cs,Blk w q t cs→Blk wc q t cs)
 case first =>
  go_wp2_with (go_at_call 179;(with_reducible refine (chk_declare (some ⟨b5,o5,none⟩) c dm nm g n v ts n _ HIW.out.blk HIW.out.decl hn (by unfold maxLen;omega) hsz HNM.out HFR.out).mono ?_);rintro e w1 ⟨rfl,hM1,hg1⟩)
  go_meet
  refine ⟨rfl,HIW.out.declared hM1 hg1,HBT.out.grown hg1 (fun e=>HIW.out.decl.neBlk HBT.out (Option.some.inj e).symm),Below.grown (hbW.mono hB) hg1 (by have:=hbW.size;omega) (fun q e => ?_),fun q t cs hq=>(hq.below hbW hq.lt).grown hg1 (fun e=>HIW.out.decl.neBlk (hq.below hbW hq.lt) (Option.some.inj e).symm)⟩
  injection e with e
  rw [← e]
  exact HIW.out.hd
 case rest =>
  obtain ⟨rfl,hI1,hB1,hb1,hk1⟩:=hcut
  have HK1:=qh hk1
  clear hk1
  obtain ⟨W1,rfl⟩ : ∃ W1:World,W1=wc:=⟨_,rfl⟩
  have hb1z:=hb1.size
  have hBz:B≤W1.heap.size:=by omega
  have hz1:=hB1.lt
  have HI1:=qh hI1
  have HB1:=qh hB1
  have HT1:=qh (HT.out.below hb1)
  have HCS1:=qh (HCS.out.below hb1)
  clear q0 q1 q2 q3 hI1
  obtain ⟨q0,q1,q2,q3⟩:=Tab.blk hB1
  clear hB1
  go_upto_region 5 with (fail)
  go_cut [44] (fun x wc=>x = .bool false∧W1=wc)
  case first =>
   rcases her with he|he
   ·have e0:(ts[n].erase != 0)=false:=by simpa using he
    clear he
    go_wp2_with (go_at_call 180;(first|(with_reducible refine (cat_within _ _ _ _ HW1.out).mono ?_)|(with_reducible refine (cat_within _ _ _ _ HW3.out).mono ?_));rintro e w1 ⟨rfl,rfl⟩)
    go_meet
    exact ⟨rfl,rfl⟩
   ·have e0:(ts[n].erase != 0)=true:=by rw [he];rfl
    have e1:(ts[n].erase != 1)=false:=by simpa using he
    clear he
    go_wp2_with (go_at_call 180;(first|(with_reducible refine (cat_within _ _ _ _ HW1.out).mono ?_)|(with_reducible refine (cat_within _ _ _ _ HW3.out).mono ?_));rintro e w1 ⟨rfl,rfl⟩)
    go_meet
    exact ⟨rfl,rfl⟩
  case rest =>
   obtain ⟨rfl,rfl⟩:=hcut
   go_upto_region 8 with (fail)
   go_loopw [48] (fun vi wr => ∃ m:Nat,m≤ts[n].cols.length∧vi = .int .i64 m∧Below W1.heap.size W1 wr) (fun vi _=>ts[n].cols.length - (intOf vi).toNat)
   case atStart=>exact ⟨0,Nat.zero_le _,rfl,Below.refl _ _⟩
   case round =>
    obtain ⟨m,hm,rfl,hbr⟩:=hrel
    have hwz:=hbr.size
    obtain ⟨q0,q1,q2,q3⟩:=Tab.blk (HB1.out.below hbr hz1)
    by_cases hlt:m<ts[n].cols.length
    ·obtain ⟨SA,sc,hv,hrd⟩:=(HI1.out.next hbr).rd
     have HRD:=qh hrd
     have HTR:=qh ((HT1.out.below (hbr.mono hBz)).mono (show B≤wr.heap.size by omega))
     clear hrd
     go_wp2_with (go_at_call 181;(with_reducible refine (chk_column g dm nm n _ c ts n SA sc st m ts[n].name ts[n].A ts[n].cap ts[n].cols ts[n].erase ts[n].retain _ HRD.out HTR.out HS.out HOK.out hn rfl hlt).mono ?_);rintro e w2 ⟨rfl,hb2⟩;have HX2:=qh (below_nextN hbr hb2 hwz))
     go_roundw
     case rel=>exact ⟨m + 1,by omega,by go_num,HX2.out⟩
     case measure=>exact meA
    ·have hlt':decide (m<ts[n].cols.length)=false:=by simpa using hlt
     have HIR:=qh (HI1.out.next hbr)
     have HBR:=qh (HB1.out.below hbr hz1)
     have HCR:=qh (HCS1.out.below (hbr.mono hBz))
     have hxr:Below B w wr:=hb1.trans (hbr.mono hBz)
     have hzr:w.heap.size<wr.heap.size:=by omega
     have hBr:B≤wr.heap.size:=by omega
     clear hlt
     go_upto_region 14 with (fail)
     have hdr:Below wr.heap.size wr wr.drew:=brf.drew
     have HCD:=qh ((HCR.out.mono hBr).next hdr)
     refine wp_region_held_drew (S:=fun u=>u.cell? ⟨w.heap.size,0,none⟩=some (.string ts[n].name)∧u.cell? ⟨w.heap.size,1,none⟩=some (.slice ts[n].A ts[n].cols.length ts[n].cap)) krA ⟨q0,q1⟩ (fun hHeld => ?_)
     refine tkH 0 hHeld ?_
     refine tkH 1 hHeld ?_
     refine tkH 2 hHeld ?_
     refine tkH 3 hHeld ?_
     refine tkH 4 hHeld ?_
     refine tkH 6 hHeld ?_
     refine tkH 7 hHeld ?_
     refine wpAnyH_ready (rs := [5]) krA spA ?_
     refine AllReadyH.cons rfl (fun K hK => ?_) AllReadyH.nil
     go_simp
     (go_at_call 183;(with_reducible refine (collect_names ts[n].A ts[n].cap ts[n].cols.length ts[n].cols _ HCD.out rfl omA).mono ?_))
     rintro e w3 ⟨⟨nv,rfl,hno⟩,hb3⟩
     obtain ⟨NA,nc,rfl,_,_⟩:=hno.form
     have hx3:Below wr.heap.size wr w3:=hdr.trans hb3
     have hz3:=hx3.size
     have s0:=(hx3.cell (p:=⟨w.heap.size,0,none⟩) hzr).trans q0
     have s1:=(hx3.cell (p:=⟨w.heap.size,1,none⟩) hzr).trans q1
     have HC3:=qh ((HCR.out.mono hBr).next hx3)
     clear hno hb3
     go_wp2_with fail
     refine hK.out _ _ ⟨s0,s1⟩ (fun hHeld => ?_)
     clear hK K
     (try simp only [Act.put,gP6])
     refine wpAnyH_ready (rs := [8]) krA spA ?_
     refine AllReadyH.cons rfl (fun K hK => ?_) AllReadyH.nil
     go_simp
     (go_at_call 185;(with_reducible refine (collect_types ts[n].A ts[n].cap ts[n].cols.length ts[n].cols _ HC3.out rfl omA).mono ?_))
     rintro e w4 ⟨⟨tv,rfl,hto⟩,hb4⟩
     obtain ⟨TA,tc,rfl,_,_⟩:=hto.form
     have hx4:Below wr.heap.size wr w4:=below_nextN hx3 hb4 hz3
     have hz4:=hx4.size
     have r0:=(hx4.cell (p:=⟨w.heap.size,0,none⟩) hzr).trans q0
     have r1:=(hx4.cell (p:=⟨w.heap.size,1,none⟩) hzr).trans q1
     have HTO:=qh (hto.mono (show B≤w3.heap.size by omega))
     have HB4:=qh (HBR.out.below hx4 hzr)
     clear hto hb4
     go_wp2_with fail
     refine hK.out _ _ ⟨r0,r1⟩ (fun hHeld => ?_)
     clear hK K
     (try simp only [Act.put,gP6])
     refine tkH 9 hHeld ?_
     refine wpAnyH_ready (rs := [10]) krA spA ?_
     refine AllReadyH.cons rfl (fun K hK => ?_) AllReadyH.nil
     go_simp
     have hadd:=chk_add B g dm nm _ c ts (n + 1) n v st ⟨NA,(ts[n].cols.map Col.name).length,nc,TA,tc,ts[n].cols.map Col.ty⟩ w4 (HIR.out.next hx4) hn h8 hsz HFR.out HTO.out rfl omA
     simp only [List.length_map] at hadd
     (go_at_call 182;(with_reducible refine hadd.mono ?_))
     clear hadd
     rintro e w5 ⟨⟨rfl,v',hI5⟩,hb5,hk5⟩
     have hB5:=hk5 _ _ _ (by decide) (by decide) HB4.out
     have HK5:=qh hk5
     have u0:=hB5.cell 0
     have u1:=hB5.cell 1
     simp only [gE3] at u0 u1
     have HI5:=qh hI5
     clear hI5 hk5 hB5
     go_wp2_with fail
     refine hK.out _ _ ⟨u0,u1⟩ (fun hHeld => ?_)
     clear hK K
     (try simp only [Act.put,gP6])
     refine wpAnyH_done krA ?_ _
     go_wp2_with fail
     go_ret
     exact ⟨⟨rfl,v',_,HI5.out⟩,(hxr.trans (hx4.mono hBr)).trans hb5,fun q t cs ht ht' hq=>HK5.out q t cs ht ht' (((HK1.out q t cs hq).below hbr (HK1.out q t cs hq).lt).below hx4 (Nat.lt_of_lt_of_le (HK1.out q t cs hq).lt hwz))⟩
open Go.RowKit Go
structure Kd where
 cnt:Nat
 lim:Int
 f:Nat
def Kd.cells (g:Nat) (x:Kd):List Value := [.int .i64 x.cnt, .int .i64 x.lim, .func (.func x.f) #[.pointer (some ⟨g,0,none⟩)] #[]]
theorem kd_len (g:Nat) : ∀ x:Kd,(Kd.cells g x).length = 3:=fun _=>rfl
def kinds (n:Nat):List Kd := [⟨n,8,124⟩,⟨0,12,125⟩,⟨0,16,126⟩,⟨0,16,127⟩,⟨0,16,128⟩,⟨0,16,129⟩,⟨0,16,130⟩,⟨0,16,131⟩]
theorem kinds_later {n m:Nat} (h:m<(kinds n).length) (h0:m ≠ 0):(kinds n)[m].cnt = 0:=by
 rcases m with _|m
 ·exact absurd rfl h0
 ·simp only [kinds,List.getElem_cons_succ]
  simp only [kinds,List.length_cons,List.length_nil] at h
  rcases m with _|_|_|_|_|_|_|m
  all_goals first|rfl|omega
theorem kinds_fit {n m:Nat} (h8:n ≤ 8) (h:m<(kinds n).length):((kinds n)[m].cnt:Int)≤(kinds n)[m].lim:=by
 simp only [kinds,List.length_cons,List.length_nil] at h
 rcases m with _|_|_|_|_|_|_|_|m
 all_goals first|(simp only [kinds,List.getElem_cons_succ,List.getElem_cons_zero];omega)|omega
theorem made_decl (w:World) (ts:List Tab):MapV Tryz.prog 9 4 (w.alloc (.map #[] 0)) w.heap.size 0 (declF ts 0) :=
 (MapV.made w _ _ _).eqf fun x kl _=>by
   cases x
   case string s=>simp only [declF];rw [findT_zero,if_pos (by decide)]
   all_goals rfl
theorem made_nums (w:World) (ts:List Tab):MapV Tryz.prog 9 3 (w.alloc (.map #[] 0)) w.heap.size 0 (numF ts 0) :=
 (MapV.made w _ _ _).eqf fun x kl _=>by
   cases x
   case string s=>simp only [numF];rw [findT_zero,if_pos (by decide)]
   all_goals rfl
theorem cat_check (A:Option Addr) (c m:Nat) (ts:List Tab) (w:World) (ht:TabsIn w w.heap.size A ts) (hm:ts.length=m) (hs:SaneCat ts) (hok:CatOk ts) :
 Calls Tryz.prog 81 #[.agg #[.slice A m c, .slice none 0 0, .slice none 0 0, .slice none 0 0, .slice none 0 0, .slice none 0 0, .slice none 0 0, .slice none 0 0]] w fun e w' =>
  (∃ p,e = .returned (.tuple #[p, .int .i64 0, .int .i64 0]))∧Below w.heap.size w w':=by
 subst hm
 have h8:=hok.len
 have HT:=qh ht
 have HS:=qh hs
 have HOK:=qh hok
 clear ht hs hok
 have hmm := @run_makeMap Tryz.prog
 go_enter Tryz.func81,Tryz.ntmps81
 go_upto_region 2 with (fail)
 clear hmm
 refine abs_world (P:=fun u=>Code.wp _ _ _ _ u) (R:=fun u=>ChkIn u w.heap.size (w.heap.size + 1 + 1 + 1) (w.heap.size + 1) (w.heap.size + 1 + 1) A c ts 0 0 (.slice none 0 0) []∧Blk u w.heap.size 34 #[.slice A ts.length c, .slice none 0 0, .slice none 0 0, .slice none 0 0, .slice none 0 0, .slice none 0 0, .slice none 0 0, .slice none 0 0]∧Below w.heap.size w u) ⟨?_,?_,?_⟩ ?_
 ·refine ⟨Blk.new' spA,?_,?_,Owns.nil,fun x hx=>by simp at hx,rfl,fun j hj=>by simp at hj,by omega,by omega,by omega,by omega⟩
  ·have h:=made_decl (w.alloc (.cells #[.slice A ts.length c, .slice none 0 0, .slice none 0 0, .slice none 0 0, .slice none 0 0, .slice none 0 0, .slice none 0 0, .slice none 0 0] 34)) ts
   rw [show (w.alloc (.cells #[.slice A ts.length c, .slice none 0 0, .slice none 0 0, .slice none 0 0, .slice none 0 0, .slice none 0 0, .slice none 0 0, .slice none 0 0] 34)).heap.size=w.heap.size + 1 by simp] at h
   exact (h.alloc _).alloc _
  ·have h:=made_nums ((w.alloc (.cells #[.slice A ts.length c, .slice none 0 0, .slice none 0 0, .slice none 0 0, .slice none 0 0, .slice none 0 0, .slice none 0 0, .slice none 0 0] 34)).alloc (.map #[] 0)) ts
   rw [show ((w.alloc (.cells #[.slice A ts.length c, .slice none 0 0, .slice none 0 0, .slice none 0 0, .slice none 0 0, .slice none 0 0, .slice none 0 0, .slice none 0 0] 34)).alloc (.map #[] 0)).heap.size=w.heap.size + 1 + 1 by simp] at h
   exact h.alloc _
 ·exact (((Blk.new _ _ _).alloc _).alloc _).alloc _
 ·exact belA
 rintro W ⟨hI,hB,hbW⟩
 obtain ⟨p0,p1,p2,p3,p4,p5,p6,p7⟩:=Cat.blk hB
 have HI:=qh hI
 clear hI hB
 go_cut [6] (fun x wc=>x = .slice (some ⟨W.heap.size,0,none⟩) 8 8∧Blk wc W.heap.size 179 ((kinds ts.length).flatMap (Kd.cells (w.heap.size + 1 + 1 + 1))).toArray∧Below W.heap.size W wc)
 case first =>
  go_wp2_with fail
  go_meet
  exact ⟨rfl,(Blk.new _ _ _).eq rfl,by exact belA⟩
 case rest =>
  obtain ⟨rfl,hK,hb1⟩:=hcut
  obtain ⟨W1,rfl⟩ : ∃ W1:World,W1=wc:=⟨_,rfl⟩
  have hx1:Below w.heap.size w W1:=below_nextN hbW hb1 hbW.size
  have hKl:=hK.lt
  have HK:=qh hK
  have HSK:=qh (Blk.all (kd_len (w.heap.size + 1 + 1 + 1)) hK hKl)
  have HI1:=qh (HI.out.next hb1)
  have hzw:=hbW.size
  clear hK p0 p1 p2 p3 p4 p5 p6 p7
  go_upto_region 4 with (fail)
  go_loopw [70] (fun vi wr => ∃ m:Nat,m ≤ 8∧vi = .int .i64 m∧Below W1.heap.size W1 wr) (fun vi _ => 8 - (intOf vi).toNat)
  case atStart=>exact ⟨0,Nat.zero_le _,rfl,Below.refl _ _⟩
  case round =>
   obtain ⟨m,hm,rfl,hbr⟩:=hrel
   have hwz:=hbr.size
   by_cases hlt:m < 8
   ·have hlk:m<(kinds ts.length).length:=hlt
    obtain ⟨b5,o5,hbe,hb5,hc5⟩:=(HSK.out.below hbr).get hlk
    injection hbe with hbe
    injection hbe with hbe1 hbe2
    subst hbe1 hbe2
    have x0:=hc5 0 _ rfl
    have x1:=hc5 1 _ rfl
    have x2:=hc5 2 _ rfl
    simp only [Nat.zero_add,Nat.add_zero] at x0 x1 x2
    have hfit:=kinds_fit h8 hlk
    have d0:decide ((kinds ts.length)[m].lim<((kinds ts.length)[m].cnt:Int))=false:=by simp;omega
    clear hc5
    go_wp2_with fail
    go_roundw
    case rel=>exact ⟨m + 1,by omega,by go_num,by exact belA⟩
    case measure=>exact meA
   ·have hlt':decide (m < 8)=false:=by simpa using hlt
    obtain rfl:m = 8:=by omega
    go_upto_region 11 with (fail)
    have HKr:=qh (HK.out.below hbr hKl)
    have HIr:=qh (HI1.out.next hbr)
    have hxr:Below w.heap.size w wr:=below_nextN hx1 hbr hx1.size
    clear hlt hlt'
    obtain ⟨V,rfl⟩ : ∃ V:World,V=wr:=⟨_,rfl⟩
    go_loopw [9,82] (fun vj vi wr => ∃ m j:Nat,m ≤ 8∧j ≤ 8∧vj = .int .i64 j∧vi = .int .i64 m∧(m = 0→j = 0∧ChkIn wr w.heap.size (w.heap.size + 1 + 1 + 1) (w.heap.size + 1) (w.heap.size + 1 + 1) A c ts 0 0 (.slice none 0 0) [])∧Blk wr W.heap.size 179 ((kinds ts.length).flatMap (Kd.cells (w.heap.size + 1 + 1 + 1))).toArray∧Below w.heap.size w wr) (fun _ vi _ => 8 - (intOf vi).toNat)
    case atStart=>exact ⟨0,0,by omega,by omega,rfl,rfl,fun _=>⟨rfl,HIr.out⟩,HKr.out,hxr⟩
    case round =>
     obtain ⟨m,j,hm,hj,rfl,rfl,hst,hKm,hbr2⟩:=hrel
     have hwz2:=hbr2.size
     have HST:=qh hst
     have hKml:=hKm.lt
     have HKM:=qh hKm
     clear hst
     by_cases hlt:m < 8
     ·have hlk:m<(kinds ts.length).length:=hlt
      obtain ⟨b5,o5,hbe,hb5,hc5⟩:=(Blk.all (kd_len (w.heap.size + 1 + 1 + 1)) hKm hKml).get hlk
      injection hbe with hbe
      injection hbe with hbe1 hbe2
      subst hbe1 hbe2
      have x0:=hc5 0 _ rfl
      have x1:=hc5 1 _ rfl
      have x2:=hc5 2 _ rfl
      simp only [Nat.zero_add,Nat.add_zero] at x0 x1 x2
      clear hc5 hKm
      rcases Nat.eq_zero_or_pos m with h0|h0
      ·subst h0
       obtain ⟨hj0,hI0⟩:=HST.out rfl
       have e0:(kinds ts.length)[0]=⟨ts.length,8,124⟩:=rfl
       rw [e0] at x0 x1 x2
       simp only at x0 x1 x2
       have HI0:=qh hI0
       clear hI0 e0
       subst hj0
       go_upto_region 14 with (fail)
       refine abs_world (P:=fun u=>Code.wp _ _ _ _ u) (R:=fun u=>Blk u wr.heap.size 179 #[.int .i64 ts.length, .int .i64 8, .func (.func 124) #[.pointer (some ⟨w.heap.size + 1 + 1 + 1,0,none⟩)] #[]]∧Below wr.heap.size wr u) ⟨?_,?_⟩ ?_
       ·exact Blk.new _ _ _
       ·exact belA
       rintro V2 ⟨hD,hbD⟩
       have hDl:=hD.lt
       have HD:=qh hD
       have HI2:=qh (HI0.out.next hbD)
       have HK2:=qh (HKM.out.below hbD hKml)
       have hx2:Below w.heap.size w V2:=below_nextN hbr2 hbD hwz2
       clear hD x0 x1 x2 HI0
       go_loopw [9,88] (fun vj vi wi => ∃ (i:Nat) (v:Value) (st:List Sto),i≤ts.length∧vj = .int .i64 i∧vi = .int .i64 i∧ChkIn wi w.heap.size (w.heap.size + 1 + 1 + 1) (w.heap.size + 1) (w.heap.size + 1 + 1) A c ts i i v st∧Blk wi wr.heap.size 179 #[.int .i64 ts.length, .int .i64 8, .func (.func 124) #[.pointer (some ⟨w.heap.size + 1 + 1 + 1,0,none⟩)] #[]]∧Blk wi W.heap.size 179 ((kinds ts.length).flatMap (Kd.cells (w.heap.size + 1 + 1 + 1))).toArray∧Below w.heap.size w wi) (fun _ vi _=>ts.length - (intOf vi).toNat)
       case atStart=>exact ⟨0,_,[],Nat.zero_le _,rfl,rfl,HI2.out,HD.out,HK2.out,hx2⟩
       case round =>
        obtain ⟨i,v,st,hi,rfl,rfl,hIi,hDi,hKi,hxi⟩:=hrel
        have d2:=hDi.cell 2
        simp only [gE3] at d2
        have HIi:=qh hIi
        have HDi:=qh hDi
        have HKi:=qh hKi
        have hiz:=hxi.size
        clear hIi hDi hKi
        by_cases hil:i<ts.length
        ·go_wp2_with (go_at_call 124;(with_reducible refine (chk_table w.heap.size (w.heap.size + 1 + 1 + 1) (w.heap.size + 1) (w.heap.size + 1 + 1) A c ts i v st _ HIi.out (HT.out.below hxi) HS.out HOK.out hil hiz).mono ?_);rintro e w3 ⟨⟨rfl,v3,st3,hI3⟩,hb3,hk3⟩;have HI3:=qh hI3;have HK3:=qh hk3;clear hI3 hk3)
         go_roundw
         case rel=>exact ⟨i + 1,v3,st3,by omega,by go_num,by go_num,HI3.out,HK3.out _ _ _ (by decide) (by decide) HDi.out,HK3.out _ _ _ (by decide) (by decide) HKi.out,hxi.trans hb3⟩
         case measure=>exact meA
        ·have hil':decide (i<ts.length)=false:=by simpa using hil
         go_wp2_with fail
         go_roundw
         case rel =>
          (repeat apply Exists.intro)
          refine ⟨?_,rfl⟩
          exact ⟨0 + 1,i,by omega,by omega,rfl,by go_num,fun h=>by omega,HKi.out,hxi⟩
         case measure=>simp [intOf]
      ·have e0:=kinds_later hlk omA
       rw [e0] at x0
       clear HST
       go_upto_region 14 with (fail)
       refine abs_world (P:=fun u=>Code.wp _ _ _ _ u) (R:=fun u=>Below wr.heap.size wr u) ?_ ?_
       ·exact belA
       rintro V2 hbD
       have HK2:=qh (HKM.out.below hbD hKml)
       have hx2:Below w.heap.size w V2:=below_nextN hbr2 hbD hwz2
       clear x0 x1 x2
       go_loopw [9,88] (fun vj vi wi=>vj = .int .i64 j∧vi = .int .i64 0∧V2=wi) (fun _ _ _ => 0)
       case atStart=>exact ⟨rfl,rfl,rfl⟩
       obtain ⟨rfl,rfl,rfl⟩:=hrel
       go_wp2_with fail
       go_roundw
       case rel =>
        (repeat apply Exists.intro)
        refine ⟨?_,rfl⟩
        exact ⟨m + 1,j,by omega,hj,rfl,by go_num,fun h=>by omega,HK2.out,hx2⟩
       case measure=>exact meA
     ·have hlt':decide (m < 8)=false:=by simpa using hlt
      go_wp2_with fail
      go_ret3
      exact ⟨⟨_,rfl⟩,hbr2⟩
theorem idle_CatValid (w:World):CallsD Tryz.prog 80 #[] .returning w fun e u' w'=>e = .returned (.tuple #[])∧u' = .returning∧w'=w:=by
 refine callsD_of_wpS Tryz.func80 rfl fun c₀ cs hu => ?_
 apply wpS_region
 cases c₀
 simp_all [wpOpsS,go_sem,recoverD,Tryz.ntmps80,bodyPostS,results,Tryz.results80]
theorem cat_Valid (A:Option Addr) (c m:Nat) (ts:List Tab) (w:World) (ht:TabsIn w w.heap.size A ts) (hm:ts.length=m) (hs:SaneCat ts) (hok:CatOk ts) :
 Calls Tryz.prog 38 #[.agg #[.slice A m c, .slice none 0 0, .slice none 0 0, .slice none 0 0, .slice none 0 0, .slice none 0 0, .slice none 0 0, .slice none 0 0]] w fun e w'=>e = .returned (.bool true)∧Below w.heap.size w w':=by
 have HT:=qh ht
 have HS:=qh hs
 have HOK:=qh hok
 clear ht hs hok
 go_enter_defers Tryz.func38,Tryz.ntmps38
 go_wp2_with (go_at_call 81;(with_reducible refine (cat_check A c m ts _ (HT.out.next belA) hm HS.out HOK.out).mono ?_);rintro e w1 ⟨⟨p,rfl⟩,hb1⟩;have hx1:Below w.heap.size w w1:=below_nextN belA hb1 leA)
 refine leaves_cons (f := 80) (args := #[]) spA (by simp [go_sem]) ?_;refine (idle_CatValid _).mono ?_;rintro e u' w'' ⟨rfl,rfl,rfl⟩;refine ⟨_,results_tmp rfl _ _ _,?_⟩
 exact ⟨rfl,hx1⟩
end Go.Proofs.YtkiglflbngfelaaGreat
