/-
  Contracts and plain laws of this seat, part 31: TIns, TNew, TOwn, TCpy, Same7.
-/
import Derived.Test.YtjhnpnhpmdkpcaaGreatB7
set_option linter.unusedVariables false
set_option linter.unusedSimpArgs false
set_option maxRecDepth 100000
set_option maxHeartbeats 16000000
namespace Go.Proofs.YtjhnpnhpmdkpcaaGreat
open Go.RowKit Go
theorem clone_vals (b o c n:Nat) (l:List Val) (w:World) (hl:SliceIs w w.heap.size Val.cells 3 (some ⟨b,o,none⟩) l) (hln:l.length=n) (hn:n ≤ 1000000) :
 Calls Tryz.prog 76 #[.slice (some ⟨b,o,none⟩) n c] w fun e w' =>
  (∃ A' c',e = .returned (.slice A' n c')∧Owns w' w.heap.size 53 Val.cells 3 (.slice A' n c') l)∧Below w.heap.size w w':=by
 subst hln
 obtain ⟨i0,hi0,hz0,hz1,hz2⟩:=info_parts infoVal
 go_enter Tryz.func76,Tryz.ntmps76
 have hnil:(binOp .eql 46 (.slice (some ⟨b,o,none⟩) l.length c) (.slice none 0 0)).run Tryz.prog w = .ok (.bool false) w:=Lib.run_eql_slice_nil w 46 53 (some ⟨b,o,none⟩) l.length c 0 0 Tryz.underlying46
 go_wp2_with ((at_builtin;refine wpList_append_list _ rfl (.tmp 5) (.tmp 6) 46 rfl 53 i0 _ Val.cells 3 32 Tryz.underlying46 hi0 hz0 hz1 hz2 rfl omA val_len val_one w.heap.size (.slice (some ⟨w.heap.size,0,none⟩) 0 0) [] rfl (Owns.empty (Blk.new' rfl) nlr) _ _ _ l rfl rfl (hl.next belA) smA mxA spA ?_;intro v' w1 hown' hg' hat';obtain ⟨A',c',hv',_,_⟩:=hown'.form;have HOWN':=qh hown';clear hown';have hbel:Below w.heap.size w w1:=Below.grown belA hg' spA (own_row nlr)))
 go_ret
 have h:=HOWN'.out
 simp only [List.nil_append] at hv' h
 subst hv'
 exact ⟨⟨A',c',rfl,h⟩,hbel⟩
open Go.RowKit Go
theorem clone_ints (b o c n:Nat) (l:List Int) (w:World) (hl:SliceIs w w.heap.size intCells 1 (some ⟨b,o,none⟩) l) (hln:l.length=n) (hn:n ≤ 1000000) :
 Calls Tryz.prog 42 #[.slice (some ⟨b,o,none⟩) n c] w fun e w' =>
  (∃ A' c',e = .returned (.slice A' n c')∧Owns w' w.heap.size 3 intCells 1 (.slice A' n c') l)∧Below w.heap.size w w':=by
 subst hln
 obtain ⟨i0,hi0,hz0,hz1,hz2⟩:=info_parts infoIntT
 go_enter Tryz.func42,Tryz.ntmps42
 have hnil:(binOp .eql 22 (.slice (some ⟨b,o,none⟩) l.length c) (.slice none 0 0)).run Tryz.prog w = .ok (.bool false) w:=Lib.run_eql_slice_nil w 22 3 (some ⟨b,o,none⟩) l.length c 0 0 Tryz.underlying22
 go_wp2_with ((at_builtin;refine wpList_append_list _ rfl (.tmp 5) (.tmp 6) 22 rfl 3 i0 _ intCells 1 8 Tryz.underlying22 hi0 hz0 hz1 hz2 rfl omA int_len int_one w.heap.size (.slice (some ⟨w.heap.size,0,none⟩) 0 0) [] rfl (Owns.empty (Blk.new' rfl) nlr) _ _ _ l rfl rfl (hl.next belA) smA mxA spA ?_;intro v' w1 hown' hg' hat';obtain ⟨A',c',hv',_,_⟩:=hown'.form;have HOWN':=qh hown';clear hown';have hbel:Below w.heap.size w w1:=Below.grown belA hg' spA (own_row nlr)))
 go_ret
 have h:=HOWN'.out
 simp only [List.nil_append] at hv' h
 subst hv'
 exact ⟨⟨A',c',rfl,h⟩,hbel⟩
open Go.RowKit Go
theorem ref01_Same (A A':Option Addr) (c c' n:Nat) (l:List Val) (w:World) (h1:SliceIs w w.heap.size Val.cells 3 A l) (h2:SliceIs w w.heap.size Val.cells 3 A' l) (hn:l.length=n) (hn6:n ≤ 1000000) :
 Calls Tryz.prog 79 #[.slice A n c, .slice A' n c'] w fun e w'=>e = .returned (.bool true)∧Below w.heap.size w w':=by
 subst hn
 have hg:Tryz.prog.eqGuardType Tryz.prog.depth 53=false:=by kernel_rfl
 have H1:=qh h1
 have H2:=qh h2
 clear h1 h2
 go_enter Tryz.func79,Tryz.ntmps79
 go_wp2_with fail
 go_loopw [5] (fun vi wr => ∃ i:Nat,i≤l.length∧vi = .int .i64 i∧Below w.heap.size w wr) (fun vi _=>l.length - (intOf vi).toNat)
 case atStart=>exact ⟨0,Nat.zero_le _,rfl,Below.refl _ _⟩
 case round =>
  obtain ⟨i,hi,rfl,hbr⟩:=hrel
  have hwz:=hbr.size
  by_cases hlt:i<l.length
  ·obtain ⟨b5,o5,rfl,hb5,hc5⟩:=(H1.out.below hbr).get hlt
   obtain ⟨b6,o6,rfl,hb6,hc6⟩:=(H2.out.below hbr).get hlt
   obtain ⟨p0,p1,p2⟩:=Val.cells3 hc5
   obtain ⟨q0,q1,q2⟩:=Val.cells3 hc6
   have heq:=eqlVal_of (x:=l[i]) (y:=l[i]) (b:=true) spA
   have hk0:=keepQ (w:=wr) b5 omA
   have hk1:=keepQ (w:=wr) b6 omA
   clear hc5 hc6
   go_upto_region 3 with (fail)
   refine wp_region_bel krA krA ?_;(repeat (go_big_quiet_step (fail)));refine wpQuiet_nil ?_;intro wq hq
   clear hk0 hk1 p0 p1 p2 q0 q1 q2 heq
   go_wp2_with fail
   go_roundw
   case rel=>exact ⟨i + 1,by omega,by go_num,below_nextN hbr hq hwz⟩
   case measure=>exact meA
  ·have hlt':decide (i<l.length)=false:=by simpa using hlt
   go_wp2_with fail
   go_ret
   exact ⟨rfl,hbr⟩
theorem ref07_SameRecord (A A':Option Addr) (c c':Nat) (row:List Val) (SA SA':Option Addr) (sc sc':Nat) (sq:List Int) (dy:Int) (w:World) (h1:SliceIs w w.heap.size Val.cells 3 A row) (h2:SliceIs w w.heap.size Val.cells 3 A' row) (h3:SliceIs w w.heap.size intCells 1 SA sq) (h4:SliceIs w w.heap.size intCells 1 SA' sq) (hl:row.length ≤ 1000000) (hs:sq.length ≤ 1000000) :
 Calls Tryz.prog 45 #[.agg #[.slice A row.length c, .slice SA sq.length sc, .int .i64 dy], .agg #[.slice A' row.length c', .slice SA' sq.length sc', .int .i64 dy]] w fun e w'=>e = .returned (.bool true)∧Below w.heap.size w w':=by
 have H1:=qh h1
 have H2:=qh h2
 have H3:=qh h3
 have H4:=qh h4
 clear h1 h2 h3 h4
 go_enter Tryz.func45,Tryz.ntmps45
 go_upto_region 1 with (fail)
 refine abs_world (P:=fun u=>Code.wp _ _ _ _ u) (R:=fun u=>Blk u w.heap.size 48 #[.slice A row.length c, .slice SA sq.length sc, .int .i64 dy]∧Blk u (w.heap.size + 1) 48 #[.slice A' row.length c', .slice SA' sq.length sc', .int .i64 dy]∧Below w.heap.size w u) ⟨?_,?_,?_⟩ ?_
 ·exact (Blk.new _ _ _).alloc _
 ·exact Blk.new' spA
 ·exact belA
 rintro W ⟨hB,hB',hbW⟩
 have hzB:=hB'.lt
 have HB:=qh hB
 have HB':=qh hB'
 have p0:=hB.cell 0
 have p1:=hB.cell 1
 have p2:=hB.cell 2
 have q0:=hB'.cell 0
 have q1:=hB'.cell 1
 have q2:=hB'.cell 2
 simp only [gE3] at p0 p1 p2 q0 q1 q2
 clear hB hB'
 go_wp2_with (go_at_call 79;(with_reducible refine (ref01_Same A A' c c' row.length row _ (H1.out.next hbW) (H2.out.next hbW) rfl hl).mono ?_);rintro e w1 ⟨rfl,hb1⟩;have kk0:=keepB hb1 w.heap.size omA;have kk1:=keepB hb1 (w.heap.size + 1) hzB;replace p1:=(kk0.1 _).trans p1;replace q1:=(kk1.1 _).trans q1;clear kk0 kk1)
 have hx1:=below_nextN hbW hb1 hbW.size
 clear p0 p1 p2 q0 q1 q2
 go_loopw [5] (fun vi wr => ∃ i:Nat,i≤sq.length∧vi = .int .i64 i∧Below w1.heap.size w1 wr) (fun vi _=>sq.length - (intOf vi).toNat)
 case atStart=>exact ⟨0,Nat.zero_le _,rfl,Below.refl _ _⟩
 case round =>
  obtain ⟨i,hi,rfl,hbr⟩:=hrel
  have hwz:=hbr.size
  have hbx:=below_nextN hx1 hbr hx1.size
  have hz1:=hb1.size
  have hbW1:=below_nextN hb1 hbr hb1.size
  have p1:=(HB.out.below hbW1 omA).cell 1
  have q1:=(HB'.out.below hbW1 omA).cell 1
  simp only [gE3] at p1 q1
  by_cases hlt:i<sq.length
  ·obtain ⟨b5,o5,rfl,hb5,hc5⟩:=(H3.out.next hbx).get hlt
   obtain ⟨b6,o6,rfl,hb6,hc6⟩:=(H4.out.next hbx).get hlt
   have x0:=hc5 0 _ rfl
   have y0:=hc6 0 _ rfl
   simp only [Nat.mul_one,Nat.add_zero] at x0 y0
   obtain ⟨z,hz⟩ : ∃ z,sq[i]=z:=⟨_,rfl⟩
   rw [hz] at x0 y0
   have hk0:=keepQ (w:=wr) b5 omA
   have hk1:=keepQ (w:=wr) b6 omA
   have hk2:=keepQ (w:=wr) w.heap.size omA
   have hk3:=keepQ (w:=wr) (w.heap.size + 1) omA
   have hlt':decide (i<sq.length)=true:=by simpa using hlt
   clear hc5 hc6 hz
   go_upto_region 6 with (fail)
   refine wp_region_bel krA krA ?_;(repeat (go_big_quiet_step (fail)));refine wpQuiet_nil ?_;intro wq hq
   clear hk0 hk1 hk2 hk3 p1 q1 x0 y0
   go_wp2_with fail
   go_roundw
   case rel=>exact ⟨i + 1,by omega,by go_num,below_nextN hbr hq hwz⟩
   case measure=>exact meA
  ·have hlt':decide (i<sq.length)=false:=by simpa using hlt
   go_wp2_with fail
   go_ret
   exact ⟨rfl,hbx⟩
theorem pure_len {rt rt':List RTab} (h:rt.map pureT=rt'.map pureT):rt.length=rt'.length:=by
 have:=congrArg List.length h
 simpa using this
theorem pure_recs {rt rt':List RTab} (h:rt.map pureT=rt'.map pureT) {i:Nat} (hi:i<rt.length) (hi':i<rt'.length):rt[i].recs.map pureR=rt'[i].recs.map pureR:=by
 have h1:(rt.map pureT)[i]? = (rt'.map pureT)[i]? := by rw [h]
 rw [List.getElem?_map,List.getElem?_map,List.getElem?_eq_getElem hi,List.getElem?_eq_getElem hi'] at h1
 exact Option.some.inj h1
theorem ref07_Same (A A':Option Addr) (c c' n n':Nat) (rt rt':List RTab) (w:World) (h1:RTabsIn w w.heap.size A rt) (h2:RTabsIn w w.heap.size A' rt') (hn:rt.length=n) (hn':rt'.length=n') (hs:SaneR rt) (he:rt.map pureT=rt'.map pureT) :
 Calls Tryz.prog 17 #[.slice A n c, .slice A' n' c'] w fun e w'=>e = .returned (.bool true)∧Below w.heap.size w w':=by
 subst hn
 obtain rfl:n'=rt.length:=by rw [← hn',pure_len he]
 have H1:=qh h1
 have H2:=qh h2
 have HS:=qh hs
 have HE:=qh he
 have HN':=qh hn'
 have h8:=hs.len
 clear h1 h2 hs he hn'
 go_enter Tryz.func17,Tryz.ntmps17
 go_wp2_with fail
 go_loopw [5,6] (fun vi _ wr => ∃ i:Nat,i≤rt.length∧vi = .int .i64 i∧Below w.heap.size w wr) (fun vi _ _=>rt.length - (intOf vi).toNat)
 case atStart=>exact ⟨0,Nat.zero_le _,rfl,Below.refl _ _⟩
 case round =>
  obtain ⟨i,hi,rfl,hbr⟩:=hrel
  have hwz:=hbr.size
  by_cases hlt:i<rt.length
  ·have hlt2:i<rt'.length:=by rw [HN'.out];exact hlt
   obtain ⟨b5,o5,rfl,hb5,hc5⟩:=H1.out.1.get hlt
   obtain ⟨b6,o6,rfl,hb6,hc6⟩:=H2.out.1.get hlt2
   have x0:=hc5 0 _ rfl
   have y0:=hc6 0 _ rfl
   have hp:=pure_recs HE.out hlt hlt2
   have hrn:=HS.out.recs rt[i] (lgm hlt)
   have hrw:=HS.out.row rt[i] (lgm hlt)
   have hrs:=HS.out.seq rt[i] (lgm hlt)
   have hr1:=H1.out.2 rt[i] (lgm hlt)
   have hr2:=H2.out.2 rt'[i] (lgm hlt2)
   obtain ⟨⟨TA,tc,recs⟩,ht⟩ : ∃ t,rt[i]=t:=⟨_,rfl⟩
   obtain ⟨⟨TA',tc',recs'⟩,ht'⟩ : ∃ t,rt'[i]=t:=⟨_,rfl⟩
   rw [ht] at x0 hp hrn hrw hrs hr1
   rw [ht'] at y0 hp hr2
   simp only [Nat.mul_one,Nat.add_zero] at x0 y0 hp hrn hrw hrs hr1 hr2
   have hl2:recs'.length=recs.length:=by
    have:=congrArg List.length hp
    simpa using this.symm
   rw [hl2] at y0
   have HP:=qh hp
   have HL2:=qh hl2
   have HRW:=qh hrw
   have HRS:=qh hrs
   have HR1:=qh hr1
   have HR2:=qh hr2
   have HX0:=qh x0
   have HY0:=qh y0
   have hlt':decide (i<rt.length)=true:=by simpa using hlt
   replace x0:=(hbr.cell (p:=⟨b5,_,none⟩) hb5).trans HX0.out
   replace y0:=(hbr.cell (p:=⟨b6,_,none⟩) hb6).trans HY0.out
   have hk0:=keepQ (w:=wr) b5 omA
   have hk1:=keepQ (w:=wr) b6 omA
   clear hc5 hc6 ht ht' hp hl2 hrw hrs hr1 hr2
   go_upto_region 6 with (fail)
   refine wp_region_bel krA krA ?_;(repeat (go_big_quiet_step (fail)));refine wpQuiet_nil ?_;intro wq hq
   clear hk0 hk1
   have hbq:=below_nextN hbr hq hwz
   replace x0:=(hbq.cell (p:=⟨b5,_,none⟩) hb5).trans HX0.out
   replace y0:=(hbq.cell (p:=⟨b6,_,none⟩) hb6).trans HY0.out
   go_upto_region 9 with (fail)
   clear x0 y0
   go_loopw [6] (fun vj ws => ∃ j:Nat,j≤recs.length∧vj = .int .i64 j∧Below w.heap.size w ws) (fun vj _=>recs.length - (intOf vj).toNat)
   case atStart=>exact ⟨0,Nat.zero_le _,rfl,hbq⟩
   case round =>
    clear hbr hwz hq hbq
    obtain ⟨j,hj,rfl,hbr⟩:=hrel
    have hwz:=hbr.size
    have x0:=(hbr.cell (p:=⟨b5,_,none⟩) hb5).trans HX0.out
    have y0:=(hbr.cell (p:=⟨b6,_,none⟩) hb6).trans HY0.out
    by_cases hjt:j<recs.length
    ·have hjt2:j<recs'.length:=by rw [HL2.out];exact hjt
     obtain ⟨b7,o7,rfl,hb7,hc7⟩:=HR1.out.1.get hjt
     obtain ⟨b8,o8,rfl,hb8,hc8⟩:=HR2.out.1.get hjt2
     obtain ⟨d0,d1,d2⟩:=Rcd.cells3 hc7
     obtain ⟨e0,e1,e2⟩:=Rcd.cells3 hc8
     have hpj:pureR recs[j]=pureR recs'[j]:=by
      have h1:(recs.map pureR)[j]? = (recs'.map pureR)[j]? := by rw [HP.out]
      rw [List.getElem?_map,List.getElem?_map,List.getElem?_eq_getElem hjt,List.getElem?_eq_getElem hjt2] at h1
      exact Option.some.inj h1
     have hrl:=HRW.out recs[j] (lgm hjt)
     have hsl:=HRS.out recs[j] (lgm hjt)
     obtain ⟨r1,r2⟩:=HR1.out.2 recs[j] (lgm hjt)
     obtain ⟨r3,r4⟩:=HR2.out.2 recs'[j] (lgm hjt2)
     obtain ⟨⟨QA,qc,qrow,QS,qs,qseq,qd⟩,hqr⟩ : ∃ x:Rcd,recs[j]=x:=⟨_,rfl⟩
     obtain ⟨⟨PA,pc,prow,PS,ps,pseq,pd⟩,hpr⟩ : ∃ x:Rcd,recs'[j]=x:=⟨_,rfl⟩
     rw [hqr] at d0 d1 d2 hpj hrl hsl r1 r2
     rw [hpr] at e0 e1 e2 hpj r3 r4
     obtain ⟨rfl,rfl,rfl⟩:qrow=prow∧qseq=pseq∧qd=pd:=⟨congrArg (fun z=>z.1) hpj,congrArg (fun z=>z.2.1) hpj,congrArg (fun z=>z.2.2) hpj⟩
     simp only at d0 d1 d2 e0 e1 e2 hrl hsl r1 r2 r3 r4
     replace d0:=(hbr.cell (p:=⟨b7,_,none⟩) hb7).trans d0
     replace d1:=(hbr.cell (p:=⟨b7,_,none⟩) hb7).trans d1
     replace d2:=(hbr.cell (p:=⟨b7,_,none⟩) hb7).trans d2
     replace e0:=(hbr.cell (p:=⟨b8,_,none⟩) hb8).trans e0
     replace e1:=(hbr.cell (p:=⟨b8,_,none⟩) hb8).trans e1
     replace e2:=(hbr.cell (p:=⟨b8,_,none⟩) hb8).trans e2
     have HQ1:=qh r1
     have HQ2:=qh r2
     have HQ3:=qh r3
     have HQ4:=qh r4
     have hk0:=keepQ (w:=wr) b5 omA
     have hk1:=keepQ (w:=wr) b6 omA
     have hk2:=keepQ (w:=wr) b7 omA
     have hk3:=keepQ (w:=wr) b8 omA
     have hjt':decide (j<recs.length)=true:=by simpa using hjt
     clear hc7 hc8 hqr hpr hpj r1 r2 r3 r4
     go_upto_region 11 with (fail)
     refine wp_region_bel krA krA ?_;(repeat (go_big_quiet_step ((go_at_call 45;with_reducible exact bel_of (ref07_SameRecord QA PA qc pc qrow QS PS qs ps qseq qd _ (HQ1.out.next (below_nextN hbr (BelOf.h _) hwz)) (HQ3.out.next (below_nextN hbr (BelOf.h _) hwz)) (HQ2.out.next (below_nextN hbr (BelOf.h _) hwz)) (HQ4.out.next (below_nextN hbr (BelOf.h _) hwz)) hrl hsl)))));refine wpQuiet_nil ?_;intro wq hq
     clear hk0 hk1 hk2 hk3 d0 d1 d2 e0 e1 e2 x0 y0
     go_wp2_with fail
     go_roundw
     case rel=>exact ⟨j + 1,by omega,by go_num,below_nextN hbr hq hwz⟩
     case measure=>exact meA
    ·have hjt':decide (j<recs.length)=false:=by simpa using hjt
     go_wp2_with fail
     go_roundw
     case rel=>exact ⟨i + 1,by omega,by go_num,hbr⟩
     case measure=>exact meA
  ·have hlt':decide (i<rt.length)=false:=by simpa using hlt
   go_wp2_with fail
   go_ret
   exact ⟨rfl,hbr⟩
end Go.Proofs.YtjhnpnhpmdkpcaaGreat
