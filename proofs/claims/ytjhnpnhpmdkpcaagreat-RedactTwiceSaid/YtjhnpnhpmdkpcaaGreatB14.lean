/-
  Contracts and plain laws of this seat, part 14: OP6, CatG0, CatG, ORef8, CatN.
-/
import Derived.Test.YtjhnpnhpmdkpcaaGreatB13
import Derived.Test.YtjhnpnhpmdkpcaaGreatB9
import Derived.Test.YtjhnpnhpmdkpcaaGreatB10
set_option linter.unusedVariables false
set_option linter.unusedSimpArgs false
set_option maxRecDepth 100000
set_option maxHeartbeats 16000000
namespace Go.Proofs.YtjhnpnhpmdkpcaaGreat
open Go.RowKit Go
def kindsO (n:Nat) (o:Oth):List Kd := [⟨n,8,108⟩,⟨0,12,109⟩,⟨o.idx.length,16,110⟩,⟨o.skt.length,16,111⟩,⟨o.cch.length,16,112⟩,⟨o.rel.length,16,113⟩,⟨o.str.length,16,114⟩,⟨o.bak.length,16,115⟩]
theorem kindsO_fit {n m:Nat} {o:Oth} (h8:n ≤ 8) (h16:Oth16 o) (h:m<(kindsO n o).length):((kindsO n o)[m].cnt:Int)≤(kindsO n o)[m].lim:=by
 obtain ⟨g1,g2,g3,g4,g5,g6,_⟩:=h16
 simp only [kindsO,List.length_cons,List.length_nil] at h
 rcases m with _|_|_|_|_|_|_|_|m
 all_goals first|(simp only [kindsO,List.getElem_cons_succ,List.getElem_cons_zero];omega)|omega
def cntO (o:Oth):Nat→Nat
 | 0 => 0
 | 1 => 0
 | 2 => 0
 | 3=>o.idx.length
 | 4=>o.idx.length+o.skt.length
 | _=>o.idx.length+o.skt.length+o.cch.length
theorem made_declL (w:World):MapV Tryz.prog 9 4 (w.alloc (.map #[] 0)) w.heap.size 0 (declL []) :=
 (MapV.made w _ _ _).eqf fun x kl _=>by
   cases x
   case string s =>
    simp only [declL]
    rw [pb_false spA,if_neg (by decide)]
   all_goals rfl
theorem namesT_all (ts:List Tab):namesT ts ts.length=ts.map Tab.name:=by
 unfold namesT
 rw [List.take_length]
theorem mem_allT {ts:List Tab} {o:Oth} {q:Nat} (hq:q<o.names.length) {s:ByteArray}:s∈namesT ts ts.length++o.names.take q ↔ ∃ k,k<ts.length+q∧(allN ts o).getD k ⟨#[]⟩=s:=by
 have e:namesT ts ts.length++o.names.take q=(allN ts o).take (ts.length+q):=by
  unfold allN
  have h1:(ts.map Tab.name).take (ts.length+q)=ts.map Tab.name:=List.take_of_length_le (by rw [List.length_map];omega)
  rw [namesT_all,List.take_append,List.length_map,Nat.add_sub_cancel_left,h1]
 have hl:(allN ts o).length=ts.length+o.names.length:=by unfold allN;rw [List.length_append,List.length_map]
 rw [e]
 constructor
 ·intro h
  obtain ⟨k,hk,e2⟩:=List.mem_take_iff_getElem.1 h
  exact ⟨k,by omega,by rw [getD_at omA];exact e2⟩
 ·rintro ⟨k,hk,e2⟩
  exact List.mem_take_iff_getElem.2 ⟨k,by omega,by rw [← e2,getD_at omA]⟩
theorem declO_iff {ts:List Tab} {o:Oth} {q:Nat} (hq:q<o.names.length):declQ (namesT ts ts.length++o.names.take q) o.names[q] (restE ts o q) = 0↔DeclO ts o q:=by
 have hl:(allN ts o).length=ts.length+o.names.length:=by unfold allN;rw [List.length_append,List.length_map]
 have hg:(allN ts o).getD (ts.length+q) ⟨#[]⟩=o.names[q]:=by
  rw [getD_at omA]
  refine Option.some.inj ?_
  rw [← List.getElem?_eq_getElem omA,← List.getElem?_eq_getElem hq]
  unfold allN
  rw [List.getElem?_append_right (by rw [List.length_map];omega),List.length_map,Nat.add_sub_cancel_left]
 unfold declQ
 constructor
 ·intro h0
  by_cases h1:declErr (namesT ts ts.length++o.names.take q) o.names[q] = 0
  ·rw [if_pos h1] at h0
   obtain ⟨h2,h3⟩:=declErr_zero h1
   refine ⟨by rw [hg];exact h2,fun k hk e => ?_,h0⟩
   rw [hg] at e
   exact h3 ((mem_allT hq).2 ⟨k,hk,e⟩)
  ·rw [if_neg h1] at h0
   exact absurd h0 h1
 ·intro h0
  have h1:declErr (namesT ts ts.length++o.names.take q) o.names[q] = 0:=by
   unfold declErr
   have hn:=h0.name
   rw [hg] at hn
   rw [if_pos hn,pb_false fun h=>by
    obtain ⟨k,hk,e⟩:=(mem_allT hq).1 h
    exact h0.fresh k hk (by rw [e,hg]),if_neg (by decide)]
  rw [if_pos h1]
  exact h0.err
theorem name_idx {o:Oth} {i:Nat} (hi:i<o.idx.length):o.names[i]? = some o.idx[i].name:=by
 unfold Oth.names
 rw [List.getElem?_append_left (by rw [List.length_map];exact hi),List.getElem?_map,List.getElem?_eq_getElem hi]
 rfl
theorem name_skt {o:Oth} {i:Nat} (hi:i<o.skt.length):o.names[o.idx.length+i]? = some o.skt[i].name:=by
 unfold Oth.names
 rw [List.getElem?_append_right (by rw [List.length_map];omega),List.length_map,Nat.add_sub_cancel_left,List.getElem?_append_left (by rw [List.length_map];exact hi),List.getElem?_map,List.getElem?_eq_getElem hi]
 rfl
theorem name_cch {o:Oth} {i:Nat} (hi:i<o.cch.length):o.names[o.idx.length+o.skt.length+i]? = some o.cch[i].name:=by
 unfold Oth.names
 rw [List.getElem?_append_right (by rw [List.length_map];omega),List.length_map,show o.idx.length+o.skt.length+i - o.idx.length=o.skt.length+i by omega,List.getElem?_append_right (by rw [List.length_map];omega),List.length_map,Nat.add_sub_cancel_left,List.getElem?_append_left (by rw [List.length_map];exact hi),List.getElem?_map,List.getElem?_eq_getElem hi]
 rfl
theorem name_rel {o:Oth} {i:Nat} (hi:i<o.rel.length):o.names[o.idx.length+o.skt.length+o.cch.length+i]? = some o.rel[i].name:=by
 unfold Oth.names
 rw [List.getElem?_append_right (by rw [List.length_map];omega),List.length_map,show o.idx.length+o.skt.length+o.cch.length+i - o.idx.length=o.skt.length+(o.cch.length+i) by omega,List.getElem?_append_right (by rw [List.length_map];omega),List.length_map,Nat.add_sub_cancel_left,List.getElem?_append_right (by rw [List.length_map];omega),List.length_map,Nat.add_sub_cancel_left,List.getElem?_append_left (by rw [List.length_map];exact hi),List.getElem?_map,List.getElem?_eq_getElem hi]
 rfl
theorem decl_step {ts:List Tab} {o:Oth} {q:Nat} {s:ByteArray} {z:Int} (h:o.names[q]? = some s) (hz:restE ts o q=z):(declQ (namesT ts ts.length++o.names.take q) s z = 0↔DeclO ts o q)∧namesT ts ts.length++o.names.take q ++ [s]=namesT ts ts.length++o.names.take (q + 1)∧q<o.names.length:=by
 obtain ⟨hq,e⟩:=List.getElem?_eq_some_iff.1 h
 subst e hz
 refine ⟨declO_iff hq,?_,hq⟩
 rw [List.take_succ_eq_append_getElem hq,List.append_assoc]
theorem cat_checkO (A:Option Addr) (c m:Nat) (ts:List Tab) (o:Oth) (w:World) (ht:TabsIn w w.heap.size A ts) (hm:ts.length=m) (hs:SaneCat ts) (ho:OthIn w w.heap.size o) (hso:SaneO o) (h16:Oth16 o) :
 Calls Tryz.prog 83 #[.agg #[.slice A m c, .slice o.vA 0 o.vc, .slice o.iA o.idx.length o.ic, .slice o.sA o.skt.length o.sc, .slice o.cA o.cch.length o.cc, .slice o.rA o.rel.length o.rc, .slice o.tA o.str.length o.tc, .slice o.bA o.bak.length o.bc]] w fun e w' =>
  (∃ p q z,e = .returned (.tuple #[p, .int .i64 q, .int .i64 z])∧(z = 0↔CatOkO ts o))∧Below w.heap.size w w':=by
 subst hm
 have HT:=qh ht
 have HS:=qh hs
 have HO:=qh ho
 have HSO:=qh hso
 have H16:=qh h16
 have hlen:=hs.len
 clear ht hs ho hso h16
 have hmm := @run_makeMap Tryz.prog
 go_enter Tryz.func83,Tryz.ntmps83
 go_upto_region 2 with (fail)
 clear hmm
 refine abs_world (P:=fun u=>Code.wp _ _ _ _ u) (R:=fun u=>ChkInO u w.heap.size (w.heap.size + 1 + 1 + 1) (w.heap.size + 1) (w.heap.size + 1 + 1) A c ts o (namesT ts 0) 0 (.slice none 0 0) []∧Blk u w.heap.size 34 #[.slice A ts.length c, .slice o.vA 0 o.vc, .slice o.iA o.idx.length o.ic, .slice o.sA o.skt.length o.sc, .slice o.cA o.cch.length o.cc, .slice o.rA o.rel.length o.rc, .slice o.tA o.str.length o.tc, .slice o.bA o.bak.length o.bc]∧Below w.heap.size w u) ⟨?_,?_,?_⟩ ?_
 ·refine ⟨Blk.new' spA,?_,?_,Owns.nil,fun x hx=>by simp at hx,rfl,fun j hj=>by simp at hj,by omega,by omega,by omega,by omega⟩
  ·have h:=made_declL (w.alloc (.cells #[.slice A ts.length c, .slice o.vA 0 o.vc, .slice o.iA o.idx.length o.ic, .slice o.sA o.skt.length o.sc, .slice o.cA o.cch.length o.cc, .slice o.rA o.rel.length o.rc, .slice o.tA o.str.length o.tc, .slice o.bA o.bak.length o.bc] 34))
   rw [show (w.alloc (.cells #[.slice A ts.length c, .slice o.vA 0 o.vc, .slice o.iA o.idx.length o.ic, .slice o.sA o.skt.length o.sc, .slice o.cA o.cch.length o.cc, .slice o.rA o.rel.length o.rc, .slice o.tA o.str.length o.tc, .slice o.bA o.bak.length o.bc] 34)).heap.size=w.heap.size + 1 by simp] at h
   exact (h.alloc _).alloc _
  ·have h:=made_nums ((w.alloc (.cells #[.slice A ts.length c, .slice o.vA 0 o.vc, .slice o.iA o.idx.length o.ic, .slice o.sA o.skt.length o.sc, .slice o.cA o.cch.length o.cc, .slice o.rA o.rel.length o.rc, .slice o.tA o.str.length o.tc, .slice o.bA o.bak.length o.bc] 34)).alloc (.map #[] 0)) ts
   rw [show ((w.alloc (.cells #[.slice A ts.length c, .slice o.vA 0 o.vc, .slice o.iA o.idx.length o.ic, .slice o.sA o.skt.length o.sc, .slice o.cA o.cch.length o.cc, .slice o.rA o.rel.length o.rc, .slice o.tA o.str.length o.tc, .slice o.bA o.bak.length o.bc] 34)).alloc (.map #[] 0)).heap.size=w.heap.size + 1 + 1 by simp] at h
   exact h.alloc _
 ·exact (((Blk.new _ _ _).alloc _).alloc _).alloc _
 ·exact belA
 rintro W ⟨hI,hB,hbW⟩
 obtain ⟨p0,p1,p2,p3,p4,p5,p6,p7⟩:=Cat.blkO hB
 have HI:=qh hI
 clear hI hB
 go_cut [6] (fun x wc=>x = .slice (some ⟨W.heap.size,0,none⟩) 8 8∧Blk wc W.heap.size 166 ((kindsO ts.length o).flatMap (Kd.cells (w.heap.size + 1 + 1 + 1))).toArray∧Below W.heap.size W wc)
 case first =>
  go_wp2_with fail
  go_meet
  exact ⟨rfl,(Blk.new _ _ _).eq rfl,by exact belA⟩
 case rest =>
  obtain ⟨rfl,hK,hb1⟩:=hcut
  obtain ⟨W1,rfl⟩ : ∃ W1:World,W1=wc:=⟨_,rfl⟩
  have hx1:Below w.heap.size w W1:=below_nextN hbW hb1 hbW.size
  have hKl:=hK.lt
  have HK:=qh hK
  have HSK:=qh (Blk.all (kd_len (w.heap.size + 1 + 1 + 1)) hK hKl)
  have HI1:=qh (HI.out.next hb1)
  have hzw:=hbW.size
  clear hK p0 p1 p2 p3 p4 p5 p6 p7
  by_cases h8n : 8<ts.length
  ·have HNO:Hid (¬ CatOkO ts o):=qh fun h=>by have:=h.cat.len;omega
   have h8d:decide ((8:Int)<(ts.length:Int))=true:=by simp;omega
   have h8e:decide (8<ts.length)=true:=by simpa using h8n
   have hl0 : 0<(kindsO ts.length o).length:=by simp [kindsO]
   obtain ⟨b5,o5,hbe,hb5,hc5⟩:=HSK.out.get hl0
   injection hbe with hbe
   injection hbe with hbe1 hbe2
   subst hbe1 hbe2
   have x0:=hc5 0 _ rfl
   have x1:=hc5 1 _ rfl
   have x2:=hc5 2 _ rfl
   have e0:(kindsO ts.length o)[0]=⟨ts.length,8,108⟩:=rfl
   rw [e0] at x0 x1 x2
   simp only [Nat.zero_mul,Nat.zero_add,Nat.add_zero] at x0 x1 x2
   clear hc5 e0 h8n
   go_upto_region 4 with (fail)
   go_loopw [70] (fun vi wr=>vi = .int .i64 0∧W1=wr) (fun _ _ => 0)
   case atStart=>exact ⟨rfl,rfl⟩
   obtain ⟨rfl,rfl⟩:=hrel
   go_wp2_with fail
   go_ret3
   exact ⟨⟨_,_,_,rfl,fun h=>by omega,fun h=>absurd h HNO.out⟩,by exact belA⟩
  have h8:ts.length ≤ 8:=by omega
  clear h8n
  go_upto_region 4 with (fail)
  go_loopw [70] (fun vi wr => ∃ m:Nat,m ≤ 8∧vi = .int .i64 m∧Below W1.heap.size W1 wr) (fun vi _ => 8 - (intOf vi).toNat)
  case atStart=>exact ⟨0,Nat.zero_le _,rfl,Below.refl _ _⟩
  case round =>
   obtain ⟨m,hm,rfl,hbr⟩:=hrel
   have hwz:=hbr.size
   by_cases hlt:m < 8
   ·have hlk:m<(kindsO ts.length o).length:=hlt
    obtain ⟨b5,o5,hbe,hb5,hc5⟩:=(HSK.out.below hbr).get hlk
    injection hbe with hbe
    injection hbe with hbe1 hbe2
    subst hbe1 hbe2
    have x0:=hc5 0 _ rfl
    have x1:=hc5 1 _ rfl
    have x2:=hc5 2 _ rfl
    simp only [Nat.zero_add,Nat.add_zero] at x0 x1 x2
    have hfit:=kindsO_fit h8 H16.out hlk
    have d0:decide ((kindsO ts.length o)[m].lim<((kindsO ts.length o)[m].cnt:Int))=false:=by simp;omega
    clear hc5
    go_wp2_with fail
    go_roundw
    case rel=>exact ⟨m + 1,by omega,by go_num,by exact belA⟩
    case measure=>exact meA
   ·have hlt':decide (m < 8)=false:=by simpa using hlt
    obtain rfl:m = 8:=by omega
    go_upto_region 11 with (fail)
    have HKr:=qh (HK.out.below hbr hKl)
    have HIr:=qh (HI1.out.next hbr)
    have hxr:Below w.heap.size w wr:=below_nextN hx1 hbr hx1.size
    have hc5:=H16.out.idx
    have hc6:=H16.out.skt
    have hc7:=H16.out.cch
    have hc8:=H16.out.rel
    clear hlt hlt'
    obtain ⟨V,rfl⟩ : ∃ V:World,V=wr:=⟨_,rfl⟩
    go_loopw [9,82] (fun vj vi wr => ∃ m j:Nat,m ≤ 8∧vj = .int .i64 j∧vi = .int .i64 m∧(m = 0→j = 0∧ChkInO wr w.heap.size (w.heap.size + 1 + 1 + 1) (w.heap.size + 1) (w.heap.size + 1 + 1) A c ts o (namesT ts 0) 0 (.slice none 0 0) [])∧(0<m→j=ts.length+cntO o m∧(∃ v st,ChkInO wr w.heap.size (w.heap.size + 1 + 1 + 1) (w.heap.size + 1) (w.heap.size + 1 + 1) A c ts o (namesT ts ts.length++o.names.take (cntO o m)) ts.length v st)∧CatOk ts∧(∀ q,q<cntO o m→DeclO ts o q)∧(6≤m→o.rel.length = 0))∧Blk wr W.heap.size 166 ((kindsO ts.length o).flatMap (Kd.cells (w.heap.size + 1 + 1 + 1))).toArray∧Below w.heap.size w wr) (fun _ vi _ => 8 - (intOf vi).toNat)
    case atStart=>exact ⟨0,0,by omega,rfl,rfl,fun _=>⟨rfl,HIr.out⟩,fun h=>by omega,HKr.out,hxr⟩
    case round =>
     obtain ⟨m,j,hm,rfl,rfl,hst,hsm,hKm,hbr2⟩:=hrel
     have hwz2:=hbr2.size
     have HST:=qh hst
     have HSM:=qh hsm
     have hKml:=hKm.lt
     have HKM:=qh hKm
     clear hst hsm
     by_cases hlt:m < 8
     ·have hlk:m<(kindsO ts.length o).length:=hlt
      obtain ⟨b5,o5,hbe,hb5,hc5⟩:=(Blk.all (kd_len (w.heap.size + 1 + 1 + 1)) hKm hKml).get hlk
      injection hbe with hbe
      injection hbe with hbe1 hbe2
      subst hbe1 hbe2
      have x0:=hc5 0 _ rfl
      have x1:=hc5 1 _ rfl
      have x2:=hc5 2 _ rfl
      simp only [Nat.zero_add,Nat.add_zero] at x0 x1 x2
      clear hc5 hKm
      rcases (show m = 0∨m = 1∨m = 2∨m = 3∨m = 4∨m = 5∨m = 6∨m = 7 by omega) with rfl|rfl|rfl|rfl|rfl|rfl|rfl|rfl
      ·have e0:(kindsO ts.length o)[0]=⟨ts.length,8,108⟩:=rfl
       rw [e0] at x0 x1 x2
       simp only at x0 x1 x2
       clear e0
       go_upto_region 14 with (fail)
       refine abs_world (P:=fun u=>Code.wp _ _ _ _ u) (R:=fun u=>Blk u wr.heap.size 166 #[.int .i64 ts.length, .int .i64 8, .func (.func 108) #[.pointer (some ⟨w.heap.size + 1 + 1 + 1,0,none⟩)] #[]]∧Below wr.heap.size wr u) ⟨?_,?_⟩ ?_
       ·exact Blk.new _ _ _
       ·exact belA
       rintro V2 ⟨hD,hbD⟩
       have hDl:=hD.lt
       have HD:=qh hD
       have HK2:=qh (HKM.out.below hbD hKml)
       have hx2:Below w.heap.size w V2:=below_nextN hbr2 hbD hwz2
       clear hD x0 x1 x2
       obtain ⟨hj0,hI0⟩:=HST.out (by first|rfl|trivial)
       have HI2:=qh (hI0.next hbD)
       clear hI0
       subst hj0
       go_loopw [9,88] (fun vj vi wi => ∃ (i:Nat) (v:Value) (st:List Sto),i≤ts.length∧vj = .int .i64 i∧vi = .int .i64 i∧ChkInO wi w.heap.size (w.heap.size + 1 + 1 + 1) (w.heap.size + 1) (w.heap.size + 1 + 1) A c ts o (namesT ts i) i v st∧PreOk ts i∧Blk wi wr.heap.size 166 #[.int .i64 ts.length, .int .i64 8, .func (.func 108) #[.pointer (some ⟨w.heap.size + 1 + 1 + 1,0,none⟩)] #[]]∧Blk wi W.heap.size 166 ((kindsO ts.length o).flatMap (Kd.cells (w.heap.size + 1 + 1 + 1))).toArray∧Below w.heap.size w wi) (fun _ vi _=>ts.length - (intOf vi).toNat)
       case atStart=>exact ⟨0,_,[],Nat.zero_le _,rfl,rfl,HI2.out,fun i hi h=>by omega,HD.out,HK2.out,hx2⟩
       case round =>
        obtain ⟨i,v,st,hi,rfl,rfl,hIi,hpi,hDi,hKi,hxi⟩:=hrel
        have d2:=hDi.cell 2
        simp only [gE3] at d2
        have HIi:=qh hIi
        have HPI:=qh hpi
        have HDi:=qh hDi
        have HKi:=qh hKi
        have hiz:=hxi.size
        clear hIi hDi hKi hpi
        by_cases hil:i<ts.length
        ·obtain ⟨z,hz⟩ : ∃ z,tabQ ts i hil=z:=⟨_,rfl⟩
         have HZ:=qh hz
         clear hz
         by_cases hz0:z = 0
         ·subst hz0
          have HPN:Hid (PreOk ts (i + 1)):=qh fun k hk hki=>by
           rcases Nat.lt_or_ge k i with h1|h1
           ·exact HPI.out k hk h1
           ·obtain rfl:k=i:=by omega
            exact tabQ_ok.1 HZ.out
          go_wp2_with (go_at_call 108;(with_reducible refine (chk_tableO w.heap.size (w.heap.size + 1 + 1 + 1) (w.heap.size + 1) (w.heap.size + 1 + 1) A c ts o i v st _ hil HIi.out (HT.out.below hxi) HS.out HPI.out h8 hiz HZ.out).mono ?_);rintro e w3 ⟨⟨rfl,h3⟩,hb3⟩;obtain ⟨⟨v3,st3,hI3⟩,hk3⟩:=h3 (by first|rfl|trivial);have HI3:=qh hI3;have HK3:=qh hk3;clear hI3 hk3 h3)
          go_roundw
          case rel=>exact ⟨i + 1,v3,st3,by omega,by go_num,by go_num,HI3.out,HPN.out,HK3.out _ _ _ (by decide) (by decide) HDi.out,HK3.out _ _ _ (by decide) (by decide) HKi.out,hxi.trans hb3⟩
          case measure=>exact meA
         ·have hz0':(z != 0)=true:=by simpa using hz0
          have HNZ:=qh hz0
          have HNO:Hid (¬ CatOkO ts o):=qh fun h=>hz0 (HZ.out.symm.trans (tabQ_ok.2 (h.cat.tab i hil)))
          clear hz0
          go_wp2_with (go_at_call 108;(with_reducible refine (chk_tableO w.heap.size (w.heap.size + 1 + 1 + 1) (w.heap.size + 1) (w.heap.size + 1 + 1) A c ts o i v st _ hil HIi.out (HT.out.below hxi) HS.out HPI.out h8 hiz HZ.out).mono ?_);rintro e w3 ⟨⟨rfl,h3⟩,hb3⟩;clear h3)
          go_ret3
          exact ⟨⟨_,_,_,rfl,fun h=>absurd h HNZ.out,fun h=>absurd h HNO.out⟩,hxi.trans hb3⟩
        ·have hil':decide (i<ts.length)=false:=by simpa using hil
         have HIE:Hid (i=ts.length):=qh omA
         have HCO:Hid (CatOk ts):=qh ⟨h8,fun k hk=>HPI.out k hk (by have:=HIE.out;omega)⟩
         have HIF:=qh HIi.out
         rw [HIE.out] at HIF
         rw [show namesT ts ts.length=namesT ts ts.length++o.names.take (cntO o (0 + 1)) by simp [cntO]] at HIF
         go_wp2_with fail
         go_roundw
         case rel =>
          (repeat apply Exists.intro)
          refine ⟨?_,?_⟩
          rotate_left
          ·first|rfl|(and_intros <;> rfl)
          refine ⟨1,by omega,i,rfl,rfl,fun h=>by omega,fun _=>⟨?_,⟨v,st,?_⟩,HCO.out,fun q hq => ?_,fun h=>by omega⟩,HKi.out⟩
          ·have h:=HIE.out
           show i=ts.length + 0
           omega
          ·exact HIF.out
          ·have h:q < 0:=hq
           omega
         case measure=>simp [intOf]
      ·have e0:(kindsO ts.length o)[1]=⟨(0:Nat),12,109⟩:=rfl
       rw [e0] at x0 x1 x2
       simp only at x0 x1 x2
       clear e0
       go_upto_region 14 with (fail)
       refine abs_world (P:=fun u=>Code.wp _ _ _ _ u) (R:=fun u=>Blk u wr.heap.size 166 #[.int .i64 (0:Nat), .int .i64 12, .func (.func 109) #[.pointer (some ⟨w.heap.size + 1 + 1 + 1,0,none⟩)] #[]]∧Below wr.heap.size wr u) ⟨?_,?_⟩ ?_
       ·exact Blk.new _ _ _
       ·exact belA
       rintro V2 ⟨hD,hbD⟩
       have hDl:=hD.lt
       have HD:=qh hD
       have HK2:=qh (HKM.out.below hbD hKml)
       have hx2:Below w.heap.size w V2:=below_nextN hbr2 hbD hwz2
       clear hD x0 x1 x2
       obtain ⟨hj0,⟨v0,st0,hI0⟩,hCO,hDO,hR6⟩:=HSM.out omA
       have HI2:=qh (hI0.next hbD)
       have HCO:=qh hCO
       have HDO:=qh hDO
       have HR6:=qh hR6
       clear hI0 hCO hDO hR6
       go_loopw [9,88] (fun vj vi wi=>vj = .int .i64 j∧vi = .int .i64 0∧V2=wi) (fun _ _ _ => 0)
       case atStart=>exact ⟨rfl,rfl,rfl⟩
       obtain ⟨rfl,rfl,rfl⟩:=hrel
       go_wp2_with fail
       go_roundw
       case rel =>
        (repeat apply Exists.intro)
        refine ⟨?_,rfl⟩
        exact ⟨1 + 1,j,by omega,rfl,by go_num,fun h=>by omega,fun _=>⟨hj0,⟨v0,st0,HI2.out⟩,HCO.out,HDO.out,fun h=>by omega⟩,HK2.out,hx2⟩
       case measure=>first|(simp [intOf];done)|(simp [intOf];omega)
      ·have e0:(kindsO ts.length o)[2]=⟨o.idx.length,16,110⟩:=rfl
       rw [e0] at x0 x1 x2
       simp only at x0 x1 x2
       clear e0
       go_upto_region 14 with (fail)
       refine abs_world (P:=fun u=>Code.wp _ _ _ _ u) (R:=fun u=>Blk u wr.heap.size 166 #[.int .i64 o.idx.length, .int .i64 16, .func (.func 110) #[.pointer (some ⟨w.heap.size + 1 + 1 + 1,0,none⟩)] #[]]∧Below wr.heap.size wr u) ⟨?_,?_⟩ ?_
       ·exact Blk.new _ _ _
       ·exact belA
       rintro V2 ⟨hD,hbD⟩
       have hDl:=hD.lt
       have HD:=qh hD
       have HK2:=qh (HKM.out.below hbD hKml)
       have hx2:Below w.heap.size w V2:=below_nextN hbr2 hbD hwz2
       clear hD x0 x1 x2
       obtain ⟨hj0,⟨v0,st0,hI0⟩,hCO,hDO,_⟩:=HSM.out omA
       have HI2:=qh (hI0.next hbD)
       have HCO:=qh hCO
       have HDO:=qh hDO
       clear hI0 hCO hDO
       simp only [cntO] at hj0 HI2 HDO
       subst hj0
       go_loopw [9,88] (fun vj vi wi => ∃ (i:Nat) (v:Value) (st:List Sto),i≤o.idx.length∧vj = .int .i64 ((ts.length+(i):Nat):Int)∧vi = .int .i64 i∧ChkInO wi w.heap.size (w.heap.size + 1 + 1 + 1) (w.heap.size + 1) (w.heap.size + 1 + 1) A c ts o (namesT ts ts.length++o.names.take (i)) ts.length v st∧(∀ q,q<i→DeclO ts o q)∧Blk wi wr.heap.size 166 #[.int .i64 o.idx.length, .int .i64 16, .func (.func 110) #[.pointer (some ⟨w.heap.size + 1 + 1 + 1,0,none⟩)] #[]]∧Blk wi W.heap.size 166 ((kindsO ts.length o).flatMap (Kd.cells (w.heap.size + 1 + 1 + 1))).toArray∧Below w.heap.size w wi) (fun _ vi _=>o.idx.length - (intOf vi).toNat)
       case atStart=>exact ⟨0,v0,st0,Nat.zero_le _,rfl,rfl,HI2.out,fun q hq=>HDO.out q omA,HD.out,HK2.out,hx2⟩
       case round =>
        obtain ⟨i,v,st,hi,rfl,rfl,hIi,hpi,hDi,hKi,hxi⟩:=hrel
        have d2:=hDi.cell 2
        simp only [gE3] at d2
        have HIi:=qh hIi
        have HPI:=qh hpi
        have HDi:=qh hDi
        have HKi:=qh hKi
        have hiz:=hxi.size
        have hLL:Hid ((namesT ts ts.length++o.names.take (i)).length ≤ 1000):=qh (by rw [List.length_append,namesT_len nlr,List.length_take];omega)
        clear hIi hDi hKi hpi
        by_cases hil:i<o.idx.length
        ·obtain ⟨L,hL⟩ : ∃ L,namesT ts ts.length++o.names.take (i)=L:=⟨_,rfl⟩
         have HLE:=qh hL
         obtain ⟨hd1,hd2,hd3⟩:=decl_step (ts:=ts) (name_idx hil) (restE_idx hil)
         rw [hL] at hd1 hd2 HIi hLL
         have HD1:=qh hd1
         have HD2:=qh hd2
         have HD3:=qh hd3
         obtain ⟨z,hz⟩ : ∃ z,declQ L o.idx[i].name (idxErr ts o.idx[i])=z:=⟨_,rfl⟩
         have HZ:=qh hz
         clear hz hL hd1 hd2 hd3
         by_cases hz0:z = 0
         ·subst hz0
          have HDX:Hid (DeclO ts o (i)):=qh (HD1.out.1 HZ.out)
          go_wp2_with (go_at_call 110;(with_reducible refine (chk_indexO w.heap.size (w.heap.size + 1 + 1 + 1) (w.heap.size + 1) (w.heap.size + 1 + 1) A c ts o L v st i _ HIi.out (HO.out.below hxi) HSO.out HS.out hil hLL.out hiz HZ.out).mono ?_);rintro e w3 ⟨⟨rfl,h3⟩,hb3⟩;obtain ⟨hI3,hk3⟩:=h3 (by first|rfl|trivial);have HI3:=qh hI3;have HK3:=qh hk3;clear hI3 hk3 h3)
          go_roundw
          case rel=>exact ⟨i + 1,v,st,by omega,by go_num,by go_num,by (have h:=HI3.out;rw [HD2.out] at h;exact h),fun q hq=>by
           rcases Nat.lt_or_ge q (i) with h1|h1
           ·exact HPI.out q h1
           ·obtain rfl:q=i:=by omega
            exact HDX.out,HK3.out _ _ _ HDi.out,HK3.out _ _ _ HKi.out,hxi.trans hb3⟩
          case measure=>exact meA
         ·have hz0':(z != 0)=true:=by simpa using hz0
          have HNZ:=qh hz0
          have HNO:Hid (¬ CatOkO ts o):=qh fun h=>hz0 (HZ.out.symm.trans (HD1.out.2 (h.decl _ HD3.out)))
          clear hz0
          go_wp2_with (go_at_call 110;(with_reducible refine (chk_indexO w.heap.size (w.heap.size + 1 + 1 + 1) (w.heap.size + 1) (w.heap.size + 1 + 1) A c ts o L v st i _ HIi.out (HO.out.below hxi) HSO.out HS.out hil hLL.out hiz HZ.out).mono ?_);rintro e w3 ⟨⟨rfl,h3⟩,hb3⟩;clear h3)
          go_ret3
          exact ⟨⟨_,_,_,rfl,fun h=>absurd h HNZ.out,fun h=>absurd h HNO.out⟩,hxi.trans hb3⟩
        ·have hil':decide (i<o.idx.length)=false:=by simpa using hil
         obtain rfl:i=o.idx.length:=by omega
         go_wp2_with fail
         go_roundw
         case rel =>
          (repeat apply Exists.intro)
          refine ⟨?_,rfl⟩
          exact ⟨2 + 1,ts.length+(o.idx.length),by omega,by go_num,by go_num,fun h=>by omega,fun _=>⟨by simp only [cntO],⟨v,st,by simpa only [cntO] using HIi.out⟩,HCO.out,fun q hq=>HPI.out q (by simpa only [cntO] using hq),fun h=>by omega⟩,HKi.out,hxi⟩
         case measure=>simp [intOf]
      ·have e0:(kindsO ts.length o)[3]=⟨o.skt.length,16,111⟩:=rfl
       rw [e0] at x0 x1 x2
       simp only at x0 x1 x2
       clear e0
       go_upto_region 14 with (fail)
       refine abs_world (P:=fun u=>Code.wp _ _ _ _ u) (R:=fun u=>Blk u wr.heap.size 166 #[.int .i64 o.skt.length, .int .i64 16, .func (.func 111) #[.pointer (some ⟨w.heap.size + 1 + 1 + 1,0,none⟩)] #[]]∧Below wr.heap.size wr u) ⟨?_,?_⟩ ?_
       ·exact Blk.new _ _ _
       ·exact belA
       rintro V2 ⟨hD,hbD⟩
       have hDl:=hD.lt
       have HD:=qh hD
       have HK2:=qh (HKM.out.below hbD hKml)
       have hx2:Below w.heap.size w V2:=below_nextN hbr2 hbD hwz2
       clear hD x0 x1 x2
       obtain ⟨hj0,⟨v0,st0,hI0⟩,hCO,hDO,_⟩:=HSM.out omA
       have HI2:=qh (hI0.next hbD)
       have HCO:=qh hCO
       have HDO:=qh hDO
       clear hI0 hCO hDO
       simp only [cntO] at hj0 HI2 HDO
       subst hj0
       go_loopw [9,88] (fun vj vi wi => ∃ (i:Nat) (v:Value) (st:List Sto),i≤o.skt.length∧vj = .int .i64 ((ts.length+(o.idx.length+i):Nat):Int)∧vi = .int .i64 i∧ChkInO wi w.heap.size (w.heap.size + 1 + 1 + 1) (w.heap.size + 1) (w.heap.size + 1 + 1) A c ts o (namesT ts ts.length++o.names.take (o.idx.length+i)) ts.length v st∧(∀ q,q<o.idx.length+i→DeclO ts o q)∧Blk wi wr.heap.size 166 #[.int .i64 o.skt.length, .int .i64 16, .func (.func 111) #[.pointer (some ⟨w.heap.size + 1 + 1 + 1,0,none⟩)] #[]]∧Blk wi W.heap.size 166 ((kindsO ts.length o).flatMap (Kd.cells (w.heap.size + 1 + 1 + 1))).toArray∧Below w.heap.size w wi) (fun _ vi _=>o.skt.length - (intOf vi).toNat)
       case atStart=>exact ⟨0,v0,st0,Nat.zero_le _,rfl,rfl,HI2.out,fun q hq=>HDO.out q omA,HD.out,HK2.out,hx2⟩
       case round =>
        obtain ⟨i,v,st,hi,rfl,rfl,hIi,hpi,hDi,hKi,hxi⟩:=hrel
        have d2:=hDi.cell 2
        simp only [gE3] at d2
        have HIi:=qh hIi
        have HPI:=qh hpi
        have HDi:=qh hDi
        have HKi:=qh hKi
        have hiz:=hxi.size
        have hLL:Hid ((namesT ts ts.length++o.names.take (o.idx.length+i)).length ≤ 1000):=qh (by rw [List.length_append,namesT_len nlr,List.length_take];omega)
        clear hIi hDi hKi hpi
        by_cases hil:i<o.skt.length
        ·obtain ⟨L,hL⟩ : ∃ L,namesT ts ts.length++o.names.take (o.idx.length+i)=L:=⟨_,rfl⟩
         have HLE:=qh hL
         obtain ⟨hd1,hd2,hd3⟩:=decl_step (ts:=ts) (name_skt hil) (restE_skt' omA omA hil)
         rw [hL] at hd1 hd2 HIi hLL
         have HD1:=qh hd1
         have HD2:=qh hd2
         have HD3:=qh hd3
         obtain ⟨z,hz⟩ : ∃ z,declQ L o.skt[i].name (sktErr ts o.skt[i])=z:=⟨_,rfl⟩
         have HZ:=qh hz
         clear hz hL hd1 hd2 hd3
         by_cases hz0:z = 0
         ·subst hz0
          have HDX:Hid (DeclO ts o (o.idx.length+i)):=qh (HD1.out.1 HZ.out)
          go_wp2_with (go_at_call 111;(with_reducible refine (chk_sketchO w.heap.size (w.heap.size + 1 + 1 + 1) (w.heap.size + 1) (w.heap.size + 1 + 1) A c ts o L v st i _ HIi.out (HO.out.below hxi) HSO.out HS.out hil hLL.out hiz HZ.out).mono ?_);rintro e w3 ⟨⟨rfl,h3⟩,hb3⟩;obtain ⟨hI3,hk3⟩:=h3 (by first|rfl|trivial);have HI3:=qh hI3;have HK3:=qh hk3;clear hI3 hk3 h3)
          go_roundw
          case rel=>exact ⟨i + 1,v,st,by omega,by go_num,by go_num,by (have h:=HI3.out;rw [HD2.out] at h;exact h),fun q hq=>by
           rcases Nat.lt_or_ge q (o.idx.length+i) with h1|h1
           ·exact HPI.out q h1
           ·obtain rfl:q=o.idx.length+i:=by omega
            exact HDX.out,HK3.out _ _ _ HDi.out,HK3.out _ _ _ HKi.out,hxi.trans hb3⟩
          case measure=>exact meA
         ·have hz0':(z != 0)=true:=by simpa using hz0
          have HNZ:=qh hz0
          have HNO:Hid (¬ CatOkO ts o):=qh fun h=>hz0 (HZ.out.symm.trans (HD1.out.2 (h.decl _ HD3.out)))
          clear hz0
          go_wp2_with (go_at_call 111;(with_reducible refine (chk_sketchO w.heap.size (w.heap.size + 1 + 1 + 1) (w.heap.size + 1) (w.heap.size + 1 + 1) A c ts o L v st i _ HIi.out (HO.out.below hxi) HSO.out HS.out hil hLL.out hiz HZ.out).mono ?_);rintro e w3 ⟨⟨rfl,h3⟩,hb3⟩;clear h3)
          go_ret3
          exact ⟨⟨_,_,_,rfl,fun h=>absurd h HNZ.out,fun h=>absurd h HNO.out⟩,hxi.trans hb3⟩
        ·have hil':decide (i<o.skt.length)=false:=by simpa using hil
         obtain rfl:i=o.skt.length:=by omega
         go_wp2_with fail
         go_roundw
         case rel =>
          (repeat apply Exists.intro)
          refine ⟨?_,rfl⟩
          exact ⟨3 + 1,ts.length+(o.idx.length+o.skt.length),by omega,by go_num,by go_num,fun h=>by omega,fun _=>⟨by simp only [cntO],⟨v,st,by simpa only [cntO] using HIi.out⟩,HCO.out,fun q hq=>HPI.out q (by simpa only [cntO] using hq),fun h=>by omega⟩,HKi.out,hxi⟩
         case measure=>simp [intOf]
      ·have e0:(kindsO ts.length o)[4]=⟨o.cch.length,16,112⟩:=rfl
       rw [e0] at x0 x1 x2
       simp only at x0 x1 x2
       clear e0
       go_upto_region 14 with (fail)
       refine abs_world (P:=fun u=>Code.wp _ _ _ _ u) (R:=fun u=>Blk u wr.heap.size 166 #[.int .i64 o.cch.length, .int .i64 16, .func (.func 112) #[.pointer (some ⟨w.heap.size + 1 + 1 + 1,0,none⟩)] #[]]∧Below wr.heap.size wr u) ⟨?_,?_⟩ ?_
       ·exact Blk.new _ _ _
       ·exact belA
       rintro V2 ⟨hD,hbD⟩
       have hDl:=hD.lt
       have HD:=qh hD
       have HK2:=qh (HKM.out.below hbD hKml)
       have hx2:Below w.heap.size w V2:=below_nextN hbr2 hbD hwz2
       clear hD x0 x1 x2
       obtain ⟨hj0,⟨v0,st0,hI0⟩,hCO,hDO,_⟩:=HSM.out omA
       have HI2:=qh (hI0.next hbD)
       have HCO:=qh hCO
       have HDO:=qh hDO
       clear hI0 hCO hDO
       simp only [cntO] at hj0 HI2 HDO
       subst hj0
       go_loopw [9,88] (fun vj vi wi => ∃ (i:Nat) (v:Value) (st:List Sto),i≤o.cch.length∧vj = .int .i64 ((ts.length+(o.idx.length+o.skt.length+i):Nat):Int)∧vi = .int .i64 i∧ChkInO wi w.heap.size (w.heap.size + 1 + 1 + 1) (w.heap.size + 1) (w.heap.size + 1 + 1) A c ts o (namesT ts ts.length++o.names.take (o.idx.length+o.skt.length+i)) ts.length v st∧(∀ q,q<o.idx.length+o.skt.length+i→DeclO ts o q)∧Blk wi wr.heap.size 166 #[.int .i64 o.cch.length, .int .i64 16, .func (.func 112) #[.pointer (some ⟨w.heap.size + 1 + 1 + 1,0,none⟩)] #[]]∧Blk wi W.heap.size 166 ((kindsO ts.length o).flatMap (Kd.cells (w.heap.size + 1 + 1 + 1))).toArray∧Below w.heap.size w wi) (fun _ vi _=>o.cch.length - (intOf vi).toNat)
       case atStart=>exact ⟨0,v0,st0,Nat.zero_le _,rfl,rfl,HI2.out,fun q hq=>HDO.out q omA,HD.out,HK2.out,hx2⟩
       case round =>
        obtain ⟨i,v,st,hi,rfl,rfl,hIi,hpi,hDi,hKi,hxi⟩:=hrel
        have d2:=hDi.cell 2
        simp only [gE3] at d2
        have HIi:=qh hIi
        have HPI:=qh hpi
        have HDi:=qh hDi
        have HKi:=qh hKi
        have hiz:=hxi.size
        have hLL:Hid ((namesT ts ts.length++o.names.take (o.idx.length+o.skt.length+i)).length ≤ 1000):=qh (by rw [List.length_append,namesT_len nlr,List.length_take];omega)
        clear hIi hDi hKi hpi
        by_cases hil:i<o.cch.length
        ·obtain ⟨L,hL⟩ : ∃ L,namesT ts ts.length++o.names.take (o.idx.length+o.skt.length+i)=L:=⟨_,rfl⟩
         have HLE:=qh hL
         obtain ⟨hd1,hd2,hd3⟩:=decl_step (ts:=ts) (name_cch hil) (restE_cch' omA omA omA hil)
         rw [hL] at hd1 hd2 HIi hLL
         have HD1:=qh hd1
         have HD2:=qh hd2
         have HD3:=qh hd3
         obtain ⟨z,hz⟩ : ∃ z,declQ L o.cch[i].name (cchErr ts o.cch[i])=z:=⟨_,rfl⟩
         have HZ:=qh hz
         clear hz hL hd1 hd2 hd3
         by_cases hz0:z = 0
         ·subst hz0
          have HDX:Hid (DeclO ts o (o.idx.length+o.skt.length+i)):=qh (HD1.out.1 HZ.out)
          go_wp2_with (go_at_call 112;(with_reducible refine (chk_cacheO w.heap.size (w.heap.size + 1 + 1 + 1) (w.heap.size + 1) (w.heap.size + 1 + 1) A c ts o L v st i _ HIi.out (HO.out.below hxi) HSO.out HS.out hil hLL.out hiz HZ.out).mono ?_);rintro e w3 ⟨⟨rfl,h3⟩,hb3⟩;obtain ⟨hI3,hk3⟩:=h3 (by first|rfl|trivial);have HI3:=qh hI3;have HK3:=qh hk3;clear hI3 hk3 h3)
          go_roundw
          case rel=>exact ⟨i + 1,v,st,by omega,by go_num,by go_num,by (have h:=HI3.out;rw [HD2.out] at h;exact h),fun q hq=>by
           rcases Nat.lt_or_ge q (o.idx.length+o.skt.length+i) with h1|h1
           ·exact HPI.out q h1
           ·obtain rfl:q=o.idx.length+o.skt.length+i:=by omega
            exact HDX.out,HK3.out _ _ _ HDi.out,HK3.out _ _ _ HKi.out,hxi.trans hb3⟩
          case measure=>exact meA
         ·have hz0':(z != 0)=true:=by simpa using hz0
          have HNZ:=qh hz0
          have HNO:Hid (¬ CatOkO ts o):=qh fun h=>hz0 (HZ.out.symm.trans (HD1.out.2 (h.decl _ HD3.out)))
          clear hz0
          go_wp2_with (go_at_call 112;(with_reducible refine (chk_cacheO w.heap.size (w.heap.size + 1 + 1 + 1) (w.heap.size + 1) (w.heap.size + 1 + 1) A c ts o L v st i _ HIi.out (HO.out.below hxi) HSO.out HS.out hil hLL.out hiz HZ.out).mono ?_);rintro e w3 ⟨⟨rfl,h3⟩,hb3⟩;clear h3)
          go_ret3
          exact ⟨⟨_,_,_,rfl,fun h=>absurd h HNZ.out,fun h=>absurd h HNO.out⟩,hxi.trans hb3⟩
        ·have hil':decide (i<o.cch.length)=false:=by simpa using hil
         obtain rfl:i=o.cch.length:=by omega
         go_wp2_with fail
         go_roundw
         case rel =>
          (repeat apply Exists.intro)
          refine ⟨?_,rfl⟩
          exact ⟨4 + 1,ts.length+(o.idx.length+o.skt.length+o.cch.length),by omega,by go_num,by go_num,fun h=>by omega,fun _=>⟨by simp only [cntO],⟨v,st,by simpa only [cntO] using HIi.out⟩,HCO.out,fun q hq=>HPI.out q (by simpa only [cntO] using hq),fun h=>by omega⟩,HKi.out,hxi⟩
         case measure=>simp [intOf]
      ·have e0:(kindsO ts.length o)[5]=⟨o.rel.length,16,113⟩:=rfl
       rw [e0] at x0 x1 x2
       simp only at x0 x1 x2
       clear e0
       go_upto_region 14 with (fail)
       refine abs_world (P:=fun u=>Code.wp _ _ _ _ u) (R:=fun u=>Blk u wr.heap.size 166 #[.int .i64 o.rel.length, .int .i64 16, .func (.func 113) #[.pointer (some ⟨w.heap.size + 1 + 1 + 1,0,none⟩)] #[]]∧Below wr.heap.size wr u) ⟨?_,?_⟩ ?_
       ·exact Blk.new _ _ _
       ·exact belA
       rintro V2 ⟨hD,hbD⟩
       have hDl:=hD.lt
       have HD:=qh hD
       have HK2:=qh (HKM.out.below hbD hKml)
       have hx2:Below w.heap.size w V2:=below_nextN hbr2 hbD hwz2
       clear hD x0 x1 x2
       obtain ⟨hj0,⟨v0,st0,hI0⟩,hCO,hDO,_⟩:=HSM.out omA
       have HI2:=qh (hI0.next hbD)
       have HCO:=qh hCO
       have HDO:=qh hDO
       clear hI0 hCO hDO
       simp only [cntO] at hj0 HI2 HDO
       subst hj0
       go_loopw [9,88] (fun vj vi wi => ∃ (i:Nat) (v:Value) (st:List Sto),i≤o.rel.length∧vj = .int .i64 ((ts.length+(o.idx.length+o.skt.length+o.cch.length+i):Nat):Int)∧vi = .int .i64 i∧ChkInO wi w.heap.size (w.heap.size + 1 + 1 + 1) (w.heap.size + 1) (w.heap.size + 1 + 1) A c ts o (namesT ts ts.length++o.names.take (o.idx.length+o.skt.length+o.cch.length+i)) ts.length v st∧(∀ q,q<o.idx.length+o.skt.length+o.cch.length+i→DeclO ts o q)∧Blk wi wr.heap.size 166 #[.int .i64 o.rel.length, .int .i64 16, .func (.func 113) #[.pointer (some ⟨w.heap.size + 1 + 1 + 1,0,none⟩)] #[]]∧Blk wi W.heap.size 166 ((kindsO ts.length o).flatMap (Kd.cells (w.heap.size + 1 + 1 + 1))).toArray∧Below w.heap.size w wi) (fun _ vi _=>o.rel.length - (intOf vi).toNat)
       case atStart=>exact ⟨0,v0,st0,Nat.zero_le _,rfl,rfl,HI2.out,fun q hq=>HDO.out q omA,HD.out,HK2.out,hx2⟩
       case round =>
        obtain ⟨i,v,st,hi,rfl,rfl,hIi,hpi,hDi,hKi,hxi⟩:=hrel
        have d2:=hDi.cell 2
        simp only [gE3] at d2
        have HIi:=qh hIi
        have HPI:=qh hpi
        have HDi:=qh hDi
        have HKi:=qh hKi
        have hiz:=hxi.size
        have hLL:Hid ((namesT ts ts.length++o.names.take (o.idx.length+o.skt.length+o.cch.length+i)).length ≤ 1000):=qh (by rw [List.length_append,namesT_len nlr,List.length_take];omega)
        clear hIi hDi hKi hpi
        by_cases hil:i<o.rel.length
        ·obtain ⟨L,hL⟩ : ∃ L,namesT ts ts.length++o.names.take (o.idx.length+o.skt.length+o.cch.length+i)=L:=⟨_,rfl⟩
         have HLE:=qh hL
         obtain ⟨hd1,hd2,hd3⟩:=decl_step (ts:=ts) (name_rel hil) (restE_rel omA omA omA)
         rw [hL] at hd1 hd2 HIi hLL
         have HD1:=qh hd1
         have HD2:=qh hd2
         have HD3:=qh hd3
         obtain ⟨z,hz⟩ : ∃ z,declQ L o.rel[i].name (7)=z:=⟨_,rfl⟩
         have HZ:=qh hz
         clear hz hL hd1 hd2 hd3
         by_cases hz0:z = 0
         ·exact absurd ((HD1.out.1 (HZ.out.trans hz0)).err.symm.trans (restE_rel omA omA omA)) (by decide)
         ·have hz0':(z != 0)=true:=by simpa using hz0
          have HNZ:=qh hz0
          have HNO:Hid (¬ CatOkO ts o):=qh fun h=>hz0 (HZ.out.symm.trans (HD1.out.2 (h.decl _ HD3.out)))
          clear hz0
          go_wp2_with (go_at_call 113;(with_reducible refine (chk_releaseO w.heap.size (w.heap.size + 1 + 1 + 1) (w.heap.size + 1) (w.heap.size + 1 + 1) A c ts o L v st i _ HIi.out (HO.out.below hxi) HSO.out HS.out hil hLL.out hiz HZ.out).mono ?_);rintro e w3 ⟨⟨rfl,h3⟩,hb3⟩;clear h3)
          go_ret3
          exact ⟨⟨_,_,_,rfl,fun h=>absurd h HNZ.out,fun h=>absurd h HNO.out⟩,hxi.trans hb3⟩
        ·have hil':decide (i<o.rel.length)=false:=by simpa using hil
         have HE0:Hid (o.rel.length = 0):=qh (by
          rcases Nat.eq_zero_or_pos o.rel.length with h0|h0
          ·exact h0
          ·exfalso
           have h1:=(HPI.out (o.idx.length+o.skt.length+o.cch.length) omA).err
           rw [restE_rel omA omA omA] at h1
           cases h1)
         obtain rfl:i=o.rel.length:=by omega
         go_wp2_with fail
         go_roundw
         case rel =>
          (repeat apply Exists.intro)
          refine ⟨?_,rfl⟩
          exact ⟨5 + 1,ts.length+(o.idx.length+o.skt.length+o.cch.length),by omega,(by congr 1;have:=HE0.out;omega),by go_num,fun h=>by omega,fun _=>⟨by simp only [cntO],⟨v,st,by have h:=HIi.out;rw [HE0.out] at h;exact h⟩,HCO.out,fun q hq=>HPI.out q (by simp only [cntO] at hq;omega),fun _=>HE0.out⟩,HKi.out,hxi⟩
         case measure=>simp [intOf]
      ·have e0:(kindsO ts.length o)[6]=⟨o.str.length,16,114⟩:=rfl
       rw [e0] at x0 x1 x2
       simp only at x0 x1 x2
       clear e0
       go_upto_region 14 with (fail)
       refine abs_world (P:=fun u=>Code.wp _ _ _ _ u) (R:=fun u=>Blk u wr.heap.size 166 #[.int .i64 o.str.length, .int .i64 16, .func (.func 114) #[.pointer (some ⟨w.heap.size + 1 + 1 + 1,0,none⟩)] #[]]∧Below wr.heap.size wr u) ⟨?_,?_⟩ ?_
       ·exact Blk.new _ _ _
       ·exact belA
       rintro V2 ⟨hD,hbD⟩
       have hDl:=hD.lt
       have HD:=qh hD
       have HK2:=qh (HKM.out.below hbD hKml)
       have hx2:Below w.heap.size w V2:=below_nextN hbr2 hbD hwz2
       clear hD x0 x1 x2
       obtain ⟨hj0,⟨v0,st0,hI0⟩,hCO,hDO,hR6⟩:=HSM.out omA
       have HI2:=qh (hI0.next hbD)
       have HCO:=qh hCO
       have HDO:=qh hDO
       have HR6:=qh hR6
       have hz:=H16.out.back (hR6 omA)
       have hzn:o.str.length = 0:=hz.1
       have hzd:decide ((0:Int)<(o.str.length:Int))=false:=decide_eq_false omA
       clear hz
       clear hI0 hCO hDO hR6
       go_loopw [9,88] (fun vj vi wi=>vj = .int .i64 j∧vi = .int .i64 0∧V2=wi) (fun _ _ _ => 0)
       case atStart=>exact ⟨rfl,rfl,rfl⟩
       obtain ⟨rfl,rfl,rfl⟩:=hrel
       go_wp2_with fail
       go_roundw
       case rel =>
        (repeat apply Exists.intro)
        refine ⟨?_,rfl⟩
        exact ⟨6 + 1,j,by omega,rfl,by go_num,fun h=>by omega,fun _=>⟨hj0,⟨v0,st0,HI2.out⟩,HCO.out,HDO.out,fun _=>HR6.out omA⟩,HK2.out,hx2⟩
       case measure=>first|(simp [intOf];done)|(simp [intOf];omega)
      ·have e0:(kindsO ts.length o)[7]=⟨o.bak.length,16,115⟩:=rfl
       rw [e0] at x0 x1 x2
       simp only at x0 x1 x2
       clear e0
       go_upto_region 14 with (fail)
       refine abs_world (P:=fun u=>Code.wp _ _ _ _ u) (R:=fun u=>Blk u wr.heap.size 166 #[.int .i64 o.bak.length, .int .i64 16, .func (.func 115) #[.pointer (some ⟨w.heap.size + 1 + 1 + 1,0,none⟩)] #[]]∧Below wr.heap.size wr u) ⟨?_,?_⟩ ?_
       ·exact Blk.new _ _ _
       ·exact belA
       rintro V2 ⟨hD,hbD⟩
       have hDl:=hD.lt
       have HD:=qh hD
       have HK2:=qh (HKM.out.below hbD hKml)
       have hx2:Below w.heap.size w V2:=below_nextN hbr2 hbD hwz2
       clear hD x0 x1 x2
       obtain ⟨hj0,⟨v0,st0,hI0⟩,hCO,hDO,hR6⟩:=HSM.out omA
       have HI2:=qh (hI0.next hbD)
       have HCO:=qh hCO
       have HDO:=qh hDO
       have HR6:=qh hR6
       have hz:=H16.out.back (hR6 omA)
       have hzn:o.bak.length = 0:=hz.2
       have hzd:decide ((0:Int)<(o.bak.length:Int))=false:=decide_eq_false omA
       clear hz
       clear hI0 hCO hDO hR6
       go_loopw [9,88] (fun vj vi wi=>vj = .int .i64 j∧vi = .int .i64 0∧V2=wi) (fun _ _ _ => 0)
       case atStart=>exact ⟨rfl,rfl,rfl⟩
       obtain ⟨rfl,rfl,rfl⟩:=hrel
       go_wp2_with fail
       go_roundw
       case rel =>
        (repeat apply Exists.intro)
        refine ⟨?_,rfl⟩
        exact ⟨7 + 1,j,by omega,rfl,by go_num,fun h=>by omega,fun _=>⟨hj0,⟨v0,st0,HI2.out⟩,HCO.out,HDO.out,fun _=>HR6.out omA⟩,HK2.out,hx2⟩
       case measure=>first|(simp [intOf];done)|(simp [intOf];omega)
     ·have hlt':decide (m < 8)=false:=by simpa using hlt
      obtain ⟨hj0,_,hCO,hDO,hR6⟩:=HSM.out omA
      have HYES:Hid (CatOkO ts o):=qh ⟨hCO,fun q hq=>hDO q (by
       have h0:=hR6 omA
       have h1:=H16.out.back h0
       rw [names_len] at hq
       obtain rfl:m = 8:=by omega
       simp only [cntO]
       omega)⟩
      clear hCO hDO hR6 hj0
      go_wp2_with fail
      go_ret3
      exact ⟨⟨_,_,_,rfl,fun _=>HYES.out,fun _=>rfl⟩,hbr2⟩
theorem idle_CatValidO (w:World):CallsD Tryz.prog 82 #[] .returning w fun e u' w'=>e = .returned (.tuple #[])∧u' = .returning∧w'=w:=by
 refine callsD_of_wpS Tryz.func82 rfl fun c₀ cs hu => ?_
 apply wpS_region
 cases c₀
 simp_all [wpOpsS,go_sem,recoverD,Tryz.ntmps82,bodyPostS,results,Tryz.results82]
theorem cat_ValidO (A:Option Addr) (c m:Nat) (ts:List Tab) (o:Oth) (w:World) (ht:TabsIn w w.heap.size A ts) (hm:ts.length=m) (hs:SaneCat ts) (ho:OthIn w w.heap.size o) (hso:SaneO o) (h16:Oth16 o) {r:Bool} (hr:pb (CatOkO ts o)=r) :
 Calls Tryz.prog 53 #[.agg #[.slice A m c, .slice o.vA 0 o.vc, .slice o.iA o.idx.length o.ic, .slice o.sA o.skt.length o.sc, .slice o.cA o.cch.length o.cc, .slice o.rA o.rel.length o.rc, .slice o.tA o.str.length o.tc, .slice o.bA o.bak.length o.bc]] w fun e w'=>e = .returned (.bool r)∧Below w.heap.size w w':=by
 have HT:=qh ht
 have HS:=qh hs
 have HO:=qh ho
 have HR:=qh hr
 clear ht hs ho hr
 go_enter_defers Tryz.func53,Tryz.ntmps53
 go_wp2_with (go_at_call 83;(with_reducible refine (cat_checkO A c m ts o _ (HT.out.next belA) hm HS.out (HO.out.next belA) hso h16).mono ?_);rintro e w1 ⟨⟨p,q,z,rfl,hz⟩,hb1⟩;have HZ:=qh hz;clear hz;have hx1:Below w.heap.size w w1:=below_nextN belA hb1 leA)
 refine leaves_cons (f := 82) (args := #[]) spA (by simp [go_sem]) ?_;refine (idle_CatValidO _).mono ?_;rintro e u' w'' ⟨rfl,rfl,rfl⟩;refine ⟨_,results_tmp rfl _ _ _,?_⟩
 refine ⟨ret_bool ?_,hx1⟩
 rw [← HR.out,Bool.eq_iff_iff,pb_iff,← HZ.out]
 simp
open Go.RowKit Go
structure CatG (w:World) (B:Nat) (A:Option Addr) (c:Nat) (ts:List Tab) (o:Oth):Prop where
 prog : ∀ u,Below B w u→Calls Tryz.prog 53 #[.agg #[.slice A ts.length c, .slice o.vA 0 o.vc, .slice o.iA o.idx.length o.ic, .slice o.sA o.skt.length o.sc, .slice o.cA o.cch.length o.cc, .slice o.rA o.rel.length o.rc, .slice o.tA o.str.length o.tc, .slice o.bA o.bak.length o.bc]] u fun e u'=>e = .returned (.bool true)∧Below u.heap.size u u'
 ref : ∀ u,Below B w u→Calls Tryz.prog 29 #[.agg #[.slice A ts.length c, .slice o.vA 0 o.vc, .slice o.iA o.idx.length o.ic, .slice o.sA o.skt.length o.sc, .slice o.cA o.cch.length o.cc, .slice o.rA o.rel.length o.rc, .slice o.tA o.str.length o.tc, .slice o.bA o.bak.length o.bc]] u fun e u'=>e = .returned (.bool true)∧Below u.heap.size u u'
 fnd : ∀ (s:ByteArray) (k:Int) (u:World),Below B w u→Calls Tryz.prog 129 #[.agg #[.slice A ts.length c, .slice o.vA 0 o.vc, .slice o.iA o.idx.length o.ic, .slice o.sA o.skt.length o.sc, .slice o.cA o.cch.length o.cc, .slice o.rA o.rel.length o.rc, .slice o.tA o.str.length o.tc, .slice o.bA o.bak.length o.bc], .string s, .int .i64 k] u fun e u'=>e = .returned (.int .i64 (findI (ts.map Tab.name) s k))∧Below u.heap.size u u'
theorem CatG.below {w w':World} {B:Nat} {A:Option Addr} {c:Nat} {ts:List Tab} {o:Oth} (h:CatG w B A c ts o) (hb:Below B w w'):CatG w' B A c ts o :=
 ⟨fun u hu=>h.prog u (hb.trans hu),fun u hu=>h.ref u (hb.trans hu),fun s k u hu=>h.fnd s k u (hb.trans hu)⟩
theorem CatG.mono {w:World} {B B':Nat} {A:Option Addr} {c:Nat} {ts:List Tab} {o:Oth} (h:CatG w B A c ts o) (hB:B≤B'):CatG w B' A c ts o :=
 ⟨fun u hu=>h.prog u (hu.mono hB),fun u hu=>h.ref u (hu.mono hB),fun s k u hu=>h.fnd s k u (hu.mono hB)⟩
theorem CatG.next {w w':World} {A:Option Addr} {c:Nat} {ts:List Tab} {o:Oth} (h:CatG w w.heap.size A c ts o) (hb:Below w.heap.size w w'):CatG w' w'.heap.size A c ts o:=(h.below hb).mono hb.size
abbrev Oth.nil:Oth:=⟨none,0,none,0,[],none,0,[],none,0,[],none,0,[],none,0,[],none,0,[]⟩
open Go.RowKit Go
theorem CatG.of {w:World} {A:Option Addr} {c:Nat} {ts:List Tab} {o:Oth} (ht:TabsIn w w.heap.size A ts) (hs:SaneCat ts) (ho:OthIn w w.heap.size o) (hso:SaneO o) (h16:Oth16 o) (hok:CatOkO ts o):CatG w w.heap.size A c ts o :=
 ⟨fun u hu=>cat_ValidO A c ts.length ts o u (ht.next hu) rfl hs (ho.next hu) hso h16 (pb_true hok),fun u hu=>ref04_ValidO A c ts.length ts o u (ht.next hu) rfl hs (ho.next hu) hso h16 (pb_true hok),fun s k u hu=>ref04_findO A c ts.length ts s k o u (SliceIs.next ht.1 hu) (ho.next hu) hso rfl hs.len rfl⟩
theorem OthIn.nil (w:World) (B:Nat):OthIn w B Oth.nil:=⟨SliceIs.nil,SliceIs.nil,SliceIs.nil,SliceIs.nil,SliceIs.nil,SliceIs.nil⟩
theorem SaneO.nil:SaneO Oth.nil:=⟨by decide,by decide,by decide,by decide,by decide,by decide,fun x hx=>(by cases hx),fun x hx=>(by cases hx),fun x hx=>(by cases hx),fun x hx=>(by cases hx),fun x hx=>(by cases hx)⟩
theorem Oth16.nil:Oth16 Oth.nil:=⟨by decide,by decide,by decide,by decide,by decide,by decide,fun _=>⟨rfl,rfl⟩⟩
theorem CatOkO.nil {ts:List Tab} (h:CatOk ts):CatOkO ts Oth.nil:=⟨h,fun j hj=>(by cases hj)⟩
theorem CatG.nil {w:World} {A:Option Addr} {c:Nat} {ts:List Tab} (ht:TabsIn w w.heap.size A ts) (hs:SaneCat ts) (hok:CatOk ts):CatG w w.heap.size A c ts Oth.nil:=CatG.of ht hs (OthIn.nil _ _) SaneO.nil Oth16.nil (CatOkO.nil hok)
open Go.RowKit Go
variable {o:Oth}
theorem ref04_FindO (A:Option Addr) (c m:Nat) (ts:List Tab) (s:ByteArray) (w:World) (ht:TabsIn w w.heap.size A ts) (hm:ts.length=m) (hs:SaneCat ts) (hg:CatG w w.heap.size A c ts o) {r:Int} (hr:findI (ts.map Tab.name) s ts.length=r) :
 Calls Tryz.prog 97 #[.agg #[.slice A m c, .slice o.vA 0 o.vc, .slice o.iA o.idx.length o.ic, .slice o.sA o.skt.length o.sc, .slice o.cA o.cch.length o.cc, .slice o.rA o.rel.length o.rc, .slice o.tA o.str.length o.tc, .slice o.bA o.bak.length o.bc], .string s] w fun e w'=>e = .returned (.int .i64 r)∧Below w.heap.size w w':=by
 subst hm hr
 have hlen:=hs.len
 have HT:=qh ht
 have HT1:=qh ht.1
 have HS:=qh hs
 have HG:=qh hg
 clear ht hs hg
 go_enter Tryz.func97,Tryz.ntmps97
 go_wp2_with fail
 (with_reducible refine (HG.out.ref _ belA).mono ?_)
 rintro e w1 ⟨rfl,hb1⟩
 have hx1:Below w.heap.size w w1:=below_nextN belA hb1 leA
 obtain ⟨k1,_,_⟩:=keepB hb1 w.heap.size ltA
 go_wp2_with fail
 (with_reducible refine (HG.out.fnd s _ _ hx1).mono ?_)
 rintro e w2 ⟨rfl,hb2⟩
 go_wp2_with fail
 go_ret
 exact ⟨rfl,below_nextN hx1 hb2 hx1.size⟩
theorem ref04_isStoreO (A:Option Addr) (c m:Nat) (ts:List Tab) (n:Int) (w:World) (ht:TabsIn w w.heap.size A ts) (hm:ts.length=m) (hs:SaneCat ts) (hg:CatG w w.heap.size A c ts o) {r:Bool} (hr:withinB n 0 ((ts.length:Int) - 1)=r) :
 Calls Tryz.prog 177 #[.agg #[.slice A m c, .slice o.vA 0 o.vc, .slice o.iA o.idx.length o.ic, .slice o.sA o.skt.length o.sc, .slice o.cA o.cch.length o.cc, .slice o.rA o.rel.length o.rc, .slice o.tA o.str.length o.tc, .slice o.bA o.bak.length o.bc], .int .i64 n] w fun e w'=>e = .returned (.bool r)∧Below w.heap.size w w':=by
 subst hm hr
 have hlen:=hs.len
 have HT:=qh ht
 have HS:=qh hs
 have HG:=qh hg
 clear ht hs hg
 obtain ⟨r1,hr1⟩ : ∃ r,withinB n 0 ((ts.length:Int) - 1)=r:=⟨_,rfl⟩
 rw [hr1]
 have HR:=qh hr1
 clear hr1
 cases r1
 ·go_enter Tryz.func177,Tryz.ntmps177
  go_wp2_with (go_at_call 127;(with_reducible refine (ref04_within n 0 _ _ HR.out).mono ?_);rintro e w1 ⟨rfl,rfl⟩)
  go_ret
  exact ⟨rfl,by exact belA⟩
 ·go_enter Tryz.func177,Tryz.ntmps177
  go_wp2_with (first
   | (go_at_call 127;(with_reducible refine (ref04_within n 0 _ _ HR.out).mono ?_);rintro e w1 ⟨rfl,rfl⟩)
   | (go_at_call 29;(with_reducible refine (HG.out.ref _ belA).mono ?_);rintro e w1 ⟨rfl,hb1⟩))
  go_ret
  exact ⟨rfl,below_nextN belA hb1 leA⟩
theorem ref04_isTableO (A:Option Addr) (c m:Nat) (ts:List Tab) (n:Int) (w:World) (ht:TabsIn w w.heap.size A ts) (hm:ts.length=m) (hs:SaneCat ts) (hg:CatG w w.heap.size A c ts o) {r:Bool} (hr:withinB n 0 ((ts.length:Int) - 1)=r) :
 Calls Tryz.prog 146 #[.agg #[.slice A m c, .slice o.vA 0 o.vc, .slice o.iA o.idx.length o.ic, .slice o.sA o.skt.length o.sc, .slice o.cA o.cch.length o.cc, .slice o.rA o.rel.length o.rc, .slice o.tA o.str.length o.tc, .slice o.bA o.bak.length o.bc], .int .i64 n] w fun e w'=>e = .returned (.bool r)∧Below w.heap.size w w':=by
 subst hm
 have HT:=qh ht
 have HS:=qh hs
 have HR:=qh hr
 have HG:=qh hg
 clear ht hs hr hg
 cases r
 ·go_enter Tryz.func146,Tryz.ntmps146
  go_wp2_with (go_at_call 177;(with_reducible refine (ref04_isStoreO A c ts.length ts n _ (HT.out.next belA) rfl HS.out (HG.out.next belA) HR.out).mono ?_);rintro e w1 ⟨rfl,hb1⟩)
  go_ret
  exact ⟨rfl,below_nextN belA hb1 leA⟩
 ·have hn:decide (n<(ts.length:Int))=true:=by
   have h:=HR.out
   simp only [withinB,Bool.and_eq_true,decide_eq_true_eq] at h
   simp
   omega
  go_enter Tryz.func146,Tryz.ntmps146
  go_wp2_with (go_at_call 177;(with_reducible refine (ref04_isStoreO A c ts.length ts n _ (HT.out.next belA) rfl HS.out (HG.out.next belA) HR.out).mono ?_);rintro e w1 ⟨rfl,hb1⟩;obtain ⟨k1,_,_⟩:=keepB hb1 w.heap.size ltA)
  go_ret
  exact ⟨rfl,below_nextN belA hb1 leA⟩
theorem ref04_FixedO (A:Option Addr) (c m:Nat) (ts:List Tab) (n:Nat) (cols:List Col) (w:World) (ht:TabsIn w w.heap.size A ts) (hm:ts.length=m) (hs:SaneCat ts) (hok:CatOk ts) (hg:CatG w w.heap.size A c ts o) (hn:n<ts.length) (hcs:ts[n].cols=cols) :
 Calls Tryz.prog 105 #[.agg #[.slice A m c, .slice o.vA 0 o.vc, .slice o.iA o.idx.length o.ic, .slice o.sA o.skt.length o.sc, .slice o.cA o.cch.length o.cc, .slice o.rA o.rel.length o.rc, .slice o.tA o.str.length o.tc, .slice o.bA o.bak.length o.bc], .int .i64 n] w fun e w'=>(∃ A' c' out,e = .returned (.slice A' out.length c')∧out.length≤c'∧SliceIs w' w'.heap.size intCells 1 A' out∧OwnTo [0] cols [] out)∧Below w.heap.size w w':=by
 subst hm
 have h8:cols.length ≤ 8:=by rw [← hcs];exact (hok.cols hn).2
 have h100 : ∀ x∈cols,x.own.length ≤ 100:=fun x hx=>by have:=hok.own_len hn (x:=x) (by rw [hcs];exact hx);omega
 have hT0:=ht
 obtain ⟨b5,o5,rfl,hb5,hc5⟩:=ht.1.get hn
 obtain ⟨t0,t1,t2,t3⟩:=Tab.cells4 hc5
 have hcn:=ht.2 ts[n] (lgm hn)
 rw [hcs] at t1 hcn
 obtain ⟨TA,hTA⟩ : ∃ a,ts[n].A=a:=⟨_,rfl⟩
 obtain ⟨tc,htc⟩ : ∃ a,ts[n].cap=a:=⟨_,rfl⟩
 rw [hTA] at hcn t1
 rw [htc] at t1
 have hr:withinB (n:Int) 0 ((ts.length:Int) - 1)=true:=by
  rw [withinB,Bool.and_eq_true,decide_eq_true_iff,decide_eq_true_iff]
  omega
 have HT:=qh hT0
 have HS:=qh hs
 have HR:=qh hr
 have HG:=qh hg
 have HC:=qh hcn
 have HL:=qh h100
 clear ht hc5 t0 t2 t3 hcn hcs h100 hTA htc hT0 hs hok hr hg
 go_enter Tryz.func105,Tryz.ntmps105
 go_wp2_with fail
 (with_reducible refine (ref04_isTableO _ c ts.length ts n _ (HT.out.next belA) rfl HS.out (HG.out.next belA) HR.out).mono ?_)
 rintro e w1 ⟨rfl,hb1⟩
 have hx1:Below w.heap.size w w1:=below_nextN belA hb1 leA
 have hB1:Blk w1 w.heap.size 34 #[.slice (some ⟨b5,o5,none⟩) ts.length c, .slice o.vA 0 o.vc, .slice o.iA o.idx.length o.ic, .slice o.sA o.skt.length o.sc, .slice o.cA o.cch.length o.cc, .slice o.rA o.rel.length o.rc, .slice o.tA o.str.length o.tc, .slice o.bA o.bak.length o.bc]:=(Blk.new _ _ _).below hb1 spA
 clear hb1
 go_upto_region 4 with (fail)
 refine abs_world (P:=fun u=>Code.wp _ _ _ _ u) (R:=fun u=>Blk u w.heap.size 34 #[.slice (some ⟨b5,o5,none⟩) ts.length c, .slice o.vA 0 o.vc, .slice o.iA o.idx.length o.ic, .slice o.sA o.skt.length o.sc, .slice o.cA o.cch.length o.cc, .slice o.rA o.rel.length o.rc, .slice o.tA o.str.length o.tc, .slice o.bA o.bak.length o.bc]∧Blk u w1.heap.size 3 #[.int .i64 0]∧Below w.heap.size w u) ⟨?_,?_,?_⟩ ?_
 ·exact hB1.alloc _
 ·exact Blk.new _ _ _
 ·exact hx1.alloc hx1.size _
 rintro W ⟨hB,hB2,hbW⟩
 have t1:=((keepB hbW b5 hb5).1 _).trans t1
 have hzW:=hB.lt
 have HB:=qh hB
 have HZ:=qh (Blk.one (enc:=intCells) (k := 1) (x:=(0:Int)) hB2 hB2.lt)
 clear hB hB1 hB2 hx1
 go_wp2_with fail
 have hstart : ∃ (m:Nat) (A2:Option Addr) (c2:Nat) (out:List Int),m≤cols.length∧Value.int .i64 0 = .int .i64 m∧Value.slice (some ⟨w1.heap.size,0,none⟩) 1 1 = .slice A2 out.length c2∧out.length≤c2∧SliceIs W W.heap.size intCells 1 A2 out∧OwnTo [0] (cols.take m) [] out∧out.length ≤ 100*m + 1∧Below W.heap.size W W:=⟨0,_,1,[0],Nat.zero_le _,rfl,rfl,by simp,HZ.out,⟨by simp,by simp⟩,by simp,Below.refl _ _⟩
 go_loopw [5,6] (fun vl vi wr => ∃ (m:Nat) (A2:Option Addr) (c2:Nat) (out:List Int),m≤cols.length∧vi = .int .i64 m∧vl = .slice A2 out.length c2∧out.length≤c2∧SliceIs wr wr.heap.size intCells 1 A2 out∧OwnTo [0] (cols.take m) [] out∧out.length ≤ 100*m + 1∧Below W.heap.size W wr) (fun _ vi _=>cols.length - (intOf vi).toNat)
 case atStart=>exact hstart
 case round =>
  obtain ⟨m,A2,c2,out,hm,rfl,rfl,hcap,hso,hot,hol,hbr⟩:=hrel
  have hwz:=hbr.size
  have hxr:=below_nextN hbW hbr hbW.size
  obtain ⟨p0,p1,p2,p3,p4,p5,p6,p7⟩:=Cat.blkO (HB.out.below hbr hzW)
  have t1':=((keepB hbr b5 omA).1 _).trans t1
  have HSO:=qh hso
  have HOT:=qh hot
  clear hso hot
  by_cases hlt:m<cols.length
  ·obtain ⟨b6,o6,rfl,hb6,hc6⟩:=(HC.out.1.below hxr).get hlt
   obtain ⟨_,_,_,_,c4,_,_⟩:=Col.cells7 hc6
   have hio:=HC.out.2 cols[m] (lgm hlt)
   have h100:=HL.out cols[m] (lgm hlt)
   obtain ⟨⟨nm2,ty2,ns2,rf2,A3,c3,own,jo2,du2⟩,hx⟩ : ∃ x:Col,cols[m]=x:=⟨_,rfl⟩
   rw [hx] at c4 hio h100
   simp only at c4 hio h100
   have HX:=qh hx
   have HIO:=qh hio
   clear hc6 hio hx
   go_wp2_with fail
   obtain ⟨wo,rfl⟩ : ∃ wo:World,wo=wr:=⟨_,rfl⟩
   clear p0 p1 p2 p3 p4 p5 p6 p7 t1' c4
   go_loopw [5,8] (fun vl vk wi => ∃ (k:Nat) (A4:Option Addr) (c4:Nat) (out2:List Int),k≤own.length∧vk = .int .i64 k∧vl = .slice A4 out2.length c4∧out2.length≤c4∧SliceIs wi wi.heap.size intCells 1 A4 out2∧OwnTo [0] (cols.take m) (own.take k) out2∧out2.length ≤ 100*m+k + 1∧Below wo.heap.size wo wi) (fun _ vk _=>own.length - (intOf vk).toNat)
   case atStart=>exact ⟨0,A2,c2,out,Nat.zero_le _,rfl,rfl,hcap,HSO.out,HOT.out,by omega,Below.refl _ _⟩
   case round =>
    obtain ⟨k,A4,c4,out2,hk,rfl,rfl,hcap2,hso2,hot2,hol2,hbi⟩:=hrel
    have hyi:=below_nextN hbr hbi hwz
    have hxi:=below_nextN hxr hbi hxr.size
    have HSO2:=qh hso2
    have HOT2:=qh hot2
    clear hso2 hot2
    by_cases hkl:k<own.length
    ·obtain ⟨b7,o7,rfl,hb7,hc7⟩:=(HIO.out.below hxi).get hkl
     have x0:=hc7 0 _ rfl
     simp only [Nat.mul_one,Nat.add_zero] at x0
     have HSTEP:=qh (HOT2.out.step hkl)
     have hil:=insI_len out2 own[k]
     clear hc7
     go_wp2_with (go_at_call 147;(with_reducible refine (ref03_Add A4 c4 out2.length out2 own[k] _ HSO2.out rfl omA hcap2).mono ?_);rintro e w1 ⟨⟨A5,c5,rfl,hc5,hs5,_⟩,hb1⟩;have HS5:=qh hs5;clear hs5)
     go_roundw
     case rel=>exact ⟨k + 1,A5,c5,_,by omega,by go_num,rfl,hc5,HS5.out,HSTEP.out,by omega,below_nextN hbi hb1 hbi.size⟩
     case measure=>exact meA
    ·have hkl':decide (k<own.length)=false:=by simpa using hkl
     have hke:k=own.length:=by omega
     have hcl:OwnTo [0] (cols.take (m + 1)) [] out2:=by
      refine OwnTo.close hlt ?_
      rw [HX.out]
      have h:=HOT2.out
      rwa [hke,List.take_length] at h
     have HCL:=qh hcl
     clear hcl hke
     go_wp2_with fail
     go_roundw
     case rel=>exact ⟨m + 1,A4,c4,out2,by omega,by go_num,rfl,hcap2,HSO2.out,HCL.out,by omega,hyi⟩
     case measure=>exact meA
  ·have hlt':decide (m<cols.length)=false:=by simpa using hlt
   obtain rfl:m=cols.length:=by omega
   have h:=HOT.out
   rw [List.take_length] at h
   have HH:=qh h
   clear h
   go_wp2_with fail
   go_ret
   exact ⟨⟨A2,c2,out,rfl,hcap,HSO.out,HH.out⟩,hxr⟩
open Go.RowKit Go
theorem ref04_Valid (A:Option Addr) (c m:Nat) (ts:List Tab) (w:World) (ht:TabsIn w w.heap.size A ts) (hm:ts.length=m) (hs:SaneCat ts) {r:Bool} (hr:pb (CatOk ts)=r) :
 Calls Tryz.prog 29 #[.agg #[.slice A m c, .slice none 0 0, .slice none 0 0, .slice none 0 0, .slice none 0 0, .slice none 0 0, .slice none 0 0, .slice none 0 0]] w fun e w'=>e = .returned (.bool r)∧Below w.heap.size w w' :=
 ref04_ValidO A c m ts Oth.nil w ht hm hs (OthIn.nil _ _) SaneO.nil Oth16.nil (by rw [show CatOkO ts Oth.nil=CatOk ts from propext ⟨fun h=>h.1,CatOkO.nil⟩];exact hr)
theorem ref04_Find (A:Option Addr) (c m:Nat) (ts:List Tab) (s:ByteArray) (w:World) (ht:TabsIn w w.heap.size A ts) (hm:ts.length=m) (hs:SaneCat ts) (hok:CatOk ts) {r:Int} (hr:findI (ts.map Tab.name) s ts.length=r) :
 Calls Tryz.prog 97 #[.agg #[.slice A m c, .slice none 0 0, .slice none 0 0, .slice none 0 0, .slice none 0 0, .slice none 0 0, .slice none 0 0, .slice none 0 0], .string s] w fun e w'=>e = .returned (.int .i64 r)∧Below w.heap.size w w' :=
 ref04_FindO (o:=Oth.nil) A c m ts s w ht hm hs (CatG.nil ht hs hok) hr
end Go.Proofs.YtjhnpnhpmdkpcaaGreat
