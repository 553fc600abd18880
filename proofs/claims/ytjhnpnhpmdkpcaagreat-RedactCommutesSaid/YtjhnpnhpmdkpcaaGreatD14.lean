/-
  Contracts and plain laws of this seat, part 14.
-/
import Derived.Test.YtjhnpnhpmdkpcaaGreatD13
set_option linter.unusedVariables false
set_option linter.unusedSimpArgs false
set_option maxRecDepth 100000
set_option maxHeartbeats 16000000
namespace Go.Proofs.YtjhnpnhpmdkpcaaGreat
open Go.RowKit Go
theorem cE{P:Prop}(h:P:=by rw[List.length_map];omega):P:=h
theorem cF{P:Prop}(h:P:=by rw[List.length_append,lD nlr,List.length_take];omega):P:=h
theorem cG{P:Prop}(h:P:=by rw[List.length_map];exact hi):P:=h
theorem cH{P:Prop}(h:P:=by first|rfl|trivial):P:=h
theorem cI{P:Prop}(h:P:=by simpa only[cntO]using hq):P:=h
theorem cJ{P:Prop}(h:P:=by cases hx):P:=h
def dS(n:Nat)(o:Oth):List Kd:= [⟨n,8,108⟩,⟨0,12,109⟩,⟨o.idx.length,16,110⟩,⟨o.skt.length,16,111⟩,⟨o.cch.length,16,112⟩,⟨o.rel.length,16,113⟩,⟨o.str.length,16,114⟩,⟨o.bak.length,16,115⟩]
theorem F8{n m:Nat}{o:Oth}(h8:n≤8)(h16:rW o)(h:m<(dS n o).length):((dS n o)[m].cnt:Int)≤(dS n o)[m].lim:=by
 obtain⟨g1,g2,g3,g4,g5,g6,_⟩:=h16
 simp only[dS,List.length_cons,List.length_nil]at h
 rcases m with _|_|_|_|_|_|_|_|m
 all_goals first|(simp only[dS,List.getElem_cons_succ,List.getElem_cons_zero];omega)|omega
def cntO(o:Oth):Nat→Nat
 | 0 =>0
 | 1 =>0
 | 2 =>0
 | 3=>o.idx.length
 | 4=>o.idx.length+o.skt.length
 | _=>o.idx.length+o.skt.length+o.cch.length
theorem FR(w:World):dJ Tryz.prog 9 4 (w.alloc (.map #[] 0)) w.heap.size 0 (declL []):=
 (dJ.made w _ _ _).eqf fun x kl _=>by
   cases x
   case string s =>
    simp only[declL]
    rw[aQ spA,if_neg (by decide)]
   all_goals rfl
theorem FO(ts:List Tab):bE ts ts.length=ts.map Tab.name:=by
 unfold bE
 rw[List.take_length]
theorem DK{ts:List Tab}{o:Oth}{q:Nat}(hq:q<o.names.length){s:ByteArray}:s∈bE ts ts.length++o.names.take q ↔ ∃k,k<ts.length+q∧(lU ts o).getD k ⟨#[]⟩=s:=by
 have e:bE ts ts.length++o.names.take q=(lU ts o).take (ts.length+q):=by
  unfold lU
  have h1:(ts.map Tab.name).take (ts.length+q)=ts.map Tab.name:=List.take_of_length_le cE
  rw[FO,List.take_append,List.length_map,Nat.add_sub_cancel_left,h1]
 have hl:(lU ts o).length=ts.length+o.names.length:=by unfold lU;rw[List.length_append,List.length_map]
 rw[e]
 constructor
 ·intro h
  obtain⟨k,hk,e2⟩:=List.mem_take_iff_getElem.1 h
  exact⟨k,by omega,by rw[getD_at omA];exact e2⟩
 ·rintro⟨k,hk,e2⟩
  exact List.mem_take_iff_getElem.2 ⟨k,by omega,by rw[←e2,getD_at omA]⟩
theorem JN{ts:List Tab}{o:Oth}{q:Nat}(hq:q<o.names.length):jm (bE ts ts.length++o.names.take q) o.names[q] (lv ts o q)=0↔mo ts o q:=by
 have hl:(lU ts o).length=ts.length+o.names.length:=by unfold lU;rw[List.length_append,List.length_map]
 have hg:(lU ts o).getD (ts.length+q) ⟨#[]⟩=o.names[q]:=by
  rw[getD_at omA]
  refine Option.some.inj ?_
  rw[←List.getElem?_eq_getElem omA,←List.getElem?_eq_getElem hq]
  unfold lU
  rw[List.getElem?_append_right cE,List.length_map,Nat.add_sub_cancel_left]
 unfold jm
 constructor
 ·intro h0
  by_cases h1:dZ (bE ts ts.length++o.names.take q) o.names[q]=0
  ·rw[if_pos h1]at h0
   obtain⟨h2,h3⟩:=oo h1
   refine⟨by rw[hg];exact h2,fun k hk e =>?_,h0⟩
   rw[hg]at e
   exact h3 ((DK hq).2 ⟨k,hk,e⟩)
  ·rw[if_neg h1]at h0
   exact absurd h0 h1
 ·intro h0
  have h1:dZ (bE ts ts.length++o.names.take q) o.names[q]=0:=by
   unfold dZ
   have hn:=h0.name
   rw[hg]at hn
   rw[if_pos hn,aQ fun h=>by
    obtain⟨k,hk,e⟩:=(DK hq).1 h
    exact h0.fresh k hk (by rw[e,hg]),if_neg (by decide)]
  rw[if_pos h1]
  exact h0.err
theorem Md{o:Oth}{i:Nat}(hi:i<o.idx.length):o.names[i]?=some o.idx[i].name:=by
 unfold Oth.names
 rw[List.getElem?_append_left cG,List.getElem?_map,List.getElem?_eq_getElem hi]
 rfl
theorem Ma{o:Oth}{i:Nat}(hi:i<o.skt.length):o.names[o.idx.length+i]?=some o.skt[i].name:=by
 unfold Oth.names
 rw[List.getElem?_append_right cE,List.length_map,Nat.add_sub_cancel_left,List.getElem?_append_left cG,List.getElem?_map,List.getElem?_eq_getElem hi]
 rfl
theorem Me{o:Oth}{i:Nat}(hi:i<o.cch.length):o.names[o.idx.length+o.skt.length+i]?=some o.cch[i].name:=by
 unfold Oth.names
 rw[List.getElem?_append_right cE,List.length_map,show o.idx.length+o.skt.length+i-o.idx.length=o.skt.length+i by omega,List.getElem?_append_right cE,List.length_map,Nat.add_sub_cancel_left,List.getElem?_append_left cG,List.getElem?_map,List.getElem?_eq_getElem hi]
 rfl
theorem Mc{o:Oth}{i:Nat}(hi:i<o.rel.length):o.names[o.idx.length+o.skt.length+o.cch.length+i]?=some o.rel[i].name:=by
 unfold Oth.names
 rw[List.getElem?_append_right cE,List.length_map,show o.idx.length+o.skt.length+o.cch.length+i-o.idx.length=o.skt.length+(o.cch.length+i) by omega,List.getElem?_append_right cE,List.length_map,Nat.add_sub_cancel_left,List.getElem?_append_right cE,List.length_map,Nat.add_sub_cancel_left,List.getElem?_append_left cG,List.getElem?_map,List.getElem?_eq_getElem hi]
 rfl
theorem qN{ts:List Tab}{o:Oth}{q:Nat}{s:ByteArray}{z:Int}(h:o.names[q]?=some s)(hz:lv ts o q=z):(jm (bE ts ts.length++o.names.take q) s z=0↔mo ts o q)∧bE ts ts.length++o.names.take q ++ [s]=bE ts ts.length++o.names.take (q+1)∧q<o.names.length:=by
 obtain⟨hq,e⟩:=List.getElem?_eq_some_iff.1 h
 subst e hz
 refine⟨JN hq,?_,hq⟩
 rw[List.take_succ_eq_append_getElem hq,List.append_assoc]
theorem GI(A:Option Addr)(c m:Nat)(ts:List Tab)(o:Oth)(w:World)(ht:aI w w.heap.size A ts)(hm:ts.length=m)(hs:aL ts)(ho:eQ w w.heap.size o)(hso:gI o)(h16:rW o):
 Calls Tryz.prog 83 #[.agg #[.slice A m c,.slice o.vA 0 o.vc,.slice o.iA o.idx.length o.ic,.slice o.sA o.skt.length o.sc,.slice o.cA o.cch.length o.cc,.slice o.rA o.rel.length o.rc,.slice o.tA o.str.length o.tc,.slice o.bA o.bak.length o.bc]] w fun e w' =>
  (∃p q z,e=.returned (.tuple #[p,.int .i64 q,.int .i64 z])∧(z=0↔dW ts o))∧Below w.heap.size w w':=by
 subst hm
 have HT:=qh ht
 have HS:=qh hs
 have HO:=qh ho
 have HSO:=qh hso
 have H16:=qh h16
 have hlen:=hs.len
 clear ht hs ho hso h16
 have hmm:= @run_makeMap Tryz.prog
 go_enter Tryz.func83,Tryz.ntmps83
 go_upto_region 2 with (fail)
 clear hmm
 refine ah (P:=fun u=>Code.wp _ _ _ _ u) (R:=fun u=>bT u w.heap.size (w.heap.size+1+1+1) (w.heap.size+1) (w.heap.size+1+1) A c ts o (bE ts 0) 0 (.slice none 0 0) []∧Blk u w.heap.size 34 #[.slice A ts.length c,.slice o.vA 0 o.vc,.slice o.iA o.idx.length o.ic,.slice o.sA o.skt.length o.sc,.slice o.cA o.cch.length o.cc,.slice o.rA o.rel.length o.rc,.slice o.tA o.str.length o.tc,.slice o.bA o.bak.length o.bc]∧Below w.heap.size w u) ⟨?_,?_,?_⟩ ?_
 ·refine⟨Blk.new' spA,?_,?_,ak.nil,fun x hx=>by simp at hx,rfl,fun j hj=>by simp at hj,by omega,by omega,by omega,by omega⟩
  ·have h:=FR (w.alloc (.cells #[.slice A ts.length c,.slice o.vA 0 o.vc,.slice o.iA o.idx.length o.ic,.slice o.sA o.skt.length o.sc,.slice o.cA o.cch.length o.cc,.slice o.rA o.rel.length o.rc,.slice o.tA o.str.length o.tc,.slice o.bA o.bak.length o.bc] 34))
   rw[show (w.alloc (.cells #[.slice A ts.length c,.slice o.vA 0 o.vc,.slice o.iA o.idx.length o.ic,.slice o.sA o.skt.length o.sc,.slice o.cA o.cch.length o.cc,.slice o.rA o.rel.length o.rc,.slice o.tA o.str.length o.tc,.slice o.bA o.bak.length o.bc] 34)).heap.size=w.heap.size+1 by simp]at h
   exact(h.alloc _).alloc _
  ·have h:=ni ((w.alloc (.cells #[.slice A ts.length c,.slice o.vA 0 o.vc,.slice o.iA o.idx.length o.ic,.slice o.sA o.skt.length o.sc,.slice o.cA o.cch.length o.cc,.slice o.rA o.rel.length o.rc,.slice o.tA o.str.length o.tc,.slice o.bA o.bak.length o.bc] 34)).alloc (.map #[] 0)) ts
   rw[show ((w.alloc (.cells #[.slice A ts.length c,.slice o.vA 0 o.vc,.slice o.iA o.idx.length o.ic,.slice o.sA o.skt.length o.sc,.slice o.cA o.cch.length o.cc,.slice o.rA o.rel.length o.rc,.slice o.tA o.str.length o.tc,.slice o.bA o.bak.length o.bc] 34)).alloc (.map #[] 0)).heap.size=w.heap.size+1+1 by simp]at h
   exact h.alloc _
 ·exact(((Blk.new _ _ _).alloc _).alloc _).alloc _
 ·exact ai
 rintro W ⟨hI,hB,hbW⟩
 obtain⟨p0,p1,p2,p3,p4,p5,p6,p7⟩:=Cat.bJ hB
 have HI:=qh hI
 clear hI hB
 go_cut [6] (fun x wc=>x=.slice (some ⟨W.heap.size,0,none⟩) 8 8∧Blk wc W.heap.size 166 ((dS ts.length o).flatMap (Kd.cells (w.heap.size+1+1+1))).toArray∧Below W.heap.size W wc)
 case first =>
  go_wp2_with fail
  go_meet
  exact⟨rfl,(Blk.new _ _ _).eq rfl,by exact ai⟩
 case rest =>
  obtain⟨rfl,hK,hb1⟩:=hcut
  obtain⟨W1,rfl⟩:∃W1:World,W1=wc:=⟨_,rfl⟩
  have hx1:Below w.heap.size w W1:=aa hbW hb1 hbW.size
  have hKl:=hK.lt
  have HK:=qh hK
  have HSK:=qh (Blk.all (Mt (w.heap.size+1+1+1)) hK hKl)
  have HI1:=qh (HI.out.next hb1)
  have hzw:=hbW.size
  clear hK p0 p1 p2 p3 p4 p5 p6 p7
  by_cases h8n:8<ts.length
  ·have HNO:Hid (¬ dW ts o):=qh fun h=>by have:=h.cat.len;omega
   have h8d:decide ((8:Int)<(ts.length:Int))=true:=by simp;omega
   have h8e:decide (8<ts.length)=true:=by simpa using h8n
   have hl0:0<(dS ts.length o).length:=by simp[dS]
   obtain⟨b5,o5,hbe,hb5,hc5⟩:=HSK.out.get hl0
   injection hbe with hbe
   injection hbe with pW pV
   subst pW pV
   have x0:=hc5 0 _ rfl
   have x1:=hc5 1 _ rfl
   have x2:=hc5 2 _ rfl
   have e0:(dS ts.length o)[0]=⟨ts.length,8,108⟩:=rfl
   rw[e0]at x0 x1 x2
   simp only[Nat.zero_mul,Nat.zero_add,Nat.add_zero]at x0 x1 x2
   clear hc5 e0 h8n
   go_upto_region 4 with (fail)
   go_loopw [70] (fun vi wr=>vi=.int .i64 0∧W1=wr) (fun _ _ =>0)
   case atStart=>exact⟨rfl,rfl⟩
   obtain⟨rfl,rfl⟩:=hrel
   go_wp2_with fail
   go_ret3
   exact⟨⟨_,_,_,rfl,fun h=>by omega,fun h=>absurd h HNO.out⟩,by exact ai⟩
  have h8:ts.length≤8:=by omega
  clear h8n
  go_upto_region 4 with (fail)
  go_loopw [70] (fun vi wr =>∃m:Nat,m≤8∧vi=.int .i64 m∧Below W1.heap.size W1 wr) (fun vi _ =>8-(intOf vi).toNat)
  case atStart=>exact⟨0,Nat.zero_le _,rfl,Below.refl _ _⟩
  case round =>
   obtain⟨m,hm,rfl,hbr⟩:=hrel
   have hwz:=hbr.size
   by_cases hlt:m<8
   ·have hlk:m<(dS ts.length o).length:=hlt
    obtain⟨b5,o5,hbe,hb5,hc5⟩:=(HSK.out.below hbr).get hlk
    injection hbe with hbe
    injection hbe with pW pV
    subst pW pV
    have x0:=hc5 0 _ rfl
    have x1:=hc5 1 _ rfl
    have x2:=hc5 2 _ rfl
    simp only[Nat.zero_add,Nat.add_zero]at x0 x1 x2
    have hfit:=F8 h8 H16.out hlk
    have d0:decide ((dS ts.length o)[m].lim<((dS ts.length o)[m].cnt:Int))=false:=by simp;omega
    clear hc5
    go_wp2_with fail
    go_roundw
    case rel=>exact⟨m+1,by omega,by go_num,by exact ai⟩
    case measure=>exact meA
   ·have hlt':decide (m<8)=false:=by simpa using hlt
    obtain rfl:m=8:=by omega
    go_upto_region 11 with (fail)
    have HKr:=qh (HK.out.below hbr hKl)
    have HIr:=qh (HI1.out.next hbr)
    have hxr:Below w.heap.size w wr:=aa hx1 hbr hx1.size
    have hc5:=H16.out.idx
    have hc6:=H16.out.skt
    have hc7:=H16.out.cch
    have hc8:=H16.out.rel
    clear hlt hlt'
    obtain⟨V,rfl⟩:∃V:World,V=wr:=⟨_,rfl⟩
    go_loopw [9,82] (fun vj vi wr =>∃m j:Nat,m≤8∧vj=.int .i64 j∧vi=.int .i64 m∧(m=0→j=0∧bT wr w.heap.size (w.heap.size+1+1+1) (w.heap.size+1) (w.heap.size+1+1) A c ts o (bE ts 0) 0 (.slice none 0 0) [])∧(0<m→j=ts.length+cntO o m∧(∃v st,bT wr w.heap.size (w.heap.size+1+1+1) (w.heap.size+1) (w.heap.size+1+1) A c ts o (bE ts ts.length++o.names.take (cntO o m)) ts.length v st)∧aW ts∧(∀q,q<cntO o m→mo ts o q)∧(6≤m→o.rel.length=0))∧Blk wr W.heap.size 166 ((dS ts.length o).flatMap (Kd.cells (w.heap.size+1+1+1))).toArray∧Below w.heap.size w wr) (fun _ vi _ =>8-(intOf vi).toNat)
    case atStart=>exact⟨0,0,by omega,rfl,rfl,fun _=>⟨rfl,HIr.out⟩,fun h=>by omega,HKr.out,hxr⟩
    case round =>
     obtain⟨m,j,hm,rfl,rfl,hst,hsm,hKm,zY⟩:=hrel
     have zS:=zY.size
     have HST:=qh hst
     have HSM:=qh hsm
     have Cv:=hKm.lt
     have HKM:=qh hKm
     clear hst hsm
     by_cases hlt:m<8
     ·have hlk:m<(dS ts.length o).length:=hlt
      obtain⟨b5,o5,hbe,hb5,hc5⟩:=(Blk.all (Mt (w.heap.size+1+1+1)) hKm Cv).get hlk
      injection hbe with hbe
      injection hbe with pW pV
      subst pW pV
      have x0:=hc5 0 _ rfl
      have x1:=hc5 1 _ rfl
      have x2:=hc5 2 _ rfl
      simp only[Nat.zero_add,Nat.add_zero]at x0 x1 x2
      clear hc5 hKm
      rcases(show m=0∨m=1∨m=2∨m=3∨m=4∨m=5∨m=6∨m=7 by omega) with rfl|rfl|rfl|rfl|rfl|rfl|rfl|rfl
      ·have e0:(dS ts.length o)[0]=⟨ts.length,8,108⟩:=rfl
       rw[e0]at x0 x1 x2
       simp only at x0 x1 x2
       clear e0
       go_upto_region 14 with (fail)
       refine ah (P:=fun u=>Code.wp _ _ _ _ u) (R:=fun u=>Blk u wr.heap.size 166 #[.int .i64 ts.length,.int .i64 8,.func (.func 108) #[.pointer (some ⟨w.heap.size+1+1+1,0,none⟩)] #[]]∧Below wr.heap.size wr u) ⟨?_,?_⟩ ?_
       ·exact Blk.new _ _ _
       ·exact ai
       rintro V2 ⟨hD,hbD⟩
       have hDl:=hD.lt
       have HD:=qh hD
       have HK2:=qh (HKM.out.below hbD Cv)
       have hx2:Below w.heap.size w V2:=aa zY hbD zS
       clear hD x0 x1 x2
       obtain⟨hj0,hI0⟩:=HST.out cH
       have HI2:=qh (hI0.next hbD)
       clear hI0
       subst hj0
       go_loopw [9,88] (fun vj vi wi =>∃(i:Nat) (v:Value) (st:List Sto),i≤ts.length∧vj=.int .i64 i∧vi=.int .i64 i∧bT wi w.heap.size (w.heap.size+1+1+1) (w.heap.size+1) (w.heap.size+1+1) A c ts o (bE ts i) i v st∧wJ ts i∧Blk wi wr.heap.size 166 #[.int .i64 ts.length,.int .i64 8,.func (.func 108) #[.pointer (some ⟨w.heap.size+1+1+1,0,none⟩)] #[]]∧Blk wi W.heap.size 166 ((dS ts.length o).flatMap (Kd.cells (w.heap.size+1+1+1))).toArray∧Below w.heap.size w wi) (fun _ vi _=>ts.length-(intOf vi).toNat)
       case atStart=>exact⟨0,_,[],Nat.zero_le _,rfl,rfl,HI2.out,fun i hi h=>by omega,HD.out,HK2.out,hx2⟩
       case round =>
        obtain⟨i,v,st,hi,rfl,rfl,hIi,hpi,hDi,hKi,hxi⟩:=hrel
        have d2:=hDi.cell 2
        simp only[gE3]at d2
        have HIi:=qh hIi
        have HPI:=qh hpi
        have HDi:=qh hDi
        have HKi:=qh hKi
        have hiz:=hxi.size
        clear hIi hDi hKi hpi
        by_cases hil:i<ts.length
        ·obtain⟨z,hz⟩:∃z,IM ts i hil=z:=⟨_,rfl⟩
         have HZ:=qh hz
         clear hz
         by_cases hz0:z=0
         ·subst hz0
          have HPN:Hid (wJ ts (i+1)):=qh fun k hk hki=>by
           rcases Nat.lt_or_ge k i with h1|h1
           ·exact HPI.out k hk h1
           ·obtain rfl:k=i:=by omega
            exact Ic.1 HZ.out
          go_wp2_with (go_at_call 108;(with_reducible refine(zn w.heap.size (w.heap.size+1+1+1) (w.heap.size+1) (w.heap.size+1+1) A c ts o i v st _ hil HIi.out (HT.out.below hxi) HS.out HPI.out h8 hiz HZ.out).mono ?_);rintro e w3 ⟨⟨rfl,h3⟩,hb3⟩;obtain⟨⟨v3,st3,hI3⟩,hk3⟩:=h3 cH;have HI3:=qh hI3;have HK3:=qh hk3;clear hI3 hk3 h3)
          go_roundw
          case rel=>exact⟨i+1,v3,st3,by omega,by go_num,by go_num,HI3.out,HPN.out,HK3.out _ _ _ (by decide) (by decide) HDi.out,HK3.out _ _ _ (by decide) (by decide) HKi.out,hxi.trans hb3⟩
          case measure=>exact meA
         ·have hz0':(z != 0)=true:=by simpa using hz0
          have HNZ:=qh hz0
          have HNO:Hid (¬ dW ts o):=qh fun h=>hz0 (HZ.out.symm.trans (Ic.2 (h.cat.tab i hil)))
          clear hz0
          go_wp2_with (go_at_call 108;(with_reducible refine(zn w.heap.size (w.heap.size+1+1+1) (w.heap.size+1) (w.heap.size+1+1) A c ts o i v st _ hil HIi.out (HT.out.below hxi) HS.out HPI.out h8 hiz HZ.out).mono ?_);rintro e w3 ⟨⟨rfl,h3⟩,hb3⟩;clear h3)
          go_ret3
          exact⟨⟨_,_,_,rfl,fun h=>absurd h HNZ.out,fun h=>absurd h HNO.out⟩,hxi.trans hb3⟩
        ·have Cm:decide (i<ts.length)=false:=by simpa using hil
         have HIE:Hid (i=ts.length):=qh omA
         have HCO:Hid (aW ts):=qh ⟨h8,fun k hk=>HPI.out k hk (by have:=HIE.out;omega)⟩
         have HIF:=qh HIi.out
         rw[HIE.out]at HIF
         rw[show bE ts ts.length=bE ts ts.length++o.names.take (cntO o (0+1)) by simp[cntO]]at HIF
         go_wp2_with fail
         go_roundw
         case rel =>
          (repeat apply Exists.intro)
          refine⟨?_,?_⟩
          rotate_left
          ·first|rfl|(and_intros<;>rfl)
          refine⟨1,by omega,i,rfl,rfl,fun h=>by omega,fun _=>⟨?_,⟨v,st,?_⟩,HCO.out,fun q hq =>?_,fun h=>by omega⟩,HKi.out⟩
          ·have h:=HIE.out
           show i=ts.length+0
           omega
          ·exact HIF.out
          ·have h:q<0:=hq
           omega
         case measure=>simp[intOf]
      ·have e0:(dS ts.length o)[1]=⟨(0:Nat),12,109⟩:=rfl
       rw[e0]at x0 x1 x2
       simp only at x0 x1 x2
       clear e0
       go_upto_region 14 with (fail)
       refine ah (P:=fun u=>Code.wp _ _ _ _ u) (R:=fun u=>Blk u wr.heap.size 166 #[.int .i64 (0:Nat),.int .i64 12,.func (.func 109) #[.pointer (some ⟨w.heap.size+1+1+1,0,none⟩)] #[]]∧Below wr.heap.size wr u) ⟨?_,?_⟩ ?_
       ·exact Blk.new _ _ _
       ·exact ai
       rintro V2 ⟨hD,hbD⟩
       have hDl:=hD.lt
       have HD:=qh hD
       have HK2:=qh (HKM.out.below hbD Cv)
       have hx2:Below w.heap.size w V2:=aa zY hbD zS
       clear hD x0 x1 x2
       obtain⟨hj0,⟨v0,st0,hI0⟩,hCO,hDO,hR6⟩:=HSM.out omA
       have HI2:=qh (hI0.next hbD)
       have HCO:=qh hCO
       have HDO:=qh hDO
       have HR6:=qh hR6
       clear hI0 hCO hDO hR6
       go_loopw [9,88] (fun vj vi wi=>vj=.int .i64 j∧vi=.int .i64 0∧V2=wi) (fun _ _ _ =>0)
       case atStart=>exact⟨rfl,rfl,rfl⟩
       obtain⟨rfl,rfl,rfl⟩:=hrel
       go_wp2_with fail
       go_roundw
       case rel =>
        (repeat apply Exists.intro)
        refine⟨?_,rfl⟩
        exact⟨1+1,j,by omega,rfl,by go_num,fun h=>by omega,fun _=>⟨hj0,⟨v0,st0,HI2.out⟩,HCO.out,HDO.out,fun h=>by omega⟩,HK2.out,hx2⟩
       case measure=>first|(simp[intOf];done)|(simp[intOf];omega)
      ·have e0:(dS ts.length o)[2]=⟨o.idx.length,16,110⟩:=rfl
       rw[e0]at x0 x1 x2
       simp only at x0 x1 x2
       clear e0
       go_upto_region 14 with (fail)
       refine ah (P:=fun u=>Code.wp _ _ _ _ u) (R:=fun u=>Blk u wr.heap.size 166 #[.int .i64 o.idx.length,.int .i64 16,.func (.func 110) #[.pointer (some ⟨w.heap.size+1+1+1,0,none⟩)] #[]]∧Below wr.heap.size wr u) ⟨?_,?_⟩ ?_
       ·exact Blk.new _ _ _
       ·exact ai
       rintro V2 ⟨hD,hbD⟩
       have hDl:=hD.lt
       have HD:=qh hD
       have HK2:=qh (HKM.out.below hbD Cv)
       have hx2:Below w.heap.size w V2:=aa zY hbD zS
       clear hD x0 x1 x2
       obtain⟨hj0,⟨v0,st0,hI0⟩,hCO,hDO,_⟩:=HSM.out omA
       have HI2:=qh (hI0.next hbD)
       have HCO:=qh hCO
       have HDO:=qh hDO
       clear hI0 hCO hDO
       simp only[cntO]at hj0 HI2 HDO
       subst hj0
       go_loopw [9,88] (fun vj vi wi =>∃(i:Nat) (v:Value) (st:List Sto),i≤o.idx.length∧vj=.int .i64 ((ts.length+(i):Nat):Int)∧vi=.int .i64 i∧bT wi w.heap.size (w.heap.size+1+1+1) (w.heap.size+1) (w.heap.size+1+1) A c ts o (bE ts ts.length++o.names.take (i)) ts.length v st∧(∀q,q<i→mo ts o q)∧Blk wi wr.heap.size 166 #[.int .i64 o.idx.length,.int .i64 16,.func (.func 110) #[.pointer (some ⟨w.heap.size+1+1+1,0,none⟩)] #[]]∧Blk wi W.heap.size 166 ((dS ts.length o).flatMap (Kd.cells (w.heap.size+1+1+1))).toArray∧Below w.heap.size w wi) (fun _ vi _=>o.idx.length-(intOf vi).toNat)
       case atStart=>exact⟨0,v0,st0,Nat.zero_le _,rfl,rfl,HI2.out,fun q hq=>HDO.out q omA,HD.out,HK2.out,hx2⟩
       case round =>
        obtain⟨i,v,st,hi,rfl,rfl,hIi,hpi,hDi,hKi,hxi⟩:=hrel
        have d2:=hDi.cell 2
        simp only[gE3]at d2
        have HIi:=qh hIi
        have HPI:=qh hpi
        have HDi:=qh hDi
        have HKi:=qh hKi
        have hiz:=hxi.size
        have hLL:Hid ((bE ts ts.length++o.names.take (i)).length≤1000):=qh cF
        clear hIi hDi hKi hpi
        by_cases hil:i<o.idx.length
        ·obtain⟨L,hL⟩:∃L,bE ts ts.length++o.names.take (i)=L:=⟨_,rfl⟩
         have HLE:=qh hL
         obtain⟨hd1,hd2,hd3⟩:=qN (ts:=ts) (Md hil) (Al hil)
         rw[hL]at hd1 hd2 HIi hLL
         have HD1:=qh hd1
         have HD2:=qh hd2
         have HD3:=qh hd3
         obtain⟨z,hz⟩:∃z,jm L o.idx[i].name (og ts o.idx[i])=z:=⟨_,rfl⟩
         have HZ:=qh hz
         clear hz hL hd1 hd2 hd3
         by_cases hz0:z=0
         ·subst hz0
          have HDX:Hid (mo ts o (i)):=qh (HD1.out.1 HZ.out)
          go_wp2_with (go_at_call 110;(with_reducible refine(zo w.heap.size (w.heap.size+1+1+1) (w.heap.size+1) (w.heap.size+1+1) A c ts o L v st i _ HIi.out (HO.out.below hxi) HSO.out HS.out hil hLL.out hiz HZ.out).mono ?_);rintro e w3 ⟨⟨rfl,h3⟩,hb3⟩;obtain⟨hI3,hk3⟩:=h3 cH;have HI3:=qh hI3;have HK3:=qh hk3;clear hI3 hk3 h3)
          go_roundw
          case rel=>exact⟨i+1,v,st,by omega,by go_num,by go_num,by(have h:=HI3.out;rw[HD2.out]at h;exact h),fun q hq=>by
           rcases Nat.lt_or_ge q (i) with h1|h1
           ·exact HPI.out q h1
           ·obtain rfl:q=i:=by omega
            exact HDX.out,HK3.out _ _ _ HDi.out,HK3.out _ _ _ HKi.out,hxi.trans hb3⟩
          case measure=>exact meA
         ·have hz0':(z != 0)=true:=by simpa using hz0
          have HNZ:=qh hz0
          have HNO:Hid (¬ dW ts o):=qh fun h=>hz0 (HZ.out.symm.trans (HD1.out.2 (h.decl _ HD3.out)))
          clear hz0
          go_wp2_with (go_at_call 110;(with_reducible refine(zo w.heap.size (w.heap.size+1+1+1) (w.heap.size+1) (w.heap.size+1+1) A c ts o L v st i _ HIi.out (HO.out.below hxi) HSO.out HS.out hil hLL.out hiz HZ.out).mono ?_);rintro e w3 ⟨⟨rfl,h3⟩,hb3⟩;clear h3)
          go_ret3
          exact⟨⟨_,_,_,rfl,fun h=>absurd h HNZ.out,fun h=>absurd h HNO.out⟩,hxi.trans hb3⟩
        ·have Cm:decide (i<o.idx.length)=false:=by simpa using hil
         obtain rfl:i=o.idx.length:=by omega
         go_wp2_with fail
         go_roundw
         case rel =>
          (repeat apply Exists.intro)
          refine⟨?_,rfl⟩
          exact⟨2+1,ts.length+(o.idx.length),by omega,by go_num,by go_num,fun h=>by omega,fun _=>⟨by simp only[cntO],⟨v,st,by simpa only[cntO]using HIi.out⟩,HCO.out,fun q hq=>HPI.out q cI,fun h=>by omega⟩,HKi.out,hxi⟩
         case measure=>simp[intOf]
      ·have e0:(dS ts.length o)[3]=⟨o.skt.length,16,111⟩:=rfl
       rw[e0]at x0 x1 x2
       simp only at x0 x1 x2
       clear e0
       go_upto_region 14 with (fail)
       refine ah (P:=fun u=>Code.wp _ _ _ _ u) (R:=fun u=>Blk u wr.heap.size 166 #[.int .i64 o.skt.length,.int .i64 16,.func (.func 111) #[.pointer (some ⟨w.heap.size+1+1+1,0,none⟩)] #[]]∧Below wr.heap.size wr u) ⟨?_,?_⟩ ?_
       ·exact Blk.new _ _ _
       ·exact ai
       rintro V2 ⟨hD,hbD⟩
       have hDl:=hD.lt
       have HD:=qh hD
       have HK2:=qh (HKM.out.below hbD Cv)
       have hx2:Below w.heap.size w V2:=aa zY hbD zS
       clear hD x0 x1 x2
       obtain⟨hj0,⟨v0,st0,hI0⟩,hCO,hDO,_⟩:=HSM.out omA
       have HI2:=qh (hI0.next hbD)
       have HCO:=qh hCO
       have HDO:=qh hDO
       clear hI0 hCO hDO
       simp only[cntO]at hj0 HI2 HDO
       subst hj0
       go_loopw [9,88] (fun vj vi wi =>∃(i:Nat) (v:Value) (st:List Sto),i≤o.skt.length∧vj=.int .i64 ((ts.length+(o.idx.length+i):Nat):Int)∧vi=.int .i64 i∧bT wi w.heap.size (w.heap.size+1+1+1) (w.heap.size+1) (w.heap.size+1+1) A c ts o (bE ts ts.length++o.names.take (o.idx.length+i)) ts.length v st∧(∀q,q<o.idx.length+i→mo ts o q)∧Blk wi wr.heap.size 166 #[.int .i64 o.skt.length,.int .i64 16,.func (.func 111) #[.pointer (some ⟨w.heap.size+1+1+1,0,none⟩)] #[]]∧Blk wi W.heap.size 166 ((dS ts.length o).flatMap (Kd.cells (w.heap.size+1+1+1))).toArray∧Below w.heap.size w wi) (fun _ vi _=>o.skt.length-(intOf vi).toNat)
       case atStart=>exact⟨0,v0,st0,Nat.zero_le _,rfl,rfl,HI2.out,fun q hq=>HDO.out q omA,HD.out,HK2.out,hx2⟩
       case round =>
        obtain⟨i,v,st,hi,rfl,rfl,hIi,hpi,hDi,hKi,hxi⟩:=hrel
        have d2:=hDi.cell 2
        simp only[gE3]at d2
        have HIi:=qh hIi
        have HPI:=qh hpi
        have HDi:=qh hDi
        have HKi:=qh hKi
        have hiz:=hxi.size
        have hLL:Hid ((bE ts ts.length++o.names.take (o.idx.length+i)).length≤1000):=qh cF
        clear hIi hDi hKi hpi
        by_cases hil:i<o.skt.length
        ·obtain⟨L,hL⟩:∃L,bE ts ts.length++o.names.take (o.idx.length+i)=L:=⟨_,rfl⟩
         have HLE:=qh hL
         obtain⟨hd1,hd2,hd3⟩:=qN (ts:=ts) (Ma hil) (xD omA omA hil)
         rw[hL]at hd1 hd2 HIi hLL
         have HD1:=qh hd1
         have HD2:=qh hd2
         have HD3:=qh hd3
         obtain⟨z,hz⟩:∃z,jm L o.skt[i].name (bZ ts o.skt[i])=z:=⟨_,rfl⟩
         have HZ:=qh hz
         clear hz hL hd1 hd2 hd3
         by_cases hz0:z=0
         ·subst hz0
          have HDX:Hid (mo ts o (o.idx.length+i)):=qh (HD1.out.1 HZ.out)
          go_wp2_with (go_at_call 111;(with_reducible refine(wH w.heap.size (w.heap.size+1+1+1) (w.heap.size+1) (w.heap.size+1+1) A c ts o L v st i _ HIi.out (HO.out.below hxi) HSO.out HS.out hil hLL.out hiz HZ.out).mono ?_);rintro e w3 ⟨⟨rfl,h3⟩,hb3⟩;obtain⟨hI3,hk3⟩:=h3 cH;have HI3:=qh hI3;have HK3:=qh hk3;clear hI3 hk3 h3)
          go_roundw
          case rel=>exact⟨i+1,v,st,by omega,by go_num,by go_num,by(have h:=HI3.out;rw[HD2.out]at h;exact h),fun q hq=>by
           rcases Nat.lt_or_ge q (o.idx.length+i) with h1|h1
           ·exact HPI.out q h1
           ·obtain rfl:q=o.idx.length+i:=by omega
            exact HDX.out,HK3.out _ _ _ HDi.out,HK3.out _ _ _ HKi.out,hxi.trans hb3⟩
          case measure=>exact meA
         ·have hz0':(z != 0)=true:=by simpa using hz0
          have HNZ:=qh hz0
          have HNO:Hid (¬ dW ts o):=qh fun h=>hz0 (HZ.out.symm.trans (HD1.out.2 (h.decl _ HD3.out)))
          clear hz0
          go_wp2_with (go_at_call 111;(with_reducible refine(wH w.heap.size (w.heap.size+1+1+1) (w.heap.size+1) (w.heap.size+1+1) A c ts o L v st i _ HIi.out (HO.out.below hxi) HSO.out HS.out hil hLL.out hiz HZ.out).mono ?_);rintro e w3 ⟨⟨rfl,h3⟩,hb3⟩;clear h3)
          go_ret3
          exact⟨⟨_,_,_,rfl,fun h=>absurd h HNZ.out,fun h=>absurd h HNO.out⟩,hxi.trans hb3⟩
        ·have Cm:decide (i<o.skt.length)=false:=by simpa using hil
         obtain rfl:i=o.skt.length:=by omega
         go_wp2_with fail
         go_roundw
         case rel =>
          (repeat apply Exists.intro)
          refine⟨?_,rfl⟩
          exact⟨3+1,ts.length+(o.idx.length+o.skt.length),by omega,by go_num,by go_num,fun h=>by omega,fun _=>⟨by simp only[cntO],⟨v,st,by simpa only[cntO]using HIi.out⟩,HCO.out,fun q hq=>HPI.out q cI,fun h=>by omega⟩,HKi.out,hxi⟩
         case measure=>simp[intOf]
      ·have e0:(dS ts.length o)[4]=⟨o.cch.length,16,112⟩:=rfl
       rw[e0]at x0 x1 x2
       simp only at x0 x1 x2
       clear e0
       go_upto_region 14 with (fail)
       refine ah (P:=fun u=>Code.wp _ _ _ _ u) (R:=fun u=>Blk u wr.heap.size 166 #[.int .i64 o.cch.length,.int .i64 16,.func (.func 112) #[.pointer (some ⟨w.heap.size+1+1+1,0,none⟩)] #[]]∧Below wr.heap.size wr u) ⟨?_,?_⟩ ?_
       ·exact Blk.new _ _ _
       ·exact ai
       rintro V2 ⟨hD,hbD⟩
       have hDl:=hD.lt
       have HD:=qh hD
       have HK2:=qh (HKM.out.below hbD Cv)
       have hx2:Below w.heap.size w V2:=aa zY hbD zS
       clear hD x0 x1 x2
       obtain⟨hj0,⟨v0,st0,hI0⟩,hCO,hDO,_⟩:=HSM.out omA
       have HI2:=qh (hI0.next hbD)
       have HCO:=qh hCO
       have HDO:=qh hDO
       clear hI0 hCO hDO
       simp only[cntO]at hj0 HI2 HDO
       subst hj0
       go_loopw [9,88] (fun vj vi wi =>∃(i:Nat) (v:Value) (st:List Sto),i≤o.cch.length∧vj=.int .i64 ((ts.length+(o.idx.length+o.skt.length+i):Nat):Int)∧vi=.int .i64 i∧bT wi w.heap.size (w.heap.size+1+1+1) (w.heap.size+1) (w.heap.size+1+1) A c ts o (bE ts ts.length++o.names.take (o.idx.length+o.skt.length+i)) ts.length v st∧(∀q,q<o.idx.length+o.skt.length+i→mo ts o q)∧Blk wi wr.heap.size 166 #[.int .i64 o.cch.length,.int .i64 16,.func (.func 112) #[.pointer (some ⟨w.heap.size+1+1+1,0,none⟩)] #[]]∧Blk wi W.heap.size 166 ((dS ts.length o).flatMap (Kd.cells (w.heap.size+1+1+1))).toArray∧Below w.heap.size w wi) (fun _ vi _=>o.cch.length-(intOf vi).toNat)
       case atStart=>exact⟨0,v0,st0,Nat.zero_le _,rfl,rfl,HI2.out,fun q hq=>HDO.out q omA,HD.out,HK2.out,hx2⟩
       case round =>
        obtain⟨i,v,st,hi,rfl,rfl,hIi,hpi,hDi,hKi,hxi⟩:=hrel
        have d2:=hDi.cell 2
        simp only[gE3]at d2
        have HIi:=qh hIi
        have HPI:=qh hpi
        have HDi:=qh hDi
        have HKi:=qh hKi
        have hiz:=hxi.size
        have hLL:Hid ((bE ts ts.length++o.names.take (o.idx.length+o.skt.length+i)).length≤1000):=qh cF
        clear hIi hDi hKi hpi
        by_cases hil:i<o.cch.length
        ·obtain⟨L,hL⟩:∃L,bE ts ts.length++o.names.take (o.idx.length+o.skt.length+i)=L:=⟨_,rfl⟩
         have HLE:=qh hL
         obtain⟨hd1,hd2,hd3⟩:=qN (ts:=ts) (Me hil) (xE omA omA omA hil)
         rw[hL]at hd1 hd2 HIi hLL
         have HD1:=qh hd1
         have HD2:=qh hd2
         have HD3:=qh hd3
         obtain⟨z,hz⟩:∃z,jm L o.cch[i].name (mQ ts o.cch[i])=z:=⟨_,rfl⟩
         have HZ:=qh hz
         clear hz hL hd1 hd2 hd3
         by_cases hz0:z=0
         ·subst hz0
          have HDX:Hid (mo ts o (o.idx.length+o.skt.length+i)):=qh (HD1.out.1 HZ.out)
          go_wp2_with (go_at_call 112;(with_reducible refine(zq w.heap.size (w.heap.size+1+1+1) (w.heap.size+1) (w.heap.size+1+1) A c ts o L v st i _ HIi.out (HO.out.below hxi) HSO.out HS.out hil hLL.out hiz HZ.out).mono ?_);rintro e w3 ⟨⟨rfl,h3⟩,hb3⟩;obtain⟨hI3,hk3⟩:=h3 cH;have HI3:=qh hI3;have HK3:=qh hk3;clear hI3 hk3 h3)
          go_roundw
          case rel=>exact⟨i+1,v,st,by omega,by go_num,by go_num,by(have h:=HI3.out;rw[HD2.out]at h;exact h),fun q hq=>by
           rcases Nat.lt_or_ge q (o.idx.length+o.skt.length+i) with h1|h1
           ·exact HPI.out q h1
           ·obtain rfl:q=o.idx.length+o.skt.length+i:=by omega
            exact HDX.out,HK3.out _ _ _ HDi.out,HK3.out _ _ _ HKi.out,hxi.trans hb3⟩
          case measure=>exact meA
         ·have hz0':(z != 0)=true:=by simpa using hz0
          have HNZ:=qh hz0
          have HNO:Hid (¬ dW ts o):=qh fun h=>hz0 (HZ.out.symm.trans (HD1.out.2 (h.decl _ HD3.out)))
          clear hz0
          go_wp2_with (go_at_call 112;(with_reducible refine(zq w.heap.size (w.heap.size+1+1+1) (w.heap.size+1) (w.heap.size+1+1) A c ts o L v st i _ HIi.out (HO.out.below hxi) HSO.out HS.out hil hLL.out hiz HZ.out).mono ?_);rintro e w3 ⟨⟨rfl,h3⟩,hb3⟩;clear h3)
          go_ret3
          exact⟨⟨_,_,_,rfl,fun h=>absurd h HNZ.out,fun h=>absurd h HNO.out⟩,hxi.trans hb3⟩
        ·have Cm:decide (i<o.cch.length)=false:=by simpa using hil
         obtain rfl:i=o.cch.length:=by omega
         go_wp2_with fail
         go_roundw
         case rel =>
          (repeat apply Exists.intro)
          refine⟨?_,rfl⟩
          exact⟨4+1,ts.length+(o.idx.length+o.skt.length+o.cch.length),by omega,by go_num,by go_num,fun h=>by omega,fun _=>⟨by simp only[cntO],⟨v,st,by simpa only[cntO]using HIi.out⟩,HCO.out,fun q hq=>HPI.out q cI,fun h=>by omega⟩,HKi.out,hxi⟩
         case measure=>simp[intOf]
      ·have e0:(dS ts.length o)[5]=⟨o.rel.length,16,113⟩:=rfl
       rw[e0]at x0 x1 x2
       simp only at x0 x1 x2
       clear e0
       go_upto_region 14 with (fail)
       refine ah (P:=fun u=>Code.wp _ _ _ _ u) (R:=fun u=>Blk u wr.heap.size 166 #[.int .i64 o.rel.length,.int .i64 16,.func (.func 113) #[.pointer (some ⟨w.heap.size+1+1+1,0,none⟩)] #[]]∧Below wr.heap.size wr u) ⟨?_,?_⟩ ?_
       ·exact Blk.new _ _ _
       ·exact ai
       rintro V2 ⟨hD,hbD⟩
       have hDl:=hD.lt
       have HD:=qh hD
       have HK2:=qh (HKM.out.below hbD Cv)
       have hx2:Below w.heap.size w V2:=aa zY hbD zS
       clear hD x0 x1 x2
       obtain⟨hj0,⟨v0,st0,hI0⟩,hCO,hDO,_⟩:=HSM.out omA
       have HI2:=qh (hI0.next hbD)
       have HCO:=qh hCO
       have HDO:=qh hDO
       clear hI0 hCO hDO
       simp only[cntO]at hj0 HI2 HDO
       subst hj0
       go_loopw [9,88] (fun vj vi wi =>∃(i:Nat) (v:Value) (st:List Sto),i≤o.rel.length∧vj=.int .i64 ((ts.length+(o.idx.length+o.skt.length+o.cch.length+i):Nat):Int)∧vi=.int .i64 i∧bT wi w.heap.size (w.heap.size+1+1+1) (w.heap.size+1) (w.heap.size+1+1) A c ts o (bE ts ts.length++o.names.take (o.idx.length+o.skt.length+o.cch.length+i)) ts.length v st∧(∀q,q<o.idx.length+o.skt.length+o.cch.length+i→mo ts o q)∧Blk wi wr.heap.size 166 #[.int .i64 o.rel.length,.int .i64 16,.func (.func 113) #[.pointer (some ⟨w.heap.size+1+1+1,0,none⟩)] #[]]∧Blk wi W.heap.size 166 ((dS ts.length o).flatMap (Kd.cells (w.heap.size+1+1+1))).toArray∧Below w.heap.size w wi) (fun _ vi _=>o.rel.length-(intOf vi).toNat)
       case atStart=>exact⟨0,v0,st0,Nat.zero_le _,rfl,rfl,HI2.out,fun q hq=>HDO.out q omA,HD.out,HK2.out,hx2⟩
       case round =>
        obtain⟨i,v,st,hi,rfl,rfl,hIi,hpi,hDi,hKi,hxi⟩:=hrel
        have d2:=hDi.cell 2
        simp only[gE3]at d2
        have HIi:=qh hIi
        have HPI:=qh hpi
        have HDi:=qh hDi
        have HKi:=qh hKi
        have hiz:=hxi.size
        have hLL:Hid ((bE ts ts.length++o.names.take (o.idx.length+o.skt.length+o.cch.length+i)).length≤1000):=qh cF
        clear hIi hDi hKi hpi
        by_cases hil:i<o.rel.length
        ·obtain⟨L,hL⟩:∃L,bE ts ts.length++o.names.take (o.idx.length+o.skt.length+o.cch.length+i)=L:=⟨_,rfl⟩
         have HLE:=qh hL
         obtain⟨hd1,hd2,hd3⟩:=qN (ts:=ts) (Mc hil) (mY omA omA omA)
         rw[hL]at hd1 hd2 HIi hLL
         have HD1:=qh hd1
         have HD2:=qh hd2
         have HD3:=qh hd3
         obtain⟨z,hz⟩:∃z,jm L o.rel[i].name (7)=z:=⟨_,rfl⟩
         have HZ:=qh hz
         clear hz hL hd1 hd2 hd3
         by_cases hz0:z=0
         ·exact absurd ((HD1.out.1 (HZ.out.trans hz0)).err.symm.trans (mY omA omA omA)) (by decide)
         ·have hz0':(z != 0)=true:=by simpa using hz0
          have HNZ:=qh hz0
          have HNO:Hid (¬ dW ts o):=qh fun h=>hz0 (HZ.out.symm.trans (HD1.out.2 (h.decl _ HD3.out)))
          clear hz0
          go_wp2_with (go_at_call 113;(with_reducible refine(CJ w.heap.size (w.heap.size+1+1+1) (w.heap.size+1) (w.heap.size+1+1) A c ts o L v st i _ HIi.out (HO.out.below hxi) HSO.out HS.out hil hLL.out hiz HZ.out).mono ?_);rintro e w3 ⟨⟨rfl,h3⟩,hb3⟩;clear h3)
          go_ret3
          exact⟨⟨_,_,_,rfl,fun h=>absurd h HNZ.out,fun h=>absurd h HNO.out⟩,hxi.trans hb3⟩
        ·have Cm:decide (i<o.rel.length)=false:=by simpa using hil
         have HE0:Hid (o.rel.length=0):=qh (by
          rcases Nat.eq_zero_or_pos o.rel.length with h0|h0
          ·exact h0
          ·exfalso
           have h1:=(HPI.out (o.idx.length+o.skt.length+o.cch.length) omA).err
           rw[mY omA omA omA]at h1
           cases h1)
         obtain rfl:i=o.rel.length:=by omega
         go_wp2_with fail
         go_roundw
         case rel =>
          (repeat apply Exists.intro)
          refine⟨?_,rfl⟩
          exact⟨5+1,ts.length+(o.idx.length+o.skt.length+o.cch.length),by omega,(by congr 1;have:=HE0.out;omega),by go_num,fun h=>by omega,fun _=>⟨by simp only[cntO],⟨v,st,by have h:=HIi.out;rw[HE0.out]at h;exact h⟩,HCO.out,fun q hq=>HPI.out q (by simp only[cntO]at hq;omega),fun _=>HE0.out⟩,HKi.out,hxi⟩
         case measure=>simp[intOf]
      ·have e0:(dS ts.length o)[6]=⟨o.str.length,16,114⟩:=rfl
       rw[e0]at x0 x1 x2
       simp only at x0 x1 x2
       clear e0
       go_upto_region 14 with (fail)
       refine ah (P:=fun u=>Code.wp _ _ _ _ u) (R:=fun u=>Blk u wr.heap.size 166 #[.int .i64 o.str.length,.int .i64 16,.func (.func 114) #[.pointer (some ⟨w.heap.size+1+1+1,0,none⟩)] #[]]∧Below wr.heap.size wr u) ⟨?_,?_⟩ ?_
       ·exact Blk.new _ _ _
       ·exact ai
       rintro V2 ⟨hD,hbD⟩
       have hDl:=hD.lt
       have HD:=qh hD
       have HK2:=qh (HKM.out.below hbD Cv)
       have hx2:Below w.heap.size w V2:=aa zY hbD zS
       clear hD x0 x1 x2
       obtain⟨hj0,⟨v0,st0,hI0⟩,hCO,hDO,hR6⟩:=HSM.out omA
       have HI2:=qh (hI0.next hbD)
       have HCO:=qh hCO
       have HDO:=qh hDO
       have HR6:=qh hR6
       have hz:=H16.out.back (hR6 omA)
       have hzn:o.str.length=0:=hz.1
       have hzd:decide ((0:Int)<(o.str.length:Int))=false:=decide_eq_false omA
       clear hz
       clear hI0 hCO hDO hR6
       go_loopw [9,88] (fun vj vi wi=>vj=.int .i64 j∧vi=.int .i64 0∧V2=wi) (fun _ _ _ =>0)
       case atStart=>exact⟨rfl,rfl,rfl⟩
       obtain⟨rfl,rfl,rfl⟩:=hrel
       go_wp2_with fail
       go_roundw
       case rel =>
        (repeat apply Exists.intro)
        refine⟨?_,rfl⟩
        exact⟨6+1,j,by omega,rfl,by go_num,fun h=>by omega,fun _=>⟨hj0,⟨v0,st0,HI2.out⟩,HCO.out,HDO.out,fun _=>HR6.out omA⟩,HK2.out,hx2⟩
       case measure=>first|(simp[intOf];done)|(simp[intOf];omega)
      ·have e0:(dS ts.length o)[7]=⟨o.bak.length,16,115⟩:=rfl
       rw[e0]at x0 x1 x2
       simp only at x0 x1 x2
       clear e0
       go_upto_region 14 with (fail)
       refine ah (P:=fun u=>Code.wp _ _ _ _ u) (R:=fun u=>Blk u wr.heap.size 166 #[.int .i64 o.bak.length,.int .i64 16,.func (.func 115) #[.pointer (some ⟨w.heap.size+1+1+1,0,none⟩)] #[]]∧Below wr.heap.size wr u) ⟨?_,?_⟩ ?_
       ·exact Blk.new _ _ _
       ·exact ai
       rintro V2 ⟨hD,hbD⟩
       have hDl:=hD.lt
       have HD:=qh hD
       have HK2:=qh (HKM.out.below hbD Cv)
       have hx2:Below w.heap.size w V2:=aa zY hbD zS
       clear hD x0 x1 x2
       obtain⟨hj0,⟨v0,st0,hI0⟩,hCO,hDO,hR6⟩:=HSM.out omA
       have HI2:=qh (hI0.next hbD)
       have HCO:=qh hCO
       have HDO:=qh hDO
       have HR6:=qh hR6
       have hz:=H16.out.back (hR6 omA)
       have hzn:o.bak.length=0:=hz.2
       have hzd:decide ((0:Int)<(o.bak.length:Int))=false:=decide_eq_false omA
       clear hz
       clear hI0 hCO hDO hR6
       go_loopw [9,88] (fun vj vi wi=>vj=.int .i64 j∧vi=.int .i64 0∧V2=wi) (fun _ _ _ =>0)
       case atStart=>exact⟨rfl,rfl,rfl⟩
       obtain⟨rfl,rfl,rfl⟩:=hrel
       go_wp2_with fail
       go_roundw
       case rel =>
        (repeat apply Exists.intro)
        refine⟨?_,rfl⟩
        exact⟨7+1,j,by omega,rfl,by go_num,fun h=>by omega,fun _=>⟨hj0,⟨v0,st0,HI2.out⟩,HCO.out,HDO.out,fun _=>HR6.out omA⟩,HK2.out,hx2⟩
       case measure=>first|(simp[intOf];done)|(simp[intOf];omega)
     ·have hlt':decide (m<8)=false:=by simpa using hlt
      obtain⟨hj0,_,hCO,hDO,hR6⟩:=HSM.out omA
      have kH:Hid (dW ts o):=qh ⟨hCO,fun q hq=>hDO q (by
       have h0:=hR6 omA
       have h1:=H16.out.back h0
       rw[AB]at hq
       obtain rfl:m=8:=by omega
       simp only[cntO]
       omega)⟩
      clear hCO hDO hR6 hj0
      go_wp2_with fail
      go_ret3
      exact⟨⟨_,_,_,rfl,fun _=>kH.out,fun _=>rfl⟩,zY⟩
theorem yz(w:World):CallsD Tryz.prog 82 #[] .returning w fun e u' w'=>e=.returned (.tuple #[])∧u'=.returning∧w'=w:=by
 refine callsD_of_wpS Tryz.func82 rfl fun c₀ cs hu =>?_
 apply wpS_region
 cases c₀
 simp_all[wpOpsS,go_sem,recoverD,Tryz.ntmps82,bodyPostS,results,Tryz.results82]
theorem GJ(A:Option Addr)(c m:Nat)(ts:List Tab)(o:Oth)(w:World)(ht:aI w w.heap.size A ts)(hm:ts.length=m)(hs:aL ts)(ho:eQ w w.heap.size o)(hso:gI o)(h16:rW o){r:Bool}(hr:pb (dW ts o)=r):
 Calls Tryz.prog 53 #[.agg #[.slice A m c,.slice o.vA 0 o.vc,.slice o.iA o.idx.length o.ic,.slice o.sA o.skt.length o.sc,.slice o.cA o.cch.length o.cc,.slice o.rA o.rel.length o.rc,.slice o.tA o.str.length o.tc,.slice o.bA o.bak.length o.bc]] w fun e w'=>e=.returned (.bool r)∧Below w.heap.size w w':=by
 have HT:=qh ht
 have HS:=qh hs
 have HO:=qh ho
 have HR:=qh hr
 clear ht hs ho hr
 go_enter_defers Tryz.func53,Tryz.ntmps53
 go_wp2_with (go_at_call 83;(with_reducible refine(GI A c m ts o _ (HT.out.next ai) hm HS.out (HO.out.next ai) hso h16).mono ?_);rintro e w1 ⟨⟨p,q,z,rfl,hz⟩,hb1⟩;have HZ:=qh hz;clear hz;have hx1:Below w.heap.size w w1:=aa ai hb1 leA)
 refine leaves_cons (f:= 82) (args:= #[]) spA (by simp[go_sem]) ?_;refine(yz _).mono ?_;rintro e u' w'' ⟨rfl,rfl,rfl⟩;refine⟨_,results_tmp rfl _ _ _,?_⟩
 refine⟨av ?_,hx1⟩
 rw[←HR.out,Bool.eq_iff_iff,jH,←HZ.out]
 simp
open Go.RowKit Go
structure fZ (w:World) (B:Nat) (A:Option Addr) (c:Nat) (ts:List Tab) (o:Oth):Prop where
 prog:∀u,Below B w u→Calls Tryz.prog 53 #[.agg #[.slice A ts.length c,.slice o.vA 0 o.vc,.slice o.iA o.idx.length o.ic,.slice o.sA o.skt.length o.sc,.slice o.cA o.cch.length o.cc,.slice o.rA o.rel.length o.rc,.slice o.tA o.str.length o.tc,.slice o.bA o.bak.length o.bc]] u fun e u'=>e=.returned (.bool true)∧Below u.heap.size u u'
 ref:∀u,Below B w u→Calls Tryz.prog 29 #[.agg #[.slice A ts.length c,.slice o.vA 0 o.vc,.slice o.iA o.idx.length o.ic,.slice o.sA o.skt.length o.sc,.slice o.cA o.cch.length o.cc,.slice o.rA o.rel.length o.rc,.slice o.tA o.str.length o.tc,.slice o.bA o.bak.length o.bc]] u fun e u'=>e=.returned (.bool true)∧Below u.heap.size u u'
 fnd:∀(s:ByteArray) (k:Int) (u:World),Below B w u→Calls Tryz.prog 129 #[.agg #[.slice A ts.length c,.slice o.vA 0 o.vc,.slice o.iA o.idx.length o.ic,.slice o.sA o.skt.length o.sc,.slice o.cA o.cch.length o.cc,.slice o.rA o.rel.length o.rc,.slice o.tA o.str.length o.tc,.slice o.bA o.bak.length o.bc],.string s,.int .i64 k] u fun e u'=>e=.returned (.int .i64 (ib (ts.map Tab.name) s k))∧Below u.heap.size u u'
theorem fZ.below{w w':World}{B:Nat}{A:Option Addr}{c:Nat}{ts:List Tab}{o:Oth}(h:fZ w B A c ts o)(hb:Below B w w'):fZ w' B A c ts o:=
 ⟨fun u hu=>h.prog u (hb.trans hu),fun u hu=>h.ref u (hb.trans hu),fun s k u hu=>h.fnd s k u (hb.trans hu)⟩
theorem fZ.mono{w:World}{B B':Nat}{A:Option Addr}{c:Nat}{ts:List Tab}{o:Oth}(h:fZ w B A c ts o)(hB:B≤B'):fZ w B' A c ts o:=
 ⟨fun u hu=>h.prog u (hu.mono hB),fun u hu=>h.ref u (hu.mono hB),fun s k u hu=>h.fnd s k u (hu.mono hB)⟩
theorem fZ.next{w w':World}{A:Option Addr}{c:Nat}{ts:List Tab}{o:Oth}(h:fZ w w.heap.size A c ts o)(hb:Below w.heap.size w w'):fZ w' w'.heap.size A c ts o:=(h.below hb).mono hb.size
abbrev Oth.nil:Oth:=⟨none,0,none,0,[],none,0,[],none,0,[],none,0,[],none,0,[],none,0,[]⟩
open Go.RowKit Go
theorem fZ.of{w:World}{A:Option Addr}{c:Nat}{ts:List Tab}{o:Oth}(ht:aI w w.heap.size A ts)(hs:aL ts)(ho:eQ w w.heap.size o)(hso:gI o)(h16:rW o)(hok:dW ts o):fZ w w.heap.size A c ts o:=
 ⟨fun u hu=>GJ A c ts.length ts o u (ht.next hu) rfl hs (ho.next hu) hso h16 (aY hok),fun u hu=>uf A c ts.length ts o u (ht.next hu) rfl hs (ho.next hu) hso h16 (aY hok),fun s k u hu=>l6 A c ts.length ts s k o u (ag.next ht.1 hu) (ho.next hu) hso rfl hs.len rfl⟩
theorem eQ.nil(w:World)(B:Nat):eQ w B Oth.nil:=⟨ag.nil,ag.nil,ag.nil,ag.nil,ag.nil,ag.nil⟩
theorem gI.nil:gI Oth.nil:=⟨by decide,by decide,by decide,by decide,by decide,by decide,fun x hx=>cJ,fun x hx=>cJ,fun x hx=>cJ,fun x hx=>cJ,fun x hx=>cJ⟩
theorem rW.nil:rW Oth.nil:=⟨by decide,by decide,by decide,by decide,by decide,by decide,fun _=>⟨rfl,rfl⟩⟩
theorem dW.nil{ts:List Tab}(h:aW ts):dW ts Oth.nil:=⟨h,fun j hj=>(by cases hj)⟩
theorem fZ.nil{w:World}{A:Option Addr}{c:Nat}{ts:List Tab}(ht:aI w w.heap.size A ts)(hs:aL ts)(hok:aW ts):fZ w w.heap.size A c ts Oth.nil:=fZ.of ht hs (eQ.nil _ _) gI.nil rW.nil (dW.nil hok)
open Go.RowKit Go
variable {o:Oth}
theorem pz(A:Option Addr)(c m:Nat)(ts:List Tab)(s:ByteArray)(w:World)(ht:aI w w.heap.size A ts)(hm:ts.length=m)(hs:aL ts)(hg:fZ w w.heap.size A c ts o){r:Int}(hr:ib (ts.map Tab.name) s ts.length=r):
 Calls Tryz.prog 97 #[.agg #[.slice A m c,.slice o.vA 0 o.vc,.slice o.iA o.idx.length o.ic,.slice o.sA o.skt.length o.sc,.slice o.cA o.cch.length o.cc,.slice o.rA o.rel.length o.rc,.slice o.tA o.str.length o.tc,.slice o.bA o.bak.length o.bc],.string s] w fun e w'=>e=.returned (.int .i64 r)∧Below w.heap.size w w':=by
 subst hm hr
 have hlen:=hs.len
 have HT:=qh ht
 have HT1:=qh ht.1
 have HS:=qh hs
 have HG:=qh hg
 clear ht hs hg
 go_enter Tryz.func97,Tryz.ntmps97
 go_wp2_with fail
 (with_reducible refine(HG.out.ref _ ai).mono ?_)
 rintro e w1 ⟨rfl,hb1⟩
 have hx1:Below w.heap.size w w1:=aa ai hb1 leA
 obtain⟨k1,_,_⟩:=bP hb1 w.heap.size ltA
 go_wp2_with fail
 (with_reducible refine(HG.out.fnd s _ _ hx1).mono ?_)
 rintro e w2 ⟨rfl,hb2⟩
 go_wp2_with fail
 go_ret
 exact⟨rfl,aa hx1 hb2 hx1.size⟩
theorem pq(A:Option Addr)(c m:Nat)(ts:List Tab)(n:Int)(w:World)(ht:aI w w.heap.size A ts)(hm:ts.length=m)(hs:aL ts)(hg:fZ w w.heap.size A c ts o){r:Bool}(hr:az n 0 ((ts.length:Int)-1)=r):
 Calls Tryz.prog 177 #[.agg #[.slice A m c,.slice o.vA 0 o.vc,.slice o.iA o.idx.length o.ic,.slice o.sA o.skt.length o.sc,.slice o.cA o.cch.length o.cc,.slice o.rA o.rel.length o.rc,.slice o.tA o.str.length o.tc,.slice o.bA o.bak.length o.bc],.int .i64 n] w fun e w'=>e=.returned (.bool r)∧Below w.heap.size w w':=by
 subst hm hr
 have hlen:=hs.len
 have HT:=qh ht
 have HS:=qh hs
 have HG:=qh hg
 clear ht hs hg
 obtain⟨r1,hr1⟩:∃r,az n 0 ((ts.length:Int)-1)=r:=⟨_,rfl⟩
 rw[hr1]
 have HR:=qh hr1
 clear hr1
 cases r1
 ·go_enter Tryz.func177,Tryz.ntmps177
  go_wp2_with (go_at_call 127;(with_reducible refine(aC n 0 _ _ HR.out).mono ?_);rintro e w1 ⟨rfl,rfl⟩)
  go_ret
  exact⟨rfl,by exact ai⟩
 ·go_enter Tryz.func177,Tryz.ntmps177
  go_wp2_with (first
   | (go_at_call 127;(with_reducible refine(aC n 0 _ _ HR.out).mono ?_);rintro e w1 ⟨rfl,rfl⟩)
   | (go_at_call 29;(with_reducible refine(HG.out.ref _ ai).mono ?_);rintro e w1 ⟨rfl,hb1⟩))
  go_ret
  exact⟨rfl,aa ai hb1 leA⟩
theorem xK(A:Option Addr)(c m:Nat)(ts:List Tab)(n:Int)(w:World)(ht:aI w w.heap.size A ts)(hm:ts.length=m)(hs:aL ts)(hg:fZ w w.heap.size A c ts o){r:Bool}(hr:az n 0 ((ts.length:Int)-1)=r):
 Calls Tryz.prog 146 #[.agg #[.slice A m c,.slice o.vA 0 o.vc,.slice o.iA o.idx.length o.ic,.slice o.sA o.skt.length o.sc,.slice o.cA o.cch.length o.cc,.slice o.rA o.rel.length o.rc,.slice o.tA o.str.length o.tc,.slice o.bA o.bak.length o.bc],.int .i64 n] w fun e w'=>e=.returned (.bool r)∧Below w.heap.size w w':=by
 subst hm
 have HT:=qh ht
 have HS:=qh hs
 have HR:=qh hr
 have HG:=qh hg
 clear ht hs hr hg
 cases r
 ·go_enter Tryz.func146,Tryz.ntmps146
  go_wp2_with (go_at_call 177;(with_reducible refine(pq A c ts.length ts n _ (HT.out.next ai) rfl HS.out (HG.out.next ai) HR.out).mono ?_);rintro e w1 ⟨rfl,hb1⟩)
  go_ret
  exact⟨rfl,aa ai hb1 leA⟩
 ·have hn:decide (n<(ts.length:Int))=true:=by
   have h:=HR.out
   simp only[az,Bool.and_eq_true,decide_eq_true_eq]at h
   simp
   omega
  go_enter Tryz.func146,Tryz.ntmps146
  go_wp2_with (go_at_call 177;(with_reducible refine(pq A c ts.length ts n _ (HT.out.next ai) rfl HS.out (HG.out.next ai) HR.out).mono ?_);rintro e w1 ⟨rfl,hb1⟩;obtain⟨k1,_,_⟩:=bP hb1 w.heap.size ltA)
  go_ret
  exact⟨rfl,aa ai hb1 leA⟩
theorem BF(A:Option Addr)(c m:Nat)(ts:List Tab)(n:Nat)(ae:List Col)(w:World)(ht:aI w w.heap.size A ts)(hm:ts.length=m)(hs:aL ts)(hok:aW ts)(hg:fZ w w.heap.size A c ts o)(hn:n<ts.length)(hcs:ts[n].ae=ae):
 Calls Tryz.prog 105 #[.agg #[.slice A m c,.slice o.vA 0 o.vc,.slice o.iA o.idx.length o.ic,.slice o.sA o.skt.length o.sc,.slice o.cA o.cch.length o.cc,.slice o.rA o.rel.length o.rc,.slice o.tA o.str.length o.tc,.slice o.bA o.bak.length o.bc],.int .i64 n] w fun e w'=>(∃A' c' out,e=.returned (.slice A' out.length c')∧out.length≤c'∧ag w' w'.heap.size intCells 1 A' out∧jC [0] ae [] out)∧Below w.heap.size w w':=by
 subst hm
 have h8:ae.length≤8:=by rw[←hcs];exact(hok.ae hn).2
 have Nv:∀x∈ae,x.own.length≤100:=fun x hx=>by have:=hok.Ih hn (x:=x) (by rw[hcs];exact hx);omega
 have hT0:=ht
 obtain⟨b5,o5,rfl,hb5,hc5⟩:=ht.1.get hn
 obtain⟨t0,t1,t2,t3⟩:=Tab.fD hc5
 have hcn:=ht.2 ts[n] (lgm hn)
 rw[hcs]at t1 hcn
 obtain⟨TA,hTA⟩:∃a,ts[n].A=a:=⟨_,rfl⟩
 obtain⟨tc,htc⟩:∃a,ts[n].cap=a:=⟨_,rfl⟩
 rw[hTA]at hcn t1
 rw[htc]at t1
 have hr:az (n:Int) 0 ((ts.length:Int)-1)=true:=by
  rw[az,Bool.and_eq_true,decide_eq_true_iff,decide_eq_true_iff]
  omega
 have HT:=qh hT0
 have HS:=qh hs
 have HR:=qh hr
 have HG:=qh hg
 have HC:=qh hcn
 have HL:=qh Nv
 clear ht hc5 t0 t2 t3 hcn hcs Nv hTA htc hT0 hs hok hr hg
 go_enter Tryz.func105,Tryz.ntmps105
 go_wp2_with fail
 (with_reducible refine(xK _ c ts.length ts n _ (HT.out.next ai) rfl HS.out (HG.out.next ai) HR.out).mono ?_)
 rintro e w1 ⟨rfl,hb1⟩
 have hx1:Below w.heap.size w w1:=aa ai hb1 leA
 have hB1:Blk w1 w.heap.size 34 #[.slice (some ⟨b5,o5,none⟩) ts.length c,.slice o.vA 0 o.vc,.slice o.iA o.idx.length o.ic,.slice o.sA o.skt.length o.sc,.slice o.cA o.cch.length o.cc,.slice o.rA o.rel.length o.rc,.slice o.tA o.str.length o.tc,.slice o.bA o.bak.length o.bc]:=(Blk.new _ _ _).below hb1 spA
 clear hb1
 go_upto_region 4 with (fail)
 refine ah (P:=fun u=>Code.wp _ _ _ _ u) (R:=fun u=>Blk u w.heap.size 34 #[.slice (some ⟨b5,o5,none⟩) ts.length c,.slice o.vA 0 o.vc,.slice o.iA o.idx.length o.ic,.slice o.sA o.skt.length o.sc,.slice o.cA o.cch.length o.cc,.slice o.rA o.rel.length o.rc,.slice o.tA o.str.length o.tc,.slice o.bA o.bak.length o.bc]∧Blk u w1.heap.size 3 #[.int .i64 0]∧Below w.heap.size w u) ⟨?_,?_,?_⟩ ?_
 ·exact hB1.alloc _
 ·exact Blk.new _ _ _
 ·exact hx1.alloc hx1.size _
 rintro W ⟨hB,hB2,hbW⟩
 have t1:=((bP hbW b5 hb5).1 _).trans t1
 have hzW:=hB.lt
 have HB:=qh hB
 have HZ:=qh (Blk.one (enc:=intCells) (k:= 1) (x:=(0:Int)) hB2 hB2.lt)
 clear hB hB1 hB2 hx1
 go_wp2_with fail
 have hstart:∃(m:Nat) (A2:Option Addr) (c2:Nat) (out:List Int),m≤ae.length∧Value.int .i64 0=.int .i64 m∧Value.slice (some ⟨w1.heap.size,0,none⟩) 1 1=.slice A2 out.length c2∧out.length≤c2∧ag W W.heap.size intCells 1 A2 out∧jC [0] (ae.take m) [] out∧out.length≤100*m+1∧Below W.heap.size W W:=⟨0,_,1,[0],Nat.zero_le _,rfl,rfl,by simp,HZ.out,⟨by simp,by simp⟩,by simp,Below.refl _ _⟩
 go_loopw [5,6] (fun vl vi wr =>∃(m:Nat) (A2:Option Addr) (c2:Nat) (out:List Int),m≤ae.length∧vi=.int .i64 m∧vl=.slice A2 out.length c2∧out.length≤c2∧ag wr wr.heap.size intCells 1 A2 out∧jC [0] (ae.take m) [] out∧out.length≤100*m+1∧Below W.heap.size W wr) (fun _ vi _=>ae.length-(intOf vi).toNat)
 case atStart=>exact hstart
 case round =>
  obtain⟨m,A2,c2,out,hm,rfl,rfl,hcap,hso,hot,hol,hbr⟩:=hrel
  have hwz:=hbr.size
  have hxr:=aa hbW hbr hbW.size
  obtain⟨p0,p1,p2,p3,p4,p5,p6,p7⟩:=Cat.bJ (HB.out.below hbr hzW)
  have t1':=((bP hbr b5 omA).1 _).trans t1
  have HSO:=qh hso
  have HOT:=qh hot
  clear hso hot
  by_cases hlt:m<ae.length
  ·obtain⟨b6,o6,rfl,hb6,hc6⟩:=(HC.out.1.below hxr).get hlt
   obtain⟨_,_,_,_,c4,_,_⟩:=Col.dO hc6
   have hio:=HC.out.2 ae[m] (lgm hlt)
   have Nv:=HL.out ae[m] (lgm hlt)
   obtain⟨⟨nm2,ty2,ns2,rf2,A3,c3,own,jo2,du2⟩,hx⟩:∃x:Col,ae[m]=x:=⟨_,rfl⟩
   rw[hx]at c4 hio Nv
   simp only at c4 hio Nv
   have HX:=qh hx
   have HIO:=qh hio
   clear hc6 hio hx
   go_wp2_with fail
   obtain⟨wo,rfl⟩:∃wo:World,wo=wr:=⟨_,rfl⟩
   clear p0 p1 p2 p3 p4 p5 p6 p7 t1' c4
   go_loopw [5,8] (fun vl vk wi =>∃(k:Nat) (A4:Option Addr) (c4:Nat) (sF:List Int),k≤own.length∧vk=.int .i64 k∧vl=.slice A4 sF.length c4∧sF.length≤c4∧ag wi wi.heap.size intCells 1 A4 sF∧jC [0] (ae.take m) (own.take k) sF∧sF.length≤100*m+k+1∧Below wo.heap.size wo wi) (fun _ vk _=>own.length-(intOf vk).toNat)
   case atStart=>exact⟨0,A2,c2,out,Nat.zero_le _,rfl,rfl,hcap,HSO.out,HOT.out,by omega,Below.refl _ _⟩
   case round =>
    obtain⟨k,A4,c4,sF,hk,rfl,rfl,hcap2,TB,Ub,Yq,hbi⟩:=hrel
    have hyi:=aa hbr hbi hwz
    have hxi:=aa hxr hbi hxr.size
    have Vk:=qh TB
    have Vy:=qh Ub
    clear TB Ub
    by_cases hkl:k<own.length
    ·obtain⟨b7,o7,rfl,hb7,hc7⟩:=(HIO.out.below hxi).get hkl
     have x0:=hc7 0 _ rfl
     simp only[Nat.mul_one,Nat.add_zero]at x0
     have NZ:=qh (Vy.out.step hkl)
     have hil:=Mv sF own[k]
     clear hc7
     go_wp2_with (go_at_call 147;(with_reducible refine(I5 A4 c4 sF.length sF own[k] _ Vk.out rfl omA hcap2).mono ?_);rintro e w1 ⟨⟨A5,c5,rfl,hc5,hs5,_⟩,hb1⟩;have HS5:=qh hs5;clear hs5)
     go_roundw
     case rel=>exact⟨k+1,A5,c5,_,by omega,by go_num,rfl,hc5,HS5.out,NZ.out,by omega,aa hbi hb1 hbi.size⟩
     case measure=>exact meA
    ·have hkl':decide (k<own.length)=false:=by simpa using hkl
     have hke:k=own.length:=by omega
     have hcl:jC [0] (ae.take (m+1)) [] sF:=by
      refine jC.close hlt ?_
      rw[HX.out]
      have h:=Vy.out
      rwa [hke,List.take_length]at h
     have HCL:=qh hcl
     clear hcl hke
     go_wp2_with fail
     go_roundw
     case rel=>exact⟨m+1,A4,c4,sF,by omega,by go_num,rfl,hcap2,Vk.out,HCL.out,by omega,hyi⟩
     case measure=>exact meA
  ·have hlt':decide (m<ae.length)=false:=by simpa using hlt
   obtain rfl:m=ae.length:=by omega
   have h:=HOT.out
   rw[List.take_length]at h
   have HH:=qh h
   clear h
   go_wp2_with fail
   go_ret
   exact⟨⟨A2,c2,out,rfl,hcap,HSO.out,HH.out⟩,hxr⟩
open Go.RowKit Go
theorem vW(A:Option Addr)(c m:Nat)(ts:List Tab)(w:World)(ht:aI w w.heap.size A ts)(hm:ts.length=m)(hs:aL ts){r:Bool}(hr:pb (aW ts)=r):
 Calls Tryz.prog 29 #[.agg #[.slice A m c,.slice none 0 0,.slice none 0 0,.slice none 0 0,.slice none 0 0,.slice none 0 0,.slice none 0 0,.slice none 0 0]] w fun e w'=>e=.returned (.bool r)∧Below w.heap.size w w':=
 uf A c m ts Oth.nil w ht hm hs (eQ.nil _ _) gI.nil rW.nil (by rw[show dW ts Oth.nil=aW ts from propext ⟨fun h=>h.1,dW.nil⟩];exact hr)
theorem FC(A:Option Addr)(c m:Nat)(ts:List Tab)(s:ByteArray)(w:World)(ht:aI w w.heap.size A ts)(hm:ts.length=m)(hs:aL ts)(hok:aW ts){r:Int}(hr:ib (ts.map Tab.name) s ts.length=r):
 Calls Tryz.prog 97 #[.agg #[.slice A m c,.slice none 0 0,.slice none 0 0,.slice none 0 0,.slice none 0 0,.slice none 0 0,.slice none 0 0,.slice none 0 0],.string s] w fun e w'=>e=.returned (.int .i64 r)∧Below w.heap.size w w':=
 pz (o:=Oth.nil) A c m ts s w ht hm hs (fZ.nil ht hs hok) hr
end Go.Proofs.YtjhnpnhpmdkpcaaGreat
