/-
  Contracts and plain laws of this seat, part 14.
-/
import Derived.Test.YtebippoohpnjkaaGreatF13
set_option linter.unusedVariables false
set_option linter.unusedSimpArgs false
set_option maxRecDepth 100000
set_option maxHeartbeats 16000000
namespace Go.Proofs.YtebippoohpnjkaaGreat
open Go.RowKit Go
theorem cy{P:Prop}(h:P:=by rw[List.length_map];omega):P:=h
theorem cD{P:Prop}(h:P:=by rw[List.length_append,lg nlr,List.length_take];omega):P:=h
theorem cE{P:Prop}(h:P:=by rw[List.length_map];exact hi):P:=h
theorem cF{P:Prop}(h:P:=by first|rfl|trivial):P:=h
theorem cG{P:Prop}(h:P:=by simpa only[mD]using hq):P:=h
theorem cH{P:Prop}(h:P:=by cases hx):P:=h
def dU(n:Nat)(o:Oth):List Kd:= [⟨n,8,136⟩,⟨0,12,137⟩,⟨o.idx.length,16,138⟩,⟨o.skt.length,16,139⟩,⟨o.cch.length,16,140⟩,⟨o.rel.length,16,141⟩,⟨o.str.length,16,142⟩,⟨o.bak.length,16,143⟩]
theorem EP{n m:Nat}{o:Oth}(h8:n≤8)(h16:gV o)(h:m<(dU n o).length):((dU n o)[m].cnt:Int)≤(dU n o)[m].lim:=by
 obtain⟨g1,g2,g3,g4,g5,g6,_⟩:=h16
 simp only[dU,List.length_cons,List.length_nil]at h
 rcases m with _|_|_|_|_|_|_|_|m
 all_goals first|(simp only[dU,List.getElem_cons_succ,List.getElem_cons_zero];omega)|omega
def mD(o:Oth):Nat→Nat
 | 0 =>0
 | 1 =>0
 | 2 =>0
 | 3=>o.idx.length
 | 4=>o.idx.length+o.skt.length
 | _=>o.idx.length+o.skt.length+o.cch.length
theorem EC(w:World):dO Tryz.prog 9 4 (w.alloc (.map #[] 0)) w.heap.size 0 (lC []):=
 (dO.made w _ _ _).eqf fun x kl _=>by
   cases x
   case string s =>
    simp only[lC]
    rw[aM spA,if_neg (by decide)]
   all_goals rfl
theorem Ey(ts:List Tab):bF ts ts.length=ts.map Tab.name:=by
 unfold bF
 rw[List.take_length]
theorem Cv{ts:List Tab}{o:Oth}{q:Nat}(hq:q<o.names.length){s:ByteArray}:s∈bF ts ts.length++o.names.take q ↔ ∃k,k<ts.length+q∧(lI ts o).getD k ⟨#[]⟩=s:=by
 have e:bF ts ts.length++o.names.take q=(lI ts o).take (ts.length+q):=by
  unfold lI
  have h1:(ts.map Tab.name).take (ts.length+q)=ts.map Tab.name:=List.take_of_length_le cy
  rw[Ey,List.take_append,List.length_map,Nat.add_sub_cancel_left,h1]
 have hl:(lI ts o).length=ts.length+o.names.length:=by unfold lI;rw[List.length_append,List.length_map]
 rw[e]
 constructor
 ·intro h
  obtain⟨k,hk,e2⟩:=List.mem_take_iff_getElem.1 h
  exact⟨k,by omega,by rw[getD_at omA];exact e2⟩
 ·rintro⟨k,hk,e2⟩
  exact List.mem_take_iff_getElem.2 ⟨k,by omega,by rw[←e2,getD_at omA]⟩
theorem IC{ts:List Tab}{o:Oth}{q:Nat}(hq:q<o.names.length):jk (bF ts ts.length++o.names.take q) o.names[q] (kW ts o q)=0↔l6 ts o q:=by
 have hl:(lI ts o).length=ts.length+o.names.length:=by unfold lI;rw[List.length_append,List.length_map]
 have hg:(lI ts o).getD (ts.length+q) ⟨#[]⟩=o.names[q]:=by
  rw[getD_at omA]
  refine Option.some.inj ?_
  rw[←List.getElem?_eq_getElem omA,←List.getElem?_eq_getElem hq]
  unfold lI
  rw[List.getElem?_append_right cy,List.length_map,Nat.add_sub_cancel_left]
 unfold jk
 constructor
 ·intro h0
  by_cases h1:eB (bF ts ts.length++o.names.take q) o.names[q]=0
  ·rw[if_pos h1]at h0
   obtain⟨h2,h3⟩:=nN h1
   refine⟨by rw[hg];exact h2,fun k hk e =>?_,h0⟩
   rw[hg]at e
   exact h3 ((Cv hq).2 ⟨k,hk,e⟩)
  ·rw[if_neg h1]at h0
   exact absurd h0 h1
 ·intro h0
  have h1:eB (bF ts ts.length++o.names.take q) o.names[q]=0:=by
   unfold eB
   have hn:=h0.name
   rw[hg]at hn
   rw[if_pos hn,aM fun h=>by
    obtain⟨k,hk,e⟩:=(Cv hq).1 h
    exact h0.fresh k hk (by rw[e,hg]),if_neg (by decide)]
  rw[if_pos h1]
  exact h0.err
theorem Kv{o:Oth}{i:Nat}(hi:i<o.idx.length):o.names[i]?=some o.idx[i].name:=by
 unfold Oth.names
 rw[List.getElem?_append_left cE,List.getElem?_map,List.getElem?_eq_getElem hi]
 rfl
theorem Kt{o:Oth}{i:Nat}(hi:i<o.skt.length):o.names[o.idx.length+i]?=some o.skt[i].name:=by
 unfold Oth.names
 rw[List.getElem?_append_right cy,List.length_map,Nat.add_sub_cancel_left,List.getElem?_append_left cE,List.getElem?_map,List.getElem?_eq_getElem hi]
 rfl
theorem Kw{o:Oth}{i:Nat}(hi:i<o.cch.length):o.names[o.idx.length+o.skt.length+i]?=some o.cch[i].name:=by
 unfold Oth.names
 rw[List.getElem?_append_right cy,List.length_map,show o.idx.length+o.skt.length+i-o.idx.length=o.skt.length+i by omega,List.getElem?_append_right cy,List.length_map,Nat.add_sub_cancel_left,List.getElem?_append_left cE,List.getElem?_map,List.getElem?_eq_getElem hi]
 rfl
theorem Ku{o:Oth}{i:Nat}(hi:i<o.rel.length):o.names[o.idx.length+o.skt.length+o.cch.length+i]?=some o.rel[i].name:=by
 unfold Oth.names
 rw[List.getElem?_append_right cy,List.length_map,show o.idx.length+o.skt.length+o.cch.length+i-o.idx.length=o.skt.length+(o.cch.length+i) by omega,List.getElem?_append_right cy,List.length_map,Nat.add_sub_cancel_left,List.getElem?_append_right cy,List.length_map,Nat.add_sub_cancel_left,List.getElem?_append_left cE,List.getElem?_map,List.getElem?_eq_getElem hi]
 rfl
theorem qi{ts:List Tab}{o:Oth}{q:Nat}{s:ByteArray}{z:Int}(h:o.names[q]?=some s)(hz:kW ts o q=z):(jk (bF ts ts.length++o.names.take q) s z=0↔l6 ts o q)∧bF ts ts.length++o.names.take q ++ [s]=bF ts ts.length++o.names.take (q+1)∧q<o.names.length:=by
 obtain⟨hq,e⟩:=List.getElem?_eq_some_iff.1 h
 subst e hz
 refine⟨IC hq,?_,hq⟩
 rw[List.take_succ_eq_append_getElem hq,List.append_assoc]
theorem FH(A:Option Addr)(c m:Nat)(ts:List Tab)(o:Oth)(w:World)(ht:aJ w w.heap.size A ts)(hm:ts.length=m)(hs:aI ts)(ho:bL w w.heap.size o)(hso:dN o)(h16:gV o):
 Calls Tryz.prog 89 #[.agg #[.slice A m c,.slice o.vA 0 o.vc,.slice o.iA o.idx.length o.ic,.slice o.sA o.skt.length o.sc,.slice o.cA o.cch.length o.cc,.slice o.rA o.rel.length o.rc,.slice o.tA o.str.length o.tc,.slice o.bA o.bak.length o.bc]] w fun e w' =>
  (∃p q z,e=.returned (.tuple #[p,.int .i64 q,.int .i64 z])∧(z=0↔dD ts o))∧Below w.heap.size w w':=by
 subst hm
 have HT:=qh ht
 have HS:=qh hs
 have HO:=qh ho
 have HSO:=qh hso
 have H16:=qh h16
 have hlen:=hs.len
 clear ht hs ho hso h16
 have hmm:= @run_makeMap Tryz.prog
 go_enter Tryz.func89,Tryz.ntmps89
 go_upto_region 2 with (fail)
 clear hmm
 refine ai (P:=fun u=>Code.wp _ _ _ _ u) (R:=fun u=>bY u w.heap.size (w.heap.size+1+1+1) (w.heap.size+1) (w.heap.size+1+1) A c ts o (bF ts 0) 0 (.slice none 0 0) []∧Blk u w.heap.size 39 #[.slice A ts.length c,.slice o.vA 0 o.vc,.slice o.iA o.idx.length o.ic,.slice o.sA o.skt.length o.sc,.slice o.cA o.cch.length o.cc,.slice o.rA o.rel.length o.rc,.slice o.tA o.str.length o.tc,.slice o.bA o.bak.length o.bc]∧Below w.heap.size w u) ⟨?_,?_,?_⟩ ?_
 ·refine⟨Blk.new' spA,?_,?_,ax.nil,fun x hx=>by simp at hx,rfl,fun j hj=>by simp at hj,by omega,by omega,by omega,by omega⟩
  ·have h:=EC (w.alloc (.cells #[.slice A ts.length c,.slice o.vA 0 o.vc,.slice o.iA o.idx.length o.ic,.slice o.sA o.skt.length o.sc,.slice o.cA o.cch.length o.cc,.slice o.rA o.rel.length o.rc,.slice o.tA o.str.length o.tc,.slice o.bA o.bak.length o.bc] 39))
   rw[show (w.alloc (.cells #[.slice A ts.length c,.slice o.vA 0 o.vc,.slice o.iA o.idx.length o.ic,.slice o.sA o.skt.length o.sc,.slice o.cA o.cch.length o.cc,.slice o.rA o.rel.length o.rc,.slice o.tA o.str.length o.tc,.slice o.bA o.bak.length o.bc] 39)).heap.size=w.heap.size+1 by simp]at h
   exact(h.alloc _).alloc _
  ·have h:=uF ((w.alloc (.cells #[.slice A ts.length c,.slice o.vA 0 o.vc,.slice o.iA o.idx.length o.ic,.slice o.sA o.skt.length o.sc,.slice o.cA o.cch.length o.cc,.slice o.rA o.rel.length o.rc,.slice o.tA o.str.length o.tc,.slice o.bA o.bak.length o.bc] 39)).alloc (.map #[] 0)) ts
   rw[show ((w.alloc (.cells #[.slice A ts.length c,.slice o.vA 0 o.vc,.slice o.iA o.idx.length o.ic,.slice o.sA o.skt.length o.sc,.slice o.cA o.cch.length o.cc,.slice o.rA o.rel.length o.rc,.slice o.tA o.str.length o.tc,.slice o.bA o.bak.length o.bc] 39)).alloc (.map #[] 0)).heap.size=w.heap.size+1+1 by simp]at h
   exact h.alloc _
 ·exact(((Blk.new _ _ _).alloc _).alloc _).alloc _
 ·exact ak
 rintro W ⟨hI,hB,hbW⟩
 obtain⟨p0,p1,p2,p3,p4,p5,p6,p7⟩:=Cat.aZ hB
 have HI:=qh hI
 clear hI hB
 go_cut [6] (fun x wc=>x=.slice (some ⟨W.heap.size,0,none⟩) 8 8∧Blk wc W.heap.size 211 ((dU ts.length o).flatMap (Kd.cells (w.heap.size+1+1+1))).toArray∧Below W.heap.size W wc)
 case first =>
  go_wp2_with fail
  go_meet
  exact⟨rfl,(Blk.new _ _ _).eq rfl,by exact ak⟩
 case rest =>
  obtain⟨rfl,hK,hb1⟩:=hcut
  obtain⟨W1,rfl⟩:∃W1:World,W1=wc:=⟨_,rfl⟩
  have hx1:Below w.heap.size w W1:=ae hbW hb1 hbW.size
  have hKl:=hK.lt
  have HK:=qh hK
  have HSK:=qh (Blk.all (KM (w.heap.size+1+1+1)) hK hKl)
  have HI1:=qh (HI.out.next hb1)
  have hzw:=hbW.size
  clear hK p0 p1 p2 p3 p4 p5 p6 p7
  by_cases h8n:8<ts.length
  ·have HNO:Hid (¬ dD ts o):=qh fun h=>by have:=h.cat.len;omega
   have h8d:decide ((8:Int)<(ts.length:Int))=true:=by simp;omega
   have h8e:decide (8<ts.length)=true:=by simpa using h8n
   have hl0:0<(dU ts.length o).length:=by simp[dU]
   obtain⟨b5,o5,hbe,hb5,hc5⟩:=HSK.out.get hl0
   injection hbe with hbe
   injection hbe with pq pg
   subst pq pg
   have x0:=hc5 0 _ rfl
   have x1:=hc5 1 _ rfl
   have x2:=hc5 2 _ rfl
   have e0:(dU ts.length o)[0]=⟨ts.length,8,136⟩:=rfl
   rw[e0]at x0 x1 x2
   simp only[Nat.zero_mul,Nat.zero_add,Nat.add_zero]at x0 x1 x2
   clear hc5 e0 h8n
   go_upto_region 4 with (fail)
   go_loopw [70] (fun vi wr=>vi=.int .i64 0∧W1=wr) (fun _ _ =>0)
   case atStart=>exact⟨rfl,rfl⟩
   obtain⟨rfl,rfl⟩:=hrel
   go_wp2_with fail
   go_ret3
   exact⟨⟨_,_,_,rfl,fun h=>by omega,fun h=>absurd h HNO.out⟩,by exact ak⟩
  have h8:ts.length≤8:=by omega
  clear h8n
  go_upto_region 4 with (fail)
  go_loopw [70] (fun vi wr =>∃m:Nat,m≤8∧vi=.int .i64 m∧Below W1.heap.size W1 wr) (fun vi _ =>8-(intOf vi).toNat)
  case atStart=>exact⟨0,Nat.zero_le _,rfl,Below.refl _ _⟩
  case round =>
   obtain⟨m,hm,rfl,hbr⟩:=hrel
   have hwz:=hbr.size
   by_cases hlt:m<8
   ·have hlk:m<(dU ts.length o).length:=hlt
    obtain⟨b5,o5,hbe,hb5,hc5⟩:=(HSK.out.below hbr).get hlk
    injection hbe with hbe
    injection hbe with pq pg
    subst pq pg
    have x0:=hc5 0 _ rfl
    have x1:=hc5 1 _ rfl
    have x2:=hc5 2 _ rfl
    simp only[Nat.zero_add,Nat.add_zero]at x0 x1 x2
    have hfit:=EP h8 H16.out hlk
    have d0:decide ((dU ts.length o)[m].lim<((dU ts.length o)[m].cnt:Int))=false:=by simp;omega
    clear hc5
    go_wp2_with fail
    go_roundw
    case rel=>exact⟨m+1,by omega,by go_num,by exact ak⟩
    case measure=>exact meA
   ·have hlt':decide (m<8)=false:=by simpa using hlt
    obtain rfl:m=8:=by omega
    go_upto_region 11 with (fail)
    have HKr:=qh (HK.out.below hbr hKl)
    have HIr:=qh (HI1.out.next hbr)
    have hxr:Below w.heap.size w wr:=ae hx1 hbr hx1.size
    have hc5:=H16.out.idx
    have hc6:=H16.out.skt
    have hc7:=H16.out.cch
    have hc8:=H16.out.rel
    clear hlt hlt'
    obtain⟨V,rfl⟩:∃V:World,V=wr:=⟨_,rfl⟩
    go_loopw [9,82] (fun vj vi wr =>∃m j:Nat,m≤8∧vj=.int .i64 j∧vi=.int .i64 m∧(m=0→j=0∧bY wr w.heap.size (w.heap.size+1+1+1) (w.heap.size+1) (w.heap.size+1+1) A c ts o (bF ts 0) 0 (.slice none 0 0) [])∧(0<m→j=ts.length+mD o m∧(∃v st,bY wr w.heap.size (w.heap.size+1+1+1) (w.heap.size+1) (w.heap.size+1+1) A c ts o (bF ts ts.length++o.names.take (mD o m)) ts.length v st)∧aV ts∧(∀q,q<mD o m→l6 ts o q)∧(6≤m→o.rel.length=0))∧Blk wr W.heap.size 211 ((dU ts.length o).flatMap (Kd.cells (w.heap.size+1+1+1))).toArray∧Below w.heap.size w wr) (fun _ vi _ =>8-(intOf vi).toNat)
    case atStart=>exact⟨0,0,by omega,rfl,rfl,fun _=>⟨rfl,HIr.out⟩,fun h=>by omega,HKr.out,hxr⟩
    case round =>
     obtain⟨m,j,hm,rfl,rfl,hst,hsm,hKm,zq⟩:=hrel
     have zk:=zq.size
     have HST:=qh hst
     have HSM:=qh hsm
     have Bv:=hKm.lt
     have HKM:=qh hKm
     clear hst hsm
     by_cases hlt:m<8
     ·have hlk:m<(dU ts.length o).length:=hlt
      obtain⟨b5,o5,hbe,hb5,hc5⟩:=(Blk.all (KM (w.heap.size+1+1+1)) hKm Bv).get hlk
      injection hbe with hbe
      injection hbe with pq pg
      subst pq pg
      have x0:=hc5 0 _ rfl
      have x1:=hc5 1 _ rfl
      have x2:=hc5 2 _ rfl
      simp only[Nat.zero_add,Nat.add_zero]at x0 x1 x2
      clear hc5 hKm
      rcases(show m=0∨m=1∨m=2∨m=3∨m=4∨m=5∨m=6∨m=7 by omega) with rfl|rfl|rfl|rfl|rfl|rfl|rfl|rfl
      ·have e0:(dU ts.length o)[0]=⟨ts.length,8,136⟩:=rfl
       rw[e0]at x0 x1 x2
       simp only at x0 x1 x2
       clear e0
       go_upto_region 14 with (fail)
       refine ai (P:=fun u=>Code.wp _ _ _ _ u) (R:=fun u=>Blk u wr.heap.size 211 #[.int .i64 ts.length,.int .i64 8,.func (.func 136) #[.pointer (some ⟨w.heap.size+1+1+1,0,none⟩)] #[]]∧Below wr.heap.size wr u) ⟨?_,?_⟩ ?_
       ·exact Blk.new _ _ _
       ·exact ak
       rintro V2 ⟨hD,hbD⟩
       have hDl:=hD.lt
       have HD:=qh hD
       have HK2:=qh (HKM.out.below hbD Bv)
       have hx2:Below w.heap.size w V2:=ae zq hbD zk
       clear hD x0 x1 x2
       obtain⟨hj0,hI0⟩:=HST.out cF
       have HI2:=qh (hI0.next hbD)
       clear hI0
       subst hj0
       go_loopw [9,88] (fun vj vi wi =>∃(i:Nat) (v:Value) (st:List Sto),i≤ts.length∧vj=.int .i64 i∧vi=.int .i64 i∧bY wi w.heap.size (w.heap.size+1+1+1) (w.heap.size+1) (w.heap.size+1+1) A c ts o (bF ts i) i v st∧vY ts i∧Blk wi wr.heap.size 211 #[.int .i64 ts.length,.int .i64 8,.func (.func 136) #[.pointer (some ⟨w.heap.size+1+1+1,0,none⟩)] #[]]∧Blk wi W.heap.size 211 ((dU ts.length o).flatMap (Kd.cells (w.heap.size+1+1+1))).toArray∧Below w.heap.size w wi) (fun _ vi _=>ts.length-(intOf vi).toNat)
       case atStart=>exact⟨0,_,[],Nat.zero_le _,rfl,rfl,HI2.out,fun i hi h=>by omega,HD.out,HK2.out,hx2⟩
       case round =>
        obtain⟨i,v,st,hi,rfl,rfl,hIi,hpi,hDi,hKi,hxi⟩:=hrel
        have d2:=hDi.cell 2
        simp only[gE3]at d2
        have HIi:=qh hIi
        have HPI:=qh hpi
        have HDi:=qh hDi
        have HKi:=qh hKi
        have hiz:=hxi.size
        clear hIi hDi hKi hpi
        by_cases hil:i<ts.length
        ·obtain⟨z,hz⟩:∃z,G6 ts i hil=z:=⟨_,rfl⟩
         have HZ:=qh hz
         clear hz
         by_cases hz0:z=0
         ·subst hz0
          have HPN:Hid (vY ts (i+1)):=qh fun k hk hki=>by
           rcases Nat.lt_or_ge k i with h1|h1
           ·exact HPI.out k hk h1
           ·obtain rfl:k=i:=by omega
            exact Gj.1 HZ.out
          go_wp2_with (go_at_call 136;(with_reducible refine(yF w.heap.size (w.heap.size+1+1+1) (w.heap.size+1) (w.heap.size+1+1) A c ts o i v st _ hil HIi.out (HT.out.below hxi) HS.out HPI.out h8 hiz HZ.out).mono ?_);rintro e w3 ⟨⟨rfl,h3⟩,hb3⟩;obtain⟨⟨v3,st3,hI3⟩,hk3⟩:=h3 cF;have HI3:=qh hI3;have HK3:=qh hk3;clear hI3 hk3 h3)
          go_roundw
          case rel=>exact⟨i+1,v3,st3,by omega,by go_num,by go_num,HI3.out,HPN.out,HK3.out _ _ _ (by decide) (by decide) HDi.out,HK3.out _ _ _ (by decide) (by decide) HKi.out,hxi.trans hb3⟩
          case measure=>exact meA
         ·have hz0':(z != 0)=true:=by simpa using hz0
          have HNZ:=qh hz0
          have HNO:Hid (¬ dD ts o):=qh fun h=>hz0 (HZ.out.symm.trans (Gj.2 (h.cat.tab i hil)))
          clear hz0
          go_wp2_with (go_at_call 136;(with_reducible refine(yF w.heap.size (w.heap.size+1+1+1) (w.heap.size+1) (w.heap.size+1+1) A c ts o i v st _ hil HIi.out (HT.out.below hxi) HS.out HPI.out h8 hiz HZ.out).mono ?_);rintro e w3 ⟨⟨rfl,h3⟩,hb3⟩;clear h3)
          go_ret3
          exact⟨⟨_,_,_,rfl,fun h=>absurd h HNZ.out,fun h=>absurd h HNO.out⟩,hxi.trans hb3⟩
        ·have Ls:decide (i<ts.length)=false:=by simpa using hil
         have HIE:Hid (i=ts.length):=qh omA
         have HCO:Hid (aV ts):=qh ⟨h8,fun k hk=>HPI.out k hk (by have:=HIE.out;omega)⟩
         have HIF:=qh HIi.out
         rw[HIE.out]at HIF
         rw[show bF ts ts.length=bF ts ts.length++o.names.take (mD o (0+1)) by simp[mD]]at HIF
         go_wp2_with fail
         go_roundw
         case rel =>
          (repeat apply Exists.intro)
          refine⟨?_,?_⟩
          rotate_left
          ·first|rfl|(and_intros<;>rfl)
          refine⟨1,by omega,i,rfl,rfl,fun h=>by omega,fun _=>⟨?_,⟨v,st,?_⟩,HCO.out,fun q hq =>?_,fun h=>by omega⟩,HKi.out⟩
          ·have h:=HIE.out
           show i=ts.length+0
           omega
          ·exact HIF.out
          ·have h:q<0:=hq
           omega
         case measure=>simp[intOf]
      ·have e0:(dU ts.length o)[1]=⟨(0:Nat),12,137⟩:=rfl
       rw[e0]at x0 x1 x2
       simp only at x0 x1 x2
       clear e0
       go_upto_region 14 with (fail)
       refine ai (P:=fun u=>Code.wp _ _ _ _ u) (R:=fun u=>Blk u wr.heap.size 211 #[.int .i64 (0:Nat),.int .i64 12,.func (.func 137) #[.pointer (some ⟨w.heap.size+1+1+1,0,none⟩)] #[]]∧Below wr.heap.size wr u) ⟨?_,?_⟩ ?_
       ·exact Blk.new _ _ _
       ·exact ak
       rintro V2 ⟨hD,hbD⟩
       have hDl:=hD.lt
       have HD:=qh hD
       have HK2:=qh (HKM.out.below hbD Bv)
       have hx2:Below w.heap.size w V2:=ae zq hbD zk
       clear hD x0 x1 x2
       obtain⟨hj0,⟨v0,st0,hI0⟩,hCO,hDO,hR6⟩:=HSM.out omA
       have HI2:=qh (hI0.next hbD)
       have HCO:=qh hCO
       have HDO:=qh hDO
       have HR6:=qh hR6
       clear hI0 hCO hDO hR6
       go_loopw [9,88] (fun vj vi wi=>vj=.int .i64 j∧vi=.int .i64 0∧V2=wi) (fun _ _ _ =>0)
       case atStart=>exact⟨rfl,rfl,rfl⟩
       obtain⟨rfl,rfl,rfl⟩:=hrel
       go_wp2_with fail
       go_roundw
       case rel =>
        (repeat apply Exists.intro)
        refine⟨?_,rfl⟩
        exact⟨1+1,j,by omega,rfl,by go_num,fun h=>by omega,fun _=>⟨hj0,⟨v0,st0,HI2.out⟩,HCO.out,HDO.out,fun h=>by omega⟩,HK2.out,hx2⟩
       case measure=>first|(simp[intOf];done)|(simp[intOf];omega)
      ·have e0:(dU ts.length o)[2]=⟨o.idx.length,16,138⟩:=rfl
       rw[e0]at x0 x1 x2
       simp only at x0 x1 x2
       clear e0
       go_upto_region 14 with (fail)
       refine ai (P:=fun u=>Code.wp _ _ _ _ u) (R:=fun u=>Blk u wr.heap.size 211 #[.int .i64 o.idx.length,.int .i64 16,.func (.func 138) #[.pointer (some ⟨w.heap.size+1+1+1,0,none⟩)] #[]]∧Below wr.heap.size wr u) ⟨?_,?_⟩ ?_
       ·exact Blk.new _ _ _
       ·exact ak
       rintro V2 ⟨hD,hbD⟩
       have hDl:=hD.lt
       have HD:=qh hD
       have HK2:=qh (HKM.out.below hbD Bv)
       have hx2:Below w.heap.size w V2:=ae zq hbD zk
       clear hD x0 x1 x2
       obtain⟨hj0,⟨v0,st0,hI0⟩,hCO,hDO,_⟩:=HSM.out omA
       have HI2:=qh (hI0.next hbD)
       have HCO:=qh hCO
       have HDO:=qh hDO
       clear hI0 hCO hDO
       simp only[mD]at hj0 HI2 HDO
       subst hj0
       go_loopw [9,88] (fun vj vi wi =>∃(i:Nat) (v:Value) (st:List Sto),i≤o.idx.length∧vj=.int .i64 ((ts.length+(i):Nat):Int)∧vi=.int .i64 i∧bY wi w.heap.size (w.heap.size+1+1+1) (w.heap.size+1) (w.heap.size+1+1) A c ts o (bF ts ts.length++o.names.take (i)) ts.length v st∧(∀q,q<i→l6 ts o q)∧Blk wi wr.heap.size 211 #[.int .i64 o.idx.length,.int .i64 16,.func (.func 138) #[.pointer (some ⟨w.heap.size+1+1+1,0,none⟩)] #[]]∧Blk wi W.heap.size 211 ((dU ts.length o).flatMap (Kd.cells (w.heap.size+1+1+1))).toArray∧Below w.heap.size w wi) (fun _ vi _=>o.idx.length-(intOf vi).toNat)
       case atStart=>exact⟨0,v0,st0,Nat.zero_le _,rfl,rfl,HI2.out,fun q hq=>HDO.out q omA,HD.out,HK2.out,hx2⟩
       case round =>
        obtain⟨i,v,st,hi,rfl,rfl,hIi,hpi,hDi,hKi,hxi⟩:=hrel
        have d2:=hDi.cell 2
        simp only[gE3]at d2
        have HIi:=qh hIi
        have HPI:=qh hpi
        have HDi:=qh hDi
        have HKi:=qh hKi
        have hiz:=hxi.size
        have hLL:Hid ((bF ts ts.length++o.names.take (i)).length≤1000):=qh cD
        clear hIi hDi hKi hpi
        by_cases hil:i<o.idx.length
        ·obtain⟨L,hL⟩:∃L,bF ts ts.length++o.names.take (i)=L:=⟨_,rfl⟩
         have HLE:=qh hL
         obtain⟨hd1,hd2,hd3⟩:=qi (ts:=ts) (Kv hil) (zK hil)
         rw[hL]at hd1 hd2 HIi hLL
         have HD1:=qh hd1
         have HD2:=qh hd2
         have HD3:=qh hd3
         obtain⟨z,hz⟩:∃z,jk L o.idx[i].name (nK ts o.idx[i])=z:=⟨_,rfl⟩
         have HZ:=qh hz
         clear hz hL hd1 hd2 hd3
         by_cases hz0:z=0
         ·subst hz0
          have HDX:Hid (l6 ts o (i)):=qh (HD1.out.1 HZ.out)
          go_wp2_with (go_at_call 138;(with_reducible refine(yG w.heap.size (w.heap.size+1+1+1) (w.heap.size+1) (w.heap.size+1+1) A c ts o L v st i _ HIi.out (HO.out.below hxi) HSO.out HS.out hil hLL.out hiz HZ.out).mono ?_);rintro e w3 ⟨⟨rfl,h3⟩,hb3⟩;obtain⟨hI3,hk3⟩:=h3 cF;have HI3:=qh hI3;have HK3:=qh hk3;clear hI3 hk3 h3)
          go_roundw
          case rel=>exact⟨i+1,v,st,by omega,by go_num,by go_num,by(have h:=HI3.out;rw[HD2.out]at h;exact h),fun q hq=>by
           rcases Nat.lt_or_ge q (i) with h1|h1
           ·exact HPI.out q h1
           ·obtain rfl:q=i:=by omega
            exact HDX.out,HK3.out _ _ _ HDi.out,HK3.out _ _ _ HKi.out,hxi.trans hb3⟩
          case measure=>exact meA
         ·have hz0':(z != 0)=true:=by simpa using hz0
          have HNZ:=qh hz0
          have HNO:Hid (¬ dD ts o):=qh fun h=>hz0 (HZ.out.symm.trans (HD1.out.2 (h.decl _ HD3.out)))
          clear hz0
          go_wp2_with (go_at_call 138;(with_reducible refine(yG w.heap.size (w.heap.size+1+1+1) (w.heap.size+1) (w.heap.size+1+1) A c ts o L v st i _ HIi.out (HO.out.below hxi) HSO.out HS.out hil hLL.out hiz HZ.out).mono ?_);rintro e w3 ⟨⟨rfl,h3⟩,hb3⟩;clear h3)
          go_ret3
          exact⟨⟨_,_,_,rfl,fun h=>absurd h HNZ.out,fun h=>absurd h HNO.out⟩,hxi.trans hb3⟩
        ·have Ls:decide (i<o.idx.length)=false:=by simpa using hil
         obtain rfl:i=o.idx.length:=by omega
         go_wp2_with fail
         go_roundw
         case rel =>
          (repeat apply Exists.intro)
          refine⟨?_,rfl⟩
          exact⟨2+1,ts.length+(o.idx.length),by omega,by go_num,by go_num,fun h=>by omega,fun _=>⟨by simp only[mD],⟨v,st,by simpa only[mD]using HIi.out⟩,HCO.out,fun q hq=>HPI.out q cG,fun h=>by omega⟩,HKi.out,hxi⟩
         case measure=>simp[intOf]
      ·have e0:(dU ts.length o)[3]=⟨o.skt.length,16,139⟩:=rfl
       rw[e0]at x0 x1 x2
       simp only at x0 x1 x2
       clear e0
       go_upto_region 14 with (fail)
       refine ai (P:=fun u=>Code.wp _ _ _ _ u) (R:=fun u=>Blk u wr.heap.size 211 #[.int .i64 o.skt.length,.int .i64 16,.func (.func 139) #[.pointer (some ⟨w.heap.size+1+1+1,0,none⟩)] #[]]∧Below wr.heap.size wr u) ⟨?_,?_⟩ ?_
       ·exact Blk.new _ _ _
       ·exact ak
       rintro V2 ⟨hD,hbD⟩
       have hDl:=hD.lt
       have HD:=qh hD
       have HK2:=qh (HKM.out.below hbD Bv)
       have hx2:Below w.heap.size w V2:=ae zq hbD zk
       clear hD x0 x1 x2
       obtain⟨hj0,⟨v0,st0,hI0⟩,hCO,hDO,_⟩:=HSM.out omA
       have HI2:=qh (hI0.next hbD)
       have HCO:=qh hCO
       have HDO:=qh hDO
       clear hI0 hCO hDO
       simp only[mD]at hj0 HI2 HDO
       subst hj0
       go_loopw [9,88] (fun vj vi wi =>∃(i:Nat) (v:Value) (st:List Sto),i≤o.skt.length∧vj=.int .i64 ((ts.length+(o.idx.length+i):Nat):Int)∧vi=.int .i64 i∧bY wi w.heap.size (w.heap.size+1+1+1) (w.heap.size+1) (w.heap.size+1+1) A c ts o (bF ts ts.length++o.names.take (o.idx.length+i)) ts.length v st∧(∀q,q<o.idx.length+i→l6 ts o q)∧Blk wi wr.heap.size 211 #[.int .i64 o.skt.length,.int .i64 16,.func (.func 139) #[.pointer (some ⟨w.heap.size+1+1+1,0,none⟩)] #[]]∧Blk wi W.heap.size 211 ((dU ts.length o).flatMap (Kd.cells (w.heap.size+1+1+1))).toArray∧Below w.heap.size w wi) (fun _ vi _=>o.skt.length-(intOf vi).toNat)
       case atStart=>exact⟨0,v0,st0,Nat.zero_le _,rfl,rfl,HI2.out,fun q hq=>HDO.out q omA,HD.out,HK2.out,hx2⟩
       case round =>
        obtain⟨i,v,st,hi,rfl,rfl,hIi,hpi,hDi,hKi,hxi⟩:=hrel
        have d2:=hDi.cell 2
        simp only[gE3]at d2
        have HIi:=qh hIi
        have HPI:=qh hpi
        have HDi:=qh hDi
        have HKi:=qh hKi
        have hiz:=hxi.size
        have hLL:Hid ((bF ts ts.length++o.names.take (o.idx.length+i)).length≤1000):=qh cD
        clear hIi hDi hKi hpi
        by_cases hil:i<o.skt.length
        ·obtain⟨L,hL⟩:∃L,bF ts ts.length++o.names.take (o.idx.length+i)=L:=⟨_,rfl⟩
         have HLE:=qh hL
         obtain⟨hd1,hd2,hd3⟩:=qi (ts:=ts) (Kt hil) (wT omA omA hil)
         rw[hL]at hd1 hd2 HIi hLL
         have HD1:=qh hd1
         have HD2:=qh hd2
         have HD3:=qh hd3
         obtain⟨z,hz⟩:∃z,jk L o.skt[i].name (cO ts o.skt[i])=z:=⟨_,rfl⟩
         have HZ:=qh hz
         clear hz hL hd1 hd2 hd3
         by_cases hz0:z=0
         ·subst hz0
          have HDX:Hid (l6 ts o (o.idx.length+i)):=qh (HD1.out.1 HZ.out)
          go_wp2_with (go_at_call 139;(with_reducible refine(vU w.heap.size (w.heap.size+1+1+1) (w.heap.size+1) (w.heap.size+1+1) A c ts o L v st i _ HIi.out (HO.out.below hxi) HSO.out HS.out hil hLL.out hiz HZ.out).mono ?_);rintro e w3 ⟨⟨rfl,h3⟩,hb3⟩;obtain⟨hI3,hk3⟩:=h3 cF;have HI3:=qh hI3;have HK3:=qh hk3;clear hI3 hk3 h3)
          go_roundw
          case rel=>exact⟨i+1,v,st,by omega,by go_num,by go_num,by(have h:=HI3.out;rw[HD2.out]at h;exact h),fun q hq=>by
           rcases Nat.lt_or_ge q (o.idx.length+i) with h1|h1
           ·exact HPI.out q h1
           ·obtain rfl:q=o.idx.length+i:=by omega
            exact HDX.out,HK3.out _ _ _ HDi.out,HK3.out _ _ _ HKi.out,hxi.trans hb3⟩
          case measure=>exact meA
         ·have hz0':(z != 0)=true:=by simpa using hz0
          have HNZ:=qh hz0
          have HNO:Hid (¬ dD ts o):=qh fun h=>hz0 (HZ.out.symm.trans (HD1.out.2 (h.decl _ HD3.out)))
          clear hz0
          go_wp2_with (go_at_call 139;(with_reducible refine(vU w.heap.size (w.heap.size+1+1+1) (w.heap.size+1) (w.heap.size+1+1) A c ts o L v st i _ HIi.out (HO.out.below hxi) HSO.out HS.out hil hLL.out hiz HZ.out).mono ?_);rintro e w3 ⟨⟨rfl,h3⟩,hb3⟩;clear h3)
          go_ret3
          exact⟨⟨_,_,_,rfl,fun h=>absurd h HNZ.out,fun h=>absurd h HNO.out⟩,hxi.trans hb3⟩
        ·have Ls:decide (i<o.skt.length)=false:=by simpa using hil
         obtain rfl:i=o.skt.length:=by omega
         go_wp2_with fail
         go_roundw
         case rel =>
          (repeat apply Exists.intro)
          refine⟨?_,rfl⟩
          exact⟨3+1,ts.length+(o.idx.length+o.skt.length),by omega,by go_num,by go_num,fun h=>by omega,fun _=>⟨by simp only[mD],⟨v,st,by simpa only[mD]using HIi.out⟩,HCO.out,fun q hq=>HPI.out q cG,fun h=>by omega⟩,HKi.out,hxi⟩
         case measure=>simp[intOf]
      ·have e0:(dU ts.length o)[4]=⟨o.cch.length,16,140⟩:=rfl
       rw[e0]at x0 x1 x2
       simp only at x0 x1 x2
       clear e0
       go_upto_region 14 with (fail)
       refine ai (P:=fun u=>Code.wp _ _ _ _ u) (R:=fun u=>Blk u wr.heap.size 211 #[.int .i64 o.cch.length,.int .i64 16,.func (.func 140) #[.pointer (some ⟨w.heap.size+1+1+1,0,none⟩)] #[]]∧Below wr.heap.size wr u) ⟨?_,?_⟩ ?_
       ·exact Blk.new _ _ _
       ·exact ak
       rintro V2 ⟨hD,hbD⟩
       have hDl:=hD.lt
       have HD:=qh hD
       have HK2:=qh (HKM.out.below hbD Bv)
       have hx2:Below w.heap.size w V2:=ae zq hbD zk
       clear hD x0 x1 x2
       obtain⟨hj0,⟨v0,st0,hI0⟩,hCO,hDO,_⟩:=HSM.out omA
       have HI2:=qh (hI0.next hbD)
       have HCO:=qh hCO
       have HDO:=qh hDO
       clear hI0 hCO hDO
       simp only[mD]at hj0 HI2 HDO
       subst hj0
       go_loopw [9,88] (fun vj vi wi =>∃(i:Nat) (v:Value) (st:List Sto),i≤o.cch.length∧vj=.int .i64 ((ts.length+(o.idx.length+o.skt.length+i):Nat):Int)∧vi=.int .i64 i∧bY wi w.heap.size (w.heap.size+1+1+1) (w.heap.size+1) (w.heap.size+1+1) A c ts o (bF ts ts.length++o.names.take (o.idx.length+o.skt.length+i)) ts.length v st∧(∀q,q<o.idx.length+o.skt.length+i→l6 ts o q)∧Blk wi wr.heap.size 211 #[.int .i64 o.cch.length,.int .i64 16,.func (.func 140) #[.pointer (some ⟨w.heap.size+1+1+1,0,none⟩)] #[]]∧Blk wi W.heap.size 211 ((dU ts.length o).flatMap (Kd.cells (w.heap.size+1+1+1))).toArray∧Below w.heap.size w wi) (fun _ vi _=>o.cch.length-(intOf vi).toNat)
       case atStart=>exact⟨0,v0,st0,Nat.zero_le _,rfl,rfl,HI2.out,fun q hq=>HDO.out q omA,HD.out,HK2.out,hx2⟩
       case round =>
        obtain⟨i,v,st,hi,rfl,rfl,hIi,hpi,hDi,hKi,hxi⟩:=hrel
        have d2:=hDi.cell 2
        simp only[gE3]at d2
        have HIi:=qh hIi
        have HPI:=qh hpi
        have HDi:=qh hDi
        have HKi:=qh hKi
        have hiz:=hxi.size
        have hLL:Hid ((bF ts ts.length++o.names.take (o.idx.length+o.skt.length+i)).length≤1000):=qh cD
        clear hIi hDi hKi hpi
        by_cases hil:i<o.cch.length
        ·obtain⟨L,hL⟩:∃L,bF ts ts.length++o.names.take (o.idx.length+o.skt.length+i)=L:=⟨_,rfl⟩
         have HLE:=qh hL
         obtain⟨hd1,hd2,hd3⟩:=qi (ts:=ts) (Kw hil) (wU omA omA omA hil)
         rw[hL]at hd1 hd2 HIi hLL
         have HD1:=qh hd1
         have HD2:=qh hd2
         have HD3:=qh hd3
         obtain⟨z,hz⟩:∃z,jk L o.cch[i].name (mE ts o.cch[i])=z:=⟨_,rfl⟩
         have HZ:=qh hz
         clear hz hL hd1 hd2 hd3
         by_cases hz0:z=0
         ·subst hz0
          have HDX:Hid (l6 ts o (o.idx.length+o.skt.length+i)):=qh (HD1.out.1 HZ.out)
          go_wp2_with (go_at_call 140;(with_reducible refine(yH w.heap.size (w.heap.size+1+1+1) (w.heap.size+1) (w.heap.size+1+1) A c ts o L v st i _ HIi.out (HO.out.below hxi) HSO.out HS.out hil hLL.out hiz HZ.out).mono ?_);rintro e w3 ⟨⟨rfl,h3⟩,hb3⟩;obtain⟨hI3,hk3⟩:=h3 cF;have HI3:=qh hI3;have HK3:=qh hk3;clear hI3 hk3 h3)
          go_roundw
          case rel=>exact⟨i+1,v,st,by omega,by go_num,by go_num,by(have h:=HI3.out;rw[HD2.out]at h;exact h),fun q hq=>by
           rcases Nat.lt_or_ge q (o.idx.length+o.skt.length+i) with h1|h1
           ·exact HPI.out q h1
           ·obtain rfl:q=o.idx.length+o.skt.length+i:=by omega
            exact HDX.out,HK3.out _ _ _ HDi.out,HK3.out _ _ _ HKi.out,hxi.trans hb3⟩
          case measure=>exact meA
         ·have hz0':(z != 0)=true:=by simpa using hz0
          have HNZ:=qh hz0
          have HNO:Hid (¬ dD ts o):=qh fun h=>hz0 (HZ.out.symm.trans (HD1.out.2 (h.decl _ HD3.out)))
          clear hz0
          go_wp2_with (go_at_call 140;(with_reducible refine(yH w.heap.size (w.heap.size+1+1+1) (w.heap.size+1) (w.heap.size+1+1) A c ts o L v st i _ HIi.out (HO.out.below hxi) HSO.out HS.out hil hLL.out hiz HZ.out).mono ?_);rintro e w3 ⟨⟨rfl,h3⟩,hb3⟩;clear h3)
          go_ret3
          exact⟨⟨_,_,_,rfl,fun h=>absurd h HNZ.out,fun h=>absurd h HNO.out⟩,hxi.trans hb3⟩
        ·have Ls:decide (i<o.cch.length)=false:=by simpa using hil
         obtain rfl:i=o.cch.length:=by omega
         go_wp2_with fail
         go_roundw
         case rel =>
          (repeat apply Exists.intro)
          refine⟨?_,rfl⟩
          exact⟨4+1,ts.length+(o.idx.length+o.skt.length+o.cch.length),by omega,by go_num,by go_num,fun h=>by omega,fun _=>⟨by simp only[mD],⟨v,st,by simpa only[mD]using HIi.out⟩,HCO.out,fun q hq=>HPI.out q cG,fun h=>by omega⟩,HKi.out,hxi⟩
         case measure=>simp[intOf]
      ·have e0:(dU ts.length o)[5]=⟨o.rel.length,16,141⟩:=rfl
       rw[e0]at x0 x1 x2
       simp only at x0 x1 x2
       clear e0
       go_upto_region 14 with (fail)
       refine ai (P:=fun u=>Code.wp _ _ _ _ u) (R:=fun u=>Blk u wr.heap.size 211 #[.int .i64 o.rel.length,.int .i64 16,.func (.func 141) #[.pointer (some ⟨w.heap.size+1+1+1,0,none⟩)] #[]]∧Below wr.heap.size wr u) ⟨?_,?_⟩ ?_
       ·exact Blk.new _ _ _
       ·exact ak
       rintro V2 ⟨hD,hbD⟩
       have hDl:=hD.lt
       have HD:=qh hD
       have HK2:=qh (HKM.out.below hbD Bv)
       have hx2:Below w.heap.size w V2:=ae zq hbD zk
       clear hD x0 x1 x2
       obtain⟨hj0,⟨v0,st0,hI0⟩,hCO,hDO,_⟩:=HSM.out omA
       have HI2:=qh (hI0.next hbD)
       have HCO:=qh hCO
       have HDO:=qh hDO
       clear hI0 hCO hDO
       simp only[mD]at hj0 HI2 HDO
       subst hj0
       go_loopw [9,88] (fun vj vi wi =>∃(i:Nat) (v:Value) (st:List Sto),i≤o.rel.length∧vj=.int .i64 ((ts.length+(o.idx.length+o.skt.length+o.cch.length+i):Nat):Int)∧vi=.int .i64 i∧bY wi w.heap.size (w.heap.size+1+1+1) (w.heap.size+1) (w.heap.size+1+1) A c ts o (bF ts ts.length++o.names.take (o.idx.length+o.skt.length+o.cch.length+i)) ts.length v st∧(∀q,q<o.idx.length+o.skt.length+o.cch.length+i→l6 ts o q)∧Blk wi wr.heap.size 211 #[.int .i64 o.rel.length,.int .i64 16,.func (.func 141) #[.pointer (some ⟨w.heap.size+1+1+1,0,none⟩)] #[]]∧Blk wi W.heap.size 211 ((dU ts.length o).flatMap (Kd.cells (w.heap.size+1+1+1))).toArray∧Below w.heap.size w wi) (fun _ vi _=>o.rel.length-(intOf vi).toNat)
       case atStart=>exact⟨0,v0,st0,Nat.zero_le _,rfl,rfl,HI2.out,fun q hq=>HDO.out q omA,HD.out,HK2.out,hx2⟩
       case round =>
        obtain⟨i,v,st,hi,rfl,rfl,hIi,hpi,hDi,hKi,hxi⟩:=hrel
        have d2:=hDi.cell 2
        simp only[gE3]at d2
        have HIi:=qh hIi
        have HPI:=qh hpi
        have HDi:=qh hDi
        have HKi:=qh hKi
        have hiz:=hxi.size
        have hLL:Hid ((bF ts ts.length++o.names.take (o.idx.length+o.skt.length+o.cch.length+i)).length≤1000):=qh cD
        clear hIi hDi hKi hpi
        by_cases hil:i<o.rel.length
        ·obtain⟨L,hL⟩:∃L,bF ts ts.length++o.names.take (o.idx.length+o.skt.length+o.cch.length+i)=L:=⟨_,rfl⟩
         have HLE:=qh hL
         obtain⟨hd1,hd2,hd3⟩:=qi (ts:=ts) (Ku hil) (mK omA omA omA)
         rw[hL]at hd1 hd2 HIi hLL
         have HD1:=qh hd1
         have HD2:=qh hd2
         have HD3:=qh hd3
         obtain⟨z,hz⟩:∃z,jk L o.rel[i].name (7)=z:=⟨_,rfl⟩
         have HZ:=qh hz
         clear hz hL hd1 hd2 hd3
         by_cases hz0:z=0
         ·exact absurd ((HD1.out.1 (HZ.out.trans hz0)).err.symm.trans (mK omA omA omA)) (by decide)
         ·have hz0':(z != 0)=true:=by simpa using hz0
          have HNZ:=qh hz0
          have HNO:Hid (¬ dD ts o):=qh fun h=>hz0 (HZ.out.symm.trans (HD1.out.2 (h.decl _ HD3.out)))
          clear hz0
          go_wp2_with (go_at_call 141;(with_reducible refine(BH w.heap.size (w.heap.size+1+1+1) (w.heap.size+1) (w.heap.size+1+1) A c ts o L v st i _ HIi.out (HO.out.below hxi) HSO.out HS.out hil hLL.out hiz HZ.out).mono ?_);rintro e w3 ⟨⟨rfl,h3⟩,hb3⟩;clear h3)
          go_ret3
          exact⟨⟨_,_,_,rfl,fun h=>absurd h HNZ.out,fun h=>absurd h HNO.out⟩,hxi.trans hb3⟩
        ·have Ls:decide (i<o.rel.length)=false:=by simpa using hil
         have HE0:Hid (o.rel.length=0):=qh (by
          rcases Nat.eq_zero_or_pos o.rel.length with h0|h0
          ·exact h0
          ·exfalso
           have h1:=(HPI.out (o.idx.length+o.skt.length+o.cch.length) omA).err
           rw[mK omA omA omA]at h1
           cases h1)
         obtain rfl:i=o.rel.length:=by omega
         go_wp2_with fail
         go_roundw
         case rel =>
          (repeat apply Exists.intro)
          refine⟨?_,rfl⟩
          exact⟨5+1,ts.length+(o.idx.length+o.skt.length+o.cch.length),by omega,(by congr 1;have:=HE0.out;omega),by go_num,fun h=>by omega,fun _=>⟨by simp only[mD],⟨v,st,by have h:=HIi.out;rw[HE0.out]at h;exact h⟩,HCO.out,fun q hq=>HPI.out q (by simp only[mD]at hq;omega),fun _=>HE0.out⟩,HKi.out,hxi⟩
         case measure=>simp[intOf]
      ·have e0:(dU ts.length o)[6]=⟨o.str.length,16,142⟩:=rfl
       rw[e0]at x0 x1 x2
       simp only at x0 x1 x2
       clear e0
       go_upto_region 14 with (fail)
       refine ai (P:=fun u=>Code.wp _ _ _ _ u) (R:=fun u=>Blk u wr.heap.size 211 #[.int .i64 o.str.length,.int .i64 16,.func (.func 142) #[.pointer (some ⟨w.heap.size+1+1+1,0,none⟩)] #[]]∧Below wr.heap.size wr u) ⟨?_,?_⟩ ?_
       ·exact Blk.new _ _ _
       ·exact ak
       rintro V2 ⟨hD,hbD⟩
       have hDl:=hD.lt
       have HD:=qh hD
       have HK2:=qh (HKM.out.below hbD Bv)
       have hx2:Below w.heap.size w V2:=ae zq hbD zk
       clear hD x0 x1 x2
       obtain⟨hj0,⟨v0,st0,hI0⟩,hCO,hDO,hR6⟩:=HSM.out omA
       have HI2:=qh (hI0.next hbD)
       have HCO:=qh hCO
       have HDO:=qh hDO
       have HR6:=qh hR6
       have hz:=H16.out.back (hR6 omA)
       have hzn:o.str.length=0:=hz.1
       have hzd:decide ((0:Int)<(o.str.length:Int))=false:=decide_eq_false omA
       clear hz
       clear hI0 hCO hDO hR6
       go_loopw [9,88] (fun vj vi wi=>vj=.int .i64 j∧vi=.int .i64 0∧V2=wi) (fun _ _ _ =>0)
       case atStart=>exact⟨rfl,rfl,rfl⟩
       obtain⟨rfl,rfl,rfl⟩:=hrel
       go_wp2_with fail
       go_roundw
       case rel =>
        (repeat apply Exists.intro)
        refine⟨?_,rfl⟩
        exact⟨6+1,j,by omega,rfl,by go_num,fun h=>by omega,fun _=>⟨hj0,⟨v0,st0,HI2.out⟩,HCO.out,HDO.out,fun _=>HR6.out omA⟩,HK2.out,hx2⟩
       case measure=>first|(simp[intOf];done)|(simp[intOf];omega)
      ·have e0:(dU ts.length o)[7]=⟨o.bak.length,16,143⟩:=rfl
       rw[e0]at x0 x1 x2
       simp only at x0 x1 x2
       clear e0
       go_upto_region 14 with (fail)
       refine ai (P:=fun u=>Code.wp _ _ _ _ u) (R:=fun u=>Blk u wr.heap.size 211 #[.int .i64 o.bak.length,.int .i64 16,.func (.func 143) #[.pointer (some ⟨w.heap.size+1+1+1,0,none⟩)] #[]]∧Below wr.heap.size wr u) ⟨?_,?_⟩ ?_
       ·exact Blk.new _ _ _
       ·exact ak
       rintro V2 ⟨hD,hbD⟩
       have hDl:=hD.lt
       have HD:=qh hD
       have HK2:=qh (HKM.out.below hbD Bv)
       have hx2:Below w.heap.size w V2:=ae zq hbD zk
       clear hD x0 x1 x2
       obtain⟨hj0,⟨v0,st0,hI0⟩,hCO,hDO,hR6⟩:=HSM.out omA
       have HI2:=qh (hI0.next hbD)
       have HCO:=qh hCO
       have HDO:=qh hDO
       have HR6:=qh hR6
       have hz:=H16.out.back (hR6 omA)
       have hzn:o.bak.length=0:=hz.2
       have hzd:decide ((0:Int)<(o.bak.length:Int))=false:=decide_eq_false omA
       clear hz
       clear hI0 hCO hDO hR6
       go_loopw [9,88] (fun vj vi wi=>vj=.int .i64 j∧vi=.int .i64 0∧V2=wi) (fun _ _ _ =>0)
       case atStart=>exact⟨rfl,rfl,rfl⟩
       obtain⟨rfl,rfl,rfl⟩:=hrel
       go_wp2_with fail
       go_roundw
       case rel =>
        (repeat apply Exists.intro)
        refine⟨?_,rfl⟩
        exact⟨7+1,j,by omega,rfl,by go_num,fun h=>by omega,fun _=>⟨hj0,⟨v0,st0,HI2.out⟩,HCO.out,HDO.out,fun _=>HR6.out omA⟩,HK2.out,hx2⟩
       case measure=>first|(simp[intOf];done)|(simp[intOf];omega)
     ·have hlt':decide (m<8)=false:=by simpa using hlt
      obtain⟨hj0,_,hCO,hDO,hR6⟩:=HSM.out omA
      have iV:Hid (dD ts o):=qh ⟨hCO,fun q hq=>hDO q (by
       have h0:=hR6 omA
       have h1:=H16.out.back h0
       rw[zS]at hq
       obtain rfl:m=8:=by omega
       simp only[mD]
       omega)⟩
      clear hCO hDO hR6 hj0
      go_wp2_with fail
      go_ret3
      exact⟨⟨_,_,_,rfl,fun _=>iV.out,fun _=>rfl⟩,zq⟩
theorem xP(w:World):CallsD Tryz.prog 88 #[] .returning w fun e u' w'=>e=.returned (.tuple #[])∧u'=.returning∧w'=w:=by
 refine callsD_of_wpS Tryz.func88 rfl fun c₀ cs hu =>?_
 apply wpS_region
 cases c₀
 simp_all[wpOpsS,go_sem,recoverD,Tryz.ntmps88,bodyPostS,results,Tryz.results88]
theorem yJ(A:Option Addr)(c m:Nat)(ts:List Tab)(o:Oth)(w:World)(ht:aJ w w.heap.size A ts)(hm:ts.length=m)(hs:aI ts)(ho:bL w w.heap.size o)(hso:dN o)(h16:gV o){r:Bool}(hr:pb (dD ts o)=r):
 Calls Tryz.prog 48 #[.agg #[.slice A m c,.slice o.vA 0 o.vc,.slice o.iA o.idx.length o.ic,.slice o.sA o.skt.length o.sc,.slice o.cA o.cch.length o.cc,.slice o.rA o.rel.length o.rc,.slice o.tA o.str.length o.tc,.slice o.bA o.bak.length o.bc]] w fun e w'=>e=.returned (.bool r)∧Below w.heap.size w w':=by
 have HT:=qh ht
 have HS:=qh hs
 have HO:=qh ho
 have HR:=qh hr
 clear ht hs ho hr
 go_enter_defers Tryz.func48,Tryz.ntmps48
 go_wp2_with (go_at_call 89;(with_reducible refine(FH A c m ts o _ (HT.out.next ak) hm HS.out (HO.out.next ak) hso h16).mono ?_);rintro e w1 ⟨⟨p,q,z,rfl,hz⟩,hb1⟩;have HZ:=qh hz;clear hz;have hx1:Below w.heap.size w w1:=ae ak hb1 leA)
 refine leaves_cons (f:= 88) (args:= #[]) spA (by simp[go_sem]) ?_;refine(xP _).mono ?_;rintro e u' w'' ⟨rfl,rfl,rfl⟩;refine⟨_,results_tmp rfl _ _ _,?_⟩
 refine⟨ay ?_,hx1⟩
 rw[←HR.out,Bool.eq_iff_iff,iH,←HZ.out]
 simp
open Go.RowKit Go
structure dZ (w:World) (B:Nat) (A:Option Addr) (c:Nat) (ts:List Tab) (o:Oth):Prop where
 prog:∀u,Below B w u→Calls Tryz.prog 48 #[.agg #[.slice A ts.length c,.slice o.vA 0 o.vc,.slice o.iA o.idx.length o.ic,.slice o.sA o.skt.length o.sc,.slice o.cA o.cch.length o.cc,.slice o.rA o.rel.length o.rc,.slice o.tA o.str.length o.tc,.slice o.bA o.bak.length o.bc]] u fun e u'=>e=.returned (.bool true)∧Below u.heap.size u u'
 ref:∀u,Below B w u→Calls Tryz.prog 37 #[.agg #[.slice A ts.length c,.slice o.vA 0 o.vc,.slice o.iA o.idx.length o.ic,.slice o.sA o.skt.length o.sc,.slice o.cA o.cch.length o.cc,.slice o.rA o.rel.length o.rc,.slice o.tA o.str.length o.tc,.slice o.bA o.bak.length o.bc]] u fun e u'=>e=.returned (.bool true)∧Below u.heap.size u u'
 fnd:∀(s:ByteArray) (k:Int) (u:World),Below B w u→Calls Tryz.prog 167 #[.agg #[.slice A ts.length c,.slice o.vA 0 o.vc,.slice o.iA o.idx.length o.ic,.slice o.sA o.skt.length o.sc,.slice o.cA o.cch.length o.cc,.slice o.rA o.rel.length o.rc,.slice o.tA o.str.length o.tc,.slice o.bA o.bak.length o.bc],.string s,.int .i64 k] u fun e u'=>e=.returned (.int .i64 (gU (ts.map Tab.name) s k))∧Below u.heap.size u u'
theorem dZ.below{w w':World}{B:Nat}{A:Option Addr}{c:Nat}{ts:List Tab}{o:Oth}(h:dZ w B A c ts o)(hb:Below B w w'):dZ w' B A c ts o:=
 ⟨fun u hu=>h.prog u (hb.trans hu),fun u hu=>h.ref u (hb.trans hu),fun s k u hu=>h.fnd s k u (hb.trans hu)⟩
theorem dZ.mono{w:World}{B B':Nat}{A:Option Addr}{c:Nat}{ts:List Tab}{o:Oth}(h:dZ w B A c ts o)(hB:B≤B'):dZ w B' A c ts o:=
 ⟨fun u hu=>h.prog u (hu.mono hB),fun u hu=>h.ref u (hu.mono hB),fun s k u hu=>h.fnd s k u (hu.mono hB)⟩
theorem dZ.next{w w':World}{A:Option Addr}{c:Nat}{ts:List Tab}{o:Oth}(h:dZ w w.heap.size A c ts o)(hb:Below w.heap.size w w'):dZ w' w'.heap.size A c ts o:=(h.below hb).mono hb.size
abbrev Oth.nil:Oth:=⟨none,0,none,0,[],none,0,[],none,0,[],none,0,[],none,0,[],none,0,[]⟩
open Go.RowKit Go
theorem dZ.of{w:World}{A:Option Addr}{c:Nat}{ts:List Tab}{o:Oth}(ht:aJ w w.heap.size A ts)(hs:aI ts)(ho:bL w w.heap.size o)(hso:dN o)(h16:gV o)(hok:dD ts o):dZ w w.heap.size A c ts o:=
 ⟨fun u hu=>yJ A c ts.length ts o u (ht.next hu) rfl hs (ho.next hu) hso h16 (aU hok),fun u hu=>nE A c ts.length ts o u (ht.next hu) rfl hs (ho.next hu) hso h16 (aU hok),fun s k u hu=>lN A c ts.length ts s k o u (ah.next ht.1 hu) (ho.next hu) hso rfl hs.len rfl⟩
theorem dZ.no{w:World}{A:Option Addr}{c:Nat}{ts:List Tab}{o:Oth}(ht:aJ w w.heap.size A ts)(hs:aI ts)(ho:bL w w.heap.size o)(hso:dN o)(h16:gV o)(hok:¬ dD ts o)(u:World)(hu:Below w.heap.size w u):
 (Calls Tryz.prog 48 #[.agg #[.slice A ts.length c,.slice o.vA 0 o.vc,.slice o.iA o.idx.length o.ic,.slice o.sA o.skt.length o.sc,.slice o.cA o.cch.length o.cc,.slice o.rA o.rel.length o.rc,.slice o.tA o.str.length o.tc,.slice o.bA o.bak.length o.bc]] u fun e u'=>e=.returned (.bool false)∧Below u.heap.size u u')∧(Calls Tryz.prog 37 #[.agg #[.slice A ts.length c,.slice o.vA 0 o.vc,.slice o.iA o.idx.length o.ic,.slice o.sA o.skt.length o.sc,.slice o.cA o.cch.length o.cc,.slice o.rA o.rel.length o.rc,.slice o.tA o.str.length o.tc,.slice o.bA o.bak.length o.bc]] u fun e u'=>e=.returned (.bool false)∧Below u.heap.size u u'):=
 ⟨yJ A c ts.length ts o u (ht.next hu) rfl hs (ho.next hu) hso h16 (aM hok),nE A c ts.length ts o u (ht.next hu) rfl hs (ho.next hu) hso h16 (aM hok)⟩
theorem bL.nil(w:World)(B:Nat):bL w B Oth.nil:=⟨ah.nil,ah.nil,ah.nil,ah.nil,ah.nil,ah.nil⟩
theorem dN.nil:dN Oth.nil:=⟨by decide,by decide,by decide,by decide,by decide,by decide,fun x hx=>cH,fun x hx=>cH,fun x hx=>cH,fun x hx=>cH,fun x hx=>cH⟩
theorem gV.nil:gV Oth.nil:=⟨by decide,by decide,by decide,by decide,by decide,by decide,fun _=>⟨rfl,rfl⟩⟩
theorem dD.nil{ts:List Tab}(h:aV ts):dD ts Oth.nil:=⟨h,fun j hj=>(by cases hj)⟩
theorem dZ.nil{w:World}{A:Option Addr}{c:Nat}{ts:List Tab}(ht:aJ w w.heap.size A ts)(hs:aI ts)(hok:aV ts):dZ w w.heap.size A c ts Oth.nil:=dZ.of ht hs (bL.nil _ _) dN.nil gV.nil (dD.nil hok)
open Go.RowKit Go
variable {o:Oth}
theorem oN(A:Option Addr)(c m:Nat)(ts:List Tab)(s:ByteArray)(w:World)(ht:aJ w w.heap.size A ts)(hm:ts.length=m)(hs:aI ts)(hg:dZ w w.heap.size A c ts o){r:Int}(hr:gU (ts.map Tab.name) s ts.length=r):
 Calls Tryz.prog 120 #[.agg #[.slice A m c,.slice o.vA 0 o.vc,.slice o.iA o.idx.length o.ic,.slice o.sA o.skt.length o.sc,.slice o.cA o.cch.length o.cc,.slice o.rA o.rel.length o.rc,.slice o.tA o.str.length o.tc,.slice o.bA o.bak.length o.bc],.string s] w fun e w'=>e=.returned (.int .i64 r)∧Below w.heap.size w w':=by
 subst hm hr
 have hlen:=hs.len
 have HT:=qh ht
 have HT1:=qh ht.1
 have HS:=qh hs
 have HG:=qh hg
 clear ht hs hg
 go_enter Tryz.func120,Tryz.ntmps120
 go_wp2_with fail
 (with_reducible refine(HG.out.ref _ ak).mono ?_)
 rintro e w1 ⟨rfl,hb1⟩
 have hx1:Below w.heap.size w w1:=ae ak hb1 leA
 obtain⟨k1,_,_⟩:=bV hb1 w.heap.size ltA
 go_wp2_with fail
 (with_reducible refine(HG.out.fnd s _ _ hx1).mono ?_)
 rintro e w2 ⟨rfl,hb2⟩
 go_wp2_with fail
 go_ret
 exact⟨rfl,ae hx1 hb2 hx1.size⟩
theorem oM(A:Option Addr)(c m:Nat)(ts:List Tab)(n:Int)(w:World)(ht:aJ w w.heap.size A ts)(hm:ts.length=m)(hs:aI ts)(hg:dZ w w.heap.size A c ts o){r:Bool}(hr:aD n 0 ((ts.length:Int)-1)=r):
 Calls Tryz.prog 245 #[.agg #[.slice A m c,.slice o.vA 0 o.vc,.slice o.iA o.idx.length o.ic,.slice o.sA o.skt.length o.sc,.slice o.cA o.cch.length o.cc,.slice o.rA o.rel.length o.rc,.slice o.tA o.str.length o.tc,.slice o.bA o.bak.length o.bc],.int .i64 n] w fun e w'=>e=.returned (.bool r)∧Below w.heap.size w w':=by
 subst hm hr
 have hlen:=hs.len
 have HT:=qh ht
 have HS:=qh hs
 have HG:=qh hg
 clear ht hs hg
 obtain⟨r1,hr1⟩:∃r,aD n 0 ((ts.length:Int)-1)=r:=⟨_,rfl⟩
 rw[hr1]
 have HR:=qh hr1
 clear hr1
 cases r1
 ·go_enter Tryz.func245,Tryz.ntmps245
  go_wp2_with (go_at_call 172;(with_reducible refine(aG n 0 _ _ HR.out).mono ?_);rintro e w1 ⟨rfl,rfl⟩)
  go_ret
  exact⟨rfl,by exact ak⟩
 ·go_enter Tryz.func245,Tryz.ntmps245
  go_wp2_with (first
   | (go_at_call 172;(with_reducible refine(aG n 0 _ _ HR.out).mono ?_);rintro e w1 ⟨rfl,rfl⟩)
   | (go_at_call 37;(with_reducible refine(HG.out.ref _ ak).mono ?_);rintro e w1 ⟨rfl,hb1⟩))
  go_ret
  exact⟨rfl,ae ak hb1 leA⟩
theorem xe(A:Option Addr)(c m:Nat)(ts:List Tab)(n:Int)(w:World)(ht:aJ w w.heap.size A ts)(hm:ts.length=m)(hs:aI ts)(hg:dZ w w.heap.size A c ts o){r:Bool}(hr:aD n 0 ((ts.length:Int)-1)=r):
 Calls Tryz.prog 214 #[.agg #[.slice A m c,.slice o.vA 0 o.vc,.slice o.iA o.idx.length o.ic,.slice o.sA o.skt.length o.sc,.slice o.cA o.cch.length o.cc,.slice o.rA o.rel.length o.rc,.slice o.tA o.str.length o.tc,.slice o.bA o.bak.length o.bc],.int .i64 n] w fun e w'=>e=.returned (.bool r)∧Below w.heap.size w w':=by
 subst hm
 have HT:=qh ht
 have HS:=qh hs
 have HR:=qh hr
 have HG:=qh hg
 clear ht hs hr hg
 cases r
 ·go_enter Tryz.func214,Tryz.ntmps214
  go_wp2_with (go_at_call 245;(with_reducible refine(oM A c ts.length ts n _ (HT.out.next ak) rfl HS.out (HG.out.next ak) HR.out).mono ?_);rintro e w1 ⟨rfl,hb1⟩)
  go_ret
  exact⟨rfl,ae ak hb1 leA⟩
 ·have hn:decide (n<(ts.length:Int))=true:=by
   have h:=HR.out
   simp only[aD,Bool.and_eq_true,decide_eq_true_eq]at h
   simp
   omega
  go_enter Tryz.func214,Tryz.ntmps214
  go_wp2_with (go_at_call 245;(with_reducible refine(oM A c ts.length ts n _ (HT.out.next ak) rfl HS.out (HG.out.next ak) HR.out).mono ?_);rintro e w1 ⟨rfl,hb1⟩;obtain⟨k1,_,_⟩:=bV hb1 w.heap.size ltA)
  go_ret
  exact⟨rfl,ae ak hb1 leA⟩
theorem Aw(A:Option Addr)(c m:Nat)(ts:List Tab)(n:Nat)(af:List Col)(w:World)(ht:aJ w w.heap.size A ts)(hm:ts.length=m)(hs:aI ts)(hok:aV ts)(hg:dZ w w.heap.size A c ts o)(hn:n<ts.length)(hcs:ts[n].af=af):
 Calls Tryz.prog 152 #[.agg #[.slice A m c,.slice o.vA 0 o.vc,.slice o.iA o.idx.length o.ic,.slice o.sA o.skt.length o.sc,.slice o.cA o.cch.length o.cc,.slice o.rA o.rel.length o.rc,.slice o.tA o.str.length o.tc,.slice o.bA o.bak.length o.bc],.int .i64 n] w fun e w'=>(∃A' c' out,e=.returned (.slice A' out.length c')∧out.length≤c'∧ah w' w'.heap.size intCells 1 A' out∧jD [0] af [] out)∧Below w.heap.size w w':=by
 subst hm
 have h8:af.length≤8:=by rw[←hcs];exact(hok.af hn).2
 have Mc:∀x∈af,x.own.length≤100:=fun x hx=>by have:=hok.Gn hn (x:=x) (by rw[hcs];exact hx);omega
 have hT0:=ht
 obtain⟨b5,o5,rfl,hb5,hc5⟩:=ht.1.get hn
 obtain⟨t0,t1,t2,t3⟩:=Tab.fe hc5
 have hcn:=ht.2 ts[n] (lgm hn)
 rw[hcs]at t1 hcn
 obtain⟨TA,hTA⟩:∃a,ts[n].A=a:=⟨_,rfl⟩
 obtain⟨tc,htc⟩:∃a,ts[n].cap=a:=⟨_,rfl⟩
 rw[hTA]at hcn t1
 rw[htc]at t1
 have hr:aD (n:Int) 0 ((ts.length:Int)-1)=true:=by
  rw[aD,Bool.and_eq_true,decide_eq_true_iff,decide_eq_true_iff]
  omega
 have HT:=qh hT0
 have HS:=qh hs
 have HR:=qh hr
 have HG:=qh hg
 have HC:=qh hcn
 have HL:=qh Mc
 clear ht hc5 t0 t2 t3 hcn hcs Mc hTA htc hT0 hs hok hr hg
 go_enter Tryz.func152,Tryz.ntmps152
 go_wp2_with fail
 (with_reducible refine(xe _ c ts.length ts n _ (HT.out.next ak) rfl HS.out (HG.out.next ak) HR.out).mono ?_)
 rintro e w1 ⟨rfl,hb1⟩
 have hx1:Below w.heap.size w w1:=ae ak hb1 leA
 have hB1:Blk w1 w.heap.size 39 #[.slice (some ⟨b5,o5,none⟩) ts.length c,.slice o.vA 0 o.vc,.slice o.iA o.idx.length o.ic,.slice o.sA o.skt.length o.sc,.slice o.cA o.cch.length o.cc,.slice o.rA o.rel.length o.rc,.slice o.tA o.str.length o.tc,.slice o.bA o.bak.length o.bc]:=(Blk.new _ _ _).below hb1 spA
 clear hb1
 go_upto_region 4 with (fail)
 refine ai (P:=fun u=>Code.wp _ _ _ _ u) (R:=fun u=>Blk u w.heap.size 39 #[.slice (some ⟨b5,o5,none⟩) ts.length c,.slice o.vA 0 o.vc,.slice o.iA o.idx.length o.ic,.slice o.sA o.skt.length o.sc,.slice o.cA o.cch.length o.cc,.slice o.rA o.rel.length o.rc,.slice o.tA o.str.length o.tc,.slice o.bA o.bak.length o.bc]∧Blk u w1.heap.size 3 #[.int .i64 0]∧Below w.heap.size w u) ⟨?_,?_,?_⟩ ?_
 ·exact hB1.alloc _
 ·exact Blk.new _ _ _
 ·exact hx1.alloc hx1.size _
 rintro W ⟨hB,hB2,hbW⟩
 have t1:=((bV hbW b5 hb5).1 _).trans t1
 have hzW:=hB.lt
 have HB:=qh hB
 have HZ:=qh (Blk.one (enc:=intCells) (k:= 1) (x:=(0:Int)) hB2 hB2.lt)
 clear hB hB1 hB2 hx1
 go_wp2_with fail
 have hstart:∃(m:Nat) (A2:Option Addr) (c2:Nat) (out:List Int),m≤af.length∧Value.int .i64 0=.int .i64 m∧Value.slice (some ⟨w1.heap.size,0,none⟩) 1 1=.slice A2 out.length c2∧out.length≤c2∧ah W W.heap.size intCells 1 A2 out∧jD [0] (af.take m) [] out∧out.length≤100*m+1∧Below W.heap.size W W:=⟨0,_,1,[0],Nat.zero_le _,rfl,rfl,by simp,HZ.out,⟨by simp,by simp⟩,by simp,Below.refl _ _⟩
 go_loopw [5,6] (fun vl vi wr =>∃(m:Nat) (A2:Option Addr) (c2:Nat) (out:List Int),m≤af.length∧vi=.int .i64 m∧vl=.slice A2 out.length c2∧out.length≤c2∧ah wr wr.heap.size intCells 1 A2 out∧jD [0] (af.take m) [] out∧out.length≤100*m+1∧Below W.heap.size W wr) (fun _ vi _=>af.length-(intOf vi).toNat)
 case atStart=>exact hstart
 case round =>
  obtain⟨m,A2,c2,out,hm,rfl,rfl,hcap,hso,hot,hol,hbr⟩:=hrel
  have hwz:=hbr.size
  have hxr:=ae hbW hbr hbW.size
  obtain⟨p0,p1,p2,p3,p4,p5,p6,p7⟩:=Cat.aZ (HB.out.below hbr hzW)
  have t1':=((bV hbr b5 omA).1 _).trans t1
  have HSO:=qh hso
  have HOT:=qh hot
  clear hso hot
  by_cases hlt:m<af.length
  ·obtain⟨b6,o6,rfl,hb6,hc6⟩:=(HC.out.1.below hxr).get hlt
   obtain⟨_,_,_,_,c4,_,_⟩:=Col.dK hc6
   have hio:=HC.out.2 af[m] (lgm hlt)
   have Mc:=HL.out af[m] (lgm hlt)
   obtain⟨⟨nm2,ty2,ns2,rf2,A3,c3,own,jo2,du2⟩,hx⟩:∃x:Col,af[m]=x:=⟨_,rfl⟩
   rw[hx]at c4 hio Mc
   simp only at c4 hio Mc
   have HX:=qh hx
   have HIO:=qh hio
   clear hc6 hio hx
   go_wp2_with fail
   obtain⟨wo,rfl⟩:∃wo:World,wo=wr:=⟨_,rfl⟩
   clear p0 p1 p2 p3 p4 p5 p6 p7 t1' c4
   go_loopw [5,8] (fun vl vk wi =>∃(k:Nat) (A4:Option Addr) (c4:Nat) (xB:List Int),k≤own.length∧vk=.int .i64 k∧vl=.slice A4 xB.length c4∧xB.length≤c4∧ah wi wi.heap.size intCells 1 A4 xB∧jD [0] (af.take m) (own.take k) xB∧xB.length≤100*m+k+1∧Below wo.heap.size wo wi) (fun _ vk _=>own.length-(intOf vk).toNat)
   case atStart=>exact⟨0,A2,c2,out,Nat.zero_le _,rfl,rfl,hcap,HSO.out,HOT.out,by omega,Below.refl _ _⟩
   case round =>
    obtain⟨k,A4,c4,xB,hk,rfl,rfl,hcap2,RN,Si,WH,hbi⟩:=hrel
    have hyi:=ae hbr hbi hwz
    have hxi:=ae hxr hbi hxr.size
    have TI:=qh RN
    have TT:=qh Si
    clear RN Si
    by_cases hkl:k<own.length
    ·obtain⟨b7,o7,rfl,hb7,hc7⟩:=(HIO.out.below hxi).get hkl
     have x0:=hc7 0 _ rfl
     simp only[Nat.mul_one,Nat.add_zero]at x0
     have MC:=qh (TT.out.step hkl)
     have hil:=KN xB own[k]
     clear hc7
     go_wp2_with (go_at_call 131;(with_reducible refine(Hw A4 c4 xB.length xB own[k] _ TI.out rfl omA hcap2).mono ?_);rintro e w1 ⟨⟨A5,c5,rfl,hc5,hs5,_⟩,hb1⟩;have HS5:=qh hs5;clear hs5)
     go_roundw
     case rel=>exact⟨k+1,A5,c5,_,by omega,by go_num,rfl,hc5,HS5.out,MC.out,by omega,ae hbi hb1 hbi.size⟩
     case measure=>exact meA
    ·have hkl':decide (k<own.length)=false:=by simpa using hkl
     have hke:k=own.length:=by omega
     have hcl:jD [0] (af.take (m+1)) [] xB:=by
      refine jD.close hlt ?_
      rw[HX.out]
      have h:=TT.out
      rwa [hke,List.take_length]at h
     have HCL:=qh hcl
     clear hcl hke
     go_wp2_with fail
     go_roundw
     case rel=>exact⟨m+1,A4,c4,xB,by omega,by go_num,rfl,hcap2,TI.out,HCL.out,by omega,hyi⟩
     case measure=>exact meA
  ·have hlt':decide (m<af.length)=false:=by simpa using hlt
   obtain rfl:m=af.length:=by omega
   have h:=HOT.out
   rw[List.take_length]at h
   have HH:=qh h
   clear h
   go_wp2_with fail
   go_ret
   exact⟨⟨A2,c2,out,rfl,hcap,HSO.out,HH.out⟩,hxr⟩
open Go.RowKit Go
theorem vG(A:Option Addr)(c m:Nat)(ts:List Tab)(w:World)(ht:aJ w w.heap.size A ts)(hm:ts.length=m)(hs:aI ts){r:Bool}(hr:pb (aV ts)=r):
 Calls Tryz.prog 37 #[.agg #[.slice A m c,.slice none 0 0,.slice none 0 0,.slice none 0 0,.slice none 0 0,.slice none 0 0,.slice none 0 0,.slice none 0 0]] w fun e w'=>e=.returned (.bool r)∧Below w.heap.size w w':=
 nE A c m ts Oth.nil w ht hm hs (bL.nil _ _) dN.nil gV.nil (by rw[show dD ts Oth.nil=aV ts from propext ⟨fun h=>h.1,dD.nil⟩];exact hr)
theorem Es(A:Option Addr)(c m:Nat)(ts:List Tab)(s:ByteArray)(w:World)(ht:aJ w w.heap.size A ts)(hm:ts.length=m)(hs:aI ts)(hok:aV ts){r:Int}(hr:gU (ts.map Tab.name) s ts.length=r):
 Calls Tryz.prog 120 #[.agg #[.slice A m c,.slice none 0 0,.slice none 0 0,.slice none 0 0,.slice none 0 0,.slice none 0 0,.slice none 0 0,.slice none 0 0],.string s] w fun e w'=>e=.returned (.int .i64 r)∧Below w.heap.size w w':=
 oN (o:=Oth.nil) A c m ts s w ht hm hs (dZ.nil ht hs hok) hr
end Go.Proofs.YtebippoohpnjkaaGreat
