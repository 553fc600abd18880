/-
  Contracts and plain laws of this seat, part 31.
-/
import Derived.Test.YtjidligipoldeaaGreatT7
import Derived.Lib.Overlaps
import Derived.Laws.CopyOwn
set_option linter.unusedVariables false
set_option linter.unusedSimpArgs false
set_option maxRecDepth 100000
set_option maxHeartbeats 16000000
namespace Go.Proofs.YtjidligipoldeaaGreat
open Go.RowKit Go
theorem cr{P:Prop}(h:P:=by simp only[Nat.min_def];split<;>omega):P:=h
theorem ct{P:Prop}(h:P:=by simp[Act.eval,Act.put]):P:=h
theorem cw{P:Prop}(h:P:=by rw[ha];rfl):P:=h
theorem cx{P:Prop}(h:P:=by simp[World.frozen?,show w.heap[vb]?=_ from hv]):P:=h
theorem cy{P:Prop}(h:P:=by simp[results,Tryz.results123,go_sem]):P:=h
theorem cC{P:Prop}(h:P:=by rw[hb];rfl):P:=h
theorem Oq(A B D R:List Value)(hD:R.length≤D.length):
 ((((A++B++D).take (A.length+R.length)++B++(A++B++D).drop (A.length+R.length+B.length)).take A.length++R++((A++B++D).take (A.length+R.length)++B++(A++B++D).drop (A.length+R.length+B.length)).drop (A.length+R.length)).take (A.length+R.length+B.length))=A++R++B:=by
 obtain⟨L,hL⟩:∃L,A++B++D=L:=⟨_,rfl⟩
 have hlen:L.length=A.length+B.length+D.length:=by rw[←hL,List.length_append,List.length_append]
 have hA:L.take A.length=A:=by rw[←hL,List.append_assoc];exact List.take_left
 rw[hL]
 have h1:(L.take (A.length+R.length)).length=A.length+R.length:=by rw[List.length_take];omega
 have e1:(L.take (A.length+R.length)++B++L.drop (A.length+R.length+B.length)).take A.length=A:=by
  rw[List.append_assoc,List.take_append_of_le_length omA,List.take_take,Nat.min_eq_left omA,hA]
 have e2:(L.take (A.length+R.length)++B++L.drop (A.length+R.length+B.length)).drop (A.length+R.length)=B++L.drop (A.length+R.length+B.length):=by
  rw[List.append_assoc]
  exact List.drop_left' h1
 rw[e1,e2,←List.append_assoc,List.take_append_of_le_length smA]
 exact List.take_of_length_le smA
theorem Dc(A B D R:List Value)(hD:R.length≤D.length):
 (((A++B++D).take (A.length+R.length)++B++(A++B++D).drop (A.length+R.length+B.length)).take A.length++R++((A++B++D).take (A.length+R.length)++B++(A++B++D).drop (A.length+R.length+B.length)).drop (A.length+R.length)).length=(A++B++D).length:=by
 simp only[List.length_append,List.length_take,List.length_drop]
 omega
theorem PW(A:Option Addr)(n c m d:Nat):(Value.slice A n c).ownBlock=(Value.slice A m d).ownBlock:=by cases A<;>rfl
theorem oG{w:World}{g:Nat}{cur:Array Value}{t:TypeId}(hg:w.heap[g]?=some (.cells cur t (0,0)))(o:Nat):w.cell? ⟨g,o,none⟩=cur.toList[o]?:= by simp[World.cell?,hg]
theorem ET(A B D:List Value)(j:Nat)(hj:j<B.length):(A++B++D)[A.length+j]?=B[j]?:= by
 rw[List.append_assoc,List.getElem?_append_right omA,Nat.add_sub_cancel_left,List.getElem?_append_left hj]
theorem vI{w w1:World}{g:Nat}{c:Array Value}(h:w.grownBy w1 (some g)):w.grownBy (w1.setRow g c) (some g):=
 ⟨h.os,h.tape,h.output,by simpa[World.setRow]using h.size,fun k hk hne=>(setRow_other w1 g k c (fun e=>hne (by rw[e]))).trans (h.block k hk hne)⟩
theorem vJ{α:Type}{enc:α→List Value}{k:Nat}(hk:∀x,(enc x).length=k)(l:List α)(i:Nat)(hi:i≤l.length):((l.take i).flatMap enc).length=i*k:=by rw[dx hk,List.length_take,Nat.min_eq_left hi]
theorem yI{α:Type}{enc:α→List Value}(l:List α)(i:Nat):l.flatMap enc=(l.take i).flatMap enc++(l.drop i).flatMap enc:=by rw[←List.flatMap_append,List.take_append_drop]
theorem Fh(base n c vb vc:Nat)(A:Option Addr)(recs:List Rcd)(r:Rcd)(w:World)(hown:aj w base 66 Rcd.cells 3 (.slice A n c) recs)(hn:recs.length=n)(hn6:n≤1000)(hv:Blk w vb 66 (Rcd.cells r).toArray)(hbase:base≤w.heap.size):
 Calls Tryz.prog 125 #[.slice A n c,.int .i64 n,.slice (some ⟨vb,0,none⟩) 1 vc] w fun e w' =>∃v',e=.returned v'∧aj w' base 66 Rcd.cells 3 v' (recs ++ [r])∧w.grownBy w' (Value.slice A n c).ownBlock∧(v'.ownBlock=(Value.slice A n c).ownBlock∨v'.ownBlock=some w.heap.size):=by
 obtain⟨i0,hi0,hz0,hz1,hz2⟩:=info_parts om
 have HO:=qh hown
 have hvl:=hv.lt
 have HV:=qh (Blk.one (enc:=Rcd.cells) (k:= 3) (x:=r) hv hv.lt)
 clear hown hv
 go_enter Tryz.func125,Tryz.ntmps125
 go_wp2_with (at_builtin;go_must (refine aO _ rfl (.tmp 23) (.tmp 24) 46 rfl 66 i0 _ Rcd.cells 3 56 Tryz.underlying46 hi0 hz0 hz1 hz2 rfl omA bG eQ base (.slice A n c) recs rfl HO.out _ _ _ [r] rfl rfl HV.out smA mxA hbase ?_);intro v' w3 hown' hg' hat';have HOWN':=qh hown';have HG':=qh hg';have HA':=qh hat';clear hown' hg' hat')
 all_goals
  go_ret
  exact⟨v',rfl,HOWN'.out,by first|exact HG'.out|(rw[PW A n n n c];exact HG'.out),by first|exact HA'.out|(rw[PW A n n n c];exact HA'.out)⟩
theorem C8(base g c n i vb vc:Nat)(recs:List Rcd)(r:Rcd)(w:World)(hown:aj w base 66 Rcd.cells 3 (.slice (some ⟨g,0,none⟩) n c) recs)(hn:recs.length=n)(hi:i<n)(hn6:n≤1000)(hroom:n+1≤c)(hv:Blk w vb 66 (Rcd.cells r).toArray)(hvb:vb≠g):
 Calls Tryz.prog 125 #[.slice (some ⟨g,0,none⟩) n c,.int .i64 i,.slice (some ⟨vb,0,none⟩) 1 vc] w fun e w'=>e=.returned (.slice (some ⟨g,0,none⟩) (n+1) c)∧aj w' base 66 Rcd.cells 3 (.slice (some ⟨g,0,none⟩) (n+1) c) (recs.take i++r::recs.drop i)∧w.grownBy w' (some g):=by
 subst hn
 rcases hown.2 with ⟨hnil,_⟩|⟨g',cap,cur,hvv,hgb,hgg,hnc,hcm,hcs,htk⟩
 ·cases hnil
 injection hvv with e1 e2 e3
 injection e1 with e1
 injection e1 with e1
 subst e1 e3
 obtain⟨i0,hi0,hz0,hz1,hz2⟩:=info_parts om
 have hsz:(Tryz.prog.info? 66).map (·.size)=some 3:=by rw[hi0];simp[hz1]
 have hfA:=vJ bG recs i omA
 have hfB:((recs.drop i).flatMap Rcd.cells).length=(recs.length-i)*3:=by rw[dx bG,List.length_drop]
 have hsp:=yI (enc:=Rcd.cells) recs i
 obtain⟨FA,hFA⟩:∃l,(recs.take i).flatMap Rcd.cells=l:=⟨_,rfl⟩
 obtain⟨FB,hFB⟩:∃l,(recs.drop i).flatMap Rcd.cells=l:=⟨_,rfl⟩
 obtain⟨FD,hFD⟩:∃l,cur.toList.drop (recs.length*3)=l:=⟨_,rfl⟩
 rw[hFA,hFB]at hsp
 rw[hFA]at hfA
 rw[hFB]at hfB
 have pX:cur.toList=FA++FB++FD:=by
  have h:=List.take_append_drop (recs.length*3) cur.toList
  rw[htk,hFD,hsp]at h
  exact h.symm
 have hDl:3≤FD.length:=by
  rw[←hFD,List.length_drop,Array.length_toList,hcs]
  omega
 have hgl:g<w.heap.size:=(Array.getElem?_eq_some_iff.1 hgg).1
 have hov:∀off lb cb,(callFunc 162 #[.slice (some ⟨vb,0,none⟩) 1 vc,.slice (some ⟨g,off,none⟩) lb cb]).run Tryz.prog w=.ok (.value (.bool false)) w:=fun off lb cb=>by
  rw[run_callFunc_extern Tryz.func162 krA krA krA (e:=Extern.SlicesOverlaps.overlaps #[46,46] #[4]) krA,
   Lib.run_overlaps_apart w 46 4 66 Tryz.underlying46 3 Tryz.sizeOf66 ⟨vb,0,none⟩ ⟨g,off,none⟩ 1 vc lb cb hvb 66 66 3 cur.size (by unfold World.shape?;rw[show w.heap[vb]?=_ from hv];rfl) (by unfold World.shape?;rw[hgg]) omA cx cx]
  rfl
 have hvl:=hv.lt
 have HV:=qh hv
 have HG:=qh hgg
 have NL:=qh pX
 have hw1:IntKind.i64.wrap ((recs.length:Int)+1)=((recs.length+1:Nat):Int):=IntWalk.i64_in _ omA
 have hw2:IntKind.i64.wrap ((i:Int)+1)=((i+1:Nat):Int):=IntWalk.i64_in _ omA
 have hne:((i:Int)==(recs.length:Int))=false:=by rw[beq_eq_false_iff_ne];omega
 clear hown hv hgg pX htk hsp
 go_enter Tryz.func125,Tryz.ntmps125
 have h1B:∀v∈FB,v.oneCell'=true:=fun v hv=>by
  rw[←hFB,List.mem_flatMap]at hv
  obtain⟨y,_,hy⟩:=hv
  exact eQ y v hy
 have hgd:w.drew.heap[g]?=some (.cells cur 66 (0,0)):=HG.out
 have hcl:cur.toList.length=FA.length+FB.length+FD.length:=by rw[NL.out,List.length_append,List.length_append]
 have hcz:cur.size=FA.length+FB.length+FD.length:=by rw[←hcl];simp
 obtain⟨C1,hC1⟩:∃C1:Array Value,C1=(cur.toList.take ((i+1)*3)++FB++cur.toList.drop ((i+1)*3+FB.length)).toArray:=⟨_,rfl⟩
 have hcp1:∀ty dc sc,(Builtin.copy_ #[46,46] ty #[.slice (some ⟨g,(i+1)*3,none⟩) (recs.length-i) dc,.slice (some ⟨g,i*3,none⟩) (recs.length+1-i) sc]).run Tryz.prog w.drew=.ok (goInt ((recs.length-i:Nat):Int)) (w.drew.setRow g C1):=fun ty dc sc=>by
  rw[hC1]
  refine nS w.drew _ _ ty 66 3 g ((i+1)*3) _ dc ⟨g,i*3,none⟩ _ sc (recs.length-i) cur 66 FB Tryz.underlying46 hsz hgd cr hfB (fun j v hj =>?_) omA h1B
  have hjl:j<FB.length:=by
   rcases Nat.lt_or_ge j FB.length with h|h
   ·exact h
   ·rw[List.getElem?_eq_none h]at hj;cases hj
  rw[Addr.add_lit,oG hgd,NL.out,←hfA,ET _ _ _ _ hjl]
  exact hj
 obtain⟨W1,hW1⟩:∃W1,W1=w.drew.setRow g C1:=⟨_,rfl⟩
 have hg1:W1.heap[g]?=some (.cells C1 66 (0,0)):=by rw[hW1];exact setRow_heap _ _ _ _ _ _ hgd
 have hv1:W1.heap[vb]?=some (.cells (Rcd.cells r).toArray 66 (0,0)):=by rw[hW1,setRow_other _ _ _ _ hvb];exact HV.out
 have MC:w.grownBy W1 (some g):=by rw[hW1];exact vI (aZ _ brf.drew)
 rw[←hW1]at hcp1
 have wO:C1.toList=cur.toList.take ((i+1)*3)++FB++cur.toList.drop ((i+1)*3+FB.length):=by rw[hC1]
 have BK:C1.size=cur.size:=by
  rw[←Array.length_toList,wO,List.length_append,List.length_append,List.length_take,List.length_drop,hcl,hcz]
  omega
 obtain⟨C2,hC2⟩:∃C2:Array Value,C2=(C1.toList.take (i*3)++Rcd.cells r++C1.toList.drop (i*3+(Rcd.cells r).length)).toArray:=⟨_,rfl⟩
 have hcp2:∀ty dc,(Builtin.copy_ #[46,46] ty #[.slice (some ⟨g,i*3,none⟩) (recs.length+1-i) dc,.slice (some ⟨vb,0,none⟩) 1 vc]).run Tryz.prog W1=.ok (goInt ((1:Nat):Int)) (W1.setRow g C2):=fun ty dc=>by
  rw[hC2]
  refine nS W1 _ _ ty 66 3 g (i*3) _ dc ⟨vb,0,none⟩ 1 vc 1 C1 66 (Rcd.cells r) Tryz.underlying46 hsz hg1 cr (bG r) (fun j v hj =>?_) (by rw[BK,hcz,bG];omega) (eQ r)
  rw[Addr.add_lit,oG hv1,Nat.zero_add]
  simpa using hj
 have IX:C2.toList=C1.toList.take (i*3)++Rcd.cells r++C1.toList.drop (i*3+(Rcd.cells r).length):=by rw[hC2]
 have hlen3:=bG r
 have hi3:(i+1)*3=FA.length+(Rcd.cells r).length:=by rw[hfA,hlen3];omega
 have Vs:C2.toList.take ((recs.length+1)*3)=FA++Rcd.cells r++FB:=by
  have h:=Oq FA FB FD (Rcd.cells r) (by rw[hlen3];exact hDl)
  rw[IX,wO,NL.out,hi3,←hfA]
  rw[show (recs.length+1)*3=FA.length+(Rcd.cells r).length+FB.length by rw[hfA,hfB,hlen3];omega]
  exact h
 have Vr:C2.size=c*3:=by
  have h:=Dc FA FB FD (Rcd.cells r) (by rw[hlen3];exact hDl)
  rw[←Array.length_toList,IX,wO,NL.out,hi3,←hfA,h,←NL.out,Array.length_toList,hcs]
 have lN:Hid (aj (W1.setRow g C2) base 66 Rcd.cells 3 (.slice (some ⟨g,0,none⟩) (recs.length+1) c) (recs.take i++r::recs.drop i)∧w.grownBy (W1.setRow g C2) (some g)):=qh (by
  have hl:(recs.take i++r::recs.drop i).length=recs.length+1:=by rw[List.length_append,List.length_cons,List.length_take,List.length_drop];omega
  have hf:(recs.take i++r::recs.drop i).flatMap Rcd.cells=FA++Rcd.cells r++FB:=by rw[List.flatMap_append,List.flatMap_cons,hFA,hFB,List.append_assoc]
  refine⟨⟨by rw[dx bG],.inr ⟨g,c,C2,by rw[hl],hgb,setRow_heap _ _ _ _ _ _ hg1,by rw[hl];exact hroom,hcm,Vr,by rw[hl,hf];exact Vs⟩⟩,vI MC⟩)
 clear hC1 hW1 hg1 hv1 MC wO BK hC2 IX Vs Vr hgd hcl hcz h1B hi3 hFA hFB hFD
 go_upto_region 15 with (simp only[hov])
 have hb1:(0:Int)≤(i:Int)+1:=by omega
 have hin:i≤recs.length:=by omega
 have hb2:¬ (c=i+1):=by omega
 have hb3:(i:Int)≤(recs.length:Int)+1:=by omega
 have hb4:¬ (c=i):=by omega
 go_region_law (refine tu rfl _ _ 46 46 rfl _ _ ct ct (hcp1 _ _ _) ?_)
 go_wp2_with (at_builtin;refine oW _ rfl _ _ 46 46 rfl _ _ rfl rfl (hcp2 _ _) ?_)
 go_ret
 exact⟨rfl,lN.out⟩
theorem C9(base g c n i vb vc:Nat)(recs:List Rcd)(r:Rcd)(w:World)(hown:aj w base 66 Rcd.cells 3 (.slice (some ⟨g,0,none⟩) n c) recs)(hn:recs.length=n)(hi:i<n)(hn6:n≤1000)(hroom:c<n+1)(hv:Blk w vb 66 (Rcd.cells r).toArray)(hbase:base≤w.heap.size):
 Calls Tryz.prog 125 #[.slice (some ⟨g,0,none⟩) n c,.int .i64 i,.slice (some ⟨vb,0,none⟩) 1 vc] w fun e w' =>∃c',e=.returned (.slice (some ⟨w.heap.size,0,none⟩) (n+1) c')∧aj w' base 66 Rcd.cells 3 (.slice (some ⟨w.heap.size,0,none⟩) (n+1) c') (recs.take i++r::recs.drop i)∧Below w.heap.size w w':=by
 subst hn
 rcases hown.2 with ⟨hnil,_⟩|⟨g',cap,cur,hvv,hgb,hgg,hnc,hcm,hcs,htk⟩
 ·cases hnil
 injection hvv with e1 e2 e3
 injection e1 with e1
 injection e1 with e1
 subst e1 e3
 obtain rfl:c=recs.length:=by omega
 obtain⟨i0,hi0,hz0,hz1,hz2⟩:=info_parts om
 have hsz:(Tryz.prog.info? 66).map (·.size)=some 3:=by rw[hi0];simp[hz1]
 have hfA:=vJ bG recs i omA
 have hfB:((recs.drop i).flatMap Rcd.cells).length=(recs.length-i)*3:=by rw[dx bG,List.length_drop]
 have hsp:=yI (enc:=Rcd.cells) recs i
 obtain⟨FA,hFA⟩:∃l,(recs.take i).flatMap Rcd.cells=l:=⟨_,rfl⟩
 obtain⟨FB,hFB⟩:∃l,(recs.drop i).flatMap Rcd.cells=l:=⟨_,rfl⟩
 obtain⟨FD,hFD⟩:∃l,cur.toList.drop (recs.length*3)=l:=⟨_,rfl⟩
 rw[hFA,hFB]at hsp
 rw[hFA]at hfA
 rw[hFB]at hfB
 have pX:cur.toList=FA++FB++FD:=by
  have h:=List.take_append_drop (recs.length*3) cur.toList
  rw[htk,hFD,hsp]at h
  exact h.symm
 have hgl:g<w.heap.size:=(Array.getElem?_eq_some_iff.1 hgg).1
 have hvl:=hv.lt
 have h1A:∀v∈FA,v.oneCell'=true:=fun v hv=>by
  rw[←hFA,List.mem_flatMap]at hv
  obtain⟨y,_,hy⟩:=hv
  exact eQ y v hy
 have h1B:∀v∈FB,v.oneCell'=true:=fun v hv=>by
  rw[←hFB,List.mem_flatMap]at hv
  obtain⟨y,_,hy⟩:=hv
  exact eQ y v hy
 obtain⟨z,hz⟩:∃z:Nat,recs.length+1-i=z:=⟨_,rfl⟩
 have hzi:i+z=recs.length+1:=by omega
 obtain⟨cp,hcp⟩:∃q,grownCap w (recs.length+1) recs.length 66=q:=⟨_,rfl⟩
 have XJ:recs.length+1≤cp:=by rw[←hcp];exact grownCap_ge ..
 have XI:cp≤maxLen:=by rw[←hcp];exact grownCap_le_maxLen w (recs.length+1) recs.length _ mxA
 obtain⟨ZL,hZL⟩:∃l,(Builtin.zeroCells (Value.agg #[.slice none 0 0,.slice none 0 0,.int .i64 0]).cells z).toList=l:=⟨_,rfl⟩
 obtain⟨RL,hRL⟩:∃l,(Builtin.zeroCells (Value.agg #[.slice none 0 0,.slice none 0 0,.int .i64 0]).cells (cp-(recs.length+1))).toList=l:=⟨_,rfl⟩
 have hZl:ZL.length=z*3:=by rw[←hZL,Array.length_toList,size_zeroCells];rfl
 have hRl:RL.length=(cp-(recs.length+1))*3:=by rw[←hRL,Array.length_toList,size_zeroCells];rfl
 obtain⟨C0,hC0⟩:∃C0:Array Value,C0=FA.toArray++Builtin.zeroCells (Value.agg #[.slice none 0 0,.slice none 0 0,.int .i64 0]).cells z++Builtin.zeroCells (Value.agg #[.slice none 0 0,.slice none 0 0,.int .i64 0]).cells (cp-(recs.length+1)):=⟨_,rfl⟩
 have Sa:C0.toList=FA++ZL.take 3++ZL.drop 3++RL:=by
  have e:FA++ZL.take 3++ZL.drop 3=FA++ZL:=by rw[List.append_assoc,List.take_append_drop]
  rw[hC0,Array.toList_append,Array.toList_append,hZL,hRL,e]
 have happ:∀ty,(Builtin.append_ #[46,3] ty #[.slice (some ⟨g,0,none⟩) i recs.length,.int .i64 z]).run Tryz.prog w=.ok (.slice (some ⟨w.heap.size,0,none⟩) (recs.length+1) cp) (w.drew.alloc (.cells C0 66)):=fun ty=>by
  have h:=uT (P:=Tryz.prog) w 46 3 ty 66 i0 _ .i64 Tryz.underlying46 Tryz.underlying3 hi0 hz0 ⟨g,0,none⟩ i recs.length FA (by rw[hz1];exact hfA) (fun j v hj=>by
   have hjl:j<FA.length:=by
    rcases Nat.lt_or_ge j FA.length with h|h
    ·exact h
    ·rw[List.getElem?_eq_none h]at hj;cases hj
   rw[Addr.add_lit,oG hgg,pX,Nat.zero_add,List.append_assoc,List.getElem?_append_left hjl]
   exact hj) z omA omA omA omA (by rw[hz2];omega) (by rw[hz2,hzi];exact growslice_fits omA omA)
  rw[hzi,hcp]at h
  rw[hC0]
  exact h
 have HV:=qh hv
 have HG:=qh hgg
 obtain⟨W0,hW0⟩:∃W0,W0=w.drew.alloc (.cells C0 66):=⟨_,rfl⟩
 have hg0:W0.heap[w.heap.size]?=some (.cells C0 66 (0,0)):=by rw[hW0];exact heap_alloc_new w.drew _
 have hb0:Below w.heap.size w W0:=by rw[hW0];exact(brf.drew).alloc nlr _
 rw[←hW0]at happ
 have hlen3:=bG r
 have R9:C0.size=FA.length+ZL.length+RL.length:=by
  rw[←Array.length_toList,Sa]
  simp only[List.length_append,List.length_take,List.length_drop]
  omega
 obtain⟨C1,hC1⟩:∃C1:Array Value,C1=(C0.toList.take (i*3)++Rcd.cells r++C0.toList.drop (i*3+(Rcd.cells r).length)).toArray:=⟨_,rfl⟩
 obtain⟨C2,hC2⟩:∃C2:Array Value,C2=(C1.toList.take ((i+1)*3)++FB++C1.toList.drop ((i+1)*3+FB.length)).toArray:=⟨_,rfl⟩
 have wO:C1.toList=C0.toList.take (i*3)++Rcd.cells r++C0.toList.drop (i*3+(Rcd.cells r).length):=by rw[hC1]
 have IX:C2.toList=C1.toList.take ((i+1)*3)++FB++C1.toList.drop ((i+1)*3+FB.length):=by rw[hC2]
 have BK:C1.size=C0.size:=by
  rw[←Array.length_toList,wO,List.length_append,List.length_append,List.length_take,List.length_drop,Array.length_toList]
  omega
 have hv0:W0.heap[vb]?=some (.cells (Rcd.cells r).toArray 66 (0,0)):=(hb0.block vb hvl).trans hv
 have hcp1:∀ty dc,(Builtin.copy_ #[46,46] ty #[.slice (some ⟨w.heap.size,i*3,none⟩) (recs.length+1-i) dc,.slice (some ⟨vb,0,none⟩) 1 vc]).run Tryz.prog W0=.ok (goInt ((1:Nat):Int)) (W0.setRow w.heap.size C1):=fun ty dc=>by
  rw[hC1]
  refine nS W0 _ _ ty 66 3 w.heap.size (i*3) _ dc ⟨vb,0,none⟩ 1 vc 1 C0 66 (Rcd.cells r) Tryz.underlying46 hsz hg0 cr (bG r) (fun j v hj =>?_) (by rw[R9,hlen3];omega) (eQ r)
  rw[Addr.add_lit,oG hv0,Nat.zero_add]
  simpa using hj
 obtain⟨W1,hW1⟩:∃W1,W1=W0.setRow w.heap.size C1:=⟨_,rfl⟩
 have hg1:W1.heap[w.heap.size]?=some (.cells C1 66 (0,0)):=by rw[hW1];exact setRow_heap _ _ _ _ _ _ hg0
 have hb1:Below w.heap.size w W1:=by rw[hW1];exact below_setRow hb0 nlr _
 rw[←hW1]at hcp1
 have hgW:W1.drew.heap[g]?=some (.cells cur 66 (0,0)):=(hb1.block g hgl).trans hgg
 have RB:W1.drew.heap[w.heap.size]?=some (.cells C1 66 (0,0)):=hg1
 have hcp2:∀ty dc sc,(Builtin.copy_ #[46,46] ty #[.slice (some ⟨w.heap.size,(i+1)*3,none⟩) (recs.length-i) dc,.slice (some ⟨g,i*3,none⟩) (recs.length-i) sc]).run Tryz.prog W1.drew=.ok (goInt ((recs.length-i:Nat):Int)) (W1.drew.setRow w.heap.size C2):=fun ty dc sc=>by
  rw[hC2]
  refine nS W1.drew _ _ ty 66 3 w.heap.size ((i+1)*3) _ dc ⟨g,i*3,none⟩ _ sc (recs.length-i) C1 66 FB Tryz.underlying46 hsz RB (Nat.min_self _) hfB (fun j v hj =>?_) (by rw[BK,R9];omega) h1B
  have hjl:j<FB.length:=by
   rcases Nat.lt_or_ge j FB.length with h|h
   ·exact h
   ·rw[List.getElem?_eq_none h]at hj;cases hj
  rw[Addr.add_lit,oG hgW,pX,←hfA,ET _ _ _ _ hjl]
  exact hj
 have hi3:(i+1)*3=FA.length+(Rcd.cells r).length:=by rw[hfA,hlen3];omega
 have R8:C2.toList=FA++Rcd.cells r++FB++RL:=by
  have h:=N9 FA (ZL.take 3) (ZL.drop 3) RL (Rcd.cells r) FB (by rw[hlen3,List.length_take];omega) (by rw[List.length_drop];omega)
  rw[IX,wO,Sa,hi3,←hfA]
  exact h
 have lN:Hid (aj (W1.drew.setRow w.heap.size C2) base 66 Rcd.cells 3 (.slice (some ⟨w.heap.size,0,none⟩) (recs.length+1) cp) (recs.take i++r::recs.drop i)∧Below w.heap.size w (W1.drew.setRow w.heap.size C2)):=qh (by
  have hl:(recs.take i++r::recs.drop i).length=recs.length+1:=by rw[List.length_append,List.length_cons,List.length_take,List.length_drop];omega
  have hf:(recs.take i++r::recs.drop i).flatMap Rcd.cells=FA++Rcd.cells r++FB:=by rw[List.flatMap_append,List.flatMap_cons,hFA,hFB,List.append_assoc]
  have hz2':C2.size=cp*3:=by
   rw[←Array.length_toList,R8]
   simp only[List.length_append]
   omega
  refine⟨⟨by rw[dx bG],.inr ⟨w.heap.size,cp,C2,by rw[hl],hbase,setRow_heap _ _ _ _ _ _ RB,by rw[hl];exact XJ,XI,hz2',?_⟩⟩,below_setRow hb1.drew nlr _⟩
  rw[hl,hf,R8]
  exact List.take_left' (by simp only[List.length_append];omega))
 have hw1:IntKind.i64.wrap ((recs.length:Int)+1)=((recs.length+1:Nat):Int):=IntWalk.i64_in _ omA
 have hw2:IntKind.i64.wrap ((i:Int)+1)=((i+1:Nat):Int):=IntWalk.i64_in _ omA
 have hw3:IntKind.i64.wrap ((recs.length:Int)+1-(i:Int))=((z:Nat):Int):=by rw[show (recs.length:Int)+1-(i:Int)=((z:Nat):Int) by omega];exact IntWalk.i64_in _ omA
 have hne:((i:Int)==(recs.length:Int))=false:=by rw[beq_eq_false_iff_ne];omega
 have hq1:(0:Int)≤(i:Int)+1:=by omega
 have hq2:i≤recs.length:=by omega
 have hq3:¬ (cp=i+1):=by omega
 have hq4:¬ (recs.length=i):=by omega
 have hq5:¬ (cp=i):=by omega
 have hq6:(i:Int)≤(recs.length:Int)+1:=by omega
 clear hown hv hgg pX htk hsp hC0 Sa R9 hC1 wO BK hC2 IX R8 hW0 hW1 hg0 hg1 hb0 hb1 hgW RB hv0 hi3 hZl hRl hZL hRL hcp h1A h1B hz hzi hFA hFB hFD hfA hfB
 go_enter Tryz.func125,Tryz.ntmps125
 go_upto_region 11 with (first
  | (at_builtin;refine Lib.wpList_append_run _ rfl _ _ 46 3 rfl _ _ rfl rfl _ _ (happ _) ?_)
  | (at_builtin;refine oW _ rfl _ _ 46 46 rfl _ _ rfl rfl (hcp1 _ _) ?_))
 go_region_law (refine tu rfl _ _ 46 46 rfl _ _ ct ct (hcp2 _ _ _) ?_)
 go_wp2_with fail
 go_ret
 exact⟨cp,rfl,lN.out⟩
theorem xG{P:Program}{ops:Array Oper}{o:Oper}{a:Act}{w:World}{K:Act→World→Prop}{Q:Exit→Act→World→Prop}{E:Prop}
 (hg:o.guard=none) (d x:Operand) (dT sT:TypeId) (hop:o.op=Op.call { callee:=Callee.builtin Builtin.append,args:= #[d,x],argTypes:= #[dT,sT] })
 (v u:Value) (hd:a.eval d=v) (hx:a.eval x=u) {v':Value}{w':World}(hr:(Builtin.append_ #[dT,sT] o.type #[v,u]).run P w=.ok v' w') (hK:K (a.put o.dst v') w'):
 if Region.wanted o (yielded ops a.tmps)=true then Oper.wp P o a w K Q else E:=by
 have hw:Region.wanted o (yielded ops a.tmps)=true:=by simp[Region.wanted,hg]
 rw[if_pos hw]
 exact Lib.wp_append_run w d x dT sT hop v u hd hx v' w' hr hK
theorem Fg(base n c i vb vc:Nat)(A:Option Addr)(recs:List Rcd)(r:Rcd)(w:World)(hown:aj w base 66 Rcd.cells 3 (.slice A n c) recs)(hn:recs.length=n)(hi:i≤n)(hn6:n≤1000)(hv:Blk w vb 66 (Rcd.cells r).toArray)(hvb:∀a,A=some a→vb≠a.block)(hbase:base≤w.heap.size):
 Calls Tryz.prog 125 #[.slice A n c,.int .i64 i,.slice (some ⟨vb,0,none⟩) 1 vc] w fun e w' =>∃A' c',e=.returned (.slice A' (n+1) c')∧aj w' base 66 Rcd.cells 3 (.slice A' (n+1) c') (recs.take i++r::recs.drop i)∧w.grownBy w' (Value.slice A n c).ownBlock∧(∀a,A'=some a→(Value.slice A n c).ownBlock=some a.block∨w.heap.size≤a.block):=by
 rcases Nat.lt_or_ge i n with h|h
 ·obtain⟨g,rfl⟩:∃g,A=some ⟨g,0,none⟩:=by
   subst hn
   exact gP hown omA
  rcases Nat.lt_or_ge c (n+1) with hc|hc
  ·refine(C9 base g c n i vb vc recs r w hown hn h hn6 hc hv hbase).mono ?_
   rintro e w' ⟨c',rfl,h1,h2⟩
   exact⟨_,c',rfl,h1,aL h2 _,fun a ha=>by injection ha with ha;subst ha;exact .inr nlr⟩
  ·refine(C8 base g c n i vb vc recs r w hown hn h hn6 hc hv (hvb _ rfl)).mono ?_
   rintro e w' ⟨rfl,h1,h2⟩
   exact⟨_,c,rfl,h1,h2,fun a ha=>by injection ha with ha;subst ha;exact .inl rfl⟩
 ·obtain rfl:i=n:=by omega
  refine(Fh base i c vb vc A recs r w hown hn hn6 hv hbase).mono ?_
  rintro e w' ⟨v',rfl,h1,h2,h3⟩
  have e1:recs.take i++r::recs.drop i=recs ++ [r]:=by rw[List.take_of_length_le omA,List.drop_eq_nil_of_le omA]
  obtain⟨A',c',rfl,_,_⟩:=h1.form
  have hl:(recs ++ [r]).length=i+1:=by rw[List.length_append,hn];rfl
  rw[hl]at h1 h3 ⊢
  rw[e1]
  refine⟨A',c',rfl,h1,h2,fun a ha =>?_⟩
  subst ha
  rcases h3 with h3|h3
  ·exact .inl (h3.symm.trans rfl)
  ·injection h3 with h3
   exact .inr (by rw[←h3];exact Nat.le_refl _)
theorem FK(base g c n i:Nat)(recs:List Rcd)(w:World)(hown:aj w base 66 Rcd.cells 3 (.slice (some ⟨g,0,none⟩) n c) recs)(hn:recs.length=n)(hi:i<n)(hn6:n≤1000):
 Calls Tryz.prog 105 #[.slice (some ⟨g,0,none⟩) n c,.int .i64 i,.int .i64 ((i:Int)+1)] w fun e w'=>e=.returned (.slice (some ⟨g,0,none⟩) (n-1) c)∧aj w' base 66 Rcd.cells 3 (.slice (some ⟨g,0,none⟩) (n-1) c) (recs.take i++recs.drop (i+1))∧w.grownBy w' (some g):=by
 subst hn
 rcases hown.2 with ⟨hnil,_⟩|⟨g',cap,cur,hvv,hgb,hgg,hnc,hcm,hcs,htk⟩
 ·cases hnil
 injection hvv with e1 e2 e3
 injection e1 with e1
 injection e1 with e1
 subst e1 e3
 obtain⟨i0,hi0,hz0,hz1,hz2⟩:=info_parts om
 have hfA:=vJ bG recs i omA
 have hfB:((recs.drop (i+1)).flatMap Rcd.cells).length=(recs.length-(i+1))*3:=by rw[dx bG,List.length_drop]
 have hsp:recs.flatMap Rcd.cells=(recs.take i).flatMap Rcd.cells++Rcd.cells recs[i]++(recs.drop (i+1)).flatMap Rcd.cells:=by
  conv=>lhs;rw[←List.take_append_drop i recs,←List.getElem_cons_drop hi]
  rw[List.flatMap_append,List.flatMap_cons,List.append_assoc]
 obtain⟨FA,hFA⟩:∃l,(recs.take i).flatMap Rcd.cells=l:=⟨_,rfl⟩
 obtain⟨FB,hFB⟩:∃l,(recs.drop (i+1)).flatMap Rcd.cells=l:=⟨_,rfl⟩
 obtain⟨FD,hFD⟩:∃l,cur.toList.drop (recs.length*3)=l:=⟨_,rfl⟩
 have hlen3:=bG recs[i]
 rw[hFA,hFB]at hsp
 rw[hFA]at hfA
 rw[hFB]at hfB
 have pX:cur.toList=FA++Rcd.cells recs[i]++FB++FD:=by
  have h:=List.take_append_drop (recs.length*3) cur.toList
  rw[htk,hFD,hsp]at h
  exact h.symm
 have hgl:g<w.heap.size:=(Array.getElem?_eq_some_iff.1 hgg).1
 have h1B:∀v∈FB,v.oneCell'=true:=fun v hv=>by
  rw[←hFB,List.mem_flatMap]at hv
  obtain⟨y,_,hy⟩:=hv
  exact eQ y v hy
 have hgd:w.drew.heap[g]?=some (.cells cur 66 (0,0)):=hgg
 obtain⟨C1,hC1⟩:∃C1:Array Value,C1=(cur.toList.take (i*3)++FB++cur.toList.drop (i*3+FB.length)).toArray:=⟨_,rfl⟩
 have wO:C1.toList=cur.toList.take (i*3)++FB++cur.toList.drop (i*3+FB.length):=by rw[hC1]
 have BK:C1.size=c*3:=by
  rw[←Array.length_toList,wO,List.length_append,List.length_append,List.length_take,List.length_drop,Array.length_toList,hcs]
  omega
 have happ:∀ty (ad:Addr) sc,(0<FB.length→ad=⟨g,(i+1)*3,none⟩)→(Builtin.append_ #[46,46] ty #[.slice (some ⟨g,0,none⟩) i c,.slice (some ad) (recs.length-(i+1)) sc]).run Tryz.prog w.drew=.ok (.slice (some ⟨g,0,none⟩) (recs.length-1) c) (w.drew.setRow g C1):=fun ty ad sc had=>by
  have h:=run_append_room (P:=Tryz.prog) w.drew 46 ty 66 i0 Tryz.underlying46 hi0 g i c cur hgd ad (recs.length-(i+1)) sc FB (by rw[hz1];exact hfB) (fun j u hj=>by
   have hjl:j<FB.length:=by
    rcases Nat.lt_or_ge j FB.length with h|h
    ·exact h
    ·rw[List.getElem?_eq_none h]at hj;cases hj
   rw[had omA,Addr.add_lit,oG hgd,pX,show (i+1)*3=(FA++Rcd.cells recs[i]).length by rw[List.length_append,hfA,hlen3];omega,ET _ _ _ _ hjl]
   exact hj) h1B omA (by rw[hz1,hcs];omega)
  rw[hz1,show i+(recs.length-(i+1))=recs.length-1 by omega]at h
  rw[hC1]
  exact h
 obtain⟨W1,hW1⟩:∃W1,W1=w.drew.setRow g C1:=⟨_,rfl⟩
 have hg1:W1.heap[g]?=some (.cells C1 66 (0,0)):=by rw[hW1];exact setRow_heap _ _ _ _ _ _ hgd
 have MC:w.grownBy W1 (some g):=by rw[hW1];exact vI (aZ _ brf.drew)
 rw[←hW1]at happ
 have hl:(recs.take i++recs.drop (i+1)).length=recs.length-1:=by rw[List.length_append,List.length_take,List.length_drop];omega
 have hO1:aj W1 base 66 Rcd.cells 3 (.slice (some ⟨g,0,none⟩) (recs.take i++recs.drop (i+1)).length c) (recs.take i++recs.drop (i+1)):=by
  have hf:(recs.take i++recs.drop (i+1)).flatMap Rcd.cells=FA++FB:=by rw[List.flatMap_append,hFA,hFB]
  refine⟨by rw[dx bG],.inr ⟨g,c,C1,rfl,hgb,hg1,by rw[hl];omega,hcm,BK,?_⟩⟩
  have hA:cur.toList.take (i*3)=FA:=by rw[pX,←hfA,List.append_assoc,List.append_assoc];exact List.take_left
  rw[hl,hf,wO,hA]
  exact List.take_left' (by rw[List.length_append,hfA,hfB];omega)
 have hCl:C1.toList.length=c*3:=by rw[←BK];exact Array.length_toList
 have XK:∀ty cc,(Builtin.clear_ #[46] ty #[.slice (some ⟨g,(recs.length-1)*3,none⟩) 1 cc]).run Tryz.prog W1=.ok (.tuple #[]) (W1.setCells g ((recs.length-1)*3) (Builtin.zeroCells (Value.agg #[.slice none 0 0,.slice none 0 0,.int .i64 0]).cells 1).toList):=fun ty cc=>by
  refine oJ W1 46 66 ty (.agg #[.slice none 0 0,.slice none 0 0,.int .i64 0]) Tryz.underlying46 (fun w=>by kernel_rfl) (fun u hu =>?_) g _ cc omA (fun j hj =>?_) (fun j hj=>by simp[World.frozen?,hg1])
  ·have hu:=rH (by simp[Value.cells]) hu
   simp[Value.cells]at hu
   rcases hu with rfl|rfl|rfl<;>rfl
  ·rw[Array.length_toList,size_zeroCells]at hj
   have hj:j<1*3:=by simpa[Value.cells]using hj
   rw[oG hg1,List.getElem?_eq_getElem (by rw[hCl];omega)]
   rfl
 obtain⟨h3,h4⟩:=aj.BZ (Builtin.zeroCells (Value.agg #[.slice none 0 0,.slice none 0 0,.int .i64 0]).cells 1).toList hO1 (o:=(recs.length-1)*3) (by rw[hl];exact Nat.le_refl _)
 rw[hl]at h3
 have lN:=qh (And.intro h3 (au MC h4))
 have hne:((i:Int)==(i:Int)+1)=false:=by rw[beq_eq_false_iff_ne];omega
 have hq1:(0:Int)≤(i:Int)+1:=by omega
 have hq2:i≤recs.length:=by omega
 have hq3:(i:Int)+1≤(recs.length:Int):=by omega
 have hq4:¬ (c=recs.length-1):=by omega
 have hq5:i≤c:=by omega
 have hone:recs.length-(recs.length-1)=1:=by omega
 obtain⟨AD,hAD⟩:∃AD:Addr,(if c=i+1 then some ⟨g,0,none⟩ else some ⟨g,(i+1)*3,none⟩:Option Addr)=some AD:=by by_cases h:c=i+1<;>simp[h]
 have Yc:0<FB.length→AD=⟨g,(i+1)*3,none⟩:=fun h=>by
  rw[if_neg omA]at hAD
  exact(Option.some.inj hAD).symm
 clear hown hgg pX htk hsp hC1 wO BK hCl hW1 hg1 MC hl hO1 h3 h4 h1B hgd hFA hFB hFD hcs
 go_enter Tryz.func105,Tryz.ntmps105
 go_upto_region 5 with (fail)
 go_region_law (refine xG ?_ (.tmp 22) (.tmp 25) 46 46 ?_ (.slice (some ⟨g,0,none⟩) i c) (.slice (some AD) (recs.length-(i+1)) (c-(i+1))) ?_ ?_ (happ _ _ _ Yc) ?_;(rfl);(rfl);(simp[Act.eval,Act.put]);(simp[Act.eval,Act.put]))
 go_wp2_with fail
 go_ret
 exact⟨rfl,lN.out⟩
open Go.RowKit Go
theorem zR(x:Chg)(w:World)(hx:ag w w.heap.size Val.cells 3 x.A x.row)(hl:x.row.length≤1000000)(h1:x.kind=1→0<x.row.length){k:Val}(hk:keyOf x=k):
 Calls Tryz.prog 123 #[.agg #[.int .i64 x.kind,.int .i64 x.seq,.int .i64 x.day,.int .i64 x.table,.slice x.A x.row.length x.cap,.int .i64 x.key.kind,.int .i64 x.key.num,.string x.key.text,.int .i64 x.column,.int .i64 x.val.kind,.int .i64 x.val.num,.string x.val.text]] w fun e w'=>e=.returned (.agg #[.int .i64 k.kind,.int .i64 k.num,.string k.text])∧Below w.heap.size w w':=by
 obtain⟨kd,sq,dy,tb,A,cp,row,key,cl,vl⟩:=x
 simp only at hx hl h1
 by_cases hd:kd=1
 ·have hr0:0<row.length:=h1 hd
  have hke:row[0]=k:=by
   rw[←hk]
   cases row with
   | nil=>simp at hr0
   | cons a t=>simp[keyOf,hd]
  have hd':(kd == 1)=true:=by simpa using hd
  obtain⟨b,o,rfl,hb,hc⟩:=hx.get hr0
  obtain⟨c0,c1,c2⟩:=Val.cells3 hc
  rw[hke]at c0 c1 c2
  simp only[Nat.zero_mul,Nat.add_zero]at c0 c1 c2
  have mM:decide (0<row.length)=true:=by simpa using hr0
  clear hk hke hc hx h1 hd
  go_enter Tryz.func123,Tryz.ntmps123
  go_wp2_with fail
  refine bodyPost_ret (v:= .agg #[.int .i64 k.kind,.int .i64 k.num,.string k.text]) cy rfl ⟨rfl,?_⟩
  exact ai
 ·have hke:key=k:=by
   rw[←hk]
   simp[keyOf,hd]
  have hd':(kd == 1)=false:=by simpa using hd
  clear hk hx h1 hd
  subst hke
  go_enter Tryz.func123,Tryz.ntmps123
  go_wp2_with fail
  refine bodyPost_ret (v:= .agg #[.int .i64 key.kind,.int .i64 key.num,.string key.text]) cy rfl ⟨rfl,?_⟩
  exact ai
theorem FR(b o c n:Nat)(l:List Val)(w:World)(hl:ag w w.heap.size Val.cells 3 (some ⟨b,o,none⟩) l)(hln:l.length=n)(hn:n≤1000000):
 Calls Tryz.prog 96 #[.slice (some ⟨b,o,none⟩) n c] w fun e w' =>
  (∃A' c',e=.returned (.slice A' n c')∧aj w' w.heap.size 50 Val.cells 3 (.slice A' n c') l)∧Below w.heap.size w w':=by
 subst hln
 obtain⟨i0,hi0,hz0,hz1,hz2⟩:=info_parts uo
 go_enter Tryz.func96,Tryz.ntmps96
 have hnil:(binOp .eql 48 (.slice (some ⟨b,o,none⟩) l.length c) (.slice none 0 0)).run Tryz.prog w=.ok (.bool false) w:=Lib.run_eql_slice_nil w 48 50 (some ⟨b,o,none⟩) l.length c 0 0 Tryz.underlying48
 go_wp2_with ((at_builtin;refine aO _ rfl (.tmp 5) (.tmp 6) 48 rfl 50 i0 _ Val.cells 3 32 Tryz.underlying48 hi0 hz0 hz1 hz2 rfl omA bC val_one w.heap.size (.slice (some ⟨w.heap.size,0,none⟩) 0 0) [] rfl (aj.empty (Blk.new' rfl) nlr) _ _ _ l rfl rfl (hl.next ai) smA mxA spA ?_;intro v' w1 hown' hg' hat';obtain⟨A',c',hv',_,_⟩:=hown'.form;have HOWN':=qh hown';clear hown';have hbel:Below w.heap.size w w1:=Below.grown ai hg' spA (bX nlr)))
 go_ret
 have h:=HOWN'.out
 simp only[List.nil_append]at hv' h
 subst hv'
 exact⟨⟨A',c',rfl,h⟩,hbel⟩
theorem ru(kd sq dy tb:Int)(A0:Option Addr)(cp:Nat)(row:List Val)(key:Val)(cl:Int)(vl:Val)(w:World)(hx:ag w w.heap.size Val.cells 3 A0 row)(h0:0<row.length)(hl:row.length≤1000):
 Calls Tryz.prog 124 #[.agg #[.int .i64 kd,.int .i64 sq,.int .i64 dy,.int .i64 tb,.slice A0 row.length cp,.int .i64 key.kind,.int .i64 key.num,.string key.text,.int .i64 cl,.int .i64 vl.kind,.int .i64 vl.num,.string vl.text]] w fun e w' =>
  (∃r:Rcd,e=.returned (.agg #[.slice r.A r.row.length r.cap,.slice r.SA r.seq.length r.xJ,.int .i64 r.day])∧aA r=dX ⟨kd,sq,dy,tb,A0,cp,row,key,cl,vl⟩∧dA w' w.heap.size r)∧Below w.heap.size w w':=by
 obtain⟨b9,o9,rfl,hb9,_⟩:=hx.get h0
 obtain⟨i7,hi7,hz7,hs7,hb7⟩:=info_parts wT
 have hmk:∀u:World,(Instr.makeSlice 22 (.int .i64 (row.length:Int)) (.int .i64 (row.length:Int))).run Tryz.prog u=.ok (.slice (some ⟨u.heap.size,0,none⟩) row.length row.length) (u.alloc (.cells (madeCells (intCells 0).toArray (row.length*1)) 3)):=fun u=>by
  have:=iN (P:=Tryz.prog) 22 3 i7 (.int .i64 0) Tryz.underlying22 hi7 hz7 .i64 .i64 row.length row.length nlr (by rw[hb7];omega) omA u
  rw[hs7]at this
  exact this
 have HX:=qh hx
 clear hx hi7 hz7 hs7 hb7
 go_enter Tryz.func124,Tryz.ntmps124
 go_upto_region 1 with (fail)
 refine ah (P:=fun u=>Code.wp _ _ _ _ u) (R:=fun u=>Blk u w.heap.size 52 #[.int .i64 kd,.int .i64 sq,.int .i64 dy,.int .i64 tb,.slice (some ⟨b9,o9,none⟩) row.length cp,.int .i64 key.kind,.int .i64 key.num,.string key.text,.int .i64 cl,.int .i64 vl.kind,.int .i64 vl.num,.string vl.text]∧Blk u (w.heap.size+1) 66 #[.slice none 0 0,.slice none 0 0,.int .i64 0]∧Below w.heap.size w u) ⟨?_,?_,?_⟩ ?_
 ·exact(Blk.new _ _ _).alloc _
 ·exact Blk.new' spA
 ·exact ai
 rintro W ⟨hC,hR,hbW⟩
 have hzW:=hR.lt
 have HC:=qh hC
 have HR:=qh hR
 have c1:=hC.cell 1
 have c4:=hC.cell 4
 simp only[gE3]at c1 c4
 clear hC hR
 go_upto_region 3 with (fail)
 clear hmk
 go_loopw [11] (fun vi wr =>∃i:Nat,i≤row.length∧vi=.int .i64 i∧aj wr W.heap.size 3 intCells 1 (.slice (some ⟨W.heap.size,0,none⟩) row.length row.length) (List.replicate i sq++List.replicate (row.length-i) 0)∧Below W.heap.size W wr) (fun vi _=>row.length-(intOf vi).toNat)
 case atStart=>exact⟨0,Nat.zero_le _,rfl,(by simpa using aj.made (x:=(0:Int)) bE omA (Blk.new _ _ _) nlr mxA),by exact ai⟩
 case round =>
  obtain⟨i,hi,rfl,hown,hbr⟩:=hrel
  have hwz:=hbr.size
  have HO:=qh hown
  have HCr:=qh (HC.out.below hbr omA)
  by_cases hlt:i<row.length
  ·have c1:=HCr.out.cell 1
   simp only[gE3]at c1
   have hln:row.length=(List.replicate i sq++List.replicate (row.length-i) 0).length:=by simp;omega
   have hcell:=hown.gq bE hln (i:=i) (by rw[←hln];exact hlt) (j:= 0) rfl
   have hfr:=hown.kH hln (i*1+0)
   have hst:=hown.gV bE hln (i:=i) (by rw[←hln];exact hlt) sq (j:= 0) (o:=i) (u:= .int .i64 sq) omA omA rfl
   have hset:(List.replicate i sq++List.replicate (row.length-i) (0:Int)).set i sq=List.replicate (i+1) sq++List.replicate (row.length-(i+1)) 0:=by
    rw[List.set_append_right _ _ spA,List.length_replicate,Nat.sub_self,show row.length-i=(row.length-(i+1))+1 by omega,List.replicate_succ,List.set_cons_zero,List.replicate_succ',List.append_assoc]
    rfl
   rw[hset]at hst
   have HST:=qh hst
   simp only[Nat.mul_one,Nat.add_zero]at hcell hfr
   obtain⟨z,hz⟩:∃z:Int,wr.cell? ⟨W.heap.size,i,none⟩=some (.int .i64 z):=⟨_,hcell⟩
   have hlt':decide (i<row.length)=true:=by simpa using hlt
   clear hown hst hset hcell hln
   go_wp2_with fail
   go_roundw
   case rel=>exact⟨i+1,by omega,by go_num,HST.out,hbr.setCell spA _⟩
   case measure=>exact meA
  ·have hlt':decide (i<row.length)=false:=by simpa using hlt
   obtain rfl:i=row.length:=by omega
   simp only[Nat.sub_self,List.replicate_zero,List.append_nil]at hown
   have HS:=qh hown
   have c2:=HCr.out.cell 2
   have c4:=HCr.out.cell 4
   simp only[gE3]at c2 c4
   have HRr:=qh (HR.out.below hbr hzW)
   have hxr:=aa hbW hbr hbW.size
   clear hown
   go_upto_region 7 with (fail)
   refine aJ (S:=fun u=>u.cell? ⟨w.heap.size,2,none⟩=some (.int .i64 dy)∧u.cell? ⟨w.heap.size,4,none⟩=some (.slice (some ⟨b9,o9,none⟩) row.length cp)) [7] krA ⟨c2,c4⟩ (fun hHeld =>?_)
   refine tkT 0 hHeld ?_
   refine tkT 1 hHeld ?_
   refine tkT 3 hHeld ?_
   refine tkT 4 hHeld ?_
   refine tkT 5 hHeld ?_
   refine r1T 2 (fun K hK =>?_)
   go_simp
   (go_at_call 96;(with_reducible refine(FR b9 o9 cp row.length row _ (HX.out.next hxr.drew) rfl omA).mono ?_))
   rintro e w5 ⟨⟨A',c',rfl,hown'⟩,hb5⟩
   have jl:Below wr.heap.size wr w5:=brf.drew.trans hb5
   have hCw:=HCr.out.below jl omA
   have hRw:=HRr.out.below jl omA
   have HOWN':=qh hown'
   replace c2:=hCw.cell 2
   replace c4:=hCw.cell 4
   simp only[gE3]at c2 c4
   go_wp2_with fail
   refine hK.out _ _ _ ⟨c2,c4⟩ (fun hHeld =>?_)
   clear hK K hown' hb5
   (try simp only[Act.put,gP6])
   refine tkT 6 hHeld ?_
   have d0:=hRw.cell 0
   have d1:=hRw.cell 1
   have d2:=hRw.cell 2
   have f0:=hRw.frozen 0
   have f1:=hRw.frozen 1
   have f2:=hRw.frozen 2
   simp only[gE3]at d0 d1 d2
   have hRl:=hRw.lt
   have HS5:=qh (HS.out.below jl nlr)
   have hx5:=aa hxr jl hxr.size
   have HRw:=qh hRw
   clear hCw hRw
   refine rzT 7 (fun K hK =>?_)
   go_simp
   refine hK.out _ _ _ ?_
   clear hK K
   refine aI krA ?_ _
   clear hHeld
   go_wp2_with fail
   refine bodyPost_ret (v:= .agg #[.slice A' row.length c',.slice (some ⟨W.heap.size,0,none⟩) row.length row.length,.int .i64 dy]) (by simp[results,Tryz.results124,go_sem,d0,d1,d2]) rfl ⟨⟨⟨A',c',row,some ⟨W.heap.size,0,none⟩,row.length,List.replicate row.length sq,dy⟩,?_,?_,?_,?_⟩,?_⟩
   ·rw[List.length_replicate]
   ·rfl
   ·exact vg (HOWN'.out.mono (show w.heap.size≤wr.heap.size by omega)) HRw.out (by decide)
   ·have h2:=HS5.out.mono (show w.heap.size≤W.heap.size by omega)
    have h3:aj w5 w.heap.size 3 intCells 1 (.slice (some ⟨W.heap.size,0,none⟩) (List.replicate row.length sq).length row.length) (List.replicate row.length sq):=by rw[List.length_replicate];exact h2
    exact vg h3 HRw.out (by decide)
   ·exact((hx5.setCell spA _).setCell spA _).setCell spA _
open Go.RowKit Go
theorem jD{l:List RTab}{k:Nat}{y t:RTab}(ht:t∈l.set k y):(∃i,∃hi:i<l.length,i≠k∧t=l[i])∨t=y:=by
 obtain⟨i,hi,rfl⟩:=List.getElem_of_mem ht
 rw[List.getElem_set]
 split
 ·exact .inr rfl
 ·rename_i hne
  exact .inl ⟨i,by simpa using hi,fun e=>hne e.symm,rfl⟩
section
variable {w w':World}{base k:Nat}{l:List RTab}
theorem dB.swap(h:dB w base l)(hk:k<l.length){A3:Option Addr}{c3:Nat}{new:List Rcd}
 (h1:∀i (hi:i<l.length),i≠k→aj w' base 66 Rcd.cells 3 (.slice l[i].A l[i].recs.length l[i].cap) l[i].recs)
 (h2:aj w' base 66 Rcd.cells 3 (.slice A3 new.length c3) new)
 (h3:∀i (hi:i<l.length),i≠k→∀r∈l[i].recs,dA w' base r)
 (h4:∀r∈new,dA w' base r)
 (h5:∀i (hi:i<l.length),i≠k→kJ l[i].A A3)
 (h6:∀i (hi:i<l.length),i≠k→∀r∈l[i].recs,∀s∈new,dO r s)
 (h7:new.Pairwise dO):dB w' base (l.set k ⟨A3,c3,new⟩):=by
 refine⟨fun t ht =>?_,fun t ht r hr =>?_,fun i j hi hj hne =>?_,fun i j hi hj hne r hr s hs =>?_,fun t ht =>?_⟩
 ·rcases jD ht with ⟨i,hi,hne,rfl⟩|rfl
  ·exact h1 i hi hne
  ·exact h2
 ·rcases jD ht with ⟨i,hi,hne,rfl⟩|rfl
  ·exact h3 i hi hne r hr
  ·exact h4 r hr
 ·rw[List.length_set]at hi hj
  rw[List.getElem_set,List.getElem_set]
  by_cases hik:k=i
  ·rw[if_pos hik,if_neg omA]
   exact(h5 j hj omA).symm
  ·rw[if_neg hik]
   by_cases hjk:k=j
   ·rw[if_pos hjk]
    exact h5 i hi omA
   ·rw[if_neg hjk]
    exact h.mD i j hi hj hne
 ·rw[List.length_set]at hi hj
  rw[List.getElem_set]at hr hs
  by_cases hik:k=i
  ·rw[if_pos hik]at hr
   rw[if_neg omA]at hs
   exact(h6 j hj omA s hs r hr).symm
  ·rw[if_neg hik]at hr
   by_cases hjk:k=j
   ·rw[if_pos hjk]at hs
    exact h6 i hi omA r hr s hs
   ·rw[if_neg hjk]at hs
    exact h.jf i j hi hj hne r hr s hs
 ·rcases jD ht with ⟨i,hi,hne,rfl⟩|rfl
  ·exact h.mU _ (lgm hi)
  ·exact h7
theorem dB.EN(h:dB w base l)(hk:k<l.length){A3:Option Addr}{c3:Nat}{new:List Rcd}
 (hg:w.grownBy w' (Value.slice l[k].A l[k].recs.length l[k].cap).ownBlock)
 (h2:aj w' base 66 Rcd.cells 3 (.slice A3 new.length c3) new)
 (hat:∀a,A3=some a→(Value.slice l[k].A l[k].recs.length l[k].cap).ownBlock=some a.block∨w.heap.size≤a.block)
 (h4:∀r∈new,dA w base r)
 (h6:∀i (hi:i<l.length),i≠k→∀r∈l[i].recs,∀s∈new,dO r s)
 (h7:new.Pairwise dO):dB w' base (l.set k ⟨A3,c3,new⟩):=by
 have hown:=h.tab l[k] (lgm hk)
 have hR:∀r,dA w base r→dA w' base r:=fun r hr=>hr.keep hg (fun q hq cs=>by
  obtain⟨cs',hc⟩:=hown.typ hq
  exact lC hc AA cs) (fun q hq cs=>by
  obtain⟨cs',hc⟩:=hown.typ hq
  exact lC hc Ez cs)
 refine h.swap hk (fun i hi hne =>?_) h2 (fun i hi hne r hr=>hR r (h.row _ (lgm hi) r hr)) (fun r hr=>hR r (h4 r hr)) (fun i hi hne =>?_) h6 h7
 ·refine(h.tab l[i] (lgm hi)).kept hg fun q hq e =>?_
  have h2:=h.mD i k hi hk hne
  cases hA:l[i].A with
  | none=>rw[hA]at hq;simp[Value.ownBlock]at hq
  | some a =>
    cases hB:l[k].A with
    | none=>rw[hB]at e;simp[Value.ownBlock]at e
    | some b =>
      rw[hA,hB]at h2
      rw[hA]at hq
      rw[hB]at e
      have e1:a.block=q:=by simpa[Value.ownBlock]using hq
      have e2:q=b.block:=by simpa[Value.ownBlock]using e
      exact h2 a b rfl rfl (e1.trans e2)
 ·intro a b ha hb e
  rcases hat b hb with h1|h1
  ·have h2:=h.mD i k hi hk hne
   cases hlA:l[k].A with
   | none=>rw[hlA]at h1;simp[Value.ownBlock]at h1
   | some c =>
     rw[hlA]at h1 h2
     have:c.block=b.block:=by simpa[Value.ownBlock]using h1
     exact h2 a c ha rfl (by rw[e,this])
  ·have h2:=(h.tab l[i] (lgm hi)).lt a.block cw
   omega
theorem zW{s r:Rcd}{B:Nat}(hs:dA w base s)(hr:dA w' B r)(hB:w.heap.size≤B):dO s r:=
 ⟨fun a b ha hb e=>by
  have h1:=hs.1.lt a.block cw
  have h2:=hr.1.row b.block cC
  omega,fun a b ha hb e=>by
  have h1:=hs.2.lt a.block cw
  have h2:=hr.2.row b.block cC
  omega⟩
theorem Hu{recs:List Rcd}{r:Rcd}{i:Nat}(h:recs.Pairwise dO)(hr:∀s∈recs,dO s r):(recs.take i++r::recs.drop i).Pairwise dO:=by
 refine List.pairwise_append.2 ⟨h.sublist (List.take_sublist _ _),List.pairwise_cons.2 ⟨fun s hs=>(hr s (List.mem_of_mem_drop hs)).symm,h.sublist (List.drop_sublist _ _)⟩,fun a ha b hb =>?_⟩
 rcases List.mem_cons.1 hb with rfl|hb
 ·exact hr a (List.mem_of_mem_take ha)
 ·have h2:=h
  rw[←List.take_append_drop i recs,List.pairwise_append]at h2
  exact h2.2.2 a ha b hb
theorem Hw{recs:List Rcd}{i:Nat}(h:recs.Pairwise dO):(recs.take i++recs.drop (i+1)).Pairwise dO:=by
 refine h.sublist ?_
 have h1:(recs.drop (i+1)).Sublist (recs.drop i):=by rw[←List.drop_drop];exact List.drop_sublist _ _
 have h2:=(List.Sublist.refl (recs.take i)).append h1
 rwa [List.take_append_drop]at h2
theorem zV{recs:List Rcd}{r:Rcd}{i:Nat}(h:recs.Pairwise dO)(hr:∀j (hj:j<recs.length),j≠i→dO recs[j] r):(recs.set i r).Pairwise dO:=by
 rw[List.pairwise_iff_getElem]
 intro a b ha hb hab
 rw[List.length_set]at ha hb
 have h0:=List.pairwise_iff_getElem.1 h a b ha hb hab
 rw[List.getElem_set,List.getElem_set]
 split
 ·rename_i e
  rw[if_neg omA]
  exact(hr b hb omA).symm
 ·split
  ·exact hr a ha omA
  ·exact h0
theorem dB.Tj(h:dB w base l)(hk:k<l.length){A3:Option Addr}{c3:Nat}{r:Rcd}{i:Nat}
 (hg:w.grownBy w' (Value.slice l[k].A l[k].recs.length l[k].cap).ownBlock)
 (h2:aj w' base 66 Rcd.cells 3 (.slice A3 (l[k].recs.take i++r::l[k].recs.drop i).length c3) (l[k].recs.take i++r::l[k].recs.drop i))
 (hat:∀a,A3=some a→(Value.slice l[k].A l[k].recs.length l[k].cap).ownBlock=some a.block∨w.heap.size≤a.block)
 (hr:dA w base r) (hf:∀t∈l,∀s∈t.recs,dO s r):dB w' base (l.set k ⟨A3,c3,l[k].recs.take i++r::l[k].recs.drop i⟩):=by
 have hm:∀s∈l[k].recs.take i++r::l[k].recs.drop i,s=r∨s∈l[k].recs:=fun s hs=>by
  rcases List.mem_append.1 hs with h1|h1
  ·exact .inr (List.mem_of_mem_take h1)
  ·rcases List.mem_cons.1 h1 with h1|h1
   ·exact .inl h1
   ·exact .inr (List.mem_of_mem_drop h1)
 refine h.EN hk hg h2 hat (fun s hs =>?_) (fun j hj hne s hs s' hs' =>?_) (Hu (h.mU _ (lgm hk)) fun s hs=>hf _ (lgm hk) s hs)
 ·rcases hm s hs with rfl|h1
  ·exact hr
  ·exact h.row _ (lgm hk) s h1
 ·rcases hm s' hs' with rfl|h1
  ·exact hf _ (lgm hj) s hs
  ·exact h.jf j k hj hk hne s hs s' h1
theorem dB.Vx(h:dB w base l)(hk:k<l.length){A3:Option Addr}{c3:Nat}{i:Nat}
 (hg:w.grownBy w' (Value.slice l[k].A l[k].recs.length l[k].cap).ownBlock)
 (h2:aj w' base 66 Rcd.cells 3 (.slice A3 (l[k].recs.take i++l[k].recs.drop (i+1)).length c3) (l[k].recs.take i++l[k].recs.drop (i+1)))
 (hat:∀a,A3=some a→(Value.slice l[k].A l[k].recs.length l[k].cap).ownBlock=some a.block∨w.heap.size≤a.block):dB w' base (l.set k ⟨A3,c3,l[k].recs.take i++l[k].recs.drop (i+1)⟩):=by
 have hm:∀s∈l[k].recs.take i++l[k].recs.drop (i+1),s∈l[k].recs:=fun s hs=>by
  rcases List.mem_append.1 hs with h1|h1
  ·exact List.mem_of_mem_take h1
  ·exact List.mem_of_mem_drop h1
 exact h.EN hk hg h2 hat (fun s hs=>h.row _ (lgm hk) s (hm s hs)) (fun j hj hne s hs s' hs'=>h.jf j k hj hk hne s hs s' (hm s' hs')) (Hw (h.mU _ (lgm hk)))
theorem dB.Tc(h:dB w base l)(hk:k<l.length){A3:Option Addr}{c3:Nat}{r:Rcd}{i:Nat}
 (hg:w.grownBy w' (Value.slice l[k].A l[k].recs.length l[k].cap).ownBlock)
 (h2:aj w' base 66 Rcd.cells 3 (.slice A3 (l[k].recs.set i r).length c3) (l[k].recs.set i r))
 (hat:∀a,A3=some a→(Value.slice l[k].A l[k].recs.length l[k].cap).ownBlock=some a.block∨w.heap.size≤a.block)
 (hr:dA w base r) (hf:∀t∈l,∀s∈t.recs,dO s r):dB w' base (l.set k ⟨A3,c3,l[k].recs.set i r⟩):=by
 refine h.EN hk hg h2 hat (fun s hs =>?_) (fun j hj hne s hs s' hs' =>?_) (zV (h.mU _ (lgm hk)) fun j hj hne=>hf _ (lgm hk) _ (lgm hj))
 ·rcases List.mem_or_eq_of_mem_set hs with h1|rfl
  ·exact h.row _ (lgm hk) s h1
  ·exact hr
 ·rcases List.mem_or_eq_of_mem_set hs' with h1|rfl
  ·exact h.jf j k hj hk hne s hs s' h1
  ·exact hf _ (lgm hj) s hs
theorem dB.Ta(h:dB w base l)(hk:k<l.length){j:Nat}(hj:j<l[k].recs.length){r':Rcd}(hcell:Rcd.cells r'=Rcd.cells l[k].recs[j])(hA:r'.A=l[k].recs[j].A)(hSA:r'.SA=l[k].recs[j].SA)(hnew:dA w' base r')
 (iK:∀g,(∀a,l[k].recs[j].A=some a→g≠a.block)→(∀a,l[k].recs[j].SA=some a→g≠a.block)→w'.heap[g]?=w.heap[g]?):dB w' base (l.set k ⟨l[k].A,l[k].cap,l[k].recs.set j r'⟩):=by
 have hr:=h.row l[k] (lgm hk) l[k].recs[j] (lgm hj)
 have hrow:∀s,dA w base s→dO s l[k].recs[j]→dA w' base s:=fun s hs hap =>
  ⟨hs.1.same fun g hg=>iK g (jh hap.1 hg) (dE hs.1 hr.2 (by decide) hg),hs.2.same fun g hg=>iK g (dE hs.2 hr.1 (by decide) hg) (jh hap.2 hg)⟩
 have htab:∀t∈l,aj w' base 66 Rcd.cells 3 (.slice t.A t.recs.length t.cap) t.recs:=fun t ht=>(h.tab t ht).same fun g hg=>iK g (dE (h.tab t ht) hr.1 (by decide) hg) (dE (h.tab t ht) hr.2 (by decide) hg)
 have O3:∀s,dO s l[k].recs[j]→dO s r':=fun s hs=>⟨fun a b ha hb=>hs.1 a b ha (by rw[←hA];exact hb),fun a b ha hb=>hs.2 a b ha (by rw[←hSA];exact hb)⟩
 refine h.swap hk (fun i hi hne=>htab _ (lgm hi)) (jS hj hcell (htab _ (lgm hk))) (fun i hi hne r hr'=>hrow r (h.row _ (lgm hi) r hr') (h.jf i k hi hk hne r hr' _ (lgm hj))) (fun r hr' =>?_) (fun i hi hne=>h.mD i k hi hk hne) (fun i hi hne r hr' s hs =>?_) (zV (h.mU _ (lgm hk)) fun m hm hne=>O3 _ (xK (h.mU _ (lgm hk)) hm hj hne))
 ·obtain⟨m,hm,rfl⟩:=List.getElem_of_mem hr'
  rw[List.getElem_set]
  rw[List.length_set]at hm
  by_cases hjm:j=m
  ·rw[if_pos hjm]
   exact hnew
  ·rw[if_neg hjm]
   exact hrow _ (h.row _ (lgm hk) _ (lgm hm)) (xK (h.mU _ (lgm hk)) hm hj omA)
 ·rcases List.mem_or_eq_of_mem_set hs with h1|rfl
  ·exact h.jf i k hi hk hne r hr' s h1
  ·exact O3 r (h.jf i k hi hk hne r hr' _ (lgm hj))
end
theorem K9{w:World}{base g n cap:Nat}{l:List Rcd}(h:aj w base 66 Rcd.cells 3 (.slice (some ⟨g,0,none⟩) n cap) l)(hn:n=l.length){i:Nat}(hi:i<l.length)(x:Rcd):
 aj (((w.setCell ⟨g,i*3,none⟩ (.slice x.A x.row.length x.cap)).setCell ⟨g,i*3+1,none⟩ (.slice x.SA x.seq.length x.xJ)).setCell ⟨g,i*3+2,none⟩ (.int .i64 x.day)) base 66 Rcd.cells 3 (.slice (some ⟨g,0,none⟩) n cap) (l.set i x):=by
 obtain⟨xA,xc,xr,xS,xsc,xs,xd⟩:=x
 obtain⟨⟨yA,yc,yr,yS,ysc,ys,yd⟩,hy⟩:∃y,l[i]=y:=⟨_,rfl⟩
 have h1:=h.gV bG hn hi (⟨xA,xc,xr,yS,ysc,ys,yd⟩:Rcd) (j:= 0) (o:=i*3) (u:= .slice xA xr.length xc) omA omA (by rw[hy];rfl)
 have hi1:i<(l.set i (⟨xA,xc,xr,yS,ysc,ys,yd⟩:Rcd)).length:=by simpa using hi
 have h2:=h1.gV bG (by simpa using hn) hi1 (⟨xA,xc,xr,xS,xsc,xs,yd⟩:Rcd) (j:= 1) (o:=i*3+1) (u:= .slice xS xs.length xsc) omA omA (by rw[List.getElem_set_self];rfl)
 rw[List.set_set]at h2
 have hi2:i<(l.set i (⟨xA,xc,xr,xS,xsc,xs,yd⟩:Rcd)).length:=by simpa using hi
 have h3:=h2.gV bG (by simpa using hn) hi2 (⟨xA,xc,xr,xS,xsc,xs,xd⟩:Rcd) (j:= 2) (o:=i*3+2) (u:= .int .i64 xd) omA omA (by rw[List.getElem_set_self];rfl)
 rw[List.set_set]at h3
 exact h3
section
variable {w w':World}{base q n k:Nat}{l:List RTab}
theorem rG(hO:aj w base 46 RTab.cells 1 (.slice (some ⟨q,0,none⟩) n n) l)(hn:n=l.length)(hT:dB w base l)(hk:k<l.length){A3:Option Addr}{c3 n3:Nat}{new:List Rcd}
 (hg:w.grownBy w' (Value.slice l[k].A l[k].recs.length l[k].cap).ownBlock) (hT':dB w' base (l.set k ⟨A3,c3,new⟩)) (h3:n3=new.length):
 aj (w'.setCell ⟨q,k,none⟩ (.slice A3 n3 c3)) base 46 RTab.cells 1 (.slice (some ⟨q,0,none⟩) n n) (l.set k ⟨A3,c3,new⟩)∧dB (w'.setCell ⟨q,k,none⟩ (.slice A3 n3 c3)) base (l.set k ⟨A3,c3,new⟩):=by
 subst h3
 have hO':=hO.kept hg (hO.eT (hT.tab _ (lgm hk)) nO)
 obtain⟨cs,hc⟩:=hO'.typ (q:=q) rfl
 exact⟨hO'.gV dH hn hk ⟨A3,c3,new⟩ (j:= 0) (o:=k) (u:= .slice A3 new.length c3) omA omA rfl,hT'.far hc _⟩
theorem ug(hO:aj w base 46 RTab.cells 1 (.slice (some ⟨q,0,none⟩) n n) l)(hn:n=l.length)(hk:k<l.length){new:List Rcd}
 (hO':aj w' base 46 RTab.cells 1 (.slice (some ⟨q,0,none⟩) n n) l) (hl:new.length=l[k].recs.length):aj w' base 46 RTab.cells 1 (.slice (some ⟨q,0,none⟩) n n) (l.set k ⟨l[k].A,l[k].cap,new⟩):=by
 subst hn
 have h:=jS (x:=(⟨l[k].A,l[k].cap,new⟩:RTab)) hk (by show [Value.slice _ _ _]=[Value.slice _ _ _];rw[hl]) hO'
 rw[List.length_set]at h
 exact h
def Hd(l l':List RTab)(w w':World):Prop:= ∀(B:Nat) (A:Option Addr) (c:Nat) (out:List Int),aj w B 3 intCells 1 (.slice A out.length c) out→(∀t∈l,∀r∈t.recs,kJ r.SA A)→aj w' B 3 intCells 1 (.slice A out.length c) out ∧ ∀t∈l',∀r∈t.recs,kJ r.SA A
def jL(base q n:Nat)(l:List RTab)(pl:List (List aG))(w w':World):Prop:= ∃l',l'.length=n∧aj w' base 46 RTab.cells 1 (.slice (some ⟨q,0,none⟩) n n) l'∧dB w' base l'∧l'.map aD=pl∧Below base w w'∧Hd l l' w w'
theorem jL.drew{base q n:Nat}{l:List RTab}{pl:List (List aG)}{w w':World}(h:jL base q n l pl w w'):jL base q n l pl w w'.drew:=by
 obtain⟨l',h1,h2,h3,h4,h5,h6⟩:=h
 exact⟨l',h1,h2.below brf.drew nlr,h3.below brf.drew nlr,h4,h5.drew,fun B A c out ho hap=>⟨(h6 B A c out ho hap).1.below brf.drew nlr,(h6 B A c out ho hap).2⟩⟩
theorem K6{w U v6 v7:World}(hbase:base≤w.heap.size)(hO:aj U base 46 RTab.cells 1 (.slice (some ⟨q,0,none⟩) n n) l)(hn:n=l.length)(hT:dB U base l)(hk:k<l.length)(hxU:Below w.heap.size w U)(hb6:Below U.heap.size U v6)
 {A3:Option Addr}{c3 i:Nat}{r:Rcd}(hr:dA v6 U.heap.size r) (hg:v6.grownBy v7 (Value.slice l[k].A l[k].recs.length l[k].cap).ownBlock)
 (h2:aj v7 base 66 Rcd.cells 3 (.slice A3 (l[k].recs.length+1) c3) (l[k].recs.take i++r::l[k].recs.drop i))
 (hat:∀a,A3=some a→(Value.slice l[k].A l[k].recs.length l[k].cap).ownBlock=some a.block∨v6.heap.size≤a.block) {x:Chg}(hx:x.table=(k:Int)) (hp:(l[k].recs.take i++r::l[k].recs.drop i).map aA=aW (l[k].recs.map aA) x):
 jL base q n l (aQ (l.map aD) x) w (v7.setCell ⟨q,k,none⟩ (.slice A3 (l[k].recs.length+1) c3)):=by
 have hlen:l[k].recs.length+1=(l[k].recs.take i++r::l[k].recs.drop i).length:=by
  have:(l[k].recs.take i++l[k].recs.drop i).length=l[k].recs.length:=by rw[List.take_append_drop]
  simp only[List.length_append,List.length_cons]at this ⊢
  omega
 have hzU:=hxU.size
 have hO6:=hO.below hb6 nlr
 have hT6:=hT.below hb6 nlr
 rw[hlen]at h2
 have hT7:=hT6.Tj hk hg h2 hat ⟨hr.1.mono omA,hr.2.mono omA⟩ (fun t ht s hs=>zW (hT.row t ht s hs) hr nlr)
 have hq:=rG hO6 hn hT6 hk hg hT7 hlen
 refine⟨_,by rw[List.length_set];exact hn.symm,hq.1,hq.2,mW rfl hk hx hp,?_,fun B A c out ho hap =>?_⟩
 ·have h6:Below base w v6:=(aa (hxU.mono hbase) hb6 omA)
  refine(h6.grown hg (by have:=hb6.size;omega) (fun g e =>?_)).setCell (hO.row q rfl) _
  exact(hT.tab _ (lgm hk)).row g e
 ·have h6:=(ho.below hxU nlr).below hb6 nlr
  have h7:=h6.kept hg (h6.eT (hT6.tab _ (lgm hk)) (by decide))
  obtain⟨cs,hc⟩:=(hO6.kept hg (hO6.eT (hT6.tab _ (lgm hk)) nO)).typ (q:=q) rfl
  refine⟨h7.jy hc (by decide) _,fun t ht s hs =>?_⟩
  rcases jD ht with ⟨j,hj,_,rfl⟩|rfl
  ·exact hap _ (lgm hj) s hs
  ·have hs:s∈l[k].recs.take i++r::l[k].recs.drop i:=hs
   have hm:s=r∨s∈l[k].recs:=by
    rcases List.mem_append.1 hs with h1|h1
    ·exact .inr (List.mem_of_mem_take h1)
    ·rcases List.mem_cons.1 h1 with h1|h1
     ·exact .inl h1
     ·exact .inr (List.mem_of_mem_drop h1)
   rcases hm with rfl|h1
   ·intro a b ha hb e
    have h1:=hr.2.row a.block cw
    have h2:=ho.lt b.block cC
    omega
   ·exact hap _ (lgm hk) s h1
theorem K7{w U v7:World}(hbase:base≤w.heap.size)(hO:aj U base 46 RTab.cells 1 (.slice (some ⟨q,0,none⟩) n n) l)(hn:n=l.length)(hT:dB U base l)(hk:k<l.length)(hxU:Below w.heap.size w U)
 {A3:Option Addr}{c3 i n3:Nat}(hg:U.grownBy v7 (Value.slice l[k].A l[k].recs.length l[k].cap).ownBlock)
 (h2:aj v7 base 66 Rcd.cells 3 (.slice A3 n3 c3) (l[k].recs.take i++l[k].recs.drop (i+1))) (h3:n3=(l[k].recs.take i++l[k].recs.drop (i+1)).length)
 (hat:∀a,A3=some a→(Value.slice l[k].A l[k].recs.length l[k].cap).ownBlock=some a.block∨U.heap.size≤a.block) {x:Chg}(hx:x.table=(k:Int)) (hp:(l[k].recs.take i++l[k].recs.drop (i+1)).map aA=aW (l[k].recs.map aA) x):
 jL base q n l (aQ (l.map aD) x) w (v7.setCell ⟨q,k,none⟩ (.slice A3 n3 c3)):=by
 subst h3
 have hzU:=hxU.size
 have hT7:=hT.Vx hk hg h2 hat
 have hq:=rG hO hn hT hk hg hT7 rfl
 refine⟨_,by rw[List.length_set];exact hn.symm,hq.1,hq.2,mW rfl hk hx hp,?_,fun B A c out ho hap =>?_⟩
 ·refine((hxU.mono hbase).grown hg omA (fun g e =>?_)).setCell (hO.row q rfl) _
  exact(hT.tab _ (lgm hk)).row g e
 ·have h6:=ho.below hxU nlr
  have h7:=h6.kept hg (h6.eT (hT.tab _ (lgm hk)) (by decide))
  obtain⟨cs,hc⟩:=(hO.kept hg (hO.eT (hT.tab _ (lgm hk)) nO)).typ (q:=q) rfl
  refine⟨h7.jy hc (by decide) _,fun t ht s hs =>?_⟩
  rcases jD ht with ⟨j,hj,_,rfl⟩|rfl
  ·exact hap _ (lgm hj) s hs
  ·have hs:s∈l[k].recs.take i++l[k].recs.drop (i+1):=hs
   rcases List.mem_append.1 hs with h1|h1
   ·exact hap _ (lgm hk) s (List.mem_of_mem_take h1)
   ·exact hap _ (lgm hk) s (List.mem_of_mem_drop h1)
theorem K4{w U v5:World}(hbase:base≤w.heap.size)(hO:aj U base 46 RTab.cells 1 (.slice (some ⟨q,0,none⟩) n n) l)(hn:n=l.length)(hT:dB U base l)(hk:k<l.length)(hxU:Below w.heap.size w U)(hb5:Below U.heap.size U v5)
 {g i:Nat}{r:Rcd}(hr:dA v5 U.heap.size r) (hA:l[k].A=some ⟨g,0,none⟩) (hi:i<l[k].recs.length) {x:Chg}(hx:x.table=(k:Int)) (hp:(l[k].recs.set i r).map aA=aW (l[k].recs.map aA) x):
 jL base q n l (aQ (l.map aD) x) w (((v5.setCell ⟨g,i*3,none⟩ (.slice r.A r.row.length r.cap)).setCell ⟨g,i*3+1,none⟩ (.slice r.SA r.seq.length r.xJ)).setCell ⟨g,i*3+2,none⟩ (.int .i64 r.day)):=by
 have hzU:=hxU.size
 have hO5:=hO.below hb5 nlr
 have hT5:=hT.below hb5 nlr
 have hown:=hT5.tab _ (lgm hk)
 have hown':=hown
 rw[hA]at hown
 have h2:=K9 hown rfl hi r
 have hg:v5.grownBy (((v5.setCell ⟨g,i*3,none⟩ (.slice r.A r.row.length r.cap)).setCell ⟨g,i*3+1,none⟩ (.slice r.SA r.seq.length r.xJ)).setCell ⟨g,i*3+2,none⟩ (.int .i64 r.day)) (Value.slice l[k].A l[k].recs.length l[k].cap).ownBlock:=by
  rw[hA]
  have h1:=ak (p:=⟨g,i*3,none⟩) (World.grownBy.refl v5 (some g)) (.inl rfl) (.slice r.A r.row.length r.cap)
  have h3:=ak (p:=⟨g,i*3+1,none⟩) h1 (.inl rfl) (.slice r.SA r.seq.length r.xJ)
  exact ak (p:=⟨g,i*3+2,none⟩) h3 (.inl rfl) (.int .i64 r.day)
 have hT7:=hT5.Tc (A3:=l[k].A) (c3:=l[k].cap) (r:=r) (i:=i) hk hg (by rw[List.length_set,hA];exact h2) (fun a ha =>.inl cw) ⟨hr.1.mono omA,hr.2.mono omA⟩ (fun t ht s hs=>zW (hT.row t ht s hs) hr nlr)
 have hO7:=ug hO5 hn hk (new:=l[k].recs.set i r) (hO5.kept hg (hO5.eT hown' nO)) (by rw[List.length_set])
 refine⟨_,by rw[List.length_set];exact hn.symm,hO7,hT7,mW rfl hk hx hp,?_,fun B A c out ho hap =>?_⟩
 ·have hgb:base≤g:=hown.row g rfl
  have h5:Below base w v5:=aa (hxU.mono hbase) hb5 omA
  exact((h5.setCell hgb _).setCell hgb _).setCell hgb _
 ·have h6:=(ho.below hxU nlr).below hb5 nlr
  refine⟨h6.kept hg (h6.eT hown' (by decide)),fun t ht s hs =>?_⟩
  rcases jD ht with ⟨j,hj,_,rfl⟩|rfl
  ·exact hap _ (lgm hj) s hs
  ·rcases List.mem_or_eq_of_mem_set hs with h1|rfl
   ·exact hap _ (lgm hk) s h1
   ·intro a b ha hb e
    have h1:=hr.2.row a.block cw
    have h2:=ho.lt b.block cC
    omega
theorem K3{w U v5:World}(hbase:base≤w.heap.size)(hO:aj U base 46 RTab.cells 1 (.slice (some ⟨q,0,none⟩) n n) l)(hn:n=l.length)(hT:dB U base l)(hk:k<l.length)(hxU:Below w.heap.size w U)(hx5:Below base w v5)
 {j:Nat}(hj:j<l[k].recs.length) {r':Rcd}(hcell:Rcd.cells r'=Rcd.cells l[k].recs[j]) (hA:r'.A=l[k].recs[j].A) (hSA:r'.SA=l[k].recs[j].SA) (hnew:dA v5 base r')
 (iK:∀g,(∀a,l[k].recs[j].A=some a→g≠a.block)→(∀a,l[k].recs[j].SA=some a→g≠a.block)→v5.heap[g]?=U.heap[g]?) {x:Chg}(hx:x.table=(k:Int)) (hp:(l[k].recs.set j r').map aA=aW (l[k].recs.map aA) x):
 jL base q n l (aQ (l.map aD) x) w v5:=by
 have hr:=hT.row l[k] (lgm hk) l[k].recs[j] (lgm hj)
 have hO2:aj v5 base 46 RTab.cells 1 (.slice (some ⟨q,0,none⟩) n n) l:=hO.same fun g hg=>iK g (dE hO hr.1 (by decide) hg) (dE hO hr.2 (by decide) hg)
 refine⟨_,by rw[List.length_set];exact hn.symm,ug hO hn hk hO2 (by rw[List.length_set]),hT.Ta hk hj hcell hA hSA hnew iK,mW rfl hk hx hp,hx5,fun B A c out ho hap =>?_⟩
 have Vf:=hap _ (lgm hk) _ (lgm hj)
 have hU:=ho.below hxU nlr
 refine⟨hU.same fun g hg=>iK g (dE hU hr.1 (by decide) hg) (jh Vf.symm hg),fun t ht s hs =>?_⟩
 rcases jD ht with ⟨i,hi,_,rfl⟩|rfl
 ·exact hap _ (lgm hi) s hs
 ·rcases List.mem_or_eq_of_mem_set hs with h1|rfl
  ·exact hap _ (lgm hk) s h1
  ·rw[hSA]
   exact Vf
end
end Go.Proofs.YtjidligipoldeaaGreat
