/-
  Contracts and plain laws of this seat, part 40.
-/
import Derived.Test.YtebippoohpnjkaaGreatE19
set_option linter.unusedVariables false
set_option linter.unusedSimpArgs false
set_option maxRecDepth 100000
set_option maxHeartbeats 16000000
namespace Go.Proofs.YtebippoohpnjkaaGreat
open Go.RowKit
theorem CZ(g b:Nat)(w:World)(hk:aO w g b):Calls Tryz.prog 60 #[.pointer (some ⟨g,0,none⟩)] w (oL w g b):=by
 have hgl:=hk.ltg
 have hbl:=hk.lt
 have HK:=qh hk
 clear hk
 go_enter Tryz.func60,Tryz.ntmps60
 go_wp2_with fail
 (with_reducible refine(az g b 5 _ (HK.out.alloc _) omA omA).mono ?_)
 rintro e w1 ⟨r1,rfl,hr1,hk1,hg1⟩
 have hR1:=Blk.grown (Blk.new w 62 #[.int .i64 0,.int .i64 0,.string ⟨#[]⟩]) hg1 inA
 have hG1:w.grownBy w1 (some g):=au (av _ ak) hg1
 have HK1:=qh hk1
 have HR1:=qh hR1
 have hr5:r1<5:=by rcases hr1 with h|h<;>omega
 clear hk1 hr1 hR1 HK
 rcases(show r1=0∨r1=1∨r1=2∨(r1=3∨r1=4) by omega) with rfl|rfl|rfl|h
 ·have hR:=HR1.out
  have c0:=hR.cell 0
  have c1:=hR.cell 1
  have c2:=hR.cell 2
  have f0:=hR.frozen 0
  have f1:=hR.frozen 1
  have f2:=hR.frozen 2
  simp only[gE3]at c0 c1 c2
  clear hR
  go_wp2_with fail
  refine bodyPost_ret (v:= .agg #[.int .i64 0,.int .i64 0,.string ⟨#[]⟩]) (by simp[results,Tryz.results60,go_sem,c0,c1,c2]) rfl ⟨⟨0,0,⟨#[]⟩⟩,rfl,?_,?_⟩
  ·exact(((HK1.out).far smA smA _).far smA smA _).far smA smA _
  ·exact ah (ah (ah hG1 (.inr nlr) _) (.inr nlr) _) (.inr nlr) _
 ·(
  go_wp2_with fail
  (with_reducible refine(rV g b _ HK1.out).mono ?_)
  rintro e w2 ⟨⟨vk,vn,vt⟩,rfl,hk2,hg2⟩
  have hR:=HR1.out.grown hg2 inA
  have hG2:=au hG1 hg2
  have HK2:=qh hk2
  have c0:=hR.cell 0
  have c1:=hR.cell 1
  have c2:=hR.cell 2
  have f0:=hR.frozen 0
  have f1:=hR.frozen 1
  have f2:=hR.frozen 2
  simp only[gE3]at c0 c1 c2
  clear hk2 hR
  go_wp2_with fail
  refine bodyPost_ret (v:= .agg #[.int .i64 vk,.int .i64 vn,.string vt]) (by simp[results,Tryz.results60,go_sem,c0,c1,c2]) rfl ⟨⟨vk,vn,vt⟩,rfl,?_,?_⟩
  ·exact(((HK2.out).far smA smA _).far smA smA _).far smA smA _
  ·exact ah (ah (ah hG2 (.inr nlr) _) (.inr nlr) _) (.inr nlr) _)
 ·(
  go_wp2_with fail
  (with_reducible refine(rV g b _ HK1.out).mono ?_)
  rintro e w2 ⟨⟨vk,vn,vt⟩,rfl,hk2,hg2⟩
  have hR:=HR1.out.grown hg2 inA
  have hG2:=au hG1 hg2
  have HK2:=qh hk2
  have c0:=hR.cell 0
  have c1:=hR.cell 1
  have c2:=hR.cell 2
  have f0:=hR.frozen 0
  have f1:=hR.frozen 1
  have f2:=hR.frozen 2
  simp only[gE3]at c0 c1 c2
  clear hk2 hR
  go_wp2_with fail
  refine bodyPost_ret (v:= .agg #[.int .i64 vk,.int .i64 vn,.string vt]) (by simp[results,Tryz.results60,go_sem,c0,c1,c2]) rfl ⟨⟨vk,vn,vt⟩,rfl,?_,?_⟩
  ·exact(((HK2.out).far smA smA _).far smA smA _).far smA smA _
  ·exact ah (ah (ah hG2 (.inr nlr) _) (.inr nlr) _) (.inr nlr) _)
 ·have h0:((r1:Int) == 0)=false:=by simp;omega
  have h1:((r1:Int) == 1)=false:=by simp;omega
  have h2:((r1:Int) == 2)=false:=by simp;omega
  clear h
  go_wp2_with fail
  (with_reducible refine(AR g b _ HK1.out).mono ?_)
  rintro e w2 ⟨⟨vk,vn,vt⟩,rfl,hk2,hg2⟩
  have hR:=HR1.out.grown hg2 inA
  have hG2:=au hG1 hg2
  have HK2:=qh hk2
  have c0:=hR.cell 0
  have c1:=hR.cell 1
  have c2:=hR.cell 2
  have f0:=hR.frozen 0
  have f1:=hR.frozen 1
  have f2:=hR.frozen 2
  simp only[gE3]at c0 c1 c2
  clear hk2 hR
  go_wp2_with fail
  refine bodyPost_ret (v:= .agg #[.int .i64 vk,.int .i64 vn,.string vt]) (by simp[results,Tryz.results60,go_sem,c0,c1,c2]) rfl ⟨⟨vk,vn,vt⟩,rfl,?_,?_⟩
  ·exact(((HK2.out).far smA smA _).far smA smA _).far smA smA _
  ·exact ah (ah (ah hG2 (.inr nlr) _) (.inr nlr) _) (.inr nlr) _
theorem pF{A B:Option Addr}(h:iX A B){n c m d g:Nat}(hg:(Value.slice A n c).ownBlock=some g)(e:some g=(Value.slice B m d).ownBlock):False:=by
 cases B with
 | none=>simp[Value.ownBlock]at e
 | some b =>
   have e:g=b.block:=by simpa[Value.ownBlock]using e
   exact gD h hg b rfl e
section
variable {w w':World}{base k j n:Nat}{A:Option Addr}{l:List RTab}
theorem uo{g f o:Nat}{u:Value}(hO:ay w base 127 RTab.cells 1 (.slice A n n) l)(hn:n=l.length)(RN:∀t∈l,ay w base 126 Rcd.cells 3 (.slice t.A t.recs.length t.cap) t.recs)(hap:∀i j (hi:i<l.length) (hj:j<l.length),i≠j→iX l[i].A l[j].A)(hk:k<l.length)(hj:j<l[k].recs.length)
 (RQ:∀i (hi:i<l.length) m (hm:m<l[i].recs.length),(i≠k∨m≠j)→bI w base l[i].recs[m]) (hA:l[k].A=some ⟨g,0,none⟩) {r':Rcd}(hf:f<3) (ho:o=j*3+f) (hcell:Rcd.cells r'=(Rcd.cells l[k].recs[j]).set f u) (hrow:jC (w.setCell ⟨g,o,none⟩ u) (w.setCell ⟨g,o,none⟩ u).heap.size r'):
 aJ (w.setCell ⟨g,o,none⟩ u) (w.setCell ⟨g,o,none⟩ u).heap.size A (l.set k ⟨l[k].A,l[k].cap,l[k].recs.set j r'⟩):=by
 have hTk:=RN l[k] (lgm hk)
 rw[hA]at hTk
 obtain⟨cs,hc⟩:=hTk.typ (q:=g) rfl
 have hO2:ay (w.setCell ⟨g,o,none⟩ u) base 127 RTab.cells 1 (.slice A n n) l:=hO.fA hc (by decide) u
 have hR:∀x,bI w base x→jC (w.setCell ⟨g,o,none⟩ u) (w.setCell ⟨g,o,none⟩ u).heap.size x:=fun x hx=>bI.read (base:=base) ⟨hx.1.fA hc (by decide) u,hx.2.fA hc (by decide) u⟩
 have UB:=hTk.gp aR rfl hj r' (j:=f) (o:=o) (u:=u) hf ho hcell
 subst hn
 have hO3:ay (w.setCell ⟨g,o,none⟩ u) base 127 RTab.cells 1 (.slice A (l.set k ⟨l[k].A,l[k].cap,l[k].recs.set j r'⟩).length l.length) (l.set k ⟨l[k].A,l[k].cap,l[k].recs.set j r'⟩):=by
  refine il hk ?_ (by simpa using hO2)
  show [Value.slice _ _ _]=[Value.slice _ _ _]
  rw[List.length_set]
 refine⟨dX bg hO3,fun t ht =>?_⟩
 obtain⟨i,hi,rfl⟩:=List.getElem_of_mem ht
 have hi':i<l.length:=by simpa using hi
 rw[List.getElem_set]
 by_cases hik:k=i
 ·rw[if_pos hik]
  refine⟨?_,fun x hx =>?_⟩
  ·show ai _ _ Rcd.cells 3 l[k].A (l[k].recs.set j r')
   rw[hA]
   exact dX (base:=base) (c:=l[k].cap) (e:= 126) aR (by simpa using UB)
  ·obtain⟨m,hm,rfl⟩:=List.getElem_of_mem hx
   have hm:m<(l[k].recs.set j r').length:=hm
   rw[List.length_set]at hm
   show jC _ _ ((l[k].recs.set j r')[m]'_)
   rw[List.getElem_set]
   by_cases hjm:j=m
   ·rw[if_pos hjm];exact hrow
   ·rw[if_neg hjm];exact hR _ (RQ k hk m hm (.inr (fun e=>hjm e.symm)))
 ·rw[if_neg hik]
  have hti:=RN l[i] (lgm hi')
  have hap:=hap i k hi' hk omA
  refine⟨dX (base:=base) (c:=l[i].cap) (e:= 126) aR (hti.far (p:=⟨g,o,none⟩) (fun q hq =>?_) u),fun x hx =>?_⟩
  ·exact gD hap hq ⟨g,0,none⟩ hA
  ·obtain⟨m,hm,rfl⟩:=List.getElem_of_mem hx
   exact hR _ (RQ i hi' m hm (.inl (fun e=>hik e.symm)))
theorem mE{g f o:Nat}{u:Value}(hO:ay w base 127 RTab.cells 1 (.slice A n n) l)(hn:n=l.length)(hT:bM w base l)(hk:k<l.length)(hj:j<l[k].recs.length)(hA:l[k].A=some ⟨g,0,none⟩){r':Rcd}(hf:f<3)(ho:o=j*3+f)(hcell:Rcd.cells r'=(Rcd.cells l[k].recs[j]).set f u)(hrow:jC (w.setCell ⟨g,o,none⟩ u) (w.setCell ⟨g,o,none⟩ u).heap.size r'):
 aJ (w.setCell ⟨g,o,none⟩ u) (w.setCell ⟨g,o,none⟩ u).heap.size A (l.set k ⟨l[k].A,l[k].cap,l[k].recs.set j r'⟩):=
 uo hO hn hT.tab hT.iJ hk hj (fun i hi m hm _=>hT.row _ (lgm hi) _ (lgm hm)) hA hf ho hcell hrow
theorem ko{g o:Nat}{u:Value}(hT:bM w base l)(hk:k<l.length)(hA:l[k].A=some ⟨g,0,none⟩){x:Rcd}(hx:bI w base x):bI (w.setCell ⟨g,o,none⟩ u) base x:=by
 have hTk:=hT.tab l[k] (lgm hk)
 rw[hA]at hTk
 obtain⟨cs,hc⟩:=hTk.typ (q:=g) rfl
 exact⟨hx.1.fA hc (by decide) u,hx.2.fA hc (by decide) u⟩
theorem eu{α β:Type}{enc:α→List Value}{enc':β→List Value}{s s' b b':Nat}{e e':TypeId}{v v':Value}{m:List α}{m':List β}(h:ay w b e enc s v m)(h':ay w b' e' enc' s' v' m')(he:e≠e')(hg:w.grownBy w' v'.ownBlock):ay w' b e enc s v m:=
 h.kept hg fun q hq=>h.dK h' he q hq
theorem zg{q:Nat}(hO:ay w base 127 RTab.cells 1 (.slice (some ⟨q,0,none⟩) n n) l)(hn:n=l.length)(hT:bM w base l)(hk:k<l.length)(hg:w.grownBy w' (Value.slice l[k].A l[k].recs.length l[k].cap).ownBlock){A3:Option Addr}{c3:Nat}{new:List Rcd}(hnew:ay w' base 126 Rcd.cells 3 (.slice A3 new.length c3) new)(hrow:∀x∈new,bI w base x):
 aJ (w'.setCell ⟨q,k,none⟩ (.slice A3 new.length c3)) (w'.setCell ⟨q,k,none⟩ (.slice A3 new.length c3)).heap.size (some ⟨q,0,none⟩) (l.set k ⟨A3,c3,new⟩):=by
 have hTk:=hT.tab l[k] (lgm hk)
 have hO1:=eu hO hTk (by decide) hg
 have hR1:∀x,bI w base x→bI w' base x:=fun x hx=>⟨eu hx.1 hTk (by decide) hg,eu hx.2 hTk (by decide) hg⟩
 obtain⟨cs,hc⟩:=hO1.typ (q:=q) rfl
 have hO2:=hO1.gp bg hn hk ⟨A3,c3,new⟩ (j:= 0) (o:=k) (u:= .slice A3 new.length c3) omA omA rfl
 have hone:∀ {A:Option Addr}{c:Nat}{recs:List Rcd},gm w' base A c recs→gm (w'.setCell ⟨q,k,none⟩ (.slice A3 new.length c3)) base A c recs:=fun h=>⟨h.1.fA hc lD _,fun x hx=>⟨(h.2 x hx).1.fA hc zl _,(h.2 x hx).2.fA hc CW _⟩⟩
 refine(jX (c:=n) (by simpa[hn]using hO2) fun t ht =>?_).1
 obtain⟨i,hi,rfl⟩:=List.getElem_of_mem ht
 have hi':i<l.length:=by simpa using hi
 rw[List.getElem_set]
 by_cases hik:k=i
 ·rw[if_pos hik]
  exact hone ⟨hnew,fun x hx=>hR1 x (hrow x hx)⟩
 ·rw[if_neg hik]
  exact hone ⟨(hT.tab _ (lgm hi')).kept hg fun q' hq' e=>pF (hT.iJ i k hi' hk omA) hq' e,fun x hx=>hR1 x (hT.row _ (lgm hi') x hx)⟩
theorem LG(hO:ay w base 127 RTab.cells 1 (.slice A n n) l)(hT:bM w base l)(hg:w.grownBy w' (Value.slice A n n).ownBlock){A3:Option Addr}{c3:Nat}(hnew:ay w' base 127 RTab.cells 1 (.slice A3 (l ++ [df]).length c3) (l ++ [df])):aJ w' w'.heap.size A3 (l ++ [df]):=
 ⟨dX bg hnew,fun t ht=>by
  rcases List.mem_append.1 ht with h|h
  ·exact⟨dX aR (eu (hT.tab t h) hO (by decide) hg),fun x hx=>bI.read (base:=base) ⟨eu (hT.row t h x hx).1 hO (by decide) hg,eu (hT.row t h x hx).2 hO (by decide) hg⟩⟩
  ·rw[List.mem_singleton.1 h]
   exact⟨ai.nil,fun x hx=>by cases hx⟩⟩
theorem Lv{g o:Nat}(hO:ay w base 127 RTab.cells 1 (.slice A n n) l)(hn:n=l.length)(hT:bM w base l)(hk:k<l.length)(hj:j<l[k].recs.length)(hA:l[k].A=some ⟨g,0,none⟩)(ho:o=j*3+1)(hg:w.grownBy w' (Value.slice l[k].recs[j].SA l[k].recs[j].seq.length l[k].recs[j].jr).ownBlock){A3:Option Addr}{c3:Nat}{new:List Int}(hnew:ay w' base 3 intCells 1 (.slice A3 new.length c3) new):
 aJ (w'.setCell ⟨g,o,none⟩ (.slice A3 new.length c3)) (w'.setCell ⟨g,o,none⟩ (.slice A3 new.length c3)).heap.size A (l.set k ⟨l[k].A,l[k].cap,l[k].recs.set j ⟨l[k].recs[j].A,l[k].recs[j].cap,l[k].recs[j].row,A3,c3,new,l[k].recs[j].day⟩⟩):=by
 have hr:=hT.row l[k] (lgm hk) l[k].recs[j] (lgm hj)
 have hTk:=eu (hT.tab l[k] (lgm hk)) hr.2 (by decide) hg
 rw[hA]at hTk
 obtain⟨cs,hc⟩:=hTk.typ (q:=g) rfl
 refine uo (eu hO hr.2 (by decide) hg) hn (fun t ht=>eu (hT.tab t ht) hr.2 (by decide) hg) hT.iJ hk hj (fun i hi m hm hne =>?_) hA (f:= 1) omA ho rfl (bI.read (base:=base) ⟨(eu hr.1 hr.2 (by decide) hg).fA hc (by decide) _,hnew.fA hc (by decide) _⟩)
 have hx:=hT.row l[i] (lgm hi) l[i].recs[m] (lgm hm)
 have hap:dM l[i].recs[m] l[k].recs[j]:=by
  by_cases hik:i=k
  ·subst hik
   exact qC (hT.kg _ (lgm hi)) hm hj omA
  ·exact hT.gY i k hi hk hik _ (lgm hm) _ (lgm hj)
 exact⟨eu hx.1 hr.2 (by decide) hg,hx.2.kept hg fun q' hq' e=>pF hap.2 hq' e⟩
theorem EZ{g m:Nat}{v:Val}(hO:ay w base 127 RTab.cells 1 (.slice A n n) l)(hn:n=l.length)(hT:bM w base l)(hk:k<l.length)(hj:j<l[k].recs.length)(hA:l[k].recs[j].A=some ⟨g,0,none⟩)(hm:m<l[k].recs[j].row.length){w':World}(hw:w'=((w.setCell ⟨g,m*3,none⟩ (.int .i64 v.kind)).setCell ⟨g,m*3+1,none⟩ (.int .i64 v.num)).setCell ⟨g,m*3+2,none⟩ (.string v.text)):
 aJ w' w'.heap.size A (l.set k ⟨l[k].A,l[k].cap,l[k].recs.set j ⟨l[k].recs[j].A,l[k].recs[j].cap,l[k].recs[j].row.set m v,l[k].recs[j].SA,l[k].recs[j].jr,l[k].recs[j].seq,l[k].recs[j].day⟩⟩):=by
 have hr:=hT.row l[k] (lgm hk) l[k].recs[j] (lgm hj)
 have hr1:=hr.1
 rw[hA]at hr1
 obtain⟨vs,hvs⟩:=hr1.typ (q:=g) rfl
 have hP1:=qM hr1 rfl hm v
 rw[←hw]at hP1
 have hne:∀q,(Value.slice l[k].recs[j].SA l[k].recs[j].seq.length l[k].recs[j].jr).ownBlock=some q→q≠g:=fun q hq=>hr.2.bK (g:=g) (cs:=vs) hvs (by decide) q hq
 have hP2:=((hr.2.far (p:=⟨g,m*3,none⟩) hne (.int .i64 v.kind)).far (p:=⟨g,m*3+1,none⟩) hne (.int .i64 v.num)).far (p:=⟨g,m*3+2,none⟩) hne (.string v.text)
 rw[←hw]at hP2
 refine(uW (w':=w') (r':=⟨l[k].recs[j].A,l[k].recs[j].cap,l[k].recs[j].row.set m v,l[k].recs[j].SA,l[k].recs[j].jr,l[k].recs[j].seq,l[k].recs[j].day⟩) hO hn hT hk hj (by simp[Rcd.cells]) ⟨?_,hP2⟩ fun q h1 _ =>?_).1
 ·show ay w' base _ _ 3 (.slice l[k].recs[j].A (l[k].recs[j].row.set m v).length l[k].recs[j].cap) _
  rw[hA]
  simpa using hP1
 ·have hq:q≠g:=h1 ⟨g,0,none⟩ hA
  rw[hw,Below.heap_setCell _ _ _ _ hq,Below.heap_setCell _ _ _ _ hq,Below.heap_setCell _ _ _ _ hq]
theorem zq{g m:Nat}{z:Int}(hO:ay w base 127 RTab.cells 1 (.slice A n n) l)(hn:n=l.length)(hT:bM w base l)(hk:k<l.length)(hj:j<l[k].recs.length)(hA:l[k].recs[j].SA=some ⟨g,0,none⟩)(hm:m<l[k].recs[j].seq.length){w':World}(hw:w'=w.setCell ⟨g,m,none⟩ (.int .i64 z)):
 aJ w' w'.heap.size A (l.set k ⟨l[k].A,l[k].cap,l[k].recs.set j ⟨l[k].recs[j].A,l[k].recs[j].cap,l[k].recs[j].row,l[k].recs[j].SA,l[k].recs[j].jr,l[k].recs[j].seq.set m z,l[k].recs[j].day⟩⟩):=by
 have hr:=hT.row l[k] (lgm hk) l[k].recs[j] (lgm hj)
 have hr2:=hr.2
 rw[hA]at hr2
 obtain⟨vs,hvs⟩:=hr2.typ (q:=g) rfl
 have hP2:=hr2.gp aV rfl hm z (j:= 0) (o:=m) (u:= .int .i64 z) omA omA rfl
 have hP1:=hr.1.fA (i:=m) hvs (by decide) (.int .i64 z)
 rw[←hw]at hP1 hP2
 refine(uW (w':=w') (r':=⟨l[k].recs[j].A,l[k].recs[j].cap,l[k].recs[j].row,l[k].recs[j].SA,l[k].recs[j].jr,l[k].recs[j].seq.set m z,l[k].recs[j].day⟩) hO hn hT hk hj (by simp[Rcd.cells]) ⟨hP1,?_⟩ fun q _ h2 =>?_).1
 ·show ay w' base _ _ 1 (.slice l[k].recs[j].SA (l[k].recs[j].seq.set m z).length l[k].recs[j].jr) _
  rw[hA]
  simpa using hP2
 ·have hq:q≠g:=h2 ⟨g,0,none⟩ hA
  rw[hw,Below.heap_setCell _ _ _ _ hq]
end
theorem dQ.set{l:List RTab}(h:dQ l){k:Nat}{t:RTab}(h1:t.recs.length≤1000000)(h2:∀r∈t.recs,r.row.length≤1000000∧r.seq.length≤1000000):dQ (l.set k t):=
 ⟨by simpa using h.len,fun t' ht=>by
  rcases List.mem_or_eq_of_mem_set ht with h3|rfl
  ·exact h.recs t' h3
  ·exact h1,fun t' ht r hr=>by
  rcases List.mem_or_eq_of_mem_set ht with h3|rfl
  ·exact h.row t' h3 r hr
  ·exact(h2 r hr).1,fun t' ht r hr=>by
  rcases List.mem_or_eq_of_mem_set ht with h3|rfl
  ·exact h.seq t' h3 r hr
  ·exact(h2 r hr).2⟩
theorem dQ.set1{l:List RTab}(h:dQ l){k j:Nat}(hk:k<l.length){A:Option Addr}{c:Nat}{r:Rcd}(h1:r.row.length≤1000000)(h2:r.seq.length≤1000000):dQ (l.set k ⟨A,c,l[k].recs.set j r⟩):=
 h.set (by simpa using h.recs l[k] (lgm hk)) fun r' hr=>by
  rcases List.mem_or_eq_of_mem_set hr with h3|rfl
  ·exact⟨h.row _ (lgm hk) r' h3,h.seq _ (lgm hk) r' h3⟩
  ·exact⟨h1,h2⟩
theorem bI.up{w:World}{base:Nat}{r:Rcd}(h:bI w base r):(∀a,r.A=some a→base≤a.block)∧(∀a,r.SA=some a→base≤a.block):=⟨gL h.1,gL h.2⟩
theorem bM.up{w:World}{base:Nat}{l:List RTab}(h:bM w base l){A:Option Addr}(hA:∀a,A=some a→base≤a.block):RUp base A l:=
 ⟨hA,fun t ht=>⟨gL (h.tab t ht),fun x hx=>(h.row t ht x hx).up⟩⟩
theorem RUp.set{B:Nat}{A:Option Addr}{l:List RTab}(h:RUp B A l){k:Nat}(t:RTab)(h1:∀a,t.A=some a→B≤a.block)(h2:∀x∈t.recs,(∀a,x.A=some a→B≤a.block)∧(∀a,x.SA=some a→B≤a.block)):RUp B A (l.set k t):=by
 refine⟨h.1,fun y hy =>?_⟩
 rcases List.mem_or_eq_of_mem_set hy with hy|rfl
 ·exact h.2 y hy
 ·exact⟨h1,h2⟩
theorem RUp.rec{B:Nat}{A:Option Addr}{l:List RTab}(h:RUp B A l){k j:Nat}(hk:k<l.length)(r:Rcd)(h1:∀a,r.A=some a→B≤a.block)(h2:∀a,r.SA=some a→B≤a.block):RUp B A (l.set k ⟨l[k].A,l[k].cap,l[k].recs.set j r⟩):=by
 have h3:=h.2 l[k] (lgm hk)
 refine h.set _ h3.1 fun x hx =>?_
 rcases List.mem_or_eq_of_mem_set hx with hx|rfl
 ·exact h3.2 x hx
 ·exact⟨h1,h2⟩
theorem RUp.Ga{B:Nat}{A:Option Addr}{l:List RTab}(h:RUp B A l){k j:Nat}(hk:k<l.length)(hj:j<l[k].recs.length)(r:Rcd)(h1:r.A=l[k].recs[j].A)(h2:r.SA=l[k].recs[j].SA):RUp B A (l.set k ⟨l[k].A,l[k].cap,l[k].recs.set j r⟩):=by
 have h3:=(h.2 l[k] (lgm hk)).2 _ (lgm hj)
 exact h.rec hk r (by rw[h1];exact h3.1) (by rw[h2];exact h3.2)
theorem RUp.drop{B:Nat}{A A':Option Addr}{l:List RTab}(h:RUp B A l)(n:Nat)(hA:∀a,A'=some a→B≤a.block):RUp B A' (l.drop n):=⟨hA,fun t ht=>h.2 t (List.mem_of_mem_drop ht)⟩
structure mV (rt:List RTab):Prop where
 len:rt.length≤1000
 recs:∀t∈rt,t.recs.length≤1000
 row:∀t∈rt,∀r∈t.recs,r.row.length≤1000
 seq:∀t∈rt,∀r∈t.recs,r.seq.length≤1000
theorem mV.bH{l:List RTab}(h:mV l):dQ l:=
 ⟨by have:=h.len;omega,fun t ht=>by have:=h.recs t ht;omega,fun t ht r hr=>by have:=h.row t ht r hr;omega,fun t ht r hr=>by have:=h.seq t ht r hr;omega⟩
theorem mV.pure{rt l:List RTab}(h:mV rt)(e:l.map aG=rt.map aG):mV l:=by
 have key:∀t∈l,∃t'∈rt,t'.recs.map aN=t.recs.map aN:=fun t ht=>by
  have h1:aG t∈rt.map aG:=by rw[←e];exact List.mem_map_of_mem ht
  obtain⟨t',h2,h3⟩:=List.mem_map.1 h1
  exact⟨t',h2,h3⟩
 have LX:∀t∈l,∀r∈t.recs,∃t'∈rt,∃r'∈t'.recs,aN r'=aN r:=fun t ht r hr=>by
  obtain⟨t',h2,h3⟩:=key t ht
  have h1:aN r∈t'.recs.map aN:=by rw[h3];exact List.mem_map_of_mem hr
  obtain⟨r',h4,h5⟩:=List.mem_map.1 h1
  exact⟨t',h2,r',h4,h5⟩
 refine⟨?_,fun t ht =>?_,fun t ht r hr =>?_,fun t ht r hr =>?_⟩
 ·have:=congrArg List.length e
  simp only[List.length_map]at this
  rw[this]
  exact h.len
 ·obtain⟨t',h2,h3⟩:=key t ht
  have:=congrArg List.length h3
  simp only[List.length_map]at this
  rw[←this]
  exact h.recs t' h2
 ·obtain⟨t',h2,r',h4,h5⟩:=LX t ht r hr
  have e1:r'.row=r.row:=congrArg Prod.fst h5
  rw[←e1]
  exact h.row t' h2 r' h4
 ·obtain⟨t',h2,r',h4,h5⟩:=LX t ht r hr
  have e1:r'.seq=r.seq:=congrArg (fun p=>p.2.1) h5
  rw[←e1]
  exact h.seq t' h2 r' h4
theorem mV.more{l:List RTab}(h:mV l):dQ (l ++ [df]):=by
 have key:∀t∈l ++ [df],t∈l∨t=df:=fun t ht=>(List.mem_append.1 ht).imp id List.mem_singleton.1
 refine⟨by have:=h.len;simp;omega,fun t ht =>?_,fun t ht r hr =>?_,fun t ht r hr =>?_⟩
 ·rcases key t ht with h1|rfl
  ·exact h.bH.recs t h1
  ·exact Nat.zero_le _
 ·rcases key t ht with h1|rfl
  ·exact h.bH.row t h1 r hr
  ·cases hr
 ·rcases key t ht with h1|rfl
  ·exact h.bH.seq t h1 r hr
  ·cases hr
theorem bM.jI{w w':World}{base g:Nat}{l:List RTab}(h:bM w base l)(hg:w.grownBy w' (some g))(hgb:g<base):bM w' base l:=
 ⟨fun t ht=>(h.tab t ht).grown hg hgb,fun t ht r hr=>⟨(h.row t ht r hr).1.grown hg hgb,(h.row t ht r hr).2.grown hg hgb⟩,h.iJ,h.gY,h.kg⟩
theorem bM.qp{w w':World}{base:Nat}{l:List RTab}(h:bM w base l)(hb:Below w.heap.size w w'):bM w' base l:=h.below hb nlr
theorem rT{w u w5:World}{g b:Nat}{row:Option Nat}{p:Addr}{v:Value}(hgl:g<w.heap.size)(hbl:b<w.heap.size)(hk:aO u g b)(hG:w.grownBy u (some g))(hg':u.grownBy w5 row)(hrow:∀q,row=some q→w.heap.size≤q)(hp:w.heap.size≤p.block):aO (w5.setCell p v) g b∧w.grownBy (w5.setCell p v) (some g):=
 ⟨(hk.sV hg' (fun e=>by have:=hrow g e.symm;omega) (fun e=>by have:=hrow b e.symm;omega)).far omA omA _,ah (fP hG hg' hrow) (.inr hp) _⟩
theorem Dt(A:Option Addr)(n c m d:Nat):(Value.slice A n c).ownBlock=(Value.slice A m d).ownBlock:=by cases A<;>rfl
def MU(w:World)(g b:Nat)(e:Ending)(w':World):Prop:= ∃A' c' out,e=.returned (.slice A' out.length c')∧aJ w' w'.heap.size A' out∧dQ out∧aO w' g b∧w.grownBy w' (some g)∧RUp w.heap.size A' out
theorem fF{A:Option Addr}{n m c:Nat}(h:m=n):Ending.returned (.slice A n c)=.returned (.slice A m c):=by rw[h]
def Jb:Rcd:=⟨none,0,[],none,0,[],0⟩
theorem Ja(w:World)(base:Nat):bI w base Jb:=⟨ay.nil,ay.nil⟩
theorem rW(g b:Nat)(A:Option Addr)(c n:Nat)(rt:List RTab)(w:World)(hk:aO w g b)(hl:aJ w w.heap.size A rt)(hln:rt.length=n)(hs:mV rt):
 Calls Tryz.prog 22 #[.pointer (some ⟨g,0,none⟩),.slice A n c] w fun e w'=>MU w g b e w':=by
 obtain⟨ir,hir,mK,mJ,mI⟩:=info_parts jS
 obtain⟨it,hit,xV,xU,xR⟩:=info_parts nK
 obtain⟨ii,hii,D8,D7,D6⟩:=info_parts iL
 have hgl:=hk.ltg
 have hbl:=hk.lt
 have hn3:n≤1000:=by rw[←hln];exact hs.len
 have HK:=qh hk
 have HL:=qh hl
 have HSM:=qh hs
 clear hk hl hs
 go_enter Tryz.func22,Tryz.ntmps22
 go_upto_region 2 with (go_at_call 59;(with_reducible refine(ku A c n rt _ HL.out hln HSM.out.bH).mono ?_);rintro e w1 ⟨q,l,rfl,hq,hll,hO,hT,hpu,hb1⟩)
 have HSL:=qh (HSM.out.pure hpu)
 have HK1:=qh (HK.out.below hb1)
 have hG1:w.grownBy w1 (some g):=av _ hb1
 have HO1:=qh hO
 have HT1:=qh hT
 have hz1:=hb1.size
 have HLL:=qh hll
 clear hO hT hpu HK HL HSM hb1 hln
 by_cases h0:n=0
 ·have h0':((n:Int) == 0)=true:=by rw[h0];rfl
  clear h0
  go_wp2_with fail
  go_ret
  exact⟨some ⟨q,0,none⟩,n,l,fF HLL.out,HT1.out.read HO1.out,HSL.out.bH,HK1.out,hG1,(HT1.out.up (A:=some ⟨q,0,none⟩) (fun a ha=>by injection ha with ha;subst ha;exact HO1.out.row q rfl))⟩
 have h0':((n:Int) == 0)=false:=by rw[beq_eq_false_iff_ne];omega
 go_upto_region 5 with (go_at_call 14;(with_reducible refine(az g b (n:Int) _ HK1.out omA omA).mono ?_);rintro e w2 ⟨r1,rfl,hr1,hk2,hg2⟩)
 have hr1':r1<l.length:=by rcases hr1 with h|h<;>omega
 have VM:r1<n:=by omega
 have VN:(r1:Int)<(n:Int):=by omega
 have HO2:=qh (HO1.out.grown hg2 omA)
 have HT2:=qh (HT1.out.jI hg2 omA)
 have hG2:=au hG1 hg2
 have hz2:=hG2.size
 have HK2:=qh hk2
 have q0:=HO2.out.eY bg HLL.out.symm hr1' (j:= 0) rfl
 simp only[Nat.mul_one,Nat.add_zero]at q0
 have hm3:=HSL.out.recs l[r1] (lgm hr1')
 obtain⟨m,hm⟩:∃m,l[r1].recs.length=m:=⟨_,rfl⟩
 rw[hm]at q0 hm3
 have HM:=qh hm
 clear hk2 hg2 hG1 HO1 HT1 HK1 hm hr1 h0
 by_cases hm0:m=0
 ·have Q7:((m:Int) == 0)=true:=by rw[hm0];rfl
  have HM0:=qh hm0
  clear hm0
  go_wp2_with fail
  (with_reducible refine(az g b 2 _ HK2.out omA omA).mono ?_)
  rintro e w3 ⟨r2,rfl,hr2,hk3,hg3⟩
  have HO3:=qh (HO2.out.grown hg3 omA)
  have HT3:=qh (HT2.out.jI hg3 omA)
  have hG3:=au hG2 hg3
  have hz3:=hG3.size
  have HK3:=qh hk3
  clear hk3 hr2 q0
  by_cases h2:r2=0
  ·subst h2
   have HRD:=qh (HT3.out.read HO3.out)
   have HD:Hid (dQ (l.drop 1)):=qh ⟨by rw[List.length_drop];have:=HSL.out.bH.len;omega,fun t ht=>HSL.out.bH.recs t (List.mem_of_mem_drop ht),fun t ht=>HSL.out.bH.row t (List.mem_of_mem_drop ht),fun t ht=>HSL.out.bH.seq t (List.mem_of_mem_drop ht)⟩
   by_cases h1:n=1
   ·subst h1
    have U8:Hid (l.drop 1=[]):=qh (List.drop_eq_nil_of_le (by have:=HLL.out;omega))
    go_wp2_with fail
    go_ret
    exact⟨_,_,[],rfl,⟨ai.nil,fun t ht=>by cases ht⟩,⟨Nat.zero_le _,fun t ht=>by(cases ht),fun t ht=>by(cases ht),fun t ht=>by(cases ht)⟩,HK3.out,hG3,⟨fun a h=>(by cases h;exact HO3.out.row q rfl),fun t ht=>(by cases ht)⟩⟩
   ·have hcut:=HRD.out.1.cut (c:=n) 1 (by rw[HLL.out];omega)
    rw[if_neg h1]at hcut
    have Vd:=qh hcut
    have hn1:1≤n:=by omega
    have VS:(1:Int)≤(n:Int):=by omega
    clear hcut
    go_wp2_with fail
    go_ret
    exact⟨some ⟨q,1,none⟩,n-1,l.drop 1,fF (by rw[List.length_drop,HLL.out]),⟨by simpa using Vd.out,fun t ht=>HRD.out.2 t (List.mem_of_mem_drop ht)⟩,HD.out,HK3.out,hG3,(HT3.out.up (A:=some ⟨q,0,none⟩) (fun a ha=>by injection ha with ha;subst ha;exact HO3.out.row q rfl)).drop 1 (fun a ha=>by injection ha with ha;subst ha;exact HO3.out.row q rfl)⟩
  ·have h2':((r2:Int) == 0)=false:=by rw[beq_eq_false_iff_ne];omega
   clear h2
   have q0:=HO3.out.eY bg HLL.out.symm hr1' (j:= 0) rfl
   simp only[Nat.mul_one,Nat.add_zero]at q0
   have hnil:l[r1].recs=[]:=List.eq_nil_of_length_eq_zero (by have:=HM.out;have:=HM0.out;omega)
   have U8:=qh hnil
   have hoT:=HT3.out.tab l[r1] (lgm hr1')
   rw[hnil]at hoT q0
   have HOT:=qh hoT
   obtain⟨TA,hTA⟩:∃x,l[r1].A=x:=⟨_,rfl⟩
   obtain⟨tc,htc⟩:∃x,l[r1].cap=x:=⟨_,rfl⟩
   rw[hTA,htc]at q0 hoT
   simp only[List.length_nil]at q0 hoT
   have HOT:=qh hoT
   have HTA:=qh hTA
   have HTC:=qh htc
   have hrow:=hoT.row
   have hqf:∀j,w3.frozen? ⟨q,j,none⟩=false:=fun j=>HO3.out.iN HLL.out.symm j
   clear hnil hoT hTA htc
   go_wp2_with (at_builtin;go_must (refine aH _ rfl (.tmp 34) (.tmp 36) 127 rfl 126 ir _ Rcd.cells 3 56 Tryz.underlying127 hir mK mJ mI rfl omA aR dO w.heap.size (.slice TA 0 tc) [] rfl (HOT.out.alloc _) _ _ _ [Jb] rfl rfl (Blk.one (enc:=Rcd.cells) (x:=Jb) (Blk.new' rfl) spA) spA (by simp[maxLen]) smA ?_);intro v' w5 hown' hg' hat';obtain⟨A3,c3,rfl,_,_,_⟩:=hown'.slice aR;have HOWN':=qh hown';have hO5:=eu (HO3.out.alloc _) (HOT.out.alloc _) (by decide) hg';have HG':=qh hg';have q5:=hO5.eY bg HLL.out.symm hr1' (j:= 0) rfl;have TN:∀j,w5.frozen? ⟨q,j,none⟩=false:=fun j=>hO5.iN HLL.out.symm j;simp only[Nat.mul_one,Nat.add_zero]at q5;clear hown' hO5 hg' hat' q0 hqf)
   go_ret
   have hgw:=HG'.out
   have hap:=zg (w:=w3.alloc (.cells #[.slice none 0 0,.slice none 0 0,.int .i64 0] 126)) (HO3.out.alloc _) HLL.out.symm (HT3.out.qp ak) hr1' (by rw[HTA.out,Dt _ _ _ 0 tc];exact hgw) (A3:=A3) (c3:=c3) (new:= [Jb]) HOWN'.out (fun x hx=>by rw[List.mem_singleton.1 hx];exact Ja _ _)
   obtain⟨ht,hgr⟩:=rT (p:=⟨q,r1,none⟩) (v:= .slice A3 1 c3) hgl hbl (HK3.out.alloc _) (bq hG3 _) hgw hrow hq
   exact⟨some ⟨q,0,none⟩,n,l.set r1 ⟨A3,c3,[Jb]⟩,fF (by rw[List.length_set,HLL.out]),hap,HSL.out.bH.set spA (fun r hr=>by rw[List.mem_singleton.1 hr];exact⟨Nat.zero_le _,Nat.zero_le _⟩),ht,hgr,(HT3.out.up (A:=some ⟨q,0,none⟩) (fun a ha=>by injection ha with ha;subst ha;exact HO3.out.row q rfl)).set _ (gL HOWN'.out) (fun r hr=>by rw[List.mem_singleton.1 hr];exact⟨fun a h=>(by cases h),fun a h=>(by cases h)⟩)⟩
 ·have Q7:((m:Int) == 0)=false:=by rw[beq_eq_false_iff_ne];omega
  have hoT:=HT2.out.tab l[r1] (lgm hr1')
  obtain⟨g1,hA⟩:=fw hoT (by rw[HM.out];omega)
  have hb1:=gL hoT _ hA
  rw[hA]at q0
  have HA:=qh hA
  have hdr:Below w2.heap.size w2 w2.drew:=brf.drew
  have hmp:0<m:=by omega
  clear hA hoT hm0
  go_upto_region 10 with (fail)
  refine wp_region_held_drew (S:=fun u=>u.cell? ⟨q,r1,none⟩=some (.slice (some ⟨g1,0,none⟩) m l[r1].cap)) krA q0 (fun hHeld =>?_)
  refine tkH 0 hHeld ?_
  refine tkH 1 hHeld ?_
  refine tkH 2 hHeld ?_
  refine tkH 3 hHeld ?_
  refine tkH 4 hHeld ?_
  refine tkH 5 hHeld ?_
  refine tkH 6 hHeld ?_
  refine tkH 7 hHeld ?_
  refine tkH 8 hHeld ?_
  refine tkH 9 hHeld ?_
  refine wpAnyH_ready (rs:= [10]) krA spA ?_
  refine AllReadyH.cons rfl (fun K hK =>?_) AllReadyH.nil
  go_simp
  (go_at_call 14;(with_reducible refine(az g b (m:Int) _ (HK2.out.below hdr) omA omA).mono ?_))
  rintro e w3 ⟨r3,rfl,hr3,hk3,hg3⟩
  have eG:r3<l[r1].recs.length:=by rw[HM.out];rcases hr3 with h|h<;>omega
  have VK:(r3:Int)<(m:Int):=by rw[HM.out]at eG;omega
  have HO3:=qh (ay.grown (HO2.out.drew) hg3 omA)
  have HT3:=qh ((HT2.out.qp hdr).jI hg3 omA)
  have hG3:=au (kI hG2) hg3
  have hz3:=hG3.size
  have HK3:=qh hk3
  have s0:=HO3.out.eY bg HLL.out.symm hr1' (j:= 0) rfl
  simp only[Nat.mul_one,Nat.add_zero]at s0
  rw[HA.out,HM.out]at s0
  go_wp2_with fail
  refine hK.out _ _ s0 (fun hHeld =>?_)
  clear hK K hk3 hg3 hr3
  (try simp only[Act.put,gP6])
  refine tkH 11 hHeld ?_
  refine tkH 12 hHeld ?_
  refine wpAnyH_done krA ?_ _
  clear hHeld q0 HO2 HT2 HK2 hG2
  have hoT:=HT3.out.tab l[r1] (lgm hr1')
  rw[HA.out]at hoT
  have hrO:=HT3.out.row l[r1] (lgm hr1') l[r1].recs[r3] (lgm eG)
  have hrl:=HSL.out.row l[r1] (lgm hr1') l[r1].recs[r3] (lgm eG)
  have hsl:=HSL.out.seq l[r1] (lgm hr1') l[r1].recs[r3] (lgm eG)
  obtain⟨c0,c1,c2⟩:=Rcd.cells3 (w:=w3) (b:=g1) (o:=r3*3) (x:=l[r1].recs[r3]) (fun j u hu=>hoT.jA aR eG hu)
  obtain⟨a,ha⟩:∃a,l[r1].recs[r3].row.length=a:=⟨_,rfl⟩
  obtain⟨d,hd⟩:∃d,l[r1].recs[r3].seq.length=d:=⟨_,rfl⟩
  rw[ha]at c0 hrl
  rw[hd]at c1 hsl
  have HAL:=qh ha
  have HDL:=qh hd
  have HRO:=qh hrO
  clear hoT hrO ha hd
  by_cases ha0:a=0
  ·have e1:((a:Int) == 0)=true:=by rw[ha0];rfl
   clear ha0
   go_wp2_with fail
   go_ret
   exact⟨some ⟨q,0,none⟩,n,l,fF HLL.out,HT3.out.read HO3.out,HSL.out.bH,HK3.out,hG3,(HT3.out.up (A:=some ⟨q,0,none⟩) (fun a ha=>by injection ha with ha;subst ha;exact HO3.out.row q rfl))⟩
  have e1:((a:Int) == 0)=false:=by rw[beq_eq_false_iff_ne];omega
  by_cases hd0:d=0
  ·have e2:((d:Int) == 0)=true:=by rw[hd0];rfl
   clear hd0
   go_wp2_with fail
   go_ret
   exact⟨some ⟨q,0,none⟩,n,l,fF HLL.out,HT3.out.read HO3.out,HSL.out.bH,HK3.out,hG3,(HT3.out.up (A:=some ⟨q,0,none⟩) (fun a ha=>by injection ha with ha;subst ha;exact HO3.out.row q rfl))⟩
  have e2:((d:Int) == 0)=false:=by rw[beq_eq_false_iff_ne];omega
  obtain⟨rb,hRA⟩:=fw HRO.out.1 (by rw[HAL.out];omega)
  obtain⟨sb,hSA⟩:=fw HRO.out.2 (by rw[HDL.out];omega)
  have hrb:=gL HRO.out.1 _ hRA
  have hsb:=gL HRO.out.2 _ hSA
  have HRA:=qh hRA
  have HSA:=qh hSA
  simp only at hrb hsb
  rw[hRA]at c0
  rw[hSA]at c1
  clear HRO hRA hSA
  go_wp2_with fail
  (with_reducible refine(az g b 9 _ HK3.out omA omA).mono ?_)
  rintro e w4 ⟨r4,rfl,hr4,hk4,hg4⟩
  have wH:r4<9:=by rcases hr4 with h|h<;>omega
  have HO4:=qh (ay.grown HO3.out hg4 omA)
  have HT4:=qh (HT3.out.jI hg4 omA)
  have hG4:=au hG3 hg4
  have hz4:=hG4.size
  have HK4:=qh hk4
  clear hk4 hg4 hr4 c0 c1 c2 s0 HO3 HT3 HK3 hG3
  have hoT:=HT4.out.tab l[r1] (lgm hr1')
  rw[HA.out]at hoT
  have hrO:=HT4.out.row l[r1] (lgm hr1') l[r1].recs[r3] (lgm eG)
  obtain⟨c0,c1,c2⟩:=Rcd.cells3 (w:=w4) (b:=g1) (o:=r3*3) (x:=l[r1].recs[r3]) (fun j u hu=>hoT.jA aR eG hu)
  rw[HAL.out,HRA.out]at c0
  rw[HDL.out,HSA.out]at c1
  have hfg:∀j,w4.frozen? ⟨g1,j,none⟩=false:=fun j=>hoT.frz j
  have HOT:=qh hoT
  have HRO:=qh hrO
  have HSM:Hid (∀(rw':List Val) (sq':List Int) (A1 A2:Option Addr) (n1 n2:Nat) (dy:Int),rw'.length≤1000000→sq'.length≤1000000→dQ (l.set r1 ⟨l[r1].A,l[r1].cap,l[r1].recs.set r3 ⟨A1,n1,rw',A2,n2,sq',dy⟩⟩)):=qh (fun _ _ _ _ _ _ _ h1 h2=>HSL.out.bH.set1 hr1' h1 h2)
  clear hoT hrO
  rcases(show r4=0∨r4=1∨r4=2∨r4=3∨r4=4∨r4=5∨r4=6∨r4=7∨r4=8 by omega) with rfl|rfl|rfl|rfl|rfl|rfl|rfl|rfl|rfl
  ·have hro:=HRO.out.1
   rw[HRA.out]at hro
   have hap:0<l[r1].recs[r3].row.length:=by rw[HAL.out];omega
   obtain⟨y0,y1,y2⟩:=Val.cells3 (w:=w4) (b:=rb) (o:= 0*3) (x:=l[r1].recs[r3].row[0]) (fun j u hu=>hro.jA bF hap hu)
   have hfr:∀j,w4.frozen? ⟨rb,j,none⟩=false:=fun j=>hro.frz j
   simp only[Nat.zero_mul,Nat.zero_add]at y0 y1 y2
   have Uv:0<a:=by omega
   have Wz:(0:Int)<(a:Int):=by omega
   clear hro hfg
   go_wp2_with fail
   go_ret
   exact⟨some ⟨q,0,none⟩,n,_,fF (by rw[List.length_set,HLL.out]),EZ (v:=⟨0,0,⟨#[]⟩⟩) HO4.out HLL.out.symm HT4.out hr1' eG HRA.out (m:= 0) hap rfl,HSM.out _ _ _ _ _ _ _ (by simp;have:=HAL.out;omega) (by have:=HDL.out;omega),((HK4.out.far smA smA _).far smA smA _).far smA smA _,ah (ah (ah hG4 (.inr smA) _) (.inr smA) _) (.inr smA) _,(HT4.out.up (A:=some ⟨q,0,none⟩) (fun a ha=>by injection ha with ha;subst ha;exact HO4.out.row q rfl)).Ga hr1' eG _ rfl rfl⟩
  ·have hro:=HRO.out.1
   rw[HRA.out]at hro
   have hrx:=hro.row rb rfl
   have hdr:Below w4.heap.size w4 w4.drew:=brf.drew
   have Uv:0<a:=by omega
   clear hro
   go_upto_region 18 with (fail)
   refine wp_region_held_drew (S:=fun u=>u.cell? ⟨g1,r3*3,none⟩=some (.slice (some ⟨rb,0,none⟩) a l[r1].recs[r3].cap)) krA c0 (fun hHeld =>?_)
   refine tkH 0 hHeld ?_
   refine tkH 1 hHeld ?_
   refine tkH 2 hHeld ?_
   refine tkH 3 hHeld ?_
   refine tkH 4 hHeld ?_
   refine tkH 5 hHeld ?_
   refine tkH 6 hHeld ?_
   refine tkH 7 hHeld ?_
   refine tkH 8 hHeld ?_
   refine tkH 9 hHeld ?_
   refine tkH 11 hHeld ?_
   refine wpAnyH_ready (rs:= [10]) krA spA ?_
   refine AllReadyH.cons rfl (fun K hK =>?_) AllReadyH.nil
   go_simp
   (go_at_call 14;(with_reducible refine(az g b (a:Int) _ (HK4.out.below hdr) omA omA).mono ?_))
   rintro e w5 ⟨r5,rfl,hr5,hk5,hg5⟩
   have Ee:r5<a:=by rcases hr5 with h|h<;>omega
   have QQ:(r5:Int)<(a:Int):=by omega
   have gZ:w4.grownBy w5 (some g):=au (av _ hdr) hg5
   have HO5:=qh (ay.grown HO4.out gZ omA)
   have HT5:=qh (HT4.out.jI gZ omA)
   have hG5:=au hG4 gZ
   have HK5:=qh hk5
   have OH:=gZ.size
   have kG:=HT5.out.tab l[r1] (lgm hr1')
   rw[HA.out]at kG
   have BJ:∀j,w5.frozen? ⟨g1,j,none⟩=false:=fun j=>kG.frz j
   have Pj:g1<w5.heap.size:=kG.qo.2
   obtain⟨d0,d1,d2⟩:=Rcd.cells3 (w:=w5) (b:=g1) (o:=r3*3) (x:=l[r1].recs[r3]) (fun j u hu=>kG.jA aR eG hu)
   rw[HAL.out,HRA.out]at d0
   rw[HDL.out,HSA.out]at d1
   clear hk5 hr5 kG hfg c0 c1 c2
   go_wp2_with fail
   refine hK.out _ _ d0 (fun hHeld =>?_)
   clear hK K
   (try simp only[Act.put,gP6])
   refine wpAnyH_ready (rs:= [12]) krA spA ?_
   refine AllReadyH.cons rfl (fun K hK =>?_) AllReadyH.nil
   go_simp
   (go_at_call 60;(with_reducible refine(CZ g b _ HK5.out).mono ?_))
   rintro e w6 ⟨⟨vk,vn,vt⟩,rfl,hk6,hg6⟩
   have HO6:=qh (ay.grown HO5.out hg6 omA)
   have HT6:=qh (HT5.out.jI hg6 omA)
   have hG6:=au hG5 hg6
   have HK6:=qh hk6
   have Vt:=hg6.size
   have l5:=HT6.out.tab l[r1] (lgm hr1')
   rw[HA.out]at l5
   obtain⟨x0,x1,x2⟩:=Rcd.cells3 (w:=w6) (b:=g1) (o:=r3*3) (x:=l[r1].recs[r3]) (fun j u hu=>l5.jA aR eG hu)
   rw[HAL.out,HRA.out]at x0
   go_wp2_with fail
   refine hK.out _ _ x0 (fun hHeld =>?_)
   clear hK K hk6 l5 x1 x2 d0 d1 d2 BJ
   (try simp only[Act.put,gP6])
   have hap:r5<l[r1].recs[r3].row.length:=by rw[HAL.out];exact Ee
   have hro:=(HT6.out.row l[r1] (lgm hr1') l[r1].recs[r3] (lgm eG)).1
   rw[HRA.out]at hro
   obtain⟨y0,y1,y2⟩:=Val.cells3 (w:=w6) (b:=rb) (o:=r5*3) (x:=l[r1].recs[r3].row[r5]) (fun j u hu=>hro.jA bF hap hu)
   have hfr:∀j,w6.frozen? ⟨rb,j,none⟩=false:=fun j=>hro.frz j
   have hne:¬ rb=g1:=fun e=>(HT6.out.tab l[r1] (lgm hr1')).dK hro (by decide) g1 (by rw[HA.out];rfl) (by rw[e];rfl)
   clear hro
   refine tkH 13 hHeld ?_
   refine wpAnyH_ready (rs:= [14]) krA spA ?_
   refine AllReadyH.cons rfl (fun K hK =>?_) AllReadyH.nil
   go_simp
   refine hK.out _ _ ?_ (fun hHeld =>?_)
   ·go_simp
   clear hK K
   (try simp only[Act.put,gP6])
   refine wpAnyH_done krA ?_ _
   clear hHeld x0 y0 y1 y2 hfr
   go_wp2_with fail
   go_ret
   exact⟨some ⟨q,0,none⟩,n,_,fF (by rw[List.length_set,HLL.out]),EZ (v:=⟨vk,vn,vt⟩) HO6.out HLL.out.symm HT6.out hr1' eG HRA.out (m:=r5) hap rfl,HSM.out _ _ _ _ _ _ _ (by simp;have:=HAL.out;omega) (by have:=HDL.out;omega),((HK6.out.far smA smA _).far smA smA _).far smA smA _,ah (ah (ah hG6 (.inr smA) _) (.inr smA) _) (.inr smA) _,(HT6.out.up (A:=some ⟨q,0,none⟩) (fun a ha=>by injection ha with ha;subst ha;exact HO6.out.row q rfl)).Ga hr1' eG _ rfl rfl⟩
  ·have hdr:Below w4.heap.size w4 w4.drew:=brf.drew
   have hdp:0<d:=by omega
   have We:g1<w4.heap.size:=HOT.out.qo.2
   go_upto_region 20 with (fail)
   refine wp_region_held_drew (S:=fun u=>u.cell? ⟨g1,r3*3+1,none⟩=some (.slice (some ⟨sb,0,none⟩) d l[r1].recs[r3].jr)) krA c1 (fun hHeld =>?_)
   refine tkH 0 hHeld ?_
   refine tkH 1 hHeld ?_
   refine tkH 2 hHeld ?_
   refine tkH 3 hHeld ?_
   refine tkH 4 hHeld ?_
   refine tkH 5 hHeld ?_
   refine tkH 6 hHeld ?_
   refine tkH 7 hHeld ?_
   refine tkH 8 hHeld ?_
   refine tkH 9 hHeld ?_
   refine tkH 12 hHeld ?_
   refine wpAnyH_ready (rs:= [10,11]) krA spA ?_
   refine AllReadyH.cons rfl (fun K hK =>?_) (AllReadyH.cons rfl (fun K hK =>?_) AllReadyH.nil)
   ·go_simp
    (go_at_call 14;(with_reducible refine(az g b (d:Int) _ (HK4.out.below hdr) omA omA).mono ?_))
    rintro e w5 ⟨r5,rfl,hr5,hk5,hg5⟩
    have Ee:r5<d:=by rcases hr5 with h|h<;>omega
    have QQ:(r5:Int)<(d:Int):=by omega
    have gZ:w4.grownBy w5 (some g):=au (av _ hdr) hg5
    have HO5:=qh (ay.grown HO4.out gZ omA)
    have HT5:=qh (HT4.out.jI gZ omA)
    have hG5:=au hG4 gZ
    have HK5:=qh hk5
    have OH:=gZ.size
    have kG:=HT5.out.tab l[r1] (lgm hr1')
    rw[HA.out]at kG
    have BJ:∀j,w5.frozen? ⟨g1,j,none⟩=false:=fun j=>kG.frz j
    have Pj:g1<w5.heap.size:=kG.qo.2
    obtain⟨d0,d1,d2⟩:=Rcd.cells3 (w:=w5) (b:=g1) (o:=r3*3) (x:=l[r1].recs[r3]) (fun j u hu=>kG.jA aR eG hu)
    rw[HAL.out,HRA.out]at d0
    rw[HDL.out,HSA.out]at d1
    clear hk5 hr5 kG hfg c0 c1 c2
    go_wp2_with fail
    refine hK.out _ _ d1 (fun hHeld =>?_)
    clear hK K
    (try simp only[Act.put,gP6])
    refine wpAnyH_ready (rs:= [11,13]) krA spA ?_
    refine AllReadyH.cons rfl (fun K hK =>?_) (AllReadyH.cons rfl (fun K hK =>?_) AllReadyH.nil)
    ·go_simp
     refine hK.out _ _ ?_ (fun hHeld =>?_)
     ·go_simp
     clear hK K
     (try simp only[Act.put,gP6])
     refine wpAnyH_ready (rs:= [13]) krA spA ?_
     refine AllReadyH.cons rfl (fun K hK =>?_) AllReadyH.nil
     go_simp
     (go_at_call 14;(with_reducible refine(az g b 4 _ ((HK5.out.alloc _)) omA omA).mono ?_))
     rintro e w6 ⟨r6,rfl,hr6,hk6,hg6⟩
     have QP:r6<4:=by rcases hr6 with h|h<;>omega
     have QO:(r6:Int)<4:=by omega
     have HO6:=qh (ay.grown (HO5.out.alloc _) hg6 omA)
     have HT6:=qh ((HT5.out.qp ak).jI hg6 omA)
     have hG6:=au (bq hG5 _) hg6
     have HK6:=qh hk6
     have hS6:=Blk.grown (Blk.new w5 3 #[.int .i64 0,.int .i64 1,.int .i64 3,.int .i64 1073741825]) hg6 inA
     have hz6:=hG6.size
     have l5:=HT6.out.tab l[r1] (lgm hr1')
     rw[HA.out]at l5
     obtain⟨_,x1,_⟩:=Rcd.cells3 (w:=w6) (b:=g1) (o:=r3*3) (x:=l[r1].recs[r3]) (fun j u hu=>l5.jA aR eG hu)
     rw[HDL.out,HSA.out]at x1
     clear l5
     go_wp2_with fail
     refine hK.out _ _ x1 (fun hHeld =>?_)
     clear hK K hk6 hr6 d0 d1 d2 BJ
     (try simp only[Act.put,gP6])
     (
     obtain⟨z,hz⟩:∃z:Int,(w6).cell? ⟨w5.heap.size,r6,none⟩=some (.int .i64 z):=by
      rw[hS6.cell]
      rcases(show r6=0∨r6=1∨r6=2∨r6=3 by omega) with rfl|rfl|rfl|rfl
      all_goals exact⟨_,rfl⟩
     refine wpAnyH_ready (rs:= [14]) krA spA ?_
     refine AllReadyH.cons rfl (fun K hK =>?_) AllReadyH.nil
     go_simp
     refine hK.out _ _ x1 (fun hHeld =>?_)
     clear hK K
     (try simp only[Act.put,gP6])
     refine wpAnyH_ready (rs:= [15]) krA spA ?_
     refine AllReadyH.cons rfl (fun K hK =>?_) AllReadyH.nil
     go_simp
     refine hK.out _ _ x1 (fun hHeld =>?_)
     clear hK K
     (try simp only[Act.put,gP6])
     refine tkH 16 hHeld ?_
     have hsp:r5<l[r1].recs[r3].seq.length:=by rw[HDL.out];exact Ee
     have hro:=(HT6.out.row l[r1] (lgm hr1') l[r1].recs[r3] (lgm eG)).2
     rw[HSA.out]at hro
     have y0:=hro.jA aV hsp (j:= 0) rfl
     simp only[Nat.mul_one,Nat.add_zero]at y0
     have hfr:∀j,(w6).frozen? ⟨sb,j,none⟩=false:=fun j=>hro.frz j
     have hne:¬ sb=g1:=fun e=>(HT6.out.tab l[r1] (lgm hr1')).dK hro (by decide) g1 (by rw[HA.out];rfl) (by rw[e];rfl)
     clear hro
     refine wpAnyH_ready (rs:= [17]) krA spA ?_
     refine AllReadyH.cons rfl (fun K hK =>?_) AllReadyH.nil
     go_simp
     refine hK.out _ _ ?_ (fun hHeld =>?_)
     ·go_simp
     clear hK K
     (try simp only[Act.put,gP6])
     refine wpAnyH_done krA ?_ _
     clear hHeld x1 y0 hfr hz hS6
     go_wp2_with fail
     go_ret
     exact⟨some ⟨q,0,none⟩,n,_,fF (by rw[List.length_set,HLL.out]),zq (z:=z) HO6.out HLL.out.symm HT6.out hr1' eG HSA.out (m:=r5) hsp rfl,HSM.out _ _ _ _ _ _ _ (by have:=HAL.out;omega) (by simp;have:=HDL.out;omega),HK6.out.far smA smA _,ah hG6 (.inr smA) _,(HT6.out.up (A:=some ⟨q,0,none⟩) (fun a ha=>by injection ha with ha;subst ha;exact HO6.out.row q rfl)).Ga hr1' eG _ rfl rfl⟩)
    ·go_simp
     (go_at_call 14;(with_reducible refine(az g b 4 _ (HK5.out) omA omA).mono ?_))
     rintro e w6 ⟨r6,rfl,hr6,hk6,hg6⟩
     have QP:r6<4:=by rcases hr6 with h|h<;>omega
     have QO:(r6:Int)<4:=by omega
     have SL:=qh (ay.grown HO5.out hg6 omA)
     have PO:=qh (HT5.out.jI hg6 omA)
     have Px:=au hG5 hg6
     have SS:=qh hk6
     have Vs:=Px.size
     have l5:=PO.out.tab l[r1] (lgm hr1')
     rw[HA.out]at l5
     obtain⟨_,x1',_⟩:=Rcd.cells3 (w:=w6) (b:=g1) (o:=r3*3) (x:=l[r1].recs[r3]) (fun j u hu=>l5.jA aR eG hu)
     rw[HDL.out,HSA.out]at x1'
     have Wd:g1<w6.heap.size:=l5.qo.2
     go_wp2_with fail
     refine hK.out _ _ x1' (fun hHeld =>?_)
     clear hK K hk6 hr6 d0 d1 d2 BJ l5
     (try simp only[Act.put,gP6])
     refine wpAnyH_ready (rs:= [11]) krA spA ?_
     refine AllReadyH.cons rfl (fun K hK =>?_) AllReadyH.nil
     go_simp
     refine hK.out _ _ ?_ (fun hHeld =>?_)
     ·go_simp
     clear hK K
     (try simp only[Act.put,gP6])
     have hS6:=Blk.new w6 3 #[.int .i64 0,.int .i64 1,.int .i64 3,.int .i64 1073741825]
     obtain⟨U,hU⟩:∃U,U=w6.alloc (.cells #[.int .i64 0,.int .i64 1,.int .i64 3,.int .i64 1073741825] 3):=⟨_,rfl⟩
     rw[←hU]at hS6 hHeld ⊢
     have HO6:Hid (ay U w.heap.size 127 RTab.cells 1 (.slice (some ⟨q,0,none⟩) n n) l):=qh (by rw[hU];exact SL.out.alloc _)
     have HT6:Hid (bM U w.heap.size l):=qh (by rw[hU];exact PO.out.qp ak)
     have hG6:w.grownBy U (some g):=by rw[hU];exact bq Px _
     have HK6:Hid (aO U g b):=qh (by rw[hU];exact SS.out.alloc _)
     clear hU SL PO Px SS x1'
     have hz6:=hG6.size
     have l5:=HT6.out.tab l[r1] (lgm hr1')
     rw[HA.out]at l5
     obtain⟨_,x1,_⟩:=Rcd.cells3 (w:=U) (b:=g1) (o:=r3*3) (x:=l[r1].recs[r3]) (fun j u hu=>l5.jA aR eG hu)
     rw[HDL.out,HSA.out]at x1
     clear l5
     (
     obtain⟨z,hz⟩:∃z:Int,(U).cell? ⟨w6.heap.size,r6,none⟩=some (.int .i64 z):=by
      rw[hS6.cell]
      rcases(show r6=0∨r6=1∨r6=2∨r6=3 by omega) with rfl|rfl|rfl|rfl
      all_goals exact⟨_,rfl⟩
     refine wpAnyH_ready (rs:= [14]) krA spA ?_
     refine AllReadyH.cons rfl (fun K hK =>?_) AllReadyH.nil
     go_simp
     refine hK.out _ _ x1 (fun hHeld =>?_)
     clear hK K
     (try simp only[Act.put,gP6])
     refine wpAnyH_ready (rs:= [15]) krA spA ?_
     refine AllReadyH.cons rfl (fun K hK =>?_) AllReadyH.nil
     go_simp
     refine hK.out _ _ x1 (fun hHeld =>?_)
     clear hK K
     (try simp only[Act.put,gP6])
     refine tkH 16 hHeld ?_
     have hsp:r5<l[r1].recs[r3].seq.length:=by rw[HDL.out];exact Ee
     have hro:=(HT6.out.row l[r1] (lgm hr1') l[r1].recs[r3] (lgm eG)).2
     rw[HSA.out]at hro
     have y0:=hro.jA aV hsp (j:= 0) rfl
     simp only[Nat.mul_one,Nat.add_zero]at y0
     have hfr:∀j,(U).frozen? ⟨sb,j,none⟩=false:=fun j=>hro.frz j
     have hne:¬ sb=g1:=fun e=>(HT6.out.tab l[r1] (lgm hr1')).dK hro (by decide) g1 (by rw[HA.out];rfl) (by rw[e];rfl)
     clear hro
     refine wpAnyH_ready (rs:= [17]) krA spA ?_
     refine AllReadyH.cons rfl (fun K hK =>?_) AllReadyH.nil
     go_simp
     refine hK.out _ _ ?_ (fun hHeld =>?_)
     ·go_simp
     clear hK K
     (try simp only[Act.put,gP6])
     refine wpAnyH_done krA ?_ _
     clear hHeld x1 y0 hfr hz hS6
     go_wp2_with fail
     go_ret
     exact⟨some ⟨q,0,none⟩,n,_,fF (by rw[List.length_set,HLL.out]),zq (z:=z) HO6.out HLL.out.symm HT6.out hr1' eG HSA.out (m:=r5) hsp rfl,HSM.out _ _ _ _ _ _ _ (by have:=HAL.out;omega) (by simp;have:=HDL.out;omega),HK6.out.far smA smA _,ah hG6 (.inr smA) _,(HT6.out.up (A:=some ⟨q,0,none⟩) (fun a ha=>by injection ha with ha;subst ha;exact HO6.out.row q rfl)).Ga hr1' eG _ rfl rfl⟩)
   ·go_simp
    refine hK.out _ _ ?_ (fun hHeld =>?_)
    ·go_simp
    clear hK K
    (try simp only[Act.put,gP6])
    refine wpAnyH_ready (rs:= [10]) krA spA ?_
    refine AllReadyH.cons rfl (fun K hK =>?_) AllReadyH.nil
    go_simp
    (go_at_call 14;(with_reducible refine(az g b (d:Int) _ ((HK4.out.alloc _).below brf.drew) omA omA).mono ?_))
    rintro e w5 ⟨r5,rfl,hr5,hk5,hg5⟩
    have Ee:r5<d:=by rcases hr5 with h|h<;>omega
    have QQ:(r5:Int)<(d:Int):=by omega
    have gZ:w4.grownBy w5 (some g):=au (av _ ak) hg5
    have hS5:Blk w5 w4.heap.size 3 #[.int .i64 0,.int .i64 1,.int .i64 3,.int .i64 1073741825]:=Blk.grown (Blk.drew (Blk.new' rfl)) hg5 inA
    have HO5:=qh (ay.grown HO4.out gZ omA)
    have HT5:=qh (HT4.out.jI gZ omA)
    have hG5:=au hG4 gZ
    have HK5:=qh hk5
    have OH:=gZ.size
    have kG:=HT5.out.tab l[r1] (lgm hr1')
    rw[HA.out]at kG
    have BJ:∀j,w5.frozen? ⟨g1,j,none⟩=false:=fun j=>kG.frz j
    have Pj:g1<w5.heap.size:=kG.qo.2
    obtain⟨d0,d1,d2⟩:=Rcd.cells3 (w:=w5) (b:=g1) (o:=r3*3) (x:=l[r1].recs[r3]) (fun j u hu=>kG.jA aR eG hu)
    rw[HAL.out,HRA.out]at d0
    rw[HDL.out,HSA.out]at d1
    clear hk5 hr5 kG hfg c0 c1 c2
    go_wp2_with fail
    refine hK.out _ _ d1 (fun hHeld =>?_)
    clear hK K
    (try simp only[Act.put,gP6])
    refine wpAnyH_ready (rs:= [13]) krA spA ?_
    refine AllReadyH.cons rfl (fun K hK =>?_) AllReadyH.nil
    go_simp
    (go_at_call 14;(with_reducible refine(az g b 4 _ (HK5.out) omA omA).mono ?_))
    rintro e w6 ⟨r6,rfl,hr6,hk6,hg6⟩
    have QP:r6<4:=by rcases hr6 with h|h<;>omega
    have QO:(r6:Int)<4:=by omega
    have HO6:=qh (ay.grown HO5.out hg6 omA)
    have HT6:=qh (HT5.out.jI hg6 omA)
    have hG6:=au hG5 hg6
    have HK6:=qh hk6
    have hS6:=hS5.grown hg6 inA
    have hz6:=hG6.size
    have l5:=HT6.out.tab l[r1] (lgm hr1')
    rw[HA.out]at l5
    obtain⟨_,x1,_⟩:=Rcd.cells3 (w:=w6) (b:=g1) (o:=r3*3) (x:=l[r1].recs[r3]) (fun j u hu=>l5.jA aR eG hu)
    rw[HDL.out,HSA.out]at x1
    clear l5
    go_wp2_with fail
    refine hK.out _ _ x1 (fun hHeld =>?_)
    clear hK K hk6 hr6 d0 d1 d2 BJ hS5
    (try simp only[Act.put,gP6])
    (
    obtain⟨z,hz⟩:∃z:Int,(w6).cell? ⟨w4.heap.size,r6,none⟩=some (.int .i64 z):=by
     rw[hS6.cell]
     rcases(show r6=0∨r6=1∨r6=2∨r6=3 by omega) with rfl|rfl|rfl|rfl
     all_goals exact⟨_,rfl⟩
    refine wpAnyH_ready (rs:= [14]) krA spA ?_
    refine AllReadyH.cons rfl (fun K hK =>?_) AllReadyH.nil
    go_simp
    refine hK.out _ _ x1 (fun hHeld =>?_)
    clear hK K
    (try simp only[Act.put,gP6])
    refine wpAnyH_ready (rs:= [15]) krA spA ?_
    refine AllReadyH.cons rfl (fun K hK =>?_) AllReadyH.nil
    go_simp
    refine hK.out _ _ x1 (fun hHeld =>?_)
    clear hK K
    (try simp only[Act.put,gP6])
    refine tkH 16 hHeld ?_
    have hsp:r5<l[r1].recs[r3].seq.length:=by rw[HDL.out];exact Ee
    have hro:=(HT6.out.row l[r1] (lgm hr1') l[r1].recs[r3] (lgm eG)).2
    rw[HSA.out]at hro
    have y0:=hro.jA aV hsp (j:= 0) rfl
    simp only[Nat.mul_one,Nat.add_zero]at y0
    have hfr:∀j,(w6).frozen? ⟨sb,j,none⟩=false:=fun j=>hro.frz j
    have hne:¬ sb=g1:=fun e=>(HT6.out.tab l[r1] (lgm hr1')).dK hro (by decide) g1 (by rw[HA.out];rfl) (by rw[e];rfl)
    clear hro
    refine wpAnyH_ready (rs:= [17]) krA spA ?_
    refine AllReadyH.cons rfl (fun K hK =>?_) AllReadyH.nil
    go_simp
    refine hK.out _ _ ?_ (fun hHeld =>?_)
    ·go_simp
    clear hK K
    (try simp only[Act.put,gP6])
    refine wpAnyH_done krA ?_ _
    clear hHeld x1 y0 hfr hz hS6
    go_wp2_with fail
    go_ret
    exact⟨some ⟨q,0,none⟩,n,_,fF (by rw[List.length_set,HLL.out]),zq (z:=z) HO6.out HLL.out.symm HT6.out hr1' eG HSA.out (m:=r5) hsp rfl,HSM.out _ _ _ _ _ _ _ (by have:=HAL.out;omega) (by simp;have:=HDL.out;omega),HK6.out.far smA smA _,ah hG6 (.inr smA) _,(HT6.out.up (A:=some ⟨q,0,none⟩) (fun a ha=>by injection ha with ha;subst ha;exact HO6.out.row q rfl)).Ga hr1' eG _ rfl rfl⟩)
  ·go_wp2_with fail
   (with_reducible refine(az g b 2 _ (HK4.out.alloc _) omA omA).mono ?_)
   rintro e w5 ⟨r5,rfl,hr5,hk5,hg5⟩
   have Ee:r5<2:=by rcases hr5 with h|h<;>omega
   have hS5:=Blk.grown (Blk.new w4 3 #[.int .i64 (-1),.int .i64 1048577]) hg5 inA
   obtain⟨z,hz⟩:∃z:Int,w5.cell? ⟨w4.heap.size,r5,none⟩=some (.int .i64 z):=by
    rw[hS5.cell]
    rcases(show r5=0∨r5=1 by omega) with rfl|rfl
    all_goals exact⟨_,rfl⟩
   have gZ:w4.grownBy w5 (some g):=au (av _ ak) hg5
   have HO5:=qh (ay.grown HO4.out gZ omA)
   have HT5:=qh (HT4.out.jI gZ omA)
   have hG5:=au hG4 gZ
   have HK5:=qh hk5
   have OH:=gZ.size
   have kG:=HT5.out.tab l[r1] (lgm hr1')
   rw[HA.out]at kG
   have BJ:∀j,w5.frozen? ⟨g1,j,none⟩=false:=fun j=>kG.frz j
   have Pj:g1<w5.heap.size:=kG.qo.2
   obtain⟨d0,d1,d2⟩:=Rcd.cells3 (w:=w5) (b:=g1) (o:=r3*3) (x:=l[r1].recs[r3]) (fun j u hu=>kG.jA aR eG hu)
   rw[HAL.out,HRA.out]at d0
   rw[HDL.out,HSA.out]at d1
   clear hk5 hr5 kG hfg c0 c1 c2
   clear hS5
   go_wp2_with fail
   go_ret
   exact⟨some ⟨q,0,none⟩,n,_,fF (by rw[List.length_set,HLL.out]),mE (r':=⟨l[r1].recs[r3].A,l[r1].recs[r3].cap,l[r1].recs[r3].row,l[r1].recs[r3].SA,l[r1].recs[r3].jr,l[r1].recs[r3].seq,z⟩) HO5.out HLL.out.symm HT5.out hr1' eG HA.out (f:= 2) omA rfl rfl (ko HT5.out hr1' HA.out (HT5.out.row _ (lgm hr1') _ (lgm eG))).read,HSM.out _ _ _ _ _ _ _ (by have:=HAL.out;omega) (by have:=HDL.out;omega),HK5.out.far smA smA _,ah hG5 (.inr smA) _,(HT5.out.up (A:=some ⟨q,0,none⟩) (fun a ha=>by injection ha with ha;subst ha;exact HO5.out.row q rfl)).Ga hr1' eG _ rfl rfl⟩
  ·have hro:=HRO.out.1
   rw[HRA.out]at hro
   have hcap:=qN hro
   rw[HAL.out]at hcap
   obtain⟨cp,hcp⟩:∃x,l[r1].recs[r3].cap=x:=⟨_,rfl⟩
   rw[hcp]at hcap c0
   have HCP:=qh hcp
   have ha1:1≤a:=by omega
   have WA:(1:Int)≤(a:Int):=by omega
   clear hro hcp
   by_cases hc1:cp=1
   ·subst hc1
    have ha1:a=1:=by omega
    subst ha1
    go_wp2_with fail
    go_ret
    exact⟨some ⟨q,0,none⟩,n,_,fF (by rw[List.length_set,HLL.out]),mE (r':=⟨some ⟨rb,0,none⟩,0,[],l[r1].recs[r3].SA,l[r1].recs[r3].jr,l[r1].recs[r3].seq,l[r1].recs[r3].day⟩) HO4.out HLL.out.symm HT4.out hr1' eG HA.out (f:= 0) omA rfl rfl ⟨ai.nil,(ko HT4.out hr1' HA.out (HT4.out.row _ (lgm hr1') _ (lgm eG))).read.2⟩,HSM.out _ _ _ _ _ _ _ (Nat.zero_le _) (by have:=HDL.out;omega),HK4.out.far smA smA _,ah hG4 (.inr smA) _,(HT4.out.up (A:=some ⟨q,0,none⟩) (fun a ha=>by injection ha with ha;subst ha;exact HO4.out.row q rfl)).rec hr1' _ (fun a ha=>by injection ha with ha;subst ha;exact hrb) (gL HRO.out.2)⟩
   ·go_wp2_with fail
    go_ret
    have hcut:=fun(u:Value)=>(ko (o:=r3*3) (u:=u) HT4.out hr1' HA.out (HT4.out.row _ (lgm hr1') _ (lgm eG))).read.1
    rw[HRA.out]at hcut
    have hcut:=fun(u:Value)=>(hcut u).cut (c:=cp) 1 (by rw[HAL.out];omega)
    simp only[if_neg hc1]at hcut
    exact⟨some ⟨q,0,none⟩,n,_,fF (by rw[List.length_set,HLL.out]),mE (r':=⟨some ⟨rb,3,none⟩,cp-1,l[r1].recs[r3].row.drop 1,l[r1].recs[r3].SA,l[r1].recs[r3].jr,l[r1].recs[r3].seq,l[r1].recs[r3].day⟩) HO4.out HLL.out.symm HT4.out hr1' eG HA.out (f:= 0) omA rfl (by simp[Rcd.cells,HAL.out]) ⟨by simpa using hcut _,(ko HT4.out hr1' HA.out (HT4.out.row _ (lgm hr1') _ (lgm eG))).read.2⟩,HSM.out _ _ _ _ _ _ _ (by have:=HAL.out;rw[List.length_drop];omega) (by have:=HDL.out;omega),HK4.out.far smA smA _,ah hG4 (.inr smA) _,(HT4.out.up (A:=some ⟨q,0,none⟩) (fun a ha=>by injection ha with ha;subst ha;exact HO4.out.row q rfl)).rec hr1' _ (fun a ha=>by injection ha with ha;subst ha;exact hrb) (gL HRO.out.2)⟩
  ·have hro:=HRO.out.2
   rw[HSA.out,HDL.out]at hro
   have hrow:=hro.row
   have HRW:=qh hro
   clear hro
   go_wp2_with (at_builtin;go_must (refine aH _ rfl (.tmp 141) (.tmp 142) 22 rfl 3 ii _ intCells 1 8 Tryz.underlying22 hii D8 D7 D6 rfl omA aV dG w.heap.size (.slice (some ⟨sb,0,none⟩) d l[r1].recs[r3].jr) l[r1].recs[r3].seq rfl (HRW.out.alloc _) _ _ _ [1] rfl rfl (Blk.one (enc:=intCells) (x:= 1) (Blk.new' rfl) spA) (by rw[HDL.out];simp;omega) (by rw[HDL.out];simp[maxLen];omega) smA ?_);intro v' w5 hown' hg' hat';obtain⟨A3,c3,rfl,_,_,_⟩:=hown'.slice aV;have HOWN':=qh hown';have hO5:=eu (HOT.out.alloc _) (HRW.out.alloc _) (by decide) hg';have HG':=qh hg';have d1:=hO5.jA aR eG (j:= 1) rfl;have BJ:∀j,w5.frozen? ⟨g1,j,none⟩=false:=fun j=>hO5.frz j;clear hown' hO5 hg' hat' hfg c0 c1 c2)
   go_ret
   have hgw:=HG'.out
   have hsa:=Lv (w:=w4.alloc (.cells #[.int .i64 1] 3)) (j:=r3) (o:=r3*3+1) (HO4.out.alloc _) HLL.out.symm (HT4.out.qp ak) hr1' eG HA.out rfl (by rw[HSA.out,Dt _ _ _ d l[r1].recs[r3].jr];exact hgw) HOWN'.out
   rw[List.length_append,List.length_singleton]at hsa
   obtain⟨ht,hgr⟩:=rT (p:=⟨g1,r3*3+1,none⟩) (v:= .slice A3 (l[r1].recs[r3].seq.length+1) c3) hgl hbl (HK4.out.alloc _) (bq hG4 _) hgw hrow hb1
   refine⟨some ⟨q,0,none⟩,n,_,fF (by rw[List.length_set,HLL.out]),?_,HSM.out l[r1].recs[r3].row (l[r1].recs[r3].seq ++ [1]) l[r1].recs[r3].A A3 l[r1].recs[r3].cap c3 l[r1].recs[r3].day (by have:=HAL.out;omega) (by rw[List.length_append,HDL.out];simp;omega),?_,?_,?_⟩
   ·exact hsa
   ·exact ht
   ·exact hgr
   ·exact(HT4.out.up (A:=some ⟨q,0,none⟩) (fun a ha=>by injection ha with ha;subst ha;exact HO4.out.row q rfl)).rec hr1' _ (gL HRO.out.1) (gL HOWN'.out)
  ·have hrx:=HOT.out
   have h0m:0<l[r1].recs.length:=by rw[HM.out];exact hmp
   obtain⟨y0,y1,y2⟩:=Rcd.cells3 (w:=w4) (b:=g1) (o:= 0*3) (x:=l[r1].recs[0]) (fun j u hu=>HOT.out.jA aR h0m hu)
   simp only[Nat.zero_mul,Nat.zero_add]at y0 y1 y2
   have s0:=HO4.out.eY bg HLL.out.symm hr1' (j:= 0) rfl
   simp only[Nat.mul_one,Nat.add_zero]at s0
   rw[HA.out,HM.out]at s0
   obtain⟨x0,hx0⟩:∃x,l[r1].recs[0]=x:=⟨_,rfl⟩
   rw[hx0]at y0 y1 y2
   have HX0:=qh hx0
   have hq4:q<w4.heap.size:=HO4.out.lt q rfl
   have hrow:=HOT.out.row
   have K5:Hid (ay w4 w.heap.size 126 Rcd.cells 3 (.slice (some ⟨g1,0,none⟩) m l[r1].cap) l[r1].recs):=qh (by have h:=HOT.out;rwa [HM.out]at h)
   have VT:(0:Int)<(m:Int):=by omega
   clear hrx hx0 hfg c0 c1 c2
   go_upto_region 28 with (fail)
   refine aW (S:=fun u=>u.cell? ⟨q,r1,none⟩=some (.slice (some ⟨g1,0,none⟩) m l[r1].cap)) [15] krA s0 (fun hHeld =>?_)
   refine tkT 0 hHeld ?_
   refine tkT 1 hHeld ?_
   refine tkT 2 hHeld ?_
   refine tkT 3 hHeld ?_
   refine tkT 4 hHeld ?_
   refine tkT 5 hHeld ?_
   refine tkT 6 hHeld ?_
   refine tkT 7 hHeld ?_
   refine tkT 8 hHeld ?_
   refine tkT 9 hHeld ?_
   refine r1T 10 (fun K hK =>?_)
   go_simp
   refine hK.out _ _ _ s0 (fun hHeld =>?_)
   clear hK K
   (try simp only[Act.put,gP6])
   refine r1T 11 (fun K hK =>?_)
   go_simp
   refine hK.out _ _ _ s0 (fun hHeld =>?_)
   clear hK K
   (try simp only[Act.put,gP6])
   refine r1T 12 (fun K hK =>?_)
   go_simp
   refine hK.out _ _ _ ?_ (fun hHeld =>?_)
   ·go_simp
   clear hK K
   (try simp only[Act.put,gP6])
   refine r1T 13 (fun K hK =>?_)
   refine aB _ rfl (.tmp 153) (.tmp 160) 127 rfl 126 ir _ Rcd.cells 3 56 Tryz.underlying127 hir mK mJ mI rfl omA aR dO w.heap.size (.slice (some ⟨g1,0,none⟩) m l[r1].cap) l[r1].recs rfl ((K5.out.alloc _).drew) _ _ _ [x0] rfl rfl (Blk.one (enc:=Rcd.cells) (x:=x0) (Blk.drew (Blk.new' rfl)) spA) (by rw[HM.out];simp;omega) (by rw[HM.out];simp[maxLen];omega) smA ?_
   intro v' w5 hown' hg' hat'
   obtain⟨A3,c3,rfl,_,_,_⟩:=hown'.slice aR
   have HOWN':=qh hown'
   have hO5:=eu ((HO4.out.alloc _).drew) ((K5.out.alloc _).drew) (by decide) hg'
   have HG':=qh hg'
   have q5:=hO5.eY bg HLL.out.symm hr1' (j:= 0) rfl
   have TN:∀j,w5.frozen? ⟨q,j,none⟩=false:=fun j=>hO5.iN HLL.out.symm j
   simp only[Nat.mul_one,Nat.add_zero]at q5
   rw[HA.out,HM.out]at q5
   refine hK.out _ _ _ q5 (fun hHeld =>?_)
   clear hK K hown' hO5 hg' hat' s0 y0 y1 y2
   (try simp only[Act.put,gP6])
   refine tkT 14 hHeld ?_
   refine rzT 15 (fun K hK =>?_)
   clear hHeld
   go_simp
   refine hK.out _ _ _ ?_
   clear hK K
   refine bC krA ?_ _
   go_wp2_with fail
   go_ret
   have hgw:=HG'.out
   have hap:=zg (w:=(w4.alloc (.cells #[.slice x0.A x0.row.length x0.cap,.slice x0.SA x0.seq.length x0.jr,.int .i64 x0.day] 126)).drew) ((HO4.out.alloc _).drew) HLL.out.symm (HT4.out.qp ak) hr1' (by rw[HA.out,Dt _ _ _ m l[r1].cap];exact hgw) (A3:=A3) (c3:=c3) (new:=l[r1].recs ++ [x0]) HOWN'.out (fun x hx=>by
    have hx':x∈l[r1].recs:=by
     rcases List.mem_append.1 hx with h|h
     ·exact h
     ·rw[List.mem_singleton.1 h,←HX0.out];exact lgm h0m
    have hx2:=HT4.out.row l[r1] (lgm hr1') x hx'
    exact⟨(hx2.1.alloc _).drew,(hx2.2.alloc _).drew⟩)
   obtain⟨ht,hgr⟩:=rT (p:=⟨q,r1,none⟩) (v:= .slice A3 (l[r1].recs ++ [x0]).length c3) hgl hbl ((HK4.out.alloc _).below brf.drew) (kI (bq hG4 _)) hgw hrow hq
   refine⟨some ⟨q,0,none⟩,n,l.set r1 ⟨A3,c3,l[r1].recs ++ [x0]⟩,fF (by rw[List.length_set,HLL.out]),?_,HSL.out.bH.set (by rw[List.length_append,HM.out];simp;omega) (fun r hr =>?_),?_,?_,?_⟩
   ·simpa using hap
   ·have hx':r∈l[r1].recs:=by
     rcases List.mem_append.1 hr with h|h
     ·exact h
     ·rw[List.mem_singleton.1 h,←HX0.out];exact lgm h0m
    exact⟨HSL.out.bH.row l[r1] (lgm hr1') r hx',HSL.out.bH.seq l[r1] (lgm hr1') r hx'⟩
   ·simpa using ht
   ·simpa using hgr
   ·refine(HT4.out.up (A:=some ⟨q,0,none⟩) (fun a ha=>by injection ha with ha;subst ha;exact HO4.out.row q rfl)).set _ (gL HOWN'.out) (fun r hr =>?_)
    have hx':r∈l[r1].recs:=by
     rcases List.mem_append.1 hr with h|h
     ·exact h
     ·rw[List.mem_singleton.1 h,←HX0.out];exact lgm h0m
    exact(HT4.out.row l[r1] (lgm hr1') r hx').up
  ·go_wp2_with (at_builtin;go_must (refine aH _ rfl (.tmp 165) (.tmp 166) 52 rfl 127 it _ RTab.cells 1 24 Tryz.underlying52 hit xV xU xR rfl omA bg I9 w.heap.size (.slice (some ⟨q,0,none⟩) n n) l rfl (HO4.out.alloc _) _ _ _ [df] rfl rfl (Blk.one (enc:=RTab.cells) (x:=df) (Blk.new' rfl) spA) (by rw[HLL.out];simp;omega) (by rw[HLL.out];simp[maxLen];omega) smA ?_);intro v' w5 hown' hg' hat';obtain⟨A3,c3,rfl,_,_,_⟩:=hown'.slice bg;have HOWN':=qh hown';have HG':=qh hg';clear hown' hg' hat' hfg c0 c1 c2)
   go_ret
   have hrow:∀q',(Value.slice (some ⟨q,0,none⟩) n n).ownBlock=some q'→w.heap.size≤q':=HO4.out.row
   exact⟨A3,c3,l ++ [df],fF (by rw[List.length_append,HLL.out];rfl),LG (w:=w4.alloc _) (HO4.out.alloc _) (HT4.out.qp ak) HG'.out HOWN'.out,HSL.out.more,(HK4.out.alloc _).sV HG'.out (fun e=>by have:=hrow g e.symm;omega) (fun e=>by have:=hrow b e.symm;omega),fP (bq hG4 _) HG'.out hrow,⟨gL HOWN'.out,fun t ht=>(List.mem_append.1 ht).elim ((HT4.out.up (A:=some ⟨q,0,none⟩) (fun a ha=>by injection ha with ha;subst ha;exact HO4.out.row q rfl)).2 t) (fun h=>by rw[List.mem_singleton.1 h];exact⟨fun a h=>(by cases h),fun x hx=>(by cases hx)⟩)⟩⟩
  ·have hro:=HRO.out.1
   go_wp2_with fail
   go_ret
   exact⟨some ⟨q,0,none⟩,n,_,fF (by rw[List.length_set,HLL.out]),mE (r':=⟨none,0,[],l[r1].recs[r3].SA,l[r1].recs[r3].jr,l[r1].recs[r3].seq,l[r1].recs[r3].day⟩) HO4.out HLL.out.symm HT4.out hr1' eG HA.out (f:= 0) omA rfl rfl ⟨ai.nil,(ko HT4.out hr1' HA.out (HT4.out.row _ (lgm hr1') _ (lgm eG))).read.2⟩,HSM.out _ _ _ _ _ _ _ (Nat.zero_le _) (by have:=HDL.out;omega),HK4.out.far smA smA _,ah hG4 (.inr smA) _,(HT4.out.up (A:=some ⟨q,0,none⟩) (fun a ha=>by injection ha with ha;subst ha;exact HO4.out.row q rfl)).rec hr1' _ (fun a h=>by cases h) (gL HRO.out.2)⟩
end Go.Proofs.YtebippoohpnjkaaGreat
