/-
  Contracts and plain laws of this seat, part 40.
-/
import Derived.Test.YtebippoohpnjkaaGreatN19
set_option linter.unusedVariables false
set_option linter.unusedSimpArgs false
set_option maxRecDepth 100000
set_option maxHeartbeats 16000000
namespace Go.Proofs.YtebippoohpnjkaaGreat
open Go.RowKit
theorem Ev(g b:Nat)(w:World)(hk:aO w g b):Calls Tryz.prog 60 #[.pointer (some ⟨g,0,none⟩)] w (qQ w g b):=by
 have hgl:=hk.ltg
 have hbl:=hk.lt
 have HK:=qh hk
 clear hk
 go_enter Tryz.func60,Tryz.ntmps60
 go_wp2_with fail
 (with_reducible refine(aD g b 5 _ (HK.out.alloc _) omA omA).mono ?_)
 rintro e w1 ⟨r1,rfl,hr1,hk1,hg1⟩
 have hR1:=Blk.grown (Blk.new w 62 #[.int .i64 0,.int .i64 0,.string ⟨#[]⟩]) hg1 (fun e=>by injection e with e;omega)
 have hG1:w.grownBy w1 (some g):=ax (ay _ av) hg1
 have HK1:=qh hk1
 have HR1:=qh hR1
 have hr5:r1<5:=by rcases hr1 with h|h<;>omega
 clear hk1 hr1 hR1 HK
 rcases(show r1=0∨r1=1∨r1=2∨(r1=3∨r1=4) by omega) with rfl|rfl|rfl|h
 ·have hR:=HR1.out
  have c0:=hR.cell 0
  have c1:=hR.cell 1
  have c2:=hR.cell 2
  have f0:=hR.frozen 0
  have f1:=hR.frozen 1
  have f2:=hR.frozen 2
  simp only[gE3]at c0 c1 c2
  clear hR
  go_wp2_with fail
  refine bodyPost_ret (v:= .agg #[.int .i64 0,.int .i64 0,.string ⟨#[]⟩]) (by simp[results,Tryz.results60,go_sem,c0,c1,c2]) rfl ⟨⟨0,0,⟨#[]⟩⟩,rfl,?_,?_⟩
  ·exact(((HK1.out).far smA smA _).far smA smA _).far smA smA _
  ·exact ai (ai (ai hG1 (.inr nlr) _) (.inr nlr) _) (.inr nlr) _
 ·(
  go_wp2_with fail
  (with_reducible refine(uJ g b _ HK1.out).mono ?_)
  rintro e w2 ⟨⟨vk,vn,vt⟩,rfl,hk2,hg2⟩
  have hR:=HR1.out.grown hg2 (fun e=>by injection e with e;omega)
  have hG2:=ax hG1 hg2
  have HK2:=qh hk2
  have c0:=hR.cell 0
  have c1:=hR.cell 1
  have c2:=hR.cell 2
  have f0:=hR.frozen 0
  have f1:=hR.frozen 1
  have f2:=hR.frozen 2
  simp only[gE3]at c0 c1 c2
  clear hk2 hR
  go_wp2_with fail
  refine bodyPost_ret (v:= .agg #[.int .i64 vk,.int .i64 vn,.string vt]) (by simp[results,Tryz.results60,go_sem,c0,c1,c2]) rfl ⟨⟨vk,vn,vt⟩,rfl,?_,?_⟩
  ·exact(((HK2.out).far smA smA _).far smA smA _).far smA smA _
  ·exact ai (ai (ai hG2 (.inr nlr) _) (.inr nlr) _) (.inr nlr) _)
 ·(
  go_wp2_with fail
  (with_reducible refine(uJ g b _ HK1.out).mono ?_)
  rintro e w2 ⟨⟨vk,vn,vt⟩,rfl,hk2,hg2⟩
  have hR:=HR1.out.grown hg2 (fun e=>by injection e with e;omega)
  have hG2:=ax hG1 hg2
  have HK2:=qh hk2
  have c0:=hR.cell 0
  have c1:=hR.cell 1
  have c2:=hR.cell 2
  have f0:=hR.frozen 0
  have f1:=hR.frozen 1
  have f2:=hR.frozen 2
  simp only[gE3]at c0 c1 c2
  clear hk2 hR
  go_wp2_with fail
  refine bodyPost_ret (v:= .agg #[.int .i64 vk,.int .i64 vn,.string vt]) (by simp[results,Tryz.results60,go_sem,c0,c1,c2]) rfl ⟨⟨vk,vn,vt⟩,rfl,?_,?_⟩
  ·exact(((HK2.out).far smA smA _).far smA smA _).far smA smA _
  ·exact ai (ai (ai hG2 (.inr nlr) _) (.inr nlr) _) (.inr nlr) _)
 ·have h0:((r1:Int) == 0)=false:=by simp;omega
  have h1:((r1:Int) == 1)=false:=by simp;omega
  have h2:((r1:Int) == 2)=false:=by simp;omega
  clear h
  go_wp2_with fail
  (with_reducible refine(CR g b _ HK1.out).mono ?_)
  rintro e w2 ⟨⟨vk,vn,vt⟩,rfl,hk2,hg2⟩
  have hR:=HR1.out.grown hg2 (fun e=>by injection e with e;omega)
  have hG2:=ax hG1 hg2
  have HK2:=qh hk2
  have c0:=hR.cell 0
  have c1:=hR.cell 1
  have c2:=hR.cell 2
  have f0:=hR.frozen 0
  have f1:=hR.frozen 1
  have f2:=hR.frozen 2
  simp only[gE3]at c0 c1 c2
  clear hk2 hR
  go_wp2_with fail
  refine bodyPost_ret (v:= .agg #[.int .i64 vk,.int .i64 vn,.string vt]) (by simp[results,Tryz.results60,go_sem,c0,c1,c2]) rfl ⟨⟨vk,vn,vt⟩,rfl,?_,?_⟩
  ·exact(((HK2.out).far smA smA _).far smA smA _).far smA smA _
  ·exact ai (ai (ai hG2 (.inr nlr) _) (.inr nlr) _) (.inr nlr) _
theorem rM{A B:Option Addr}(h:jk A B){n c m d g:Nat}(hg:(Value.slice A n c).ownBlock=some g)(e:some g=(Value.slice B m d).ownBlock):False:=by
 cases B with
 | none=>simp[Value.ownBlock]at e
 | some b =>
   have e:g=b.block:=by simpa[Value.ownBlock]using e
   exact iL h hg b rfl e
section
variable {w w':World}{base k j n:Nat}{A:Option Addr}{l:List RTab}
theorem vS{g f o:Nat}{u:Value}(hO:aB w base 127 RTab.cells 1 (.slice A n n) l)(hn:n=l.length)(RX:∀t∈l,aB w base 126 Rcd.cells 3 (.slice t.A t.recs.length t.cap) t.recs)(hap:∀i j (hi:i<l.length) (hj:j<l.length),i≠j→jk l[i].A l[j].A)(hk:k<l.length)(hj:j<l[k].recs.length)
 (R3:∀i (hi:i<l.length) m (hm:m<l[i].recs.length),(i≠k∨m≠j)→dN w base l[i].recs[m]) (hA:l[k].A=some ⟨g,0,none⟩) {r':Rcd}(hf:f<3) (ho:o=j*3+f) (hcell:Rcd.cells r'=(Rcd.cells l[k].recs[j]).set f u) (hrow:jZ (w.setCell ⟨g,o,none⟩ u) (w.setCell ⟨g,o,none⟩ u).heap.size r'):
 aQ (w.setCell ⟨g,o,none⟩ u) (w.setCell ⟨g,o,none⟩ u).heap.size A (l.set k ⟨l[k].A,l[k].cap,l[k].recs.set j r'⟩):=by
 have hTk:=RX l[k] (lgm hk)
 rw[hA]at hTk
 obtain⟨cs,hc⟩:=hTk.typ (q:=g) rfl
 have hO2:aB (w.setCell ⟨g,o,none⟩ u) base 127 RTab.cells 1 (.slice A n n) l:=hO.di hc (by decide) u
 have hR:∀x,dN w base x→jZ (w.setCell ⟨g,o,none⟩ u) (w.setCell ⟨g,o,none⟩ u).heap.size x:=fun x hx=>dN.read (base:=base) ⟨hx.1.di hc (by decide) u,hx.2.di hc (by decide) u⟩
 have UN:=hTk.gp bB rfl hj r' (j:=f) (o:=o) (u:=u) hf ho hcell
 subst hn
 have hO3:aB (w.setCell ⟨g,o,none⟩ u) base 127 RTab.cells 1 (.slice A (l.set k ⟨l[k].A,l[k].cap,l[k].recs.set j r'⟩).length l.length) (l.set k ⟨l[k].A,l[k].cap,l[k].recs.set j r'⟩):=by
  refine mY hk ?_ (by simpa using hO2)
  show [Value.slice _ _ _]=[Value.slice _ _ _]
  rw[List.length_set]
 refine⟨bJ bQ hO3,fun t ht =>?_⟩
 obtain⟨i,hi,rfl⟩:=List.getElem_of_mem ht
 have hi':i<l.length:=by simpa using hi
 rw[List.getElem_set]
 by_cases hik:k=i
 ·rw[if_pos hik]
  refine⟨?_,fun x hx =>?_⟩
  ·show ah _ _ Rcd.cells 3 l[k].A (l[k].recs.set j r')
   rw[hA]
   exact bJ (base:=base) (c:=l[k].cap) (e:= 126) bB (by simpa using UN)
  ·obtain⟨m,hm,rfl⟩:=List.getElem_of_mem hx
   have hm:m<(l[k].recs.set j r').length:=hm
   rw[List.length_set]at hm
   show jZ _ _ ((l[k].recs.set j r')[m]'_)
   rw[List.getElem_set]
   by_cases hjm:j=m
   ·rw[if_pos hjm];exact hrow
   ·rw[if_neg hjm];exact hR _ (R3 k hk m hm (.inr (fun e=>hjm e.symm)))
 ·rw[if_neg hik]
  have hti:=RX l[i] (lgm hi')
  have hap:=hap i k hi' hk omA
  refine⟨bJ (base:=base) (c:=l[i].cap) (e:= 126) bB (hti.far (p:=⟨g,o,none⟩) (fun q hq =>?_) u),fun x hx =>?_⟩
  ·exact iL hap hq ⟨g,0,none⟩ hA
  ·obtain⟨m,hm,rfl⟩:=List.getElem_of_mem hx
   exact hR _ (R3 i hi' m hm (.inl (fun e=>hik e.symm)))
theorem oh{g f o:Nat}{u:Value}(hO:aB w base 127 RTab.cells 1 (.slice A n n) l)(hn:n=l.length)(hT:eZ w base l)(hk:k<l.length)(hj:j<l[k].recs.length)(hA:l[k].A=some ⟨g,0,none⟩){r':Rcd}(hf:f<3)(ho:o=j*3+f)(hcell:Rcd.cells r'=(Rcd.cells l[k].recs[j]).set f u)(hrow:jZ (w.setCell ⟨g,o,none⟩ u) (w.setCell ⟨g,o,none⟩ u).heap.size r'):
 aQ (w.setCell ⟨g,o,none⟩ u) (w.setCell ⟨g,o,none⟩ u).heap.size A (l.set k ⟨l[k].A,l[k].cap,l[k].recs.set j r'⟩):=
 vS hO hn hT.tab hT.nU hk hj (fun i hi m hm _=>hT.row _ (lgm hi) _ (lgm hm)) hA hf ho hcell hrow
theorem lH{g o:Nat}{u:Value}(hT:eZ w base l)(hk:k<l.length)(hA:l[k].A=some ⟨g,0,none⟩){x:Rcd}(hx:dN w base x):dN (w.setCell ⟨g,o,none⟩ u) base x:=by
 have hTk:=hT.tab l[k] (lgm hk)
 rw[hA]at hTk
 obtain⟨cs,hc⟩:=hTk.typ (q:=g) rfl
 exact⟨hx.1.di hc (by decide) u,hx.2.di hc (by decide) u⟩
theorem dO{α β:Type}{enc:α→List Value}{enc':β→List Value}{s s' b b':Nat}{e e':TypeId}{v v':Value}{m:List α}{m':List β}(h:aB w b e enc s v m)(h':aB w b' e' enc' s' v' m')(he:e≠e')(hg:w.grownBy w' v'.ownBlock):aB w' b e enc s v m:=
 h.kept hg fun q hq=>h.dH h' he q hq
theorem Aq{q:Nat}(hO:aB w base 127 RTab.cells 1 (.slice (some ⟨q,0,none⟩) n n) l)(hn:n=l.length)(hT:eZ w base l)(hk:k<l.length)(hg:w.grownBy w' (Value.slice l[k].A l[k].recs.length l[k].cap).ownBlock){A3:Option Addr}{c3:Nat}{new:List Rcd}(hnew:aB w' base 126 Rcd.cells 3 (.slice A3 new.length c3) new)(hrow:∀x∈new,dN w base x):
 aQ (w'.setCell ⟨q,k,none⟩ (.slice A3 new.length c3)) (w'.setCell ⟨q,k,none⟩ (.slice A3 new.length c3)).heap.size (some ⟨q,0,none⟩) (l.set k ⟨A3,c3,new⟩):=by
 have hTk:=hT.tab l[k] (lgm hk)
 have hO1:=dO hO hTk (by decide) hg
 have hR1:∀x,dN w base x→dN w' base x:=fun x hx=>⟨dO hx.1 hTk (by decide) hg,dO hx.2 hTk (by decide) hg⟩
 obtain⟨cs,hc⟩:=hO1.typ (q:=q) rfl
 have hO2:=hO1.gp bQ hn hk ⟨A3,c3,new⟩ (j:= 0) (o:=k) (u:= .slice A3 new.length c3) omA omA rfl
 have hone:∀ {A:Option Addr}{c:Nat}{recs:List Rcd},fZ w' base A c recs→fZ (w'.setCell ⟨q,k,none⟩ (.slice A3 new.length c3)) base A c recs:=fun h=>⟨h.1.di hc Aw _,fun x hx=>⟨(h.2 x hx).1.di hc Es _,(h.2 x hx).2.di hc Er _⟩⟩
 refine(qE (c:=n) (by simpa[hn]using hO2) fun t ht =>?_).1
 obtain⟨i,hi,rfl⟩:=List.getElem_of_mem ht
 have hi':i<l.length:=by simpa using hi
 rw[List.getElem_set]
 by_cases hik:k=i
 ·rw[if_pos hik]
  exact hone ⟨hnew,fun x hx=>hR1 x (hrow x hx)⟩
 ·rw[if_neg hik]
  exact hone ⟨(hT.tab _ (lgm hi')).kept hg fun q' hq' e=>rM (hT.nU i k hi' hk omA) hq' e,fun x hx=>hR1 x (hT.row _ (lgm hi') x hx)⟩
theorem Md(hO:aB w base 127 RTab.cells 1 (.slice A n n) l)(hT:eZ w base l)(hg:w.grownBy w' (Value.slice A n n).ownBlock){A3:Option Addr}{c3:Nat}(hnew:aB w' base 127 RTab.cells 1 (.slice A3 (l ++ [dA]).length c3) (l ++ [dA])):aQ w' w'.heap.size A3 (l ++ [dA]):=
 ⟨bJ bQ hnew,fun t ht=>by
  rcases List.mem_append.1 ht with h|h
  ·exact⟨bJ bB (dO (hT.tab t h) hO (by decide) hg),fun x hx=>dN.read (base:=base) ⟨dO (hT.row t h x hx).1 hO (by decide) hg,dO (hT.row t h x hx).2 hO (by decide) hg⟩⟩
  ·rw[List.mem_singleton.1 h]
   exact⟨ah.nil,fun x hx=>by cases hx⟩⟩
theorem LX{g o:Nat}(hO:aB w base 127 RTab.cells 1 (.slice A n n) l)(hn:n=l.length)(hT:eZ w base l)(hk:k<l.length)(hj:j<l[k].recs.length)(hA:l[k].A=some ⟨g,0,none⟩)(ho:o=j*3+1)(hg:w.grownBy w' (Value.slice l[k].recs[j].SA l[k].recs[j].seq.length l[k].recs[j].kg).ownBlock){A3:Option Addr}{c3:Nat}{new:List Int}(hnew:aB w' base 3 intCells 1 (.slice A3 new.length c3) new):
 aQ (w'.setCell ⟨g,o,none⟩ (.slice A3 new.length c3)) (w'.setCell ⟨g,o,none⟩ (.slice A3 new.length c3)).heap.size A (l.set k ⟨l[k].A,l[k].cap,l[k].recs.set j ⟨l[k].recs[j].A,l[k].recs[j].cap,l[k].recs[j].row,A3,c3,new,l[k].recs[j].day⟩⟩):=by
 have hr:=hT.row l[k] (lgm hk) l[k].recs[j] (lgm hj)
 have hTk:=dO (hT.tab l[k] (lgm hk)) hr.2 (by decide) hg
 rw[hA]at hTk
 obtain⟨cs,hc⟩:=hTk.typ (q:=g) rfl
 refine vS (dO hO hr.2 (by decide) hg) hn (fun t ht=>dO (hT.tab t ht) hr.2 (by decide) hg) hT.nU hk hj (fun i hi m hm hne =>?_) hA (f:= 1) omA ho rfl (dN.read (base:=base) ⟨(dO hr.1 hr.2 (by decide) hg).di hc (by decide) _,hnew.di hc (by decide) _⟩)
 have hx:=hT.row l[i] (lgm hi) l[i].recs[m] (lgm hm)
 have hap:nA l[i].recs[m] l[k].recs[j]:=by
  by_cases hik:i=k
  ·subst hik
   exact CX (hT.xg _ (lgm hi)) hm hj omA
  ·exact hT.pO i k hi hk hik _ (lgm hm) _ (lgm hj)
 exact⟨dO hx.1 hr.2 (by decide) hg,hx.2.kept hg fun q' hq' e=>rM hap.2 hq' e⟩
theorem F5{g m:Nat}{v:Val}(hO:aB w base 127 RTab.cells 1 (.slice A n n) l)(hn:n=l.length)(hT:eZ w base l)(hk:k<l.length)(hj:j<l[k].recs.length)(hA:l[k].recs[j].A=some ⟨g,0,none⟩)(hm:m<l[k].recs[j].row.length){w':World}(hw:w'=((w.setCell ⟨g,m*3,none⟩ (.int .i64 v.kind)).setCell ⟨g,m*3+1,none⟩ (.int .i64 v.num)).setCell ⟨g,m*3+2,none⟩ (.string v.text)):
 aQ w' w'.heap.size A (l.set k ⟨l[k].A,l[k].cap,l[k].recs.set j ⟨l[k].recs[j].A,l[k].recs[j].cap,l[k].recs[j].row.set m v,l[k].recs[j].SA,l[k].recs[j].kg,l[k].recs[j].seq,l[k].recs[j].day⟩⟩):=by
 have hr:=hT.row l[k] (lgm hk) l[k].recs[j] (lgm hj)
 have hr1:=hr.1
 rw[hA]at hr1
 obtain⟨vs,hvs⟩:=hr1.typ (q:=g) rfl
 have hP1:=Dm hr1 rfl hm v
 rw[←hw]at hP1
 have hne:∀q,(Value.slice l[k].recs[j].SA l[k].recs[j].seq.length l[k].recs[j].kg).ownBlock=some q→q≠g:=fun q hq=>hr.2.bP (g:=g) (cs:=vs) hvs (by decide) q hq
 have hP2:=((hr.2.far (p:=⟨g,m*3,none⟩) hne (.int .i64 v.kind)).far (p:=⟨g,m*3+1,none⟩) hne (.int .i64 v.num)).far (p:=⟨g,m*3+2,none⟩) hne (.string v.text)
 rw[←hw]at hP2
 refine(wX (w':=w') (r':=⟨l[k].recs[j].A,l[k].recs[j].cap,l[k].recs[j].row.set m v,l[k].recs[j].SA,l[k].recs[j].kg,l[k].recs[j].seq,l[k].recs[j].day⟩) hO hn hT hk hj (by simp[Rcd.cells]) ⟨?_,hP2⟩ fun q h1 _ =>?_).1
 ·show aB w' base _ _ 3 (.slice l[k].recs[j].A (l[k].recs[j].row.set m v).length l[k].recs[j].cap) _
  rw[hA]
  simpa using hP1
 ·have hq:q≠g:=h1 ⟨g,0,none⟩ hA
  rw[hw,Below.heap_setCell _ _ _ _ hq,Below.heap_setCell _ _ _ _ hq,Below.heap_setCell _ _ _ _ hq]
theorem AP{g m:Nat}{z:Int}(hO:aB w base 127 RTab.cells 1 (.slice A n n) l)(hn:n=l.length)(hT:eZ w base l)(hk:k<l.length)(hj:j<l[k].recs.length)(hA:l[k].recs[j].SA=some ⟨g,0,none⟩)(hm:m<l[k].recs[j].seq.length){w':World}(hw:w'=w.setCell ⟨g,m,none⟩ (.int .i64 z)):
 aQ w' w'.heap.size A (l.set k ⟨l[k].A,l[k].cap,l[k].recs.set j ⟨l[k].recs[j].A,l[k].recs[j].cap,l[k].recs[j].row,l[k].recs[j].SA,l[k].recs[j].kg,l[k].recs[j].seq.set m z,l[k].recs[j].day⟩⟩):=by
 have hr:=hT.row l[k] (lgm hk) l[k].recs[j] (lgm hj)
 have hr2:=hr.2
 rw[hA]at hr2
 obtain⟨vs,hvs⟩:=hr2.typ (q:=g) rfl
 have hP2:=hr2.gp bn rfl hm z (j:= 0) (o:=m) (u:= .int .i64 z) omA omA rfl
 have hP1:=hr.1.di (i:=m) hvs (by decide) (.int .i64 z)
 rw[←hw]at hP1 hP2
 refine(wX (w':=w') (r':=⟨l[k].recs[j].A,l[k].recs[j].cap,l[k].recs[j].row,l[k].recs[j].SA,l[k].recs[j].kg,l[k].recs[j].seq.set m z,l[k].recs[j].day⟩) hO hn hT hk hj (by simp[Rcd.cells]) ⟨hP1,?_⟩ fun q _ h2 =>?_).1
 ·show aB w' base _ _ 1 (.slice l[k].recs[j].SA (l[k].recs[j].seq.set m z).length l[k].recs[j].kg) _
  rw[hA]
  simpa using hP2
 ·have hq:q≠g:=h2 ⟨g,0,none⟩ hA
  rw[hw,Below.heap_setCell _ _ _ _ hq]
end
theorem dQ.set{l:List RTab}(h:dQ l){k:Nat}{t:RTab}(h1:t.recs.length≤1000000)(h2:∀r∈t.recs,r.row.length≤1000000∧r.seq.length≤1000000):dQ (l.set k t):=
 ⟨by simpa using h.len,fun t' ht=>by
  rcases List.mem_or_eq_of_mem_set ht with h3|rfl
  ·exact h.recs t' h3
  ·exact h1,fun t' ht r hr=>by
  rcases List.mem_or_eq_of_mem_set ht with h3|rfl
  ·exact h.row t' h3 r hr
  ·exact(h2 r hr).1,fun t' ht r hr=>by
  rcases List.mem_or_eq_of_mem_set ht with h3|rfl
  ·exact h.seq t' h3 r hr
  ·exact(h2 r hr).2⟩
theorem dQ.set1{l:List RTab}(h:dQ l){k j:Nat}(hk:k<l.length){A:Option Addr}{c:Nat}{r:Rcd}(h1:r.row.length≤1000000)(h2:r.seq.length≤1000000):dQ (l.set k ⟨A,c,l[k].recs.set j r⟩):=
 h.set (by simpa using h.recs l[k] (lgm hk)) fun r' hr=>by
  rcases List.mem_or_eq_of_mem_set hr with h3|rfl
  ·exact⟨h.row _ (lgm hk) r' h3,h.seq _ (lgm hk) r' h3⟩
  ·exact⟨h1,h2⟩
structure oK (rt:List RTab):Prop where
 len:rt.length≤1000
 recs:∀t∈rt,t.recs.length≤1000
 row:∀t∈rt,∀r∈t.recs,r.row.length≤1000
 seq:∀t∈rt,∀r∈t.recs,r.seq.length≤1000
theorem oK.bH{l:List RTab}(h:oK l):dQ l:=
 ⟨by have:=h.len;omega,fun t ht=>by have:=h.recs t ht;omega,fun t ht r hr=>by have:=h.row t ht r hr;omega,fun t ht r hr=>by have:=h.seq t ht r hr;omega⟩
theorem oK.pure{rt l:List RTab}(h:oK rt)(e:l.map aS=rt.map aS):oK l:=by
 have key:∀t∈l,∃t'∈rt,t'.recs.map bK=t.recs.map bK:=fun t ht=>by
  have h1:aS t∈rt.map aS:=by rw[←e];exact List.mem_map_of_mem ht
  obtain⟨t',h2,h3⟩:=List.mem_map.1 h1
  exact⟨t',h2,h3⟩
 have Qm:∀t∈l,∀r∈t.recs,∃t'∈rt,∃r'∈t'.recs,bK r'=bK r:=fun t ht r hr=>by
  obtain⟨t',h2,h3⟩:=key t ht
  have h1:bK r∈t'.recs.map bK:=by rw[h3];exact List.mem_map_of_mem hr
  obtain⟨r',h4,h5⟩:=List.mem_map.1 h1
  exact⟨t',h2,r',h4,h5⟩
 refine⟨?_,fun t ht =>?_,fun t ht r hr =>?_,fun t ht r hr =>?_⟩
 ·have:=congrArg List.length e
  simp only[List.length_map]at this
  rw[this]
  exact h.len
 ·obtain⟨t',h2,h3⟩:=key t ht
  have:=congrArg List.length h3
  simp only[List.length_map]at this
  rw[←this]
  exact h.recs t' h2
 ·obtain⟨t',h2,r',h4,h5⟩:=Qm t ht r hr
  have e1:r'.row=r.row:=congrArg Prod.fst h5
  rw[←e1]
  exact h.row t' h2 r' h4
 ·obtain⟨t',h2,r',h4,h5⟩:=Qm t ht r hr
  have e1:r'.seq=r.seq:=congrArg (fun p=>p.2.1) h5
  rw[←e1]
  exact h.seq t' h2 r' h4
theorem oK.more{l:List RTab}(h:oK l):dQ (l ++ [dA]):=by
 have key:∀t∈l ++ [dA],t∈l∨t=dA:=fun t ht=>(List.mem_append.1 ht).imp id List.mem_singleton.1
 refine⟨by have:=h.len;simp;omega,fun t ht =>?_,fun t ht r hr =>?_,fun t ht r hr =>?_⟩
 ·rcases key t ht with h1|rfl
  ·exact h.bH.recs t h1
  ·exact Nat.zero_le _
 ·rcases key t ht with h1|rfl
  ·exact h.bH.row t h1 r hr
  ·cases hr
 ·rcases key t ht with h1|rfl
  ·exact h.bH.seq t h1 r hr
  ·cases hr
theorem eZ.jN{w w':World}{base g:Nat}{l:List RTab}(h:eZ w base l)(hg:w.grownBy w' (some g))(hgb:g<base):eZ w' base l:=
 ⟨fun t ht=>(h.tab t ht).grown hg hgb,fun t ht r hr=>⟨(h.row t ht r hr).1.grown hg hgb,(h.row t ht r hr).2.grown hg hgb⟩,h.nU,h.pO,h.xg⟩
theorem eZ.sP{w w':World}{base:Nat}{l:List RTab}(h:eZ w base l)(hb:Below w.heap.size w w'):eZ w' base l:=h.below hb nlr
theorem uH{w u w5:World}{g b:Nat}{row:Option Nat}{p:Addr}{v:Value}(hgl:g<w.heap.size)(hbl:b<w.heap.size)(hk:aO u g b)(hG:w.grownBy u (some g))(hg':u.grownBy w5 row)(hrow:∀q,row=some q→w.heap.size≤q)(hp:w.heap.size≤p.block):aO (w5.setCell p v) g b∧w.grownBy (w5.setCell p v) (some g):=
 ⟨(hk.oC hg' (fun e=>by have:=hrow g e.symm;omega) (fun e=>by have:=hrow b e.symm;omega)).far omA omA _,ai (dJ hG hg' hrow) (.inr hp) _⟩
theorem EO(A:Option Addr)(n c m d:Nat):(Value.slice A n c).ownBlock=(Value.slice A m d).ownBlock:=by cases A<;>rfl
def MZ(w:World)(g b:Nat)(e:Ending)(w':World):Prop:= ∃A' c' out,e=.returned (.slice A' out.length c')∧aQ w' w'.heap.size A' out∧dQ out∧aO w' g b∧w.grownBy w' (some g)
theorem eP{A:Option Addr}{n m c:Nat}(h:m=n):Ending.returned (.slice A n c)=.returned (.slice A m c):=by rw[h]
def JD:Rcd:=⟨none,0,[],none,0,[],0⟩
theorem JC(w:World)(base:Nat):dN w base JD:=⟨aB.nil,aB.nil⟩
theorem uK(g b:Nat)(A:Option Addr)(c n:Nat)(rt:List RTab)(w:World)(hk:aO w g b)(hl:aQ w w.heap.size A rt)(hln:rt.length=n)(hs:oK rt):
 Calls Tryz.prog 22 #[.pointer (some ⟨g,0,none⟩),.slice A n c] w fun e w'=>MZ w g b e w':=by
 obtain⟨ir,hir,pR,oV,pQ⟩:=info_parts wR
 obtain⟨it,hit,zu,zt,zq⟩:=info_parts xS
 obtain⟨ii,hii,zy,zx,zw⟩:=info_parts jv
 have hgl:=hk.ltg
 have hbl:=hk.lt
 have hn3:n≤1000:=by rw[←hln];exact hs.len
 have HK:=qh hk
 have HL:=qh hl
 have HSM:=qh hs
 clear hk hl hs
 go_enter Tryz.func22,Tryz.ntmps22
 go_upto_region 2 with (go_at_call 59;(with_reducible refine(lJ A c n rt _ HL.out hln HSM.out.bH).mono ?_);rintro e w1 ⟨q,l,rfl,hq,hll,hO,hT,hpu,hb1⟩)
 have HSL:=qh (HSM.out.pure hpu)
 have HK1:=qh (HK.out.below hb1)
 have hG1:w.grownBy w1 (some g):=ay _ hb1
 have HO1:=qh hO
 have HT1:=qh hT
 have hz1:=hb1.size
 have HLL:=qh hll
 clear hO hT hpu HK HL HSM hb1 hln
 by_cases h0:n=0
 ·have h0':((n:Int) == 0)=true:=by rw[h0];rfl
  clear h0
  go_wp2_with fail
  go_ret
  exact⟨some ⟨q,0,none⟩,n,l,eP HLL.out,HT1.out.read HO1.out,HSL.out.bH,HK1.out,hG1⟩
 have h0':((n:Int) == 0)=false:=by rw[beq_eq_false_iff_ne];omega
 go_upto_region 5 with (go_at_call 14;(with_reducible refine(aD g b (n:Int) _ HK1.out omA omA).mono ?_);rintro e w2 ⟨r1,rfl,hr1,hk2,hg2⟩)
 have hr1':r1<l.length:=by rcases hr1 with h|h<;>omega
 have Wq:r1<n:=by omega
 have Ws:(r1:Int)<(n:Int):=by omega
 have HO2:=qh (HO1.out.grown hg2 omA)
 have HT2:=qh (HT1.out.jN hg2 omA)
 have hG2:=ax hG1 hg2
 have hz2:=hG2.size
 have HK2:=qh hk2
 have q0:=HO2.out.fF bQ HLL.out.symm hr1' (j:= 0) rfl
 simp only[Nat.mul_one,Nat.add_zero]at q0
 have hm3:=HSL.out.recs l[r1] (lgm hr1')
 obtain⟨m,hm⟩:∃m,l[r1].recs.length=m:=⟨_,rfl⟩
 rw[hm]at q0 hm3
 have HM:=qh hm
 clear hk2 hg2 hG1 HO1 HT1 HK1 hm hr1 h0
 by_cases hm0:m=0
 ·have Rc:((m:Int) == 0)=true:=by rw[hm0];rfl
  have HM0:=qh hm0
  clear hm0
  go_wp2_with fail
  (with_reducible refine(aD g b 2 _ HK2.out omA omA).mono ?_)
  rintro e w3 ⟨r2,rfl,hr2,hk3,hg3⟩
  have HO3:=qh (HO2.out.grown hg3 omA)
  have HT3:=qh (HT2.out.jN hg3 omA)
  have hG3:=ax hG2 hg3
  have hz3:=hG3.size
  have HK3:=qh hk3
  clear hk3 hr2 q0
  by_cases h2:r2=0
  ·subst h2
   have HRD:=qh (HT3.out.read HO3.out)
   have HD:Hid (dQ (l.drop 1)):=qh ⟨by rw[List.length_drop];have:=HSL.out.bH.len;omega,fun t ht=>HSL.out.bH.recs t (List.mem_of_mem_drop ht),fun t ht=>HSL.out.bH.row t (List.mem_of_mem_drop ht),fun t ht=>HSL.out.bH.seq t (List.mem_of_mem_drop ht)⟩
   by_cases h1:n=1
   ·subst h1
    have PH:Hid (l.drop 1=[]):=qh (List.drop_eq_nil_of_le (by have:=HLL.out;omega))
    go_wp2_with fail
    go_ret
    exact⟨_,_,[],rfl,⟨ah.nil,fun t ht=>by cases ht⟩,⟨Nat.zero_le _,fun t ht=>by(cases ht),fun t ht=>by(cases ht),fun t ht=>by(cases ht)⟩,HK3.out,hG3⟩
   ·have hcut:=HRD.out.1.cut (c:=n) 1 (by rw[HLL.out];omega)
    rw[if_neg h1]at hcut
    have Vx:=qh hcut
    have hn1:1≤n:=by omega
    have Wx:(1:Int)≤(n:Int):=by omega
    clear hcut
    go_wp2_with fail
    go_ret
    exact⟨some ⟨q,1,none⟩,n-1,l.drop 1,eP (by rw[List.length_drop,HLL.out]),⟨by simpa using Vx.out,fun t ht=>HRD.out.2 t (List.mem_of_mem_drop ht)⟩,HD.out,HK3.out,hG3⟩
  ·have h2':((r2:Int) == 0)=false:=by rw[beq_eq_false_iff_ne];omega
   clear h2
   have q0:=HO3.out.fF bQ HLL.out.symm hr1' (j:= 0) rfl
   simp only[Nat.mul_one,Nat.add_zero]at q0
   have hnil:l[r1].recs=[]:=List.eq_nil_of_length_eq_zero (by have:=HM.out;have:=HM0.out;omega)
   have PH:=qh hnil
   have hoT:=HT3.out.tab l[r1] (lgm hr1')
   rw[hnil]at hoT q0
   have HOT:=qh hoT
   obtain⟨TA,hTA⟩:∃x,l[r1].A=x:=⟨_,rfl⟩
   obtain⟨tc,htc⟩:∃x,l[r1].cap=x:=⟨_,rfl⟩
   rw[hTA,htc]at q0 hoT
   simp only[List.length_nil]at q0 hoT
   have HOT:=qh hoT
   have HTA:=qh hTA
   have HTC:=qh htc
   have hrow:=hoT.row
   have hqf:∀j,w3.frozen? ⟨q,j,none⟩=false:=fun j=>HO3.out.ng HLL.out.symm j
   clear hnil hoT hTA htc
   go_wp2_with (at_builtin;go_must (refine aJ _ rfl (.tmp 34) (.tmp 36) 127 rfl 126 ir _ Rcd.cells 3 56 Tryz.underlying127 hir pR oV pQ rfl omA bB fV w.heap.size (.slice TA 0 tc) [] rfl (HOT.out.alloc _) _ _ _ [JD] rfl rfl (Blk.one (enc:=Rcd.cells) (x:=JD) (Blk.new' rfl) spA) spA (by simp[maxLen]) smA ?_);intro v' w5 hown' hg' hat';obtain⟨A3,c3,rfl,_,_,_⟩:=hown'.slice bB;have HOWN':=qh hown';have hO5:=dO (HO3.out.alloc _) (HOT.out.alloc _) (by decide) hg';have HG':=qh hg';have q5:=hO5.fF bQ HLL.out.symm hr1' (j:= 0) rfl;have TT:∀j,w5.frozen? ⟨q,j,none⟩=false:=fun j=>hO5.ng HLL.out.symm j;simp only[Nat.mul_one,Nat.add_zero]at q5;clear hown' hO5 hg' hat' q0 hqf)
   go_ret
   have hgw:=HG'.out
   have hap:=Aq (w:=w3.alloc (.cells #[.slice none 0 0,.slice none 0 0,.int .i64 0] 126)) (HO3.out.alloc _) HLL.out.symm (HT3.out.sP av) hr1' (by rw[HTA.out,EO _ _ _ 0 tc];exact hgw) (A3:=A3) (c3:=c3) (new:= [JD]) HOWN'.out (fun x hx=>by rw[List.mem_singleton.1 hx];exact JC _ _)
   obtain⟨ht,hgr⟩:=uH (p:=⟨q,r1,none⟩) (v:= .slice A3 1 c3) hgl hbl (HK3.out.alloc _) (aU hG3 _) hgw hrow hq
   exact⟨some ⟨q,0,none⟩,n,l.set r1 ⟨A3,c3,[JD]⟩,eP (by rw[List.length_set,HLL.out]),hap,HSL.out.bH.set spA (fun r hr=>by rw[List.mem_singleton.1 hr];exact⟨Nat.zero_le _,Nat.zero_le _⟩),ht,hgr⟩
 ·have Rc:((m:Int) == 0)=false:=by rw[beq_eq_false_iff_ne];omega
  have hoT:=HT2.out.tab l[r1] (lgm hr1')
  obtain⟨g1,hA⟩:=fA hoT (by rw[HM.out];omega)
  have hb1:=su hoT _ hA
  rw[hA]at q0
  have HA:=qh hA
  have hdr:Below w2.heap.size w2 w2.drew:=brf.drew
  have hmp:0<m:=by omega
  clear hA hoT hm0
  go_upto_region 10 with (fail)
  refine wp_region_held_drew (S:=fun u=>u.cell? ⟨q,r1,none⟩=some (.slice (some ⟨g1,0,none⟩) m l[r1].cap)) krA q0 (fun hHeld =>?_)
  refine tkH 0 hHeld ?_
  refine tkH 1 hHeld ?_
  refine tkH 2 hHeld ?_
  refine tkH 3 hHeld ?_
  refine tkH 4 hHeld ?_
  refine tkH 5 hHeld ?_
  refine tkH 6 hHeld ?_
  refine tkH 7 hHeld ?_
  refine tkH 8 hHeld ?_
  refine tkH 9 hHeld ?_
  refine wpAnyH_ready (rs:= [10]) krA spA ?_
  refine AllReadyH.cons rfl (fun K hK =>?_) AllReadyH.nil
  go_simp
  (go_at_call 14;(with_reducible refine(aD g b (m:Int) _ (HK2.out.below hdr) omA omA).mono ?_))
  rintro e w3 ⟨r3,rfl,hr3,hk3,hg3⟩
  have eT:r3<l[r1].recs.length:=by rw[HM.out];rcases hr3 with h|h<;>omega
  have Wo:(r3:Int)<(m:Int):=by rw[HM.out]at eT;omega
  have HO3:=qh (aB.grown (HO2.out.drew) hg3 omA)
  have HT3:=qh ((HT2.out.sP hdr).jN hg3 omA)
  have hG3:=ax (lU hG2) hg3
  have hz3:=hG3.size
  have HK3:=qh hk3
  have s0:=HO3.out.fF bQ HLL.out.symm hr1' (j:= 0) rfl
  simp only[Nat.mul_one,Nat.add_zero]at s0
  rw[HA.out,HM.out]at s0
  go_wp2_with fail
  refine hK.out _ _ s0 (fun hHeld =>?_)
  clear hK K hk3 hg3 hr3
  (try simp only[Act.put,gP6])
  refine tkH 11 hHeld ?_
  refine tkH 12 hHeld ?_
  refine wpAnyH_done krA ?_ _
  clear hHeld q0 HO2 HT2 HK2 hG2
  have hoT:=HT3.out.tab l[r1] (lgm hr1')
  rw[HA.out]at hoT
  have hrO:=HT3.out.row l[r1] (lgm hr1') l[r1].recs[r3] (lgm eT)
  have hrl:=HSL.out.row l[r1] (lgm hr1') l[r1].recs[r3] (lgm eT)
  have hsl:=HSL.out.seq l[r1] (lgm hr1') l[r1].recs[r3] (lgm eT)
  obtain⟨c0,c1,c2⟩:=Rcd.cells3 (w:=w3) (b:=g1) (o:=r3*3) (x:=l[r1].recs[r3]) (fun j u hu=>hoT.gW bB eT hu)
  obtain⟨a,ha⟩:∃a,l[r1].recs[r3].row.length=a:=⟨_,rfl⟩
  obtain⟨d,hd⟩:∃d,l[r1].recs[r3].seq.length=d:=⟨_,rfl⟩
  rw[ha]at c0 hrl
  rw[hd]at c1 hsl
  have HAL:=qh ha
  have HDL:=qh hd
  have HRO:=qh hrO
  clear hoT hrO ha hd
  by_cases ha0:a=0
  ·have e1:((a:Int) == 0)=true:=by rw[ha0];rfl
   clear ha0
   go_wp2_with fail
   go_ret
   exact⟨some ⟨q,0,none⟩,n,l,eP HLL.out,HT3.out.read HO3.out,HSL.out.bH,HK3.out,hG3⟩
  have e1:((a:Int) == 0)=false:=by rw[beq_eq_false_iff_ne];omega
  by_cases hd0:d=0
  ·have e2:((d:Int) == 0)=true:=by rw[hd0];rfl
   clear hd0
   go_wp2_with fail
   go_ret
   exact⟨some ⟨q,0,none⟩,n,l,eP HLL.out,HT3.out.read HO3.out,HSL.out.bH,HK3.out,hG3⟩
  have e2:((d:Int) == 0)=false:=by rw[beq_eq_false_iff_ne];omega
  obtain⟨rb,hRA⟩:=fA HRO.out.1 (by rw[HAL.out];omega)
  obtain⟨sb,hSA⟩:=fA HRO.out.2 (by rw[HDL.out];omega)
  have hrb:=su HRO.out.1 _ hRA
  have hsb:=su HRO.out.2 _ hSA
  have HRA:=qh hRA
  have HSA:=qh hSA
  simp only at hrb hsb
  rw[hRA]at c0
  rw[hSA]at c1
  clear HRO hRA hSA
  go_wp2_with fail
  (with_reducible refine(aD g b 9 _ HK3.out omA omA).mono ?_)
  rintro e w4 ⟨r4,rfl,hr4,hk4,hg4⟩
  have x9:r4<9:=by rcases hr4 with h|h<;>omega
  have HO4:=qh (aB.grown HO3.out hg4 omA)
  have HT4:=qh (HT3.out.jN hg4 omA)
  have hG4:=ax hG3 hg4
  have hz4:=hG4.size
  have HK4:=qh hk4
  clear hk4 hg4 hr4 c0 c1 c2 s0 HO3 HT3 HK3 hG3
  have hoT:=HT4.out.tab l[r1] (lgm hr1')
  rw[HA.out]at hoT
  have hrO:=HT4.out.row l[r1] (lgm hr1') l[r1].recs[r3] (lgm eT)
  obtain⟨c0,c1,c2⟩:=Rcd.cells3 (w:=w4) (b:=g1) (o:=r3*3) (x:=l[r1].recs[r3]) (fun j u hu=>hoT.gW bB eT hu)
  rw[HAL.out,HRA.out]at c0
  rw[HDL.out,HSA.out]at c1
  have hfg:∀j,w4.frozen? ⟨g1,j,none⟩=false:=fun j=>hoT.frz j
  have HOT:=qh hoT
  have HRO:=qh hrO
  have HSM:Hid (∀(rw':List Val) (sq':List Int) (A1 A2:Option Addr) (n1 n2:Nat) (dy:Int),rw'.length≤1000000→sq'.length≤1000000→dQ (l.set r1 ⟨l[r1].A,l[r1].cap,l[r1].recs.set r3 ⟨A1,n1,rw',A2,n2,sq',dy⟩⟩)):=qh (fun _ _ _ _ _ _ _ h1 h2=>HSL.out.bH.set1 hr1' h1 h2)
  clear hoT hrO
  rcases(show r4=0∨r4=1∨r4=2∨r4=3∨r4=4∨r4=5∨r4=6∨r4=7∨r4=8 by omega) with rfl|rfl|rfl|rfl|rfl|rfl|rfl|rfl|rfl
  ·have hro:=HRO.out.1
   rw[HRA.out]at hro
   have hap:0<l[r1].recs[r3].row.length:=by rw[HAL.out];omega
   obtain⟨y0,y1,y2⟩:=Val.cells3 (w:=w4) (b:=rb) (o:= 0*3) (x:=l[r1].recs[r3].row[0]) (fun j u hu=>hro.gW dE hap hu)
   have hfr:∀j,w4.frozen? ⟨rb,j,none⟩=false:=fun j=>hro.frz j
   simp only[Nat.zero_mul,Nat.zero_add]at y0 y1 y2
   have UG:0<a:=by omega
   have Xe:(0:Int)<(a:Int):=by omega
   clear hro hfg
   go_wp2_with fail
   go_ret
   exact⟨some ⟨q,0,none⟩,n,_,eP (by rw[List.length_set,HLL.out]),F5 (v:=⟨0,0,⟨#[]⟩⟩) HO4.out HLL.out.symm HT4.out hr1' eT HRA.out (m:= 0) hap rfl,HSM.out _ _ _ _ _ _ _ (by simp;have:=HAL.out;omega) (by have:=HDL.out;omega),((HK4.out.far smA smA _).far smA smA _).far smA smA _,ai (ai (ai hG4 (.inr smA) _) (.inr smA) _) (.inr smA) _⟩
  ·have hro:=HRO.out.1
   rw[HRA.out]at hro
   have hrx:=hro.row rb rfl
   have hdr:Below w4.heap.size w4 w4.drew:=brf.drew
   have UG:0<a:=by omega
   clear hro
   go_upto_region 18 with (fail)
   refine wp_region_held_drew (S:=fun u=>u.cell? ⟨g1,r3*3,none⟩=some (.slice (some ⟨rb,0,none⟩) a l[r1].recs[r3].cap)) krA c0 (fun hHeld =>?_)
   refine tkH 0 hHeld ?_
   refine tkH 1 hHeld ?_
   refine tkH 2 hHeld ?_
   refine tkH 3 hHeld ?_
   refine tkH 4 hHeld ?_
   refine tkH 5 hHeld ?_
   refine tkH 6 hHeld ?_
   refine tkH 7 hHeld ?_
   refine tkH 8 hHeld ?_
   refine tkH 9 hHeld ?_
   refine tkH 11 hHeld ?_
   refine wpAnyH_ready (rs:= [10]) krA spA ?_
   refine AllReadyH.cons rfl (fun K hK =>?_) AllReadyH.nil
   go_simp
   (go_at_call 14;(with_reducible refine(aD g b (a:Int) _ (HK4.out.below hdr) omA omA).mono ?_))
   rintro e w5 ⟨r5,rfl,hr5,hk5,hg5⟩
   have Fx:r5<a:=by rcases hr5 with h|h<;>omega
   have QR:(r5:Int)<(a:Int):=by omega
   have gN:w4.grownBy w5 (some g):=ax (ay _ hdr) hg5
   have HO5:=qh (aB.grown HO4.out gN omA)
   have HT5:=qh (HT4.out.jN gN omA)
   have hG5:=ax hG4 gN
   have HK5:=qh hk5
   have Oa:=gN.size
   have lQ:=HT5.out.tab l[r1] (lgm hr1')
   rw[HA.out]at lQ
   have DR:∀j,w5.frozen? ⟨g1,j,none⟩=false:=fun j=>lQ.frz j
   have OG:g1<w5.heap.size:=lQ.qw.2
   obtain⟨d0,d1,d2⟩:=Rcd.cells3 (w:=w5) (b:=g1) (o:=r3*3) (x:=l[r1].recs[r3]) (fun j u hu=>lQ.gW bB eT hu)
   rw[HAL.out,HRA.out]at d0
   rw[HDL.out,HSA.out]at d1
   clear hk5 hr5 lQ hfg c0 c1 c2
   go_wp2_with fail
   refine hK.out _ _ d0 (fun hHeld =>?_)
   clear hK K
   (try simp only[Act.put,gP6])
   refine wpAnyH_ready (rs:= [12]) krA spA ?_
   refine AllReadyH.cons rfl (fun K hK =>?_) AllReadyH.nil
   go_simp
   (go_at_call 60;(with_reducible refine(Ev g b _ HK5.out).mono ?_))
   rintro e w6 ⟨⟨vk,vn,vt⟩,rfl,hk6,hg6⟩
   have HO6:=qh (aB.grown HO5.out hg6 omA)
   have HT6:=qh (HT5.out.jN hg6 omA)
   have hG6:=ax hG5 hg6
   have HK6:=qh hk6
   have VR:=hg6.size
   have nM:=HT6.out.tab l[r1] (lgm hr1')
   rw[HA.out]at nM
   obtain⟨x0,x1,x2⟩:=Rcd.cells3 (w:=w6) (b:=g1) (o:=r3*3) (x:=l[r1].recs[r3]) (fun j u hu=>nM.gW bB eT hu)
   rw[HAL.out,HRA.out]at x0
   go_wp2_with fail
   refine hK.out _ _ x0 (fun hHeld =>?_)
   clear hK K hk6 nM x1 x2 d0 d1 d2 DR
   (try simp only[Act.put,gP6])
   have hap:r5<l[r1].recs[r3].row.length:=by rw[HAL.out];exact Fx
   have hro:=(HT6.out.row l[r1] (lgm hr1') l[r1].recs[r3] (lgm eT)).1
   rw[HRA.out]at hro
   obtain⟨y0,y1,y2⟩:=Val.cells3 (w:=w6) (b:=rb) (o:=r5*3) (x:=l[r1].recs[r3].row[r5]) (fun j u hu=>hro.gW dE hap hu)
   have hfr:∀j,w6.frozen? ⟨rb,j,none⟩=false:=fun j=>hro.frz j
   have hne:¬ rb=g1:=fun e=>(HT6.out.tab l[r1] (lgm hr1')).dH hro (by decide) g1 (by rw[HA.out];rfl) (by rw[e];rfl)
   clear hro
   refine tkH 13 hHeld ?_
   refine wpAnyH_ready (rs:= [14]) krA spA ?_
   refine AllReadyH.cons rfl (fun K hK =>?_) AllReadyH.nil
   go_simp
   refine hK.out _ _ ?_ (fun hHeld =>?_)
   ·go_simp
   clear hK K
   (try simp only[Act.put,gP6])
   refine wpAnyH_done krA ?_ _
   clear hHeld x0 y0 y1 y2 hfr
   go_wp2_with fail
   go_ret
   exact⟨some ⟨q,0,none⟩,n,_,eP (by rw[List.length_set,HLL.out]),F5 (v:=⟨vk,vn,vt⟩) HO6.out HLL.out.symm HT6.out hr1' eT HRA.out (m:=r5) hap rfl,HSM.out _ _ _ _ _ _ _ (by simp;have:=HAL.out;omega) (by have:=HDL.out;omega),((HK6.out.far smA smA _).far smA smA _).far smA smA _,ai (ai (ai hG6 (.inr smA) _) (.inr smA) _) (.inr smA) _⟩
  ·have hdr:Below w4.heap.size w4 w4.drew:=brf.drew
   have hdp:0<d:=by omega
   have WO:g1<w4.heap.size:=HOT.out.qw.2
   go_upto_region 20 with (fail)
   refine wp_region_held_drew (S:=fun u=>u.cell? ⟨g1,r3*3+1,none⟩=some (.slice (some ⟨sb,0,none⟩) d l[r1].recs[r3].kg)) krA c1 (fun hHeld =>?_)
   refine tkH 0 hHeld ?_
   refine tkH 1 hHeld ?_
   refine tkH 2 hHeld ?_
   refine tkH 3 hHeld ?_
   refine tkH 4 hHeld ?_
   refine tkH 5 hHeld ?_
   refine tkH 6 hHeld ?_
   refine tkH 7 hHeld ?_
   refine tkH 8 hHeld ?_
   refine tkH 9 hHeld ?_
   refine tkH 12 hHeld ?_
   refine wpAnyH_ready (rs:= [10,11]) krA spA ?_
   refine AllReadyH.cons rfl (fun K hK =>?_) (AllReadyH.cons rfl (fun K hK =>?_) AllReadyH.nil)
   ·go_simp
    (go_at_call 14;(with_reducible refine(aD g b (d:Int) _ (HK4.out.below hdr) omA omA).mono ?_))
    rintro e w5 ⟨r5,rfl,hr5,hk5,hg5⟩
    have Fx:r5<d:=by rcases hr5 with h|h<;>omega
    have QR:(r5:Int)<(d:Int):=by omega
    have gN:w4.grownBy w5 (some g):=ax (ay _ hdr) hg5
    have HO5:=qh (aB.grown HO4.out gN omA)
    have HT5:=qh (HT4.out.jN gN omA)
    have hG5:=ax hG4 gN
    have HK5:=qh hk5
    have Oa:=gN.size
    have lQ:=HT5.out.tab l[r1] (lgm hr1')
    rw[HA.out]at lQ
    have DR:∀j,w5.frozen? ⟨g1,j,none⟩=false:=fun j=>lQ.frz j
    have OG:g1<w5.heap.size:=lQ.qw.2
    obtain⟨d0,d1,d2⟩:=Rcd.cells3 (w:=w5) (b:=g1) (o:=r3*3) (x:=l[r1].recs[r3]) (fun j u hu=>lQ.gW bB eT hu)
    rw[HAL.out,HRA.out]at d0
    rw[HDL.out,HSA.out]at d1
    clear hk5 hr5 lQ hfg c0 c1 c2
    go_wp2_with fail
    refine hK.out _ _ d1 (fun hHeld =>?_)
    clear hK K
    (try simp only[Act.put,gP6])
    refine wpAnyH_ready (rs:= [11,13]) krA spA ?_
    refine AllReadyH.cons rfl (fun K hK =>?_) (AllReadyH.cons rfl (fun K hK =>?_) AllReadyH.nil)
    ·go_simp
     refine hK.out _ _ ?_ (fun hHeld =>?_)
     ·go_simp
     clear hK K
     (try simp only[Act.put,gP6])
     refine wpAnyH_ready (rs:= [13]) krA spA ?_
     refine AllReadyH.cons rfl (fun K hK =>?_) AllReadyH.nil
     go_simp
     (go_at_call 14;(with_reducible refine(aD g b 4 _ ((HK5.out.alloc _)) omA omA).mono ?_))
     rintro e w6 ⟨r6,rfl,hr6,hk6,hg6⟩
     have QQ:r6<4:=by rcases hr6 with h|h<;>omega
     have QP:(r6:Int)<4:=by omega
     have HO6:=qh (aB.grown (HO5.out.alloc _) hg6 omA)
     have HT6:=qh ((HT5.out.sP av).jN hg6 omA)
     have hG6:=ax (aU hG5 _) hg6
     have HK6:=qh hk6
     have hS6:=Blk.grown (Blk.new w5 3 #[.int .i64 0,.int .i64 1,.int .i64 3,.int .i64 1073741825]) hg6 (fun e=>by injection e with e;omega)
     have hz6:=hG6.size
     have nM:=HT6.out.tab l[r1] (lgm hr1')
     rw[HA.out]at nM
     obtain⟨_,x1,_⟩:=Rcd.cells3 (w:=w6) (b:=g1) (o:=r3*3) (x:=l[r1].recs[r3]) (fun j u hu=>nM.gW bB eT hu)
     rw[HDL.out,HSA.out]at x1
     clear nM
     go_wp2_with fail
     refine hK.out _ _ x1 (fun hHeld =>?_)
     clear hK K hk6 hr6 d0 d1 d2 DR
     (try simp only[Act.put,gP6])
     (
     obtain⟨z,hz⟩:∃z:Int,(w6).cell? ⟨w5.heap.size,r6,none⟩=some (.int .i64 z):=by
      rw[hS6.cell]
      rcases(show r6=0∨r6=1∨r6=2∨r6=3 by omega) with rfl|rfl|rfl|rfl
      all_goals exact⟨_,rfl⟩
     refine wpAnyH_ready (rs:= [14]) krA spA ?_
     refine AllReadyH.cons rfl (fun K hK =>?_) AllReadyH.nil
     go_simp
     refine hK.out _ _ x1 (fun hHeld =>?_)
     clear hK K
     (try simp only[Act.put,gP6])
     refine wpAnyH_ready (rs:= [15]) krA spA ?_
     refine AllReadyH.cons rfl (fun K hK =>?_) AllReadyH.nil
     go_simp
     refine hK.out _ _ x1 (fun hHeld =>?_)
     clear hK K
     (try simp only[Act.put,gP6])
     refine tkH 16 hHeld ?_
     have hsp:r5<l[r1].recs[r3].seq.length:=by rw[HDL.out];exact Fx
     have hro:=(HT6.out.row l[r1] (lgm hr1') l[r1].recs[r3] (lgm eT)).2
     rw[HSA.out]at hro
     have y0:=hro.gW bn hsp (j:= 0) rfl
     simp only[Nat.mul_one,Nat.add_zero]at y0
     have hfr:∀j,(w6).frozen? ⟨sb,j,none⟩=false:=fun j=>hro.frz j
     have hne:¬ sb=g1:=fun e=>(HT6.out.tab l[r1] (lgm hr1')).dH hro (by decide) g1 (by rw[HA.out];rfl) (by rw[e];rfl)
     clear hro
     refine wpAnyH_ready (rs:= [17]) krA spA ?_
     refine AllReadyH.cons rfl (fun K hK =>?_) AllReadyH.nil
     go_simp
     refine hK.out _ _ ?_ (fun hHeld =>?_)
     ·go_simp
     clear hK K
     (try simp only[Act.put,gP6])
     refine wpAnyH_done krA ?_ _
     clear hHeld x1 y0 hfr hz hS6
     go_wp2_with fail
     go_ret
     exact⟨some ⟨q,0,none⟩,n,_,eP (by rw[List.length_set,HLL.out]),AP (z:=z) HO6.out HLL.out.symm HT6.out hr1' eT HSA.out (m:=r5) hsp rfl,HSM.out _ _ _ _ _ _ _ (by have:=HAL.out;omega) (by simp;have:=HDL.out;omega),HK6.out.far smA smA _,ai hG6 (.inr smA) _⟩)
    ·go_simp
     (go_at_call 14;(with_reducible refine(aD g b 4 _ (HK5.out) omA omA).mono ?_))
     rintro e w6 ⟨r6,rfl,hr6,hk6,hg6⟩
     have QQ:r6<4:=by rcases hr6 with h|h<;>omega
     have QP:(r6:Int)<4:=by omega
     have SY:=qh (aB.grown HO5.out hg6 omA)
     have Pv:=qh (HT5.out.jN hg6 omA)
     have O7:=ax hG5 hg6
     have Ta:=qh hk6
     have VQ:=O7.size
     have nM:=Pv.out.tab l[r1] (lgm hr1')
     rw[HA.out]at nM
     obtain⟨_,x1',_⟩:=Rcd.cells3 (w:=w6) (b:=g1) (o:=r3*3) (x:=l[r1].recs[r3]) (fun j u hu=>nM.gW bB eT hu)
     rw[HDL.out,HSA.out]at x1'
     have WN:g1<w6.heap.size:=nM.qw.2
     go_wp2_with fail
     refine hK.out _ _ x1' (fun hHeld =>?_)
     clear hK K hk6 hr6 d0 d1 d2 DR nM
     (try simp only[Act.put,gP6])
     refine wpAnyH_ready (rs:= [11]) krA spA ?_
     refine AllReadyH.cons rfl (fun K hK =>?_) AllReadyH.nil
     go_simp
     refine hK.out _ _ ?_ (fun hHeld =>?_)
     ·go_simp
     clear hK K
     (try simp only[Act.put,gP6])
     have hS6:=Blk.new w6 3 #[.int .i64 0,.int .i64 1,.int .i64 3,.int .i64 1073741825]
     obtain⟨U,hU⟩:∃U,U=w6.alloc (.cells #[.int .i64 0,.int .i64 1,.int .i64 3,.int .i64 1073741825] 3):=⟨_,rfl⟩
     rw[←hU]at hS6 hHeld ⊢
     have HO6:Hid (aB U w.heap.size 127 RTab.cells 1 (.slice (some ⟨q,0,none⟩) n n) l):=qh (by rw[hU];exact SY.out.alloc _)
     have HT6:Hid (eZ U w.heap.size l):=qh (by rw[hU];exact Pv.out.sP av)
     have hG6:w.grownBy U (some g):=by rw[hU];exact aU O7 _
     have HK6:Hid (aO U g b):=qh (by rw[hU];exact Ta.out.alloc _)
     clear hU SY Pv O7 Ta x1'
     have hz6:=hG6.size
     have nM:=HT6.out.tab l[r1] (lgm hr1')
     rw[HA.out]at nM
     obtain⟨_,x1,_⟩:=Rcd.cells3 (w:=U) (b:=g1) (o:=r3*3) (x:=l[r1].recs[r3]) (fun j u hu=>nM.gW bB eT hu)
     rw[HDL.out,HSA.out]at x1
     clear nM
     (
     obtain⟨z,hz⟩:∃z:Int,(U).cell? ⟨w6.heap.size,r6,none⟩=some (.int .i64 z):=by
      rw[hS6.cell]
      rcases(show r6=0∨r6=1∨r6=2∨r6=3 by omega) with rfl|rfl|rfl|rfl
      all_goals exact⟨_,rfl⟩
     refine wpAnyH_ready (rs:= [14]) krA spA ?_
     refine AllReadyH.cons rfl (fun K hK =>?_) AllReadyH.nil
     go_simp
     refine hK.out _ _ x1 (fun hHeld =>?_)
     clear hK K
     (try simp only[Act.put,gP6])
     refine wpAnyH_ready (rs:= [15]) krA spA ?_
     refine AllReadyH.cons rfl (fun K hK =>?_) AllReadyH.nil
     go_simp
     refine hK.out _ _ x1 (fun hHeld =>?_)
     clear hK K
     (try simp only[Act.put,gP6])
     refine tkH 16 hHeld ?_
     have hsp:r5<l[r1].recs[r3].seq.length:=by rw[HDL.out];exact Fx
     have hro:=(HT6.out.row l[r1] (lgm hr1') l[r1].recs[r3] (lgm eT)).2
     rw[HSA.out]at hro
     have y0:=hro.gW bn hsp (j:= 0) rfl
     simp only[Nat.mul_one,Nat.add_zero]at y0
     have hfr:∀j,(U).frozen? ⟨sb,j,none⟩=false:=fun j=>hro.frz j
     have hne:¬ sb=g1:=fun e=>(HT6.out.tab l[r1] (lgm hr1')).dH hro (by decide) g1 (by rw[HA.out];rfl) (by rw[e];rfl)
     clear hro
     refine wpAnyH_ready (rs:= [17]) krA spA ?_
     refine AllReadyH.cons rfl (fun K hK =>?_) AllReadyH.nil
     go_simp
     refine hK.out _ _ ?_ (fun hHeld =>?_)
     ·go_simp
     clear hK K
     (try simp only[Act.put,gP6])
     refine wpAnyH_done krA ?_ _
     clear hHeld x1 y0 hfr hz hS6
     go_wp2_with fail
     go_ret
     exact⟨some ⟨q,0,none⟩,n,_,eP (by rw[List.length_set,HLL.out]),AP (z:=z) HO6.out HLL.out.symm HT6.out hr1' eT HSA.out (m:=r5) hsp rfl,HSM.out _ _ _ _ _ _ _ (by have:=HAL.out;omega) (by simp;have:=HDL.out;omega),HK6.out.far smA smA _,ai hG6 (.inr smA) _⟩)
   ·go_simp
    refine hK.out _ _ ?_ (fun hHeld =>?_)
    ·go_simp
    clear hK K
    (try simp only[Act.put,gP6])
    refine wpAnyH_ready (rs:= [10]) krA spA ?_
    refine AllReadyH.cons rfl (fun K hK =>?_) AllReadyH.nil
    go_simp
    (go_at_call 14;(with_reducible refine(aD g b (d:Int) _ ((HK4.out.alloc _).below brf.drew) omA omA).mono ?_))
    rintro e w5 ⟨r5,rfl,hr5,hk5,hg5⟩
    have Fx:r5<d:=by rcases hr5 with h|h<;>omega
    have QR:(r5:Int)<(d:Int):=by omega
    have gN:w4.grownBy w5 (some g):=ax (ay _ av) hg5
    have hS5:Blk w5 w4.heap.size 3 #[.int .i64 0,.int .i64 1,.int .i64 3,.int .i64 1073741825]:=Blk.grown (Blk.drew (Blk.new' rfl)) hg5 (fun e=>by injection e with e;omega)
    have HO5:=qh (aB.grown HO4.out gN omA)
    have HT5:=qh (HT4.out.jN gN omA)
    have hG5:=ax hG4 gN
    have HK5:=qh hk5
    have Oa:=gN.size
    have lQ:=HT5.out.tab l[r1] (lgm hr1')
    rw[HA.out]at lQ
    have DR:∀j,w5.frozen? ⟨g1,j,none⟩=false:=fun j=>lQ.frz j
    have OG:g1<w5.heap.size:=lQ.qw.2
    obtain⟨d0,d1,d2⟩:=Rcd.cells3 (w:=w5) (b:=g1) (o:=r3*3) (x:=l[r1].recs[r3]) (fun j u hu=>lQ.gW bB eT hu)
    rw[HAL.out,HRA.out]at d0
    rw[HDL.out,HSA.out]at d1
    clear hk5 hr5 lQ hfg c0 c1 c2
    go_wp2_with fail
    refine hK.out _ _ d1 (fun hHeld =>?_)
    clear hK K
    (try simp only[Act.put,gP6])
    refine wpAnyH_ready (rs:= [13]) krA spA ?_
    refine AllReadyH.cons rfl (fun K hK =>?_) AllReadyH.nil
    go_simp
    (go_at_call 14;(with_reducible refine(aD g b 4 _ (HK5.out) omA omA).mono ?_))
    rintro e w6 ⟨r6,rfl,hr6,hk6,hg6⟩
    have QQ:r6<4:=by rcases hr6 with h|h<;>omega
    have QP:(r6:Int)<4:=by omega
    have HO6:=qh (aB.grown HO5.out hg6 omA)
    have HT6:=qh (HT5.out.jN hg6 omA)
    have hG6:=ax hG5 hg6
    have HK6:=qh hk6
    have hS6:=hS5.grown hg6 (fun e=>by injection e with e;omega)
    have hz6:=hG6.size
    have nM:=HT6.out.tab l[r1] (lgm hr1')
    rw[HA.out]at nM
    obtain⟨_,x1,_⟩:=Rcd.cells3 (w:=w6) (b:=g1) (o:=r3*3) (x:=l[r1].recs[r3]) (fun j u hu=>nM.gW bB eT hu)
    rw[HDL.out,HSA.out]at x1
    clear nM
    go_wp2_with fail
    refine hK.out _ _ x1 (fun hHeld =>?_)
    clear hK K hk6 hr6 d0 d1 d2 DR hS5
    (try simp only[Act.put,gP6])
    (
    obtain⟨z,hz⟩:∃z:Int,(w6).cell? ⟨w4.heap.size,r6,none⟩=some (.int .i64 z):=by
     rw[hS6.cell]
     rcases(show r6=0∨r6=1∨r6=2∨r6=3 by omega) with rfl|rfl|rfl|rfl
     all_goals exact⟨_,rfl⟩
    refine wpAnyH_ready (rs:= [14]) krA spA ?_
    refine AllReadyH.cons rfl (fun K hK =>?_) AllReadyH.nil
    go_simp
    refine hK.out _ _ x1 (fun hHeld =>?_)
    clear hK K
    (try simp only[Act.put,gP6])
    refine wpAnyH_ready (rs:= [15]) krA spA ?_
    refine AllReadyH.cons rfl (fun K hK =>?_) AllReadyH.nil
    go_simp
    refine hK.out _ _ x1 (fun hHeld =>?_)
    clear hK K
    (try simp only[Act.put,gP6])
    refine tkH 16 hHeld ?_
    have hsp:r5<l[r1].recs[r3].seq.length:=by rw[HDL.out];exact Fx
    have hro:=(HT6.out.row l[r1] (lgm hr1') l[r1].recs[r3] (lgm eT)).2
    rw[HSA.out]at hro
    have y0:=hro.gW bn hsp (j:= 0) rfl
    simp only[Nat.mul_one,Nat.add_zero]at y0
    have hfr:∀j,(w6).frozen? ⟨sb,j,none⟩=false:=fun j=>hro.frz j
    have hne:¬ sb=g1:=fun e=>(HT6.out.tab l[r1] (lgm hr1')).dH hro (by decide) g1 (by rw[HA.out];rfl) (by rw[e];rfl)
    clear hro
    refine wpAnyH_ready (rs:= [17]) krA spA ?_
    refine AllReadyH.cons rfl (fun K hK =>?_) AllReadyH.nil
    go_simp
    refine hK.out _ _ ?_ (fun hHeld =>?_)
    ·go_simp
    clear hK K
    (try simp only[Act.put,gP6])
    refine wpAnyH_done krA ?_ _
    clear hHeld x1 y0 hfr hz hS6
    go_wp2_with fail
    go_ret
    exact⟨some ⟨q,0,none⟩,n,_,eP (by rw[List.length_set,HLL.out]),AP (z:=z) HO6.out HLL.out.symm HT6.out hr1' eT HSA.out (m:=r5) hsp rfl,HSM.out _ _ _ _ _ _ _ (by have:=HAL.out;omega) (by simp;have:=HDL.out;omega),HK6.out.far smA smA _,ai hG6 (.inr smA) _⟩)
  ·go_wp2_with fail
   (with_reducible refine(aD g b 2 _ (HK4.out.alloc _) omA omA).mono ?_)
   rintro e w5 ⟨r5,rfl,hr5,hk5,hg5⟩
   have Fx:r5<2:=by rcases hr5 with h|h<;>omega
   have hS5:=Blk.grown (Blk.new w4 3 #[.int .i64 (-1),.int .i64 1048577]) hg5 (fun e=>by injection e with e;omega)
   obtain⟨z,hz⟩:∃z:Int,w5.cell? ⟨w4.heap.size,r5,none⟩=some (.int .i64 z):=by
    rw[hS5.cell]
    rcases(show r5=0∨r5=1 by omega) with rfl|rfl
    all_goals exact⟨_,rfl⟩
   have gN:w4.grownBy w5 (some g):=ax (ay _ av) hg5
   have HO5:=qh (aB.grown HO4.out gN omA)
   have HT5:=qh (HT4.out.jN gN omA)
   have hG5:=ax hG4 gN
   have HK5:=qh hk5
   have Oa:=gN.size
   have lQ:=HT5.out.tab l[r1] (lgm hr1')
   rw[HA.out]at lQ
   have DR:∀j,w5.frozen? ⟨g1,j,none⟩=false:=fun j=>lQ.frz j
   have OG:g1<w5.heap.size:=lQ.qw.2
   obtain⟨d0,d1,d2⟩:=Rcd.cells3 (w:=w5) (b:=g1) (o:=r3*3) (x:=l[r1].recs[r3]) (fun j u hu=>lQ.gW bB eT hu)
   rw[HAL.out,HRA.out]at d0
   rw[HDL.out,HSA.out]at d1
   clear hk5 hr5 lQ hfg c0 c1 c2
   clear hS5
   go_wp2_with fail
   go_ret
   exact⟨some ⟨q,0,none⟩,n,_,eP (by rw[List.length_set,HLL.out]),oh (r':=⟨l[r1].recs[r3].A,l[r1].recs[r3].cap,l[r1].recs[r3].row,l[r1].recs[r3].SA,l[r1].recs[r3].kg,l[r1].recs[r3].seq,z⟩) HO5.out HLL.out.symm HT5.out hr1' eT HA.out (f:= 2) omA rfl rfl (lH HT5.out hr1' HA.out (HT5.out.row _ (lgm hr1') _ (lgm eT))).read,HSM.out _ _ _ _ _ _ _ (by have:=HAL.out;omega) (by have:=HDL.out;omega),HK5.out.far smA smA _,ai hG5 (.inr smA) _⟩
  ·have hro:=HRO.out.1
   rw[HRA.out]at hro
   have hcap:=iK hro
   rw[HAL.out]at hcap
   obtain⟨cp,hcp⟩:∃x,l[r1].recs[r3].cap=x:=⟨_,rfl⟩
   rw[hcp]at hcap c0
   have HCP:=qh hcp
   have ha1:1≤a:=by omega
   have Xf:(1:Int)≤(a:Int):=by omega
   clear hro hcp
   by_cases hc1:cp=1
   ·subst hc1
    have ha1:a=1:=by omega
    subst ha1
    go_wp2_with fail
    go_ret
    exact⟨some ⟨q,0,none⟩,n,_,eP (by rw[List.length_set,HLL.out]),oh (r':=⟨some ⟨rb,0,none⟩,0,[],l[r1].recs[r3].SA,l[r1].recs[r3].kg,l[r1].recs[r3].seq,l[r1].recs[r3].day⟩) HO4.out HLL.out.symm HT4.out hr1' eT HA.out (f:= 0) omA rfl rfl ⟨ah.nil,(lH HT4.out hr1' HA.out (HT4.out.row _ (lgm hr1') _ (lgm eT))).read.2⟩,HSM.out _ _ _ _ _ _ _ (Nat.zero_le _) (by have:=HDL.out;omega),HK4.out.far smA smA _,ai hG4 (.inr smA) _⟩
   ·go_wp2_with fail
    go_ret
    have hcut:=fun(u:Value)=>(lH (o:=r3*3) (u:=u) HT4.out hr1' HA.out (HT4.out.row _ (lgm hr1') _ (lgm eT))).read.1
    rw[HRA.out]at hcut
    have hcut:=fun(u:Value)=>(hcut u).cut (c:=cp) 1 (by rw[HAL.out];omega)
    simp only[if_neg hc1]at hcut
    exact⟨some ⟨q,0,none⟩,n,_,eP (by rw[List.length_set,HLL.out]),oh (r':=⟨some ⟨rb,3,none⟩,cp-1,l[r1].recs[r3].row.drop 1,l[r1].recs[r3].SA,l[r1].recs[r3].kg,l[r1].recs[r3].seq,l[r1].recs[r3].day⟩) HO4.out HLL.out.symm HT4.out hr1' eT HA.out (f:= 0) omA rfl (by simp[Rcd.cells,HAL.out]) ⟨by simpa using hcut _,(lH HT4.out hr1' HA.out (HT4.out.row _ (lgm hr1') _ (lgm eT))).read.2⟩,HSM.out _ _ _ _ _ _ _ (by have:=HAL.out;rw[List.length_drop];omega) (by have:=HDL.out;omega),HK4.out.far smA smA _,ai hG4 (.inr smA) _⟩
  ·have hro:=HRO.out.2
   rw[HSA.out,HDL.out]at hro
   have hrow:=hro.row
   have HRW:=qh hro
   clear hro
   go_wp2_with (at_builtin;go_must (refine aJ _ rfl (.tmp 141) (.tmp 142) 22 rfl 3 ii _ intCells 1 8 Tryz.underlying22 hii zy zx zw rfl omA bn dL w.heap.size (.slice (some ⟨sb,0,none⟩) d l[r1].recs[r3].kg) l[r1].recs[r3].seq rfl (HRW.out.alloc _) _ _ _ [1] rfl rfl (Blk.one (enc:=intCells) (x:= 1) (Blk.new' rfl) spA) (by rw[HDL.out];simp;omega) (by rw[HDL.out];simp[maxLen];omega) smA ?_);intro v' w5 hown' hg' hat';obtain⟨A3,c3,rfl,_,_,_⟩:=hown'.slice bn;have HOWN':=qh hown';have hO5:=dO (HOT.out.alloc _) (HRW.out.alloc _) (by decide) hg';have HG':=qh hg';have d1:=hO5.gW bB eT (j:= 1) rfl;have DR:∀j,w5.frozen? ⟨g1,j,none⟩=false:=fun j=>hO5.frz j;clear hown' hO5 hg' hat' hfg c0 c1 c2)
   go_ret
   have hgw:=HG'.out
   have hsa:=LX (w:=w4.alloc (.cells #[.int .i64 1] 3)) (j:=r3) (o:=r3*3+1) (HO4.out.alloc _) HLL.out.symm (HT4.out.sP av) hr1' eT HA.out rfl (by rw[HSA.out,EO _ _ _ d l[r1].recs[r3].kg];exact hgw) HOWN'.out
   rw[List.length_append,List.length_singleton]at hsa
   obtain⟨ht,hgr⟩:=uH (p:=⟨g1,r3*3+1,none⟩) (v:= .slice A3 (l[r1].recs[r3].seq.length+1) c3) hgl hbl (HK4.out.alloc _) (aU hG4 _) hgw hrow hb1
   refine⟨some ⟨q,0,none⟩,n,_,eP (by rw[List.length_set,HLL.out]),?_,HSM.out l[r1].recs[r3].row (l[r1].recs[r3].seq ++ [1]) l[r1].recs[r3].A A3 l[r1].recs[r3].cap c3 l[r1].recs[r3].day (by have:=HAL.out;omega) (by rw[List.length_append,HDL.out];simp;omega),?_,?_⟩
   ·exact hsa
   ·exact ht
   ·exact hgr
  ·have hrx:=HOT.out
   have h0m:0<l[r1].recs.length:=by rw[HM.out];exact hmp
   obtain⟨y0,y1,y2⟩:=Rcd.cells3 (w:=w4) (b:=g1) (o:= 0*3) (x:=l[r1].recs[0]) (fun j u hu=>HOT.out.gW bB h0m hu)
   simp only[Nat.zero_mul,Nat.zero_add]at y0 y1 y2
   have s0:=HO4.out.fF bQ HLL.out.symm hr1' (j:= 0) rfl
   simp only[Nat.mul_one,Nat.add_zero]at s0
   rw[HA.out,HM.out]at s0
   obtain⟨x0,hx0⟩:∃x,l[r1].recs[0]=x:=⟨_,rfl⟩
   rw[hx0]at y0 y1 y2
   have HX0:=qh hx0
   have hq4:q<w4.heap.size:=HO4.out.lt q rfl
   have hrow:=HOT.out.row
   have Eh:Hid (aB w4 w.heap.size 126 Rcd.cells 3 (.slice (some ⟨g1,0,none⟩) m l[r1].cap) l[r1].recs):=qh (by have h:=HOT.out;rwa [HM.out]at h)
   have Wy:(0:Int)<(m:Int):=by omega
   clear hrx hx0 hfg c0 c1 c2
   go_upto_region 28 with (fail)
   refine aT (S:=fun u=>u.cell? ⟨q,r1,none⟩=some (.slice (some ⟨g1,0,none⟩) m l[r1].cap)) [15] krA s0 (fun hHeld =>?_)
   refine tkT 0 hHeld ?_
   refine tkT 1 hHeld ?_
   refine tkT 2 hHeld ?_
   refine tkT 3 hHeld ?_
   refine tkT 4 hHeld ?_
   refine tkT 5 hHeld ?_
   refine tkT 6 hHeld ?_
   refine tkT 7 hHeld ?_
   refine tkT 8 hHeld ?_
   refine tkT 9 hHeld ?_
   refine r1T 10 (fun K hK =>?_)
   go_simp
   refine hK.out _ _ _ s0 (fun hHeld =>?_)
   clear hK K
   (try simp only[Act.put,gP6])
   refine r1T 11 (fun K hK =>?_)
   go_simp
   refine hK.out _ _ _ s0 (fun hHeld =>?_)
   clear hK K
   (try simp only[Act.put,gP6])
   refine r1T 12 (fun K hK =>?_)
   go_simp
   refine hK.out _ _ _ ?_ (fun hHeld =>?_)
   ·go_simp
   clear hK K
   (try simp only[Act.put,gP6])
   refine r1T 13 (fun K hK =>?_)
   refine ak _ rfl (.tmp 153) (.tmp 160) 127 rfl 126 ir _ Rcd.cells 3 56 Tryz.underlying127 hir pR oV pQ rfl omA bB fV w.heap.size (.slice (some ⟨g1,0,none⟩) m l[r1].cap) l[r1].recs rfl ((Eh.out.alloc _).drew) _ _ _ [x0] rfl rfl (Blk.one (enc:=Rcd.cells) (x:=x0) (Blk.drew (Blk.new' rfl)) spA) (by rw[HM.out];simp;omega) (by rw[HM.out];simp[maxLen];omega) smA ?_
   intro v' w5 hown' hg' hat'
   obtain⟨A3,c3,rfl,_,_,_⟩:=hown'.slice bB
   have HOWN':=qh hown'
   have hO5:=dO ((HO4.out.alloc _).drew) ((Eh.out.alloc _).drew) (by decide) hg'
   have HG':=qh hg'
   have q5:=hO5.fF bQ HLL.out.symm hr1' (j:= 0) rfl
   have TT:∀j,w5.frozen? ⟨q,j,none⟩=false:=fun j=>hO5.ng HLL.out.symm j
   simp only[Nat.mul_one,Nat.add_zero]at q5
   rw[HA.out,HM.out]at q5
   refine hK.out _ _ _ q5 (fun hHeld =>?_)
   clear hK K hown' hO5 hg' hat' s0 y0 y1 y2
   (try simp only[Act.put,gP6])
   refine tkT 14 hHeld ?_
   refine rzT 15 (fun K hK =>?_)
   clear hHeld
   go_simp
   refine hK.out _ _ _ ?_
   clear hK K
   refine bf krA ?_ _
   go_wp2_with fail
   go_ret
   have hgw:=HG'.out
   have hap:=Aq (w:=(w4.alloc (.cells #[.slice x0.A x0.row.length x0.cap,.slice x0.SA x0.seq.length x0.kg,.int .i64 x0.day] 126)).drew) ((HO4.out.alloc _).drew) HLL.out.symm (HT4.out.sP av) hr1' (by rw[HA.out,EO _ _ _ m l[r1].cap];exact hgw) (A3:=A3) (c3:=c3) (new:=l[r1].recs ++ [x0]) HOWN'.out (fun x hx=>by
    have hx':x∈l[r1].recs:=by
     rcases List.mem_append.1 hx with h|h
     ·exact h
     ·rw[List.mem_singleton.1 h,←HX0.out];exact lgm h0m
    have hx2:=HT4.out.row l[r1] (lgm hr1') x hx'
    exact⟨(hx2.1.alloc _).drew,(hx2.2.alloc _).drew⟩)
   obtain⟨ht,hgr⟩:=uH (p:=⟨q,r1,none⟩) (v:= .slice A3 (l[r1].recs ++ [x0]).length c3) hgl hbl ((HK4.out.alloc _).below brf.drew) (lU (aU hG4 _)) hgw hrow hq
   refine⟨some ⟨q,0,none⟩,n,l.set r1 ⟨A3,c3,l[r1].recs ++ [x0]⟩,eP (by rw[List.length_set,HLL.out]),?_,HSL.out.bH.set (by rw[List.length_append,HM.out];simp;omega) (fun r hr =>?_),?_,?_⟩
   ·simpa using hap
   ·have hx':r∈l[r1].recs:=by
     rcases List.mem_append.1 hr with h|h
     ·exact h
     ·rw[List.mem_singleton.1 h,←HX0.out];exact lgm h0m
    exact⟨HSL.out.bH.row l[r1] (lgm hr1') r hx',HSL.out.bH.seq l[r1] (lgm hr1') r hx'⟩
   ·simpa using ht
   ·simpa using hgr
  ·go_wp2_with (at_builtin;go_must (refine aJ _ rfl (.tmp 165) (.tmp 166) 52 rfl 127 it _ RTab.cells 1 24 Tryz.underlying52 hit zu zt zq rfl omA bQ Jz w.heap.size (.slice (some ⟨q,0,none⟩) n n) l rfl (HO4.out.alloc _) _ _ _ [dA] rfl rfl (Blk.one (enc:=RTab.cells) (x:=dA) (Blk.new' rfl) spA) (by rw[HLL.out];simp;omega) (by rw[HLL.out];simp[maxLen];omega) smA ?_);intro v' w5 hown' hg' hat';obtain⟨A3,c3,rfl,_,_,_⟩:=hown'.slice bQ;have HOWN':=qh hown';have HG':=qh hg';clear hown' hg' hat' hfg c0 c1 c2)
   go_ret
   have hrow:∀q',(Value.slice (some ⟨q,0,none⟩) n n).ownBlock=some q'→w.heap.size≤q':=HO4.out.row
   exact⟨A3,c3,l ++ [dA],eP (by rw[List.length_append,HLL.out];rfl),Md (w:=w4.alloc _) (HO4.out.alloc _) (HT4.out.sP av) HG'.out HOWN'.out,HSL.out.more,(HK4.out.alloc _).oC HG'.out (fun e=>by have:=hrow g e.symm;omega) (fun e=>by have:=hrow b e.symm;omega),dJ (aU hG4 _) HG'.out hrow⟩
  ·have hro:=HRO.out.1
   go_wp2_with fail
   go_ret
   exact⟨some ⟨q,0,none⟩,n,_,eP (by rw[List.length_set,HLL.out]),oh (r':=⟨none,0,[],l[r1].recs[r3].SA,l[r1].recs[r3].kg,l[r1].recs[r3].seq,l[r1].recs[r3].day⟩) HO4.out HLL.out.symm HT4.out hr1' eT HA.out (f:= 0) omA rfl rfl ⟨ah.nil,(lH HT4.out hr1' HA.out (HT4.out.row _ (lgm hr1') _ (lgm eT))).read.2⟩,HSM.out _ _ _ _ _ _ _ (Nat.zero_le _) (by have:=HDL.out;omega),HK4.out.far smA smA _,ai hG4 (.inr smA) _⟩
end Go.Proofs.YtebippoohpnjkaaGreat
