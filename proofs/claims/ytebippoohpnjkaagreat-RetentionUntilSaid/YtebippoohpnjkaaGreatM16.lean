/-
  Contracts and plain laws of this seat, part 16: OwnI, OwnG, TabD, TabG.
-/
import Derived.Test.YtebippoohpnjkaaGreatM15
import Derived.Test.YtebippoohpnjkaaGreatM6
import Derived.Deep.CutBlock
import Derived.Test.YtebippoohpnjkaaGreatM14
set_option linter.unusedVariables false
set_option linter.unusedSimpArgs false
set_option maxRecDepth 100000
set_option maxHeartbeats 16000000
namespace Go.Proofs.YtebippoohpnjkaaGreat
open Go.RowKit
structure iJ (g q:Nat) (w w':World):Prop where
 os:w'.os=w.os
 tape:w'.tape=w.tape
 output:w'.output=w.output
 size:w.heap.size≤w'.heap.size
 block : ∀ k,k<w.heap.size→k≠g→k≠q→w'.heap[k]? = w.heap[k]?
section
variable {g q:Nat} {w u v:World}
theorem iJ.refl (g q:Nat) (w:World):iJ g q w w:=⟨rfl,rfl,rfl,Nat.le_refl _,fun _ _ _ _=>rfl⟩
theorem iJ.grown (h:iJ g q w u) {row:Option Nat} (k:u.grownBy v row) (hr : ∀ i,row=some i→i=g∨i=q∨w.heap.size≤i):iJ g q w v :=
 ⟨k.os.trans h.os,k.tape.trans h.tape,k.output.trans h.output,Nat.le_trans h.size k.size,fun i hi h1 h2=>(k.block i (Nat.lt_of_lt_of_le hi h.size) (fun e=>by rcases hr i e.symm with h|h|h <;> omega)).trans (h.block i hi h1 h2)⟩
theorem iJ.below (h:iJ g q w u) (k:Below u.heap.size u v):iJ g q w v:=h.grown (bu k none) (fun i e=>by cases e)
theorem iJ.set (h:iJ g q w u) {p:Addr} (hp:p.block=g∨p.block=q∨w.heap.size≤p.block) (x:Value):iJ g q w (u.setCell p x) :=
 ⟨h.os,h.tape,h.output,by simpa using h.size,fun i hi h1 h2=>(Below.heap_setCell u p x i (by intro e;rcases hp with h'|h'|h' <;> omega)).trans (h.block i hi h1 h2)⟩
theorem iJ.up {w0:World} (h:w0.grownBy w (some g)) (k:iJ g q w u) (hq:w0.heap.size≤q):w0.grownBy u (some g) :=
 ⟨k.os.trans h.os,k.tape.trans h.tape,k.output.trans h.output,Nat.le_trans h.size k.size,fun i hi hne=>(k.block i (Nat.lt_of_lt_of_le hi h.size) (fun e=>hne (by rw [e])) omA).trans (h.block i hi hne)⟩
theorem ah.Cr {α : Type} {enc : α → List Value} {k:Nat} {A:Option Addr} {l:List α} (h:ah w w.heap.size enc k A l) (hk:iJ g q w u) (hA : ∀ a,A=some a→a.block≠g∧a.block≠q):ah u u.heap.size enc k A l:=by
 intro hl
 obtain ⟨b,o,rfl,hB,hc⟩:=h hl
 obtain ⟨h1,h2⟩:=hA _ rfl
 exact ⟨b,o,rfl,Nat.lt_of_lt_of_le hB hk.size,fun i hi j v hv=>(World.cell?_of_block (hk.block b hB h1 h2)).trans (hc i hi j v hv)⟩
end
def nJ (q:Nat) (A:Option Addr) (ts:List Tab):Prop:=(∀ a,A=some a→a.block≠q) ∧ ∀ t∈ts,(∀ a,t.A=some a→a.block≠q) ∧ ∀ x∈t.af,∀ a,x.A=some a→a.block≠q
theorem aM.Cr {g q B:Nat} {w u:World} {A:Option Addr} {ts:List Tab} (h:aM w w.heap.size A ts) (hk:iJ g q w u) (hu:fE B A ts) (hg:g<B) (hq:nJ q A ts):aM u u.heap.size A ts :=
 ⟨h.1.Cr hk fun a ha=>⟨by have:=hu.1 a ha;omega,hq.1 a ha⟩,fun t ht=>⟨(h.2 t ht).1.Cr hk fun a ha=>⟨by have:=(hu.2 t ht).1 a ha;omega,(hq.2 t ht).1 a ha⟩,fun x hx=>((h.2 t ht).2 x hx).Cr hk fun a ha=>⟨by have:=(hu.2 t ht).2 x hx a ha;omega,(hq.2 t ht).2 x hx a ha⟩⟩⟩
structure dN (M w0:Nat) (w:World) (x:Col):Prop where
 name:x.name.size ≤ 1000000
 ns:x.ns.size ≤ 1000000
 refs:x.refs.size ≤ 1000000
 own:x.own.length≤M
 cap:x.own.length≤x.cap
 list:ah w w.heap.size intCells 1 x.A x.own
 up : ∀ a,x.A=some a→w0≤a.block
 lt : ∀ a,x.A=some a→a.block<w.heap.size
theorem dN.keep {M w0:Nat} {w u:World} {x:Col} (h:dN M w0 w x) {row:Option Nat} (hg:w.grownBy u row) (hr : ∀ i,row=some i→i<w0):dN M w0 u x :=
 ⟨h.name,h.ns,h.refs,h.own,h.cap,h.list.grown hg fun a ha e=>by have:=h.up a ha;have:=hr _ e.symm;omega,h.up,fun a ha=>Nat.lt_of_lt_of_le (h.lt a ha) hg.size⟩
structure bY (M:Nat) (w:World) (g b q B n cap:Nat) (cv nm:Value) (rt:Int) (LA:Option Addr) (l:List Int) (af:List Col) (er:Int) (u:World):Prop where
 own:aB u B 79 Col.cells 7 (.slice (some ⟨q,0,none⟩) n cap) af
 len:af.length=n
 fine : ∀ x∈af,dN M (w.heap.size + 3) u x
 zC:Blk u (w.heap.size + 1) 77 #[nm, .slice (some ⟨q,0,none⟩) n cap, .int .i64 er, .int .i64 rt]
 Hu:Blk u w.heap.size 39 #[cv, .slice none 0 0, .slice none 0 0, .slice none 0 0, .slice none 0 0, .slice none 0 0, .slice none 0 0, .slice none 0 0]
 res:Blk u (w.heap.size + 2) 77 #[.string ⟨#[]⟩, .slice none 0 0, .int .i64 0, .int .i64 0]
 list:ah u u.heap.size intCells 1 LA l
 up : ∀ a,LA=some a→w.heap.size + 3≤a.block
 tape:aP u g b
 kept:iJ g q w u
 ltg:g<w.heap.size
 ltb:b<w.heap.size
 ltq:q<w.heap.size
 neg:g<B
 neb:b<B
 hq:B≤q
section
variable {M:Nat} {w u v:World} {g b q B n cap:Nat} {cv nm:Value} {rt:Int} {LA:Option Addr} {l:List Int} {af:List Col} {er:Int}
theorem bY.next (h:bY M w g b q B n cap cv nm rt LA l af er u) (hg:u.grownBy v (some g)) (hk:aP v g b):bY M w g b q B n cap cv nm rt LA l af er v:=by
 have h1:=h.ltg
 have hne : ∀ i,w.heap.size≤i→some i≠some g:=fun i hi e=>by injection e with e;omega
 exact ⟨h.own.grown hg h.neg,h.len,fun x hx=>(h.fine x hx).keep hg (fun i e=>by injection e with e;omega),h.zC.grown hg (hne _ omA),h.Hu.grown hg (hne _ omA),h.res.grown hg (hne _ omA),h.list.grown hg (fun a ha=>hne _ (by have:=h.up a ha;omega)),h.up,hk,h.kept.grown hg (fun i e=>by injection e with e;exact .inl e.symm),h.ltg,h.ltb,h.ltq,h.neg,h.neb,h.hq⟩
theorem bY.wide {M':Nat} (h:bY M w g b q B n cap cv nm rt LA l af er u) (hM:M≤M'):bY M' w g b q B n cap cv nm rt LA l af er u :=
 ⟨h.own,h.len,fun x hx=>by have f:=h.fine x hx;exact ⟨f.name,f.ns,f.refs,Nat.le_trans f.own hM,f.cap,f.list,f.up,f.lt⟩,h.zC,h.Hu,h.res,h.list,h.up,h.tape,h.kept,h.ltg,h.ltb,h.ltq,h.neg,h.neb,h.hq⟩
theorem bY.below (h:bY M w g b q B n cap cv nm rt LA l af er u) (hb:Below u.heap.size u v):bY M w g b q B n cap cv nm rt LA l af er v :=
 h.next (bu hb _) (h.tape.below hb)
theorem bY.alloc (h:bY M w g b q B n cap cv nm rt LA l af er u) (o:Obj):bY M w g b q B n cap cv nm rt LA l af er (u.alloc o) :=
 h.below (brf.alloc nlr o)
theorem bY.set (h:bY M w g b q B n cap cv nm rt LA l af er u) {i:Nat} (hi:i<af.length) (x:Col) {j o:Nat} {z:Value} (hj:j < 7) (ho:o=i * 7+j) (hx:x.cells=(af[i]).cells.set j z) (hf:dN M (w.heap.size + 3) u x):bY M w g b q B n cap cv nm rt LA l (af.set i x) er (u.setCell ⟨q,o,none⟩ z):=by
 have h1:=h.ltg
 have h2:=h.ltb
 have h3:=h.ltq
 have hqg:q≠g:=by have:=h.neg;have:=h.hq;omega
 have hqb:q≠b:=by have:=h.neb;have:=h.hq;omega
 have oH : ∀ y,dN M (w.heap.size + 3) u y→dN M (w.heap.size + 3) (u.setCell ⟨q,o,none⟩ z) y:=fun y hy=>⟨hy.name,hy.ns,hy.refs,hy.own,hy.cap,by have:=hy.list.far (p:=⟨q,o,none⟩) (fun a ha e=>by have:=hy.up a ha;have e:a.block=q:=e;omega) z;simpa using this,hy.up,fun a ha=>by simpa using hy.lt a ha⟩
 refine ⟨h.own.iq dC h.len.symm hi x hj ho hx,by simpa using h.len,fun y hy => ?_,h.zC.far (show _≠q by omega) z,h.Hu.far (show _≠q by omega) z,h.res.far (show _≠q by omega) z,?_,h.up,h.tape.far (show g≠q by omega) (show b≠q by omega) z,h.kept.set (.inr (.inl rfl)) z,h.ltg,h.ltb,h.ltq,h.neg,h.neb,h.hq⟩
 ·rcases List.mem_or_eq_of_mem_set hy with h|rfl
  ·exact oH y (bY.fine ‹_› y h)
  ·exact oH _ hf
 ·have:=h.list.far (p:=⟨q,o,none⟩) (fun a ha e=>by have:=h.up a ha;have e:a.block=q:=e;omega) z
  simpa using this
theorem bY.app (h:bY M w g b q B n cap cv nm rt LA l af er u) {nb i o:Nat} {x:Col} {z:Value} (hg:u.grownBy v (some nb)) (hnb:w.heap.size + 3≤nb) (hi:i<af.length) (ho:o=i * 7 + 4) (hx:x.cells=(af[i]).cells.set 4 z) (hf:dN M (w.heap.size + 3) v x) (hoth : ∀ k (hk:k<af.length),k≠i → ∀ a,af[k].A=some a→a.block≠nb) (hL : ∀ a,LA=some a→a.block≠nb) :
 bY M w g b q B n cap cv nm rt LA l (af.set i x) er (v.setCell ⟨q,o,none⟩ z):=by
 have h1:=h.ltg
 have h2:=h.ltb
 have h3:=h.ltq
 have hqg:q≠g:=by have:=h.neg;have:=h.hq;omega
 have hqb:q≠b:=by have:=h.neb;have:=h.hq;omega
 have hne : ∀ i,i<w.heap.size + 3→some i≠some nb:=fun i hi e=>by injection e with e;omega
 have oH : ∀ y,dN M (w.heap.size + 3) v y→dN M (w.heap.size + 3) (v.setCell ⟨q,o,none⟩ z) y:=fun y hy=>⟨hy.name,hy.ns,hy.refs,hy.own,hy.cap,by have:=hy.list.far (p:=⟨q,o,none⟩) (fun a ha e=>by have:=hy.up a ha;have e:a.block=q:=e;omega) z;simpa using this,hy.up,fun a ha=>by simpa using hy.lt a ha⟩
 have hown := h.own.kept hg (fun k hk => by have : q = k := by simpa [Value.ownBlock] using hk
                                            exact hne k omA)
 refine ⟨hown.iq dC h.len.symm hi x (j := 4) omA ho hx,by simpa using h.len,fun y hy => ?_,(h.zC.grown hg (hne _ omA)).far (show _≠q by omega) z,(h.Hu.grown hg (hne _ omA)).far (show _≠q by omega) z,(h.res.grown hg (hne _ omA)).far (show _≠q by omega) z,?_,h.up,(h.tape.grown hg (show nb≠g by omega) (show nb≠b by omega)).far (show g≠q by omega) (show b≠q by omega) z,(h.kept.grown hg (fun i e=>by injection e with e;exact .inr (.inr omA))).set (.inr (.inl rfl)) z,h.ltg,h.ltb,h.ltq,h.neg,h.neb,h.hq⟩
 ·obtain ⟨k,hk,rfl⟩:=List.getElem_of_mem hy
  rw [List.getElem_set]
  split
  ·exact oH _ hf
  ·rename_i hki
   have hk':k<af.length:=by simpa using hk
   have hy:=h.fine af[k] (lgm hk')
   exact oH _ ⟨hy.name,hy.ns,hy.refs,hy.own,hy.cap,hy.list.grown hg (fun a ha e=>hoth k hk' (fun e'=>hki e'.symm) a ha (by injection e)),hy.up,fun a ha=>Nat.lt_of_lt_of_le (hy.lt a ha) hg.size⟩
 ·have:=(h.list.grown hg (fun a ha e=>hL a ha (by injection e))).far (p:=⟨q,o,none⟩) (fun a ha e=>by have:=h.up a ha;have e:a.block=q:=e;omega) z
  simpa using this
theorem bY.IK (h:bY M w g b q B n cap cv nm rt LA l af er u) (z:Int):bY M w g b q B n cap cv nm rt LA l af z (u.setCell ⟨w.heap.size + 1,2,none⟩ (.int .i64 z)):=by
 have h1:=h.ltg
 have h2:=h.ltb
 have h3:=h.ltq
 refine ⟨h.own.far (fun k hk => ?_) _,h.len,fun y hy => ?_,?_,h.Hu.far (show _≠w.heap.size + 1 by omega) _,h.res.far (show _≠w.heap.size + 1 by omega) _,?_,h.up,h.tape.far (show g≠w.heap.size + 1 by omega) (show b≠w.heap.size + 1 by omega) _,h.kept.set (.inr (.inr (show _≤w.heap.size + 1 by omega))) _,h.ltg,h.ltb,h.ltq,h.neg,h.neb,h.hq⟩
 ·have:q=k:=by simpa [Value.ownBlock] using hk
  show k≠w.heap.size + 1
  omega
 ·have hf:=h.fine y hy
  exact ⟨hf.name,hf.ns,hf.refs,hf.own,hf.cap,by have:=hf.list.far (p:=⟨w.heap.size + 1,2,none⟩) (fun a ha e=>by have:=hf.up a ha;have e:a.block=w.heap.size + 1:=e;omega) (.int .i64 z);simpa using this,hf.up,fun a ha=>by simpa using hf.lt a ha⟩
 ·have:=h.zC.bS 2 (.int .i64 z)
  simpa using this
 ·have:=h.list.far (p:=⟨w.heap.size + 1,2,none⟩) (fun a ha e=>by have:=h.up a ha;have e:a.block=w.heap.size + 1:=e;omega) (.int .i64 z)
  simpa using this
structure uL (M:Nat) (w:World) (g b q B n cap:Nat) (af:List Col) (u:World):Prop where
 own:aB u B 79 Col.cells 7 (.slice (some ⟨q,0,none⟩) n cap) af
 len:af.length=n
 fine : ∀ x∈af,dN M (w.heap.size + 3) u x
 tape:aP u g b
 kept:iJ g q w u
 ltg:g<w.heap.size
 ltb:b<w.heap.size
 ltq:q<w.heap.size
theorem bY.toEnd (h:bY M w g b q B n cap cv nm rt LA l af er u):uL M w g b q B n cap af u:=⟨h.own,h.len,h.fine,h.tape,h.kept,h.ltg,h.ltb,h.ltq⟩
theorem uL.set (h:uL M w g b q B n cap af u) (j:Nat) (z:Value):uL M w g b q B n cap af (u.setCell ⟨w.heap.size + 2,j,none⟩ z):=by
 have h1:=h.ltg
 have h2:=h.ltb
 have h3:=h.ltq
 refine ⟨h.own.far (fun k hk => ?_) _,h.len,fun y hy => ?_,h.tape.far (show g≠w.heap.size + 2 by omega) (show b≠w.heap.size + 2 by omega) _,h.kept.set (.inr (.inr (show _≤w.heap.size + 2 by omega))) _,h1,h2,h3⟩
 ·have:q=k:=by simpa [Value.ownBlock] using hk
  show k≠w.heap.size + 2
  omega
 ·have hf:=h.fine y hy
  exact ⟨hf.name,hf.ns,hf.refs,hf.own,hf.cap,by have:=hf.list.far (p:=⟨w.heap.size + 2,j,none⟩) (fun a ha e=>by have:=hf.up a ha;have e:a.block=w.heap.size + 2:=e;omega) z;simpa using this,hf.up,fun a ha=>by simpa using hf.lt a ha⟩
theorem uL.low (h:uL M w g b q B n cap af u) : ∀ x∈af,dN M w.heap.size u x:=fun x hx=>by
 have f:=h.fine x hx
 exact ⟨f.name,f.ns,f.refs,f.own,f.cap,f.list,fun a ha=>by have:=f.up a ha;omega,f.lt⟩
end
theorem Jb {P:Prop} (h:P:=by
 go_wp2_with fail
 (with_reducible refine (aD g b (l.length:Int) _ HI2.out.tape omA omA).mono ?_)
 rintro e w3 ⟨r3,rfl,hr3,hk3,hg3⟩
 have Ai:r3<l.length:=by rcases hr3 with h|h <;> omega
 have HI3:=qh (HI2.out.next hg3 hk3)
 clear HI2 hk3 hg3 hr3
 obtain ⟨lb,lo,rfl,hlb,Qp⟩:=HI3.out.list.get Ai
 have y0:=Qp 0 _ rfl
 simp only [Nat.mul_one,Nat.add_zero] at y0
 obtain ⟨z3,hz3⟩ : ∃ z,l[r3]=z:=⟨_,rfl⟩
 rw [hz3] at y0
 have s0:=HI3.out.own.fT dC HI3.out.len.symm hil (j := 4) rfl
 have sf:=HI3.out.own.nT HI3.out.len.symm (i * 7 + 4)
 have hqz:=HI3.out.own.lt q rfl
 have hw3:=HI3.out.res.lt
 obtain ⟨⟨xn,xt,xs,xr,xA,xc,xo,xj,xd⟩,hx⟩ : ∃ x:Col,af[i]=x:=⟨_,rfl⟩
 have hf0:=HI3.out.fine af[i] (lgm hil)
 rw [hx] at s0 hf0
 have HX:=qh hx
 clear Qp hz3 hx
 go_upto_region 9 with (fail)
 obtain ⟨nb,hnb⟩ : ∃ nb,w3.heap.size=nb:=⟨_,rfl⟩
 refine ai (P:=fun u=>Code.wp _ _ _ _ u) (R:=fun u => ∃ (sS:List Col) (hi:i<sS.length),sS[i]=⟨xn,xt,xs,xr,some ⟨w3.heap.size,0,none⟩,1,[z3],xj,xd⟩∧(∀ k (hk:k<sS.length),k≠i → ∀ a,sS[k].A=some a→a.block≠w3.heap.size)∧Blk u w3.heap.size 3 #[.int .i64 z3]∧(bY 20 w g b q B n cap (.slice A ts.length c) (.string nm) rt (some ⟨lb,lo,none⟩) l sS er2 u)) ⟨af.set i ⟨xn,xt,xs,xr,some ⟨w3.heap.size,0,none⟩,1,[z3],xj,xd⟩,by simpa using hil,by simp,fun k hk hki a ha => ?_,?_,?_⟩ ?_
 ·rw [List.getElem_set_ne (fun e=>hki e.symm)] at ha
  have:=(HI3.out.fine _ (lgm (by simpa using hk))).lt a ha
  omega
 ·exact Blk.new' spA
 ·rw [← World.setCell_alloc_past _ q _ _ hqz]
  exact (HI3.out.alloc _).set hil ⟨xn,xt,xs,xr,some ⟨w3.heap.size,0,none⟩,1,[z3],xj,xd⟩ (j := 4) omA rfl (by rw [HX.out];rfl) ⟨hf0.name,hf0.ns,hf0.refs,by simp,by simp,Blk.one (enc:=intCells) (x:=z3) (Blk.new' rfl) spA,fun a ha=>by injection ha with ha;subst ha;exact hw3,fun a ha=>by injection ha with ha;subst ha;simp⟩
 rw [hnb]
 rw [hnb] at hw3
 rintro U ⟨sS,hi1,hx1,ho1,hB1,hI1⟩
 have HO1:=qh ho1
 have SY:lb≠nb:=by omega
 have HI4:=qh hI1
 have HB4:=qh hB1
 have HX1:=qh hx1
 clear ho1 hI1 hB1 hx1 HI3 HX hnb s0 sf y0 hil hqz hlb hf0
 go_wp2_with fail
 (with_reducible refine (aD g b (l.length:Int) _ HI4.out.tape omA omA).mono ?_)
 rintro e w4 ⟨r4,rfl,hr4,hk4,hg4⟩
 have PZ:r4<l.length:=by rcases hr4 with h|h <;> omega
 have HI5:=qh (HI4.out.next hg4 hk4)
 have HB5:=qh (HB4.out.grown hg4 (fun e=>by injection e with e;omega))
 clear HI4 HB4 hk4 hg4 hr4
 obtain ⟨lb5,lo5,he5,hlb,Qo⟩:=HI5.out.list.get PZ
 injection he5 with he5
 injection he5 with he6 he7
 subst he6 he7
 have y0:=Qo 0 _ rfl
 simp only [Nat.mul_one,Nat.add_zero] at y0
 obtain ⟨z4,hz4⟩ : ∃ z,l[r4]=z:=⟨_,rfl⟩
 rw [hz4] at y0
 have s0:=HI5.out.own.fT dC HI5.out.len.symm hi1 (j := 4) (by rw [HX1.out];rfl)
 have sf:=HI5.out.own.nT HI5.out.len.symm (i * 7 + 4)
 have hqz:=HI5.out.own.lt q rfl
 have hw4:=HI5.out.res.lt
 have n0:=HB5.out.cell 0
 have hnz:=HB5.out.lt
 simp only [gE3,List.length_cons,List.length_nil,Nat.zero_add] at n0 s0
 clear Qo hz4
 cases h34:decide (z3<z4)
 ·go_upto_if 76 with (fail)
  go_cut [] (fun wc => ∃ (qG:List Col) (hi:i<qG.length),(∃ A' c' o',qG[i]=⟨xn,xt,xs,xr,A',c',o',xj,xd⟩)∧(bY 20 w g b q B n cap (.slice A ts.length c) (.string nm) rt (some ⟨lb,lo,none⟩) l qG er2 wc))
  case first =>
   go_wp2_with fail
   go_meet
   exact ⟨sS,hi1,⟨_,_,_,HX1.out⟩,HI5.out⟩
  case rest=>exact Ja
 ·go_upto_if 76 with (fail)
  go_cut [] (fun wc => ∃ (qG:List Col) (hi:i<qG.length),(∃ A' c' o',qG[i]=⟨xn,xt,xs,xr,A',c',o',xj,xd⟩)∧(bY 20 w g b q B n cap (.slice A ts.length c) (.string nm) rt (some ⟨lb,lo,none⟩) l qG er2 wc))
  case first =>
   have QY:aB w4 (w.heap.size + 3) 3 intCells 1 (.slice (some ⟨nb,0,none⟩) 1 1) [z3]:=aB.one (enc:=intCells) (x:=z3) HB5.out hw3 bH
   have Uc:=qh QY
   clear QY
   go_wp2_with (at_builtin;go_must (refine aJ _ rfl (.tmp 81) (.tmp 83) 22 rfl 3 i0 _ intCells 1 8 Tryz.underlying22 hi0 hz0 hz1 hz2 rfl omA bH dK (w.heap.size + 3) (.slice (some ⟨nb,0,none⟩) 1 1) [z3] rfl (Uc.out.alloc _) _ _ _ [z4] rfl rfl (Blk.one (enc:=intCells) (x:=z4) (Blk.new' rfl) spA) spA (by simp [maxLen]) smA ?_);intro v' w5 hown5 hg5 QN;obtain ⟨A5,c5,rfl,hc5,hs5,hA5⟩:=hown5.slice bH;have hO6:=(HI5.out.alloc _).own.kept hg5 (fun k hk e=>by (have e1:q=k:=by simpa [Value.ownBlock] using hk);(have e2:k=nb:=by simpa [Value.ownBlock] using e);have:=HI5.out.ltq;omega);have s6:=hO6.fT dC HI5.out.len.symm hi1 (j := 4) (by rw [HX1.out];rfl);have sf6:=hO6.nT HI5.out.len.symm (i * 7 + 4);have HG5:=qh hg5)
   go_meet
   have hf1:=HI5.out.fine sS[i] (lgm hi1)
   rw [HX1.out] at hf1
   exact ⟨sS.set i ⟨xn,xt,xs,xr,A5,c5,[z3,z4],xj,xd⟩,by simpa using hi1,⟨A5,c5,[z3,z4],by simp⟩,(HI5.out.alloc _).app HG5.out hw3 hi1 rfl (by rw [HX1.out];rfl) ⟨hf1.name,hf1.ns,hf1.refs,by simp,by simpa using hc5,by simpa using hs5,fun a ha=>(hA5 a ha).1,fun a ha=>(hA5 a ha).2⟩ HO1.out (fun a ha=>by injection ha with ha;subst ha;exact SY)⟩
  case rest=>exact Ja):P:=h
theorem Ja {P:Prop} (h:P:=by
 (
 obtain ⟨qG,hi2,⟨A2,c2,o2,hx2⟩,hI2⟩:=hcut
 have HI6:=qh hI2
 have HX2:=qh hx2
 clear hI2 hx2 HI5 HB5 HX1 s0 sf n0 y0 h34 hi1
 go_wp2_with fail
 (with_reducible refine (aD g b 2 _ HI6.out.tape omA omA).mono ?_)
 rintro e w6 ⟨r5,rfl,hr5,hk6,hg6⟩
 have HI7:=qh (HI6.out.next hg6 hk6)
 clear HI6 hk6 hg6 hr5
 have s5:=HI7.out.own.fT dC HI7.out.len.symm hi2 (j := 5) (by rw [HX2.out];rfl)
 have sf5:=HI7.out.own.nT HI7.out.len.symm (i * 7 + 5)
 have hf2:=HI7.out.fine qG[i] (lgm hi2)
 rw [HX2.out] at hf2
 have hw6:=HI7.out.res.lt
 have hq6:=HI7.out.own.lt q rfl
 go_upto_region 13 with (fail)
 refine ai (P:=fun u=>Code.wp _ _ _ _ u) (R:=fun u => ∃ (zm:List Col) (hi:i<zm.length),zm[i]=⟨xn,xt,xs,xr,A2,c2,o2,r5,xd⟩∧(bY 20 w g b q B n cap (.slice A ts.length c) (.string nm) rt (some ⟨lb,lo,none⟩) l zm er2 u)) ⟨qG.set i ⟨xn,xt,xs,xr,A2,c2,o2,r5,xd⟩,by simpa using hi2,by simp,HI7.out.set hi2 ⟨xn,xt,xs,xr,A2,c2,o2,r5,xd⟩ (j := 5) omA rfl (by rw [HX2.out];rfl) ⟨hf2.name,hf2.ns,hf2.refs,hf2.own,hf2.cap,hf2.list,hf2.up,hf2.lt⟩⟩ ?_
 rintro V ⟨zm,hi3,hx3,hI3⟩
 have HI8:=qh hI3
 have HX3:=qh hx3
 clear HI7 HX2 hi2 hI3 hx3 s5 sf5 hf2
 have hw8:=HI8.out.res.lt
 go_wp2_with fail
 (with_reducible refine (aD g b 5 _ (HI8.out.tape.alloc _) omA omA).mono ?_)
 rintro e w8 ⟨r6,rfl,hr6,hk8,hg8⟩
 have JB:r6 < 5:=by rcases hr6 with h|h <;> omega
 have HI9:=qh ((HI8.out.alloc _).next hg8 hk8)
 have hL:Blk w8 V.heap.size 3 #[.int .i64 0, .int .i64 0, .int .i64 0, .int .i64 5, .int .i64 20]:=Blk.grown (Blk.new' rfl) hg8 (fun e=>by injection e with e;omega)
 obtain ⟨z6,hz6⟩ : ∃ z:Int,w8.cell? ⟨V.heap.size,r6,none⟩=some (.int .i64 z):=by
  rw [hL.cell]
  rcases (show r6 = 0∨r6 = 1∨r6 = 2∨r6 = 3∨r6 = 4 by omega) with rfl|rfl|rfl|rfl|rfl
  all_goals exact ⟨_,rfl⟩
 clear HI8 hk8 hg8 hr6 hL
 have s6:=HI9.out.own.fT dC HI9.out.len.symm hi3 (j := 6) (by rw [HX3.out];rfl)
 have sf6:=HI9.out.own.nT HI9.out.len.symm (i * 7 + 6)
 have hf3:=HI9.out.fine zm[i] (lgm hi3)
 rw [HX3.out] at hf3
 go_upto_region 14 with (fail)
 refine ai (P:=fun u=>Code.wp _ _ _ _ u) (R:=fun u => ∃ (Kc:List Col),(bY 20 w g b q B n cap (.slice A ts.length c) (.string nm) rt (some ⟨lb,lo,none⟩) l Kc er2 u)) ⟨zm.set i ⟨xn,xt,xs,xr,A2,c2,o2,r5,z6⟩,HI9.out.set hi3 ⟨xn,xt,xs,xr,A2,c2,o2,r5,z6⟩ (j := 6) omA rfl (by rw [HX3.out];rfl) ⟨hf3.name,hf3.ns,hf3.refs,hf3.own,hf3.cap,hf3.list,hf3.up,hf3.lt⟩⟩ ?_
 rintro X ⟨Kc,hI4⟩
 have RN:=qh hI4
 have e2:=hI4.zC.cell 2
 have ef:=hI4.zC.frozen 2
 have hwX:=hI4.res.lt
 simp only [gE3] at e2
 clear HI9 HX3 hi3 hI4 s6 sf6 hz6 hf3
 go_wp2_with fail
 go_roundw
 case rel=>exact ⟨i + 1,Kc,_,by omega,by go_num,by first|exact RN.out|exact RN.out.IK 1⟩
 case measure=>exact meA)):P:=h
theorem IC (g b B0 B q n cap:Nat) (A:Option Addr) (c m:Nat) (ts:List Tab) (nm:ByteArray) (zn:List Col) (er rt:Int) (w:World) (hk:aP w g b) (ht:aM w w.heap.size A ts) (hm:ts.length=m) (hup:fE B0 A ts) (hg0:g<B0) (hne:nJ q A ts) (hl:m ≤ 10) (dw : ∀ t∈ts,0<t.af.length) (hsn:aN ts)
 (hown:aB w B 79 Col.cells 7 (.slice (some ⟨q,0,none⟩) n cap) zn) (hn:zn.length=n) (h8:n ≤ 8) (hnew : ∀ x∈zn,EN x) (hgB:g<B) (hbB:b<B) :
 Calls Tryz.prog 36 #[.pointer (some ⟨g,0,none⟩), .agg #[.slice A m c, .slice none 0 0, .slice none 0 0, .slice none 0 0, .slice none 0 0, .slice none 0 0, .slice none 0 0, .slice none 0 0], .agg #[.string nm, .slice (some ⟨q,0,none⟩) n cap, .int .i64 er, .int .i64 rt]] w fun e w' =>
  ∃ (af:List Col) (er':Int),e = .returned (.agg #[.string nm, .slice (some ⟨q,0,none⟩) n cap, .int .i64 er', .int .i64 rt])∧aB w' B 79 Col.cells 7 (.slice (some ⟨q,0,none⟩) n cap) af∧af.length=n∧(∀ x∈af,dN 100 w.heap.size w' x)∧aP w' g b∧iJ g q w w':=by
 subst hm
 have HK:=qh hk
 have HT:=qh ht
 have HU:=qh hup
 have HNE:=qh hne
 have HC:=qh dw
 have HS:=qh hsn
 have HOW:=qh hown
 have HN:=qh hn
 have yQ:=qh hnew
 have hgl:=hk.ltg
 have hbl:=hk.lt
 have hql:=(hown.lt q rfl)
 have hBq:=hown.row q rfl
 obtain ⟨i0,hi0,hz0,hz1,hz2⟩:=info_parts kU
 clear hk ht hup hne dw hsn hown hn hnew
 go_enter Tryz.func36,Tryz.ntmps36
 go_upto_region 1 with (fail)
 refine ai (P:=fun u=>Code.wp _ _ _ _ u) (R:=fun u=>Blk u w.heap.size 39 #[.slice A ts.length c, .slice none 0 0, .slice none 0 0, .slice none 0 0, .slice none 0 0, .slice none 0 0, .slice none 0 0, .slice none 0 0]∧Blk u (w.heap.size + 1) 77 #[.string nm, .slice (some ⟨q,0,none⟩) n cap, .int .i64 er, .int .i64 rt]∧Blk u (w.heap.size + 2) 77 #[.string ⟨#[]⟩, .slice none 0 0, .int .i64 0, .int .i64 0]∧Below w.heap.size w u) ⟨?_,?_,?_,?_⟩ ?_
 ·exact ((Blk.new _ _ _).alloc _).alloc _
 ·exact (Blk.new' spA).alloc _
 ·exact Blk.new' spA
 ·exact ay
 rintro W ⟨hC,hB,hR,hbW⟩
 have hzW:=hR.lt
 obtain ⟨q0,q1,q2,q3⟩:=Tab.blk hB
 have HCB:=qh hC
 have HTB:=qh hB
 have HRB:=qh hR
 have hOW:=HOW.out.below hbW nlr
 obtain ⟨A0,c0,he0,hcap0,hsl0,_⟩:=hOW.slice dC
 injection he0 with he1 he2 he3
 subst he1
 have Rh:=qh hsl0
 have Rw:=qh hOW
 clear hC hB hR hOW hsl0 he2 he3
 go_wp2_with fail
 (with_reducible refine (Jf nm (some ⟨q,0,none⟩) cap n zn er rt _ Rh.out HN.out omA).mono ?_)
 rintro e w1 ⟨⟨LA,lc,l,rfl,hlc,hln,hls,hlA⟩,hb1⟩
 have JU:Below w.heap.size w w1:=ae hbW hb1 hbW.size
 have hinv:bY 20 w g b q B n cap (.slice A ts.length c) (.string nm) rt LA l zn er w1:=by
  refine ⟨Rw.out.below hb1 nlr,HN.out,fun x hx => ?_,HTB.out.below hb1 omA,HCB.out.below hb1 omA,HRB.out.below hb1 hzW,hls,fun a ha=>by have:=hlA a ha;omega,HK.out.below JU,(iJ.refl g q w).below JU,hgl,hbl,hql,hgB,hbB,hBq⟩
  have hx:=yQ.out x hx
  exact ⟨hx.name,hx.ns,hx.refs,by rw [hx.own];simp,by rw [hx.own];simp,by rw [hx.own];exact ah.nil,fun a ha=>(by rw [hx.A] at ha;cases ha),fun a ha=>(by rw [hx.A] at ha;cases ha)⟩
 have fO:=qh hinv
 clear hinv HOW Rw Rh HK HTB HCB HRB yQ HN hb1 JU hlA hls q0 q1 q2 q3
 go_upto_block 0 with (fail)
 go_cut [] (fun wc => ∃ (af:List Col) (er:Int),bY 20 w g b q B n cap (.slice A ts.length c) (.string nm) rt LA l af er wc)
 case first =>
  go_wp2_with fail
  go_loopw [8] (fun vi wr => ∃ (i:Nat) (af:List Col) (er:Int),i≤n∧vi = .int .i64 i∧bY 20 w g b q B n cap (.slice A ts.length c) (.string nm) rt LA l af er wr) (fun vi _=>n - (intOf vi).toNat)
  case atStart=>exact ⟨0,zn,er,Nat.zero_le _,rfl,fO.out⟩
  case round =>
   clear fO
   obtain ⟨i,af,er2,hin,rfl,hinv⟩:=hrel
   have fO:=qh hinv
   obtain ⟨q0,q1,q2,q3⟩:=Tab.blk hinv.zC
   have hwz:=hinv.res.lt
   have hci:i<n→i<af.length:=fun h=>by rw [hinv.len];exact h
   clear hinv
   by_cases hlt:i<n
   ·have hil:=hci hlt
    have hlt':decide (i<n)=true:=by simpa using hlt
    by_cases hl0 : 0<l.length
    ·have hl0':decide (0<l.length)=true:=by simpa using hl0
     clear hci
     go_wp2_with fail
     (with_reducible refine (aD g b 3 _ fO.out.tape omA omA).mono ?_)
     rintro e w2 ⟨r1,rfl,hr1,hk2,hg2⟩
     have HI2:=qh (fO.out.next hg2 hk2)
     clear fO hk2 hg2 q0 q1 q2 q3 hr1
     by_cases hi0:i = 0
     ·have Ls:((i:Int) == 0)=true:=by simp;omega
      have Qt:decide (0<(i:Int))=false:=by simp;omega
      have Qs:decide (0<i)=false:=by simp;omega
      clear hi0
      by_cases hr0:r1 = 0
      ·subst hr0
       exact Jb
      ·have oD:((r1:Int) == 0)=false:=by simp;omega
       go_wp2_with fail
       go_roundw
       case rel=>exact ⟨i + 1,af,er2,by omega,by go_num,HI2.out⟩
       case measure=>exact meA
     ·have Ls:((i:Int) == 0)=false:=by simp;omega
      have Qt:decide (0<(i:Int))=true:=by simp;omega
      have Qs:decide (0<i)=true:=by simp;omega
      clear hi0
      go_wp2_with fail
      (with_reducible refine (aD g b 4 _ HI2.out.tape omA omA).mono ?_)
      rintro e w2' ⟨r2,rfl,hr2,hk2,hg2⟩
      have RL:=qh (HI2.out.next hg2 hk2)
      clear HI2 hk2 hg2 hr2
      have HI2:=RL
      clear RL
      by_cases hr0:r2 = 0
      ·subst hr0
       go_wp2_with fail
       go_roundw
       case rel=>exact ⟨i + 1,af,er2,by omega,by go_num,HI2.out⟩
       case measure=>exact meA
      ·have oD:((r2:Int) == 0)=false:=by simp;omega
       clear hr0
       exact Jb
    ·have hl0':decide (0<l.length)=false:=by simpa using hl0
     go_wp2_with fail
     go_meet
     exact ⟨af,er2,fO.out⟩
   ·have hlt':decide (i<n)=false:=by simpa using hlt
    go_wp2_with fail
    go_meet
    exact ⟨af,er2,fO.out⟩
 case rest =>
  clear fO
  obtain ⟨af,er3,hinv⟩:=hcut
  have h20 : ∀ k (hk:k<af.length),0≤k→af[k].own.length ≤ 20:=fun k hk _=>(hinv.fine _ (lgm hk)).own
  have fO:=qh (hinv.wide (show 20 ≤ 100 by omega))
  have H20:=qh h20
  clear hinv h20
  go_wp2_with fail
  go_loopw [12] (fun vi wr => ∃ (i:Nat) (af:List Col),i≤n∧vi = .int .i64 i∧bY 100 w g b q B n cap (.slice A ts.length c) (.string nm) rt LA l af er3 wr∧(∀ k (hk:k<af.length),i≤k→af[k].own.length ≤ 20)) (fun vi _=>n - (intOf vi).toNat)
  case atStart=>exact ⟨0,af,Nat.zero_le _,rfl,fO.out,H20.out⟩
  case round =>
   clear fO H20
   obtain ⟨i,af,hin,rfl,hinv,h20⟩:=hrel
   have fO:=qh hinv
   have H20:=qh h20
   obtain ⟨q0,q1,q2,q3⟩:=Tab.blk hinv.zC
   have hwz:=hinv.res.lt
   have hci:i<n→i<af.length:=fun h=>by rw [hinv.len];exact h
   clear hinv h20
   by_cases hlt:i<n
   ·have hil:=hci hlt
    have hlt':decide (i<n)=true:=by simpa using hlt
    clear hci
    go_wp2_with fail
    clear q0 q1 q2 q3
    obtain ⟨wo,rfl⟩ : ∃ wo:World,wo=wr:=⟨_,rfl⟩
    go_loopw [14] (fun vn wi => ∃ (m:Nat) (af:List Col),m≤ts.length∧vn = .int .i64 m∧bY 100 w g b q B n cap (.slice A ts.length c) (.string nm) rt LA l af er3 wi∧(∀ k (hk:k<af.length),i + 1≤k→af[k].own.length ≤ 20)∧(∀ hk:i<af.length,af[i].own.length ≤ 20+m)) (fun vn _=>ts.length - (intOf vn).toNat)
    case atStart=>exact ⟨0,af,Nat.zero_le _,rfl,fO.out,fun k hk h=>H20.out k hk omA,fun hk=>by have:=H20.out i hk nlr;omega⟩
    case round =>
     clear fO H20 hil
     obtain ⟨m,af,hm,rfl,hinv,h20,Q3⟩:=hrel
     have fO:=qh hinv
     have H20:=qh h20
     have hil:i<af.length:=by rw [hinv.len];exact hlt
     have p0:=hinv.Hu.cell 0
     simp only [gE3] at p0
     have hwz:=hinv.res.lt
     by_cases hmt:m<ts.length
     ·have htab:=HT.out.Cr hinv.kept HU.out hg0 HNE.out
      obtain ⟨tb,tbo,rfl,htb,htc⟩:=htab.1.get hmt
      obtain ⟨t0,t1,_,_⟩:=Tab.df htc
      have hcl:=HC.out ts[m] (lgm hmt)
      obtain ⟨cb,co,hce,hcb,hcc⟩:=(htab.2 ts[m] (lgm hmt)).1.get hcl
      have z4:=hcc 4 _ rfl
      have s3:=hinv.own.fT dC hinv.len.symm hil (j := 3) rfl
      have s4:=hinv.own.fT dC hinv.len.symm hil (j := 4) rfl
      have s4f:=hinv.own.nT hinv.len.symm (i * 7 + 4)
      have hqz:=hinv.own.lt q rfl
      simp only [Nat.zero_mul,Nat.add_zero] at z4
      have hf:=hinv.fine af[i] (lgm hil)
      have hol:=Q3 hil
      obtain ⟨⟨xn,xt,xs,xr,xA,xc,xo,xj,xd⟩,hx⟩ : ∃ x:Col,af[i]=x:=⟨_,rfl⟩
      rw [hx] at s3 s4 hf hol
      rw [hce] at t1
      obtain ⟨tn,htn⟩ : ∃ s,ts[m].name=s:=⟨_,rfl⟩
      rw [htn] at t0
      obtain ⟨ol,Qe⟩ : ∃ k:Nat,ts[m].af[0].own.length=k:=⟨_,rfl⟩
      rw [Qe] at z4
      obtain ⟨cl,JQ⟩ : ∃ k:Nat,ts[m].af.length=k:=⟨_,rfl⟩
      rw [JQ] at t1 hcl
      have hcl':decide (0<cl)=true:=by simpa using hcl
      have hk0:=aK (w:=wr) tb htb
      have hk1:=aK (w:=wr) cb hcb
      have hk2:=aK (w:=wr) q hqz
      have hk3:=aK (w:=wr) w.heap.size omA
      have HX:=qh hx
      have HF:=qh hf
      clear hinv h20 Q3 htab htc hce hcc hx htn Qe JQ hf
      by_cases hnm:tn=xr
      ·have hs:=Dy hnm
       clear hnm
       by_cases ho0 : 0<ol
       ·have SE:decide (0<ol)=true:=by simpa using ho0
        go_upto_region 23 with (fail)
        refine ag krA krA ?_;(repeat (go_big_quiet_step (fail)));refine wpQuiet_nil ?_;intro wq hq
        have HIQ:=qh (fO.out.below hq)
        clear hk0 hk1 hk2 hk3 p0 t0 t1 z4 s3 s4 s4f hs
        have s4:=HIQ.out.own.fT dC HIQ.out.len.symm hil (j := 4) (by rw [HX.out];rfl)
        have hfq:=HIQ.out.fine af[i] (lgm hil)
        rw [HX.out] at hfq
        have HFQ:=qh hfq
        have ML:=qh hfq.cap
        have HXL:=qh hfq.list
        have hwq:=HIQ.out.res.lt
        simp only at s4
        clear hfq
        go_wp2_with fail
        (with_reducible refine (Eh xA xc xo.length xo (i:Int) _ HXL.out rfl omA ML.out).mono ?_)
        rintro e w8 ⟨⟨A8,c8,rfl,hc8,hs8,hA8⟩,hb8⟩
        have Vw:(iQ xo (i:Int)).length≤xo.length + 1:=Cv (fun a b:Int=>a<b) xo (i:Int)
        have hpos : 0<(iQ xo (i:Int)).length:=List.length_pos_of_mem ((Cu (fun a b:Int=>a<b) xo (i:Int) (i:Int)).2 (.inr rfl))
        have HI8:=qh (HIQ.out.below hb8)
        have s4':=HI8.out.own.fT dC HI8.out.len.symm hil (j := 4) (by rw [HX.out];rfl)
        have s4f:=HI8.out.own.nT HI8.out.len.symm (i * 7 + 4)
        have hw8:=hb8.size
        have hcf:dN 100 (w.heap.size + 3) w8 ⟨xn,xt,xs,xr,A8,c8,iQ xo (i:Int),xj,xd⟩:=by
         have hf8:=HI8.out.fine af[i] (lgm hil)
         rw [HX.out] at hf8
         refine ⟨hf8.name,hf8.ns,hf8.refs,show (iQ xo (i:Int)).length ≤ 100 by omega,hc8,hs8,fun a ha => ?_,fun a ha => ?_⟩
         ·rcases hA8 with h|h
          ·exact hf8.up a (h▸ha)
          ·have:=h a ha
           omega
         ·obtain ⟨b9,o9,he9,hb9,_⟩:=hs8 hpos
          have ha:A8=some a:=ha
          rw [he9] at ha
          injection ha with ha
          subst ha
          exact hb9
        have HCF:=qh hcf
        clear hcf hs8 hA8 hc8 hb8 HIQ HFQ ML HXL s4
        go_wp2_with fail
        go_roundw
        case rel=>exact ⟨m + 1,af.set i ⟨xn,xt,xs,xr,A8,c8,iQ xo (i:Int),xj,xd⟩,by omega,by go_num,HI8.out.set hil ⟨xn,xt,xs,xr,A8,c8,iQ xo (i:Int),xj,xd⟩ (j := 4) omA rfl (by rw [HX.out];rfl) HCF.out,fun k hk hki=>by rw [List.getElem_set_ne omA];exact H20.out k (by simpa using hk) hki,fun hk=>by rw [List.getElem_set_self];show (iQ xo (i:Int)).length ≤ 20+(m + 1);omega⟩
        case measure=>exact meA
       ·have SE:decide (0<ol)=false:=by simpa using ho0
        go_upto_region 23 with (fail)
        refine ag krA krA ?_;(repeat (go_big_quiet_step (fail)));refine wpQuiet_nil ?_;intro wq hq
        clear hk0 hk1 hk2 hk3 p0 t0 t1 z4 s3 s4 s4f hs
        have HIQ:=qh (fO.out.below hq)
        go_wp2_with fail
        go_roundw
        case rel=>exact ⟨m + 1,af,by omega,by go_num,HIQ.out,H20.out,fun hk=>by rw [HX.out];exact Nat.le_succ_of_le hol⟩
        case measure=>exact meA
      ·have hs:=Dz hnm
       clear hnm
       go_upto_region 23 with (fail)
       refine ag krA krA ?_;(repeat (go_big_quiet_step (fail)));refine wpQuiet_nil ?_;intro wq hq
       clear hk0 hk1 hk2 hk3 p0 t0 t1 z4 s3 s4 s4f hs
       have HIQ:=qh (fO.out.below hq)
       go_wp2_with fail
       go_roundw
       case rel=>exact ⟨m + 1,af,by omega,by go_num,HIQ.out,H20.out,fun hk=>by rw [HX.out];exact Nat.le_succ_of_le hol⟩
       case measure=>exact meA
     ·have hmt':decide (m<ts.length)=false:=by simpa using hmt
      clear hinv h20
      have hme:m=ts.length:=by omega
      go_wp2_with fail
      go_roundw
      case rel=>exact ⟨i + 1,af,by omega,by go_num,fO.out,H20.out⟩
      case measure=>exact meA
   ·have hlt':decide (i<n)=false:=by simpa using hlt
    clear hci
    have hinv:=fO.out
    obtain ⟨r0,r1,r2,r3⟩:=Tab.blk hinv.res
    have f0:=hinv.res.frozen 0
    have f1:=hinv.res.frozen 1
    have f2:=hinv.res.frozen 2
    have f3:=hinv.res.frozen 3
    have HE:=qh hinv.toEnd
    clear hinv fO
    go_wp2_with fail
    refine bodyPost_ret (v := .agg #[.string nm, .slice (some ⟨q,0,none⟩) n cap, .int .i64 er3, .int .i64 rt]) (by simp [results,Tryz.results36,go_sem,r0,r1,r2,r3]) rfl ?_
    have hE:=(((HE.out.set 0 (.string nm)).set 1 (.slice (some ⟨q,0,none⟩) n cap)).set 2 (.int .i64 er3)).set 3 (.int .i64 rt)
    exact ⟨af,er3,rfl,hE.own,hE.len,hE.low,hE.tape,hE.kept⟩
def dR:Col:=⟨⟨#[99,48]⟩,1,⟨#[112,101,114,115,111,110]⟩,⟨#[]⟩,none,0,[],0,0⟩
def dM (b:Nat):Col:=⟨⟨#[99,49]⟩,2,⟨#[]⟩,⟨#[]⟩,some ⟨b,0,none⟩,1,[0],0,0⟩
def pW (b q:Nat):Tab:=⟨⟨#[116,48]⟩,some ⟨q,0,none⟩,2,[dR,dM b],0,0⟩
theorem Kk (ts:List Tab) (b q:Nat):bR ts [dR,dM b] 0 0 0 0 dR = 0:=by
 have h1:cE1 dR=false:=by decide +kernel
 have h2:cE2 [dR,dM b] 0 dR=false:=aO (fun ⟨k,h,hk,_⟩=>by omega)
 have hr:(!dR.refs.toList.isEmpty)=false:=by decide +kernel
 have h3 : ∀ tg,cE3 dR tg=false:=fun tg=>by rw [cE3,hr];rfl
 have h4 : ∀ tg,cE4 ts dR tg=false:=fun tg=>by rw [cE4,hr,Bool.and_false,Bool.false_and,Bool.or_false];rfl
 have h5:cE5 [dR,dM b] dR=false:=by
  have:pb (dI [dR,dM b] dR.own)=true:=aS (fun i h=>by simp [dR] at h)
  rw [cE5,hr,this]
  simp [dR,dM,aH]
 have h6:cE6 0 0 0 dR=false:=by rfl
 have h7 : ∀ tg,cE7 ts 0 dR tg=false:=fun tg=>by rw [cE7,hr];rfl
 unfold bR
 simp only [h1,h2,h3,h4,h5,h6,h7]
 rfl
theorem Kj (ts:List Tab) (b q:Nat):bR ts [dR,dM b] 0 0 0 1 (dM b) = 0:=by
 have h1:cE1 (dM b)=false:=by
  have e1:cO (dM b).name=true:=by show cO ⟨#[99,49]⟩=true;decide +kernel
  have e2:(!(dM b).ns.toList.isEmpty)=false:=by show (!(⟨#[]⟩:ByteArray).toList.isEmpty)=false;decide +kernel
  rw [cE1,e1,e2]
  rfl
 have h2:cE2 [dR,dM b] 1 (dM b)=false:=aO (fun ⟨k,h,hk,he⟩=>by
  obtain rfl:k = 0:=by omega
  have he:(⟨#[99,48]⟩:ByteArray)=⟨#[99,49]⟩:=he
  exact absurd he (by decide +kernel))
 have hr:(!(dM b).refs.toList.isEmpty)=false:=by show (!(⟨#[]⟩:ByteArray).toList.isEmpty)=false;decide +kernel
 have hn:(!(dM b).ns.toList.isEmpty)=false:=hr
 have h3 : ∀ tg,cE3 (dM b) tg=false:=fun tg=>by rw [cE3,hr];rfl
 have h4 : ∀ tg,cE4 ts (dM b) tg=false:=fun tg=>by rw [cE4,hr,Bool.and_false,Bool.false_and,Bool.or_false];rfl
 have h5:cE5 [dR,dM b] (dM b)=false:=by
  have:pb (dI [dR,dM b] (dM b).own)=true:=aS (fun i h=>by
   have h':i < 1:=h
   obtain rfl:i = 0:=by omega
   refine ⟨show (0:Int) ≤ 0 by omega,show (0:Int).toNat < 2 by decide,fun h0=>absurd h0 omA,?_⟩
   rintro ⟨e,_⟩
   have e:(⟨#[112,101,114,115,111,110]⟩:ByteArray)=⟨#[]⟩:=e
   exact absurd e (by decide +kernel))
  rw [cE5,hr,this]
  simp [dR,dM,aH]
 have h6:cE6 0 0 1 (dM b)=false:=by rfl
 have h7 : ∀ tg,cE7 ts 1 (dM b) tg=false:=fun tg=>by rw [cE7,hr];rfl
 unfold bR
 simp only [h1,h2,h3,h4,h5,h6,h7]
 rfl
theorem LV (b q:Nat):aX [pW b q]:=by
 refine ⟨by simp,fun i h => ?_⟩
 have h':i < 1:=by simpa using h
 obtain rfl:i = 0:=by omega
 refine ⟨?_,fun k hk=>by omega,?_⟩
 ·show cO ⟨#[116,48]⟩=true
  decide +kernel
 ·show fH [pW b q] 0 (pW b q) = 0
  have hs:eQ (pW b q)=true:=rfl
  rw [fH,if_pos hs]
  refine fB fun i hi => ?_
  have hi':i < 2:=hi
  rcases (show i = 0∨i = 1 by omega) with rfl|rfl
  ·exact Kk _ b q
  ·exact Kj _ b q
theorem Hy (b q:Nat):aN [pW b q]:=by
 refine ⟨by simp,fun t ht => ?_⟩
 rw [List.mem_singleton.1 ht]
 refine ⟨show 2 ≤ 1000000 by omega,show 2 ≤ 1000000 by omega,Nat.le_refl 2,fun x hx => ?_⟩
 have hx:x=dR∨x=dM b:=by simpa [pW] using hx
 rcases hx with rfl|rfl
 ·exact ⟨show 2 ≤ 1000000 by omega,show 6 ≤ 1000000 by omega,show 0 ≤ 1000000 by omega,show 0 ≤ 1000000 by omega⟩
 ·exact ⟨show 2 ≤ 1000000 by omega,show 0 ≤ 1000000 by omega,show 0 ≤ 1000000 by omega,show 1 ≤ 1000000 by omega⟩
theorem D9 {P:Prop} (h:P:=by
 refine hK.out _ _ _ ⟨(HIX.out.cat.below vO hzc),(HBX.out.below vO hzT)⟩ (fun hHeld => ?_)
 clear hK K
 refine tkT 7 hHeld ?_ (hy:=by intro w' hSw;obtain ⟨sw1,sw2⟩:=hSw;obtain ⟨sa0,sa1,sa2,sa3,sa4,sa5,sa6,sa7⟩:=Cat.blk sw1;obtain ⟨sb0,sb1,sb2,sb3⟩:=Tab.blk sw2;clear sw1 sw2;go_simp;first|done|with_reducible rfl)
 refine rzT 8 (fun K hK => ?_)
 clear hHeld
 have J7:=HBD.out.below vO hzX
 have s0:=J7.cell 0
 have sf:=J7.frozen 0
 simp only [gE3] at s0
 go_simp
 refine hK.out _ _ _ ?_
 clear hK K
 refine bn krA ?_ _
 go_wp2_with fail
 go_meet
 refine ⟨A10,c10,by simpa using Ez,?_,?_,fun a ha => ?_,ak (bu vO _) (.inl rfl) _⟩
 ·have:=J7.bS 0 (.slice A10 (ts.length + 1) c10)
  simpa using this
 ·have:=GV.far (p:=⟨V.heap.size,0,none⟩) (fun a ha e=>by have:=(yL a ha).1;have e:a.block=V.heap.size:=e;omega) (.slice A10 (ts.length + 1) c10)
  simpa using this
 ·have:=yL a ha
  simpa using this):P:=h
def lM (B:Nat) (A:Option Addr) (ts:List Tab):Prop:=(∀ a,A=some a→a.block<B) ∧ ∀ t∈ts,(∀ a,t.A=some a→a.block<B) ∧ ∀ x∈t.af,∀ a,x.A=some a→a.block<B
theorem lM.mono {B B':Nat} {A:Option Addr} {ts:List Tab} (h:lM B A ts) (hB:B≤B'):lM B' A ts :=
 ⟨fun a ha=>Nat.lt_of_lt_of_le (h.1 a ha) hB,fun t ht=>⟨fun a ha=>Nat.lt_of_lt_of_le ((h.2 t ht).1 a ha) hB,fun x hx a ha=>Nat.lt_of_lt_of_le ((h.2 t ht).2 x hx a ha) hB⟩⟩
theorem lM.ne {B q:Nat} {A:Option Addr} {ts:List Tab} (h:lM B A ts) (hq:B≤q):nJ q A ts :=
 ⟨fun a ha e=>by have:=h.1 a ha;omega,fun t ht=>⟨fun a ha e=>by have:=(h.2 t ht).1 a ha;omega,fun x hx a ha e=>by have:=(h.2 t ht).2 x hx a ha;omega⟩⟩
theorem aM.gK {w w':World} {A:Option Addr} {ts:List Tab} {d:Nat} (h:aM w w.heap.size A ts) (hg:w.grownBy w' (some d)) (hne:nJ d A ts):aM w' w'.heap.size A ts :=
 ⟨h.1.grown hg (fun a ha e=>hne.1 a ha (by injection e)),fun t ht=>⟨(h.2 t ht).1.grown hg (fun a ha e=>(hne.2 t ht).1 a ha (by injection e)),fun x hx=>((h.2 t ht).2 x hx).grown hg (fun a ha e=>(hne.2 t ht).2 x hx a ha (by injection e))⟩⟩
theorem fE.ne {B q:Nat} {A:Option Addr} {ts:List Tab} (h:fE B A ts) (hq:q<B):nJ q A ts :=
 ⟨fun a ha e=>by have:=h.1 a ha;omega,fun t ht=>⟨fun a ha e=>by have:=(h.2 t ht).1 a ha;omega,fun x hx a ha e=>by have:=(h.2 t ht).2 x hx a ha;omega⟩⟩
theorem fE.app {B:Nat} {A A':Option Addr} {ts:List Tab} {t:Tab} (h:fE B A ts) (h1 : ∀ a,A'=some a→B≤a.block) (h2 : ∀ a,t.A=some a→B≤a.block) (h3 : ∀ x∈t.af,∀ a,x.A=some a→B≤a.block):fE B A' (ts ++ [t]) :=
 ⟨h1,fun y hy=>by
  rcases List.mem_append.1 hy with hy|hy
  ·exact h.2 y hy
  ·rw [List.mem_singleton.1 hy];exact ⟨h2,h3⟩⟩
theorem lM.app {B:Nat} {A A':Option Addr} {ts:List Tab} {t:Tab} (h:lM B A ts) (h1 : ∀ a,A'=some a→a.block<B) (h2 : ∀ a,t.A=some a→a.block<B) (h3 : ∀ x∈t.af,∀ a,x.A=some a→a.block<B):lM B A' (ts ++ [t]) :=
 ⟨h1,fun y hy=>by
  rcases List.mem_append.1 hy with hy|hy
  ·exact h.2 y hy
  ·rw [List.mem_singleton.1 hy];exact ⟨h2,h3⟩⟩
theorem aN.app {ts:List Tab} {t:Tab} (h:aN ts) (hl:ts.length ≤ 100) (ht:Fy t):aN (ts ++ [t]) :=
 ⟨by simp;omega,fun y hy=>by
  rcases List.mem_append.1 hy with hy|hy
  ·exact h.tabs y hy
  ·rw [List.mem_singleton.1 hy];exact ht⟩
theorem aM.app {w:World} {A A':Option Addr} {ts:List Tab} {t:Tab} (h:aM w w.heap.size A ts) (hs:ah w w.heap.size Tab.cells 4 A' (ts ++ [t])) (ht:fP w w.heap.size t.A t.af):aM w w.heap.size A' (ts ++ [t]) :=
 ⟨hs,fun y hy=>by
  rcases List.mem_append.1 hy with hy|hy
  ·exact h.2 y hy
  ·rw [List.mem_singleton.1 hy];exact ht⟩
structure nL (w:World) (g b:Nat) (A:Option Addr) (c:Nat) (ts:List Tab) (u:World):Prop where
 cat:Blk u (w.heap.size + 1) 39 #[.slice A ts.length c, .slice none 0 0, .slice none 0 0, .slice none 0 0, .slice none 0 0, .slice none 0 0, .slice none 0 0, .slice none 0 0]
 res:Blk u w.heap.size 39 #[.slice none 0 0, .slice none 0 0, .slice none 0 0, .slice none 0 0, .slice none 0 0, .slice none 0 0, .slice none 0 0, .slice none 0 0]
 tabs:aM u u.heap.size A ts
 up:fE (w.heap.size + 2) A ts
 bd:lM u.heap.size A ts
 ok:aX ts
 bV:aN ts
 cap:ts.length≤c
 tape:aP u g b
 grown:w.grownBy u (some g)
 ltg:g<w.heap.size
 ltb:b<w.heap.size
section
variable {w u v:World} {g b:Nat} {A:Option Addr} {c:Nat} {ts:List Tab}
theorem nL.next (h:nL w g b A c ts u) (hg:u.grownBy v (some g)) (hk:aP v g b):nL w g b A c ts v:=by
 have h1:=h.ltg
 have hne : ∀ i,w.heap.size≤i→some i≠some g:=fun i hi e=>by injection e with e;omega
 exact ⟨h.cat.grown hg (hne _ omA),h.res.grown hg (hne _ omA),h.tabs.grown h.up omA hg,h.up,h.bd.mono hg.size,h.ok,h.bV,h.cap,hk,aC h.grown hg,h.ltg,h.ltb⟩
theorem Hw:aX []:=⟨by simp,fun i h=>by simp at h⟩
theorem Gm:aN []:=⟨by simp,fun t h=>by simp at h⟩
end
theorem dN.LQ {M w0:Nat} {u:World} {x:Col} (h:dN M w0 u x) {p:Addr} (hp:p.block<w0) (z:Value):dN M w0 (u.setCell p z) x :=
 ⟨h.name,h.ns,h.refs,h.own,h.cap,by have:=h.list.far (p:=p) (fun a ha e=>by have:=h.up a ha;omega) z;simpa using this,h.up,fun a ha=>by simpa using h.lt a ha⟩
theorem aP.Q6 {w:World} {g b:Nat} (h:aP w g b):aP w.drew g b:=h.below (brf.drew)
theorem BC (g b n:Nat) (w:World) (hk:aP w g b) (hn:n ≤ 3) (hn1 : 1≤n) :
 Calls Tryz.prog 9 #[.pointer (some ⟨g,0,none⟩), .int .i64 n] w fun e w' =>
  ∃ (A:Option Addr) (c:Nat) (ts:List Tab),e = .returned (.agg #[.slice A ts.length c, .slice none 0 0, .slice none 0 0, .slice none 0 0, .slice none 0 0, .slice none 0 0, .slice none 0 0, .slice none 0 0])∧aM w' w'.heap.size A ts∧fE w.heap.size A ts∧lM w'.heap.size A ts∧aN ts∧aX ts ∧ 0<ts.length∧ts.length≤n∧aP w' g b∧w.grownBy w' (some g):=by
 have HK:=qh hk
 have hgl:=hk.ltg
 have hbl:=hk.lt
 obtain ⟨ic,hic,Eo,En,Em⟩:=info_parts Ac
 obtain ⟨it,hit,Cz,Cy,Cx⟩:=info_parts Ff
 clear hk
 go_enter Tryz.func9,Tryz.ntmps9
 go_upto_region 2 with (fail)
 refine ai (P:=fun u=>Code.wp _ _ _ _ u) (R:=fun u=>nL w g b none 0 ([]:List Tab) u) ?_ ?_
 ·refine ⟨Blk.new' spA,(Blk.new' rfl).alloc _,⟨ah.nil,fun t h=>by simp at h⟩,⟨fun a ha=>(by cases ha),fun t h=>by simp at h⟩,⟨fun a ha=>(by cases ha),fun t h=>by simp at h⟩,Hw,Gm,Nat.le_refl _,(HK.out.alloc _).alloc _,bu ay _,hgl,hbl⟩
 rintro W hinv
 have fO:=qh hinv
 clear hinv HK
 go_upto_block 0 with (fail)
 go_cut [] (fun wc => ∃ (A:Option Addr) (c:Nat) (ts:List Tab),ts.length≤n∧nL w g b A c ts wc)
 case first =>
  go_wp2_with fail
  go_loopw [6] (fun vi wr => ∃ (i:Nat) (A:Option Addr) (c:Nat) (ts:List Tab),i≤n∧vi = .int .i64 i∧ts.length≤i∧nL w g b A c ts wr) (fun vi _=>n - (intOf vi).toNat)
  case atStart=>exact ⟨0,none,0,[],Nat.zero_le _,rfl,Nat.le_refl _,fO.out⟩
  case round =>
   clear fO
   obtain ⟨i,A,c,ts,hin,rfl,htl,hinv⟩:=hrel
   have fO:=qh hinv
   have hwz:=hinv.cat.lt
   have hU:=hinv.tape
   clear hinv
   by_cases hlt:i<n
   ·have hlt':decide (i<n)=true:=by simpa using hlt
    have SN:(i:Int)<(n:Int):=by omega
    have HT0:=qh hU
    clear hU
    go_wp2_with fail
    (with_reducible refine (pJ ⟨#[116]⟩ i omA (by decide) _).mono ?_)
    rintro e w1 ⟨rfl,hb1⟩
    obtain ⟨nx,hnx⟩ : ∃ nx:ByteArray,(⟨#[116]⟩++⟨#[qY i]⟩:ByteArray)=nx:=⟨_,rfl⟩
    have SF:nx.size ≤ 2:=by rw [← hnx,ByteArray.size_append];exact Nat.le_refl 2
    rw [hnx]
    have hg1:wr.grownBy w1 (some g):=bu hb1 _
    have HT1:=qh (HT0.out.below hb1)
    clear HT0 hnx hb1
    go_wp2_with fail
    (with_reducible refine (aD g b 2 _ HT1.out omA omA).mono ?_)
    rintro e w2 ⟨r2,rfl,hr2,hk2,hg2⟩
    have Ar:=aC hg1 hg2
    have HT2:=qh hk2
    clear HT1 hk2 hg1 hg2
    go_wp2_with fail
    (with_reducible refine (aD g b 4 _ (HT2.out.alloc _) omA omA).mono ?_)
    rintro e w3 ⟨r3,rfl,hr3,hk3,hg3⟩
    have Ai:r3 < 4:=by rcases hr3 with h|h <;> omega
    have hL:Blk w3 w2.heap.size 3 #[.int .i64 0, .int .i64 0, .int .i64 25, .int .i64 40]:=Blk.grown (Blk.new' rfl) hg3 (fun e=>by injection e with e;have:=Ar.size;omega)
    obtain ⟨z3,hz3⟩ : ∃ z:Int,w3.cell? ⟨w2.heap.size,r3,none⟩=some (.int .i64 z):=by
     rw [hL.cell]
     rcases (show r3 = 0∨r3 = 1∨r3 = 2∨r3 = 3 by omega) with rfl|rfl|rfl|rfl
     all_goals exact ⟨_,rfl⟩
    have NL:=aC (aZ Ar _) hg3
    have HT3:=qh hk3
    clear HT2 hk3 Ar hg3 hL hr2 hr3
    go_upto_region 6 with (fail)
    obtain ⟨T,hT⟩ : ∃ T,w3.heap.size=T:=⟨_,rfl⟩
    rw [hT]
    refine ai (P:=fun u=>Code.wp _ _ _ _ u) (R:=fun u=>Blk u T 77 #[.string nx, .slice none 0 0, .int .i64 r2, .int .i64 z3]∧aP u g b∧wr.grownBy u (some g)) ⟨?_,?_,?_⟩ ?_
    ·exact Blk.new' hT
    ·exact HT3.out.alloc _
    ·exact aZ NL _
    have hTz:wr.heap.size≤T:=by have:=NL.size;omega
    clear HT3 NL hT hz3
    rintro U ⟨hBU,hKU,hGU⟩
    have HBU:=qh hBU
    have HKU:=qh hKU
    have hUz:=hBU.lt
    clear hBU hKU
    go_wp2_with fail
    (with_reducible refine (aD g b 3 _ HKU.out omA omA).mono ?_)
    rintro e w4 ⟨r4,rfl,hr4,hk4,hg4⟩
    have PZ:r4 < 3:=by rcases hr4 with h|h <;> omega
    have hG4:=aC hGU hg4
    have HT4:=qh hk4
    have HB4:=qh (HBU.out.grown hg4 (fun e=>by injection e with e;omega))
    have hz4:=hG4.size
    have TF:=HB4.out.lt
    clear HKU HBU hGU hk4 hg4 hr4
    go_wp2_with fail
    obtain ⟨wo,rfl⟩ : ∃ wo:World,wo=wr:=⟨_,rfl⟩
    go_loopw [8] (fun vm wi => ∃ (mm:Nat) (A9:Option Addr) (c9:Nat) (af:List Col),vm = .int .i64 mm∧af.length+mm = 2+r4∧Blk wi T 77 #[.string nx, .slice A9 af.length c9, .int .i64 r2, .int .i64 z3]∧aB wi (T + 1) 79 Col.cells 7 (.slice A9 af.length c9) af∧(∀ x∈af,EN x)∧aP wi g b∧wo.grownBy wi (some g)) (fun vm _=>(intOf vm).toNat)
    case atStart=>exact ⟨2+r4,none,0,[],by go_num,by simp,HB4.out,aB.nil,fun x h=>absurd h spA,HT4.out,hG4⟩
    case round =>
     clear HB4 HT4 hG4 hz4 TF hUz
     obtain ⟨mm,A9,c9,af,rfl,hmm,hB5,hO5,hN5,hK5,hG5⟩:=hrel
     have hI5:=fO.out.next hG5 hK5
     have HI5:=qh hI5
     have HB5:=qh hB5
     have HO5:=qh hO5
     have HN5:=qh hN5
     have HK5:=qh hK5
     have hrow:=hO5.row
     have TE:=hB5.lt
     have fJ:=hI5.cat
     obtain ⟨p0,p1,p2,p3⟩:=Tab.blk hB5
     have hz5:=hG5.size
     by_cases hm0 : 0<mm
     ·have Vm:(0:Int)<(mm:Int):=by omega
      have VH:af.length ≤ 4:=by omega
      clear hI5 hO5 hN5 hK5
      go_upto_region 9 with (fail)
      clear p0 p1 p2 p3
      have uN:=qh fJ
      refine aR (S:=(fun w'=>Blk w' (w.heap.size + 1) 39 #[.slice A ts.length c, .slice none 0 0, .slice none 0 0, .slice none 0 0, .slice none 0 0, .slice none 0 0, .slice none 0 0, .slice none 0 0]∧Blk w' T 77 #[.string nx, .slice A9 af.length c9, .int .i64 r2, .int .i64 z3])) [12] krA ⟨fJ.drew,hB5.drew⟩ (fun hHeld => ?_)
      clear fJ hB5
      refine tkT 0 hHeld ?_ (hy:=by intro w' hSw;obtain ⟨sw1,sw2⟩:=hSw;obtain ⟨sa0,sa1,sa2,sa3,sa4,sa5,sa6,sa7⟩:=Cat.blk sw1;obtain ⟨sb0,sb1,sb2,sb3⟩:=Tab.blk sw2;clear sw1 sw2;go_simp;first|done|with_reducible rfl)
      refine tkT 1 hHeld ?_ (hy:=by intro w' hSw;obtain ⟨sw1,sw2⟩:=hSw;obtain ⟨sa0,sa1,sa2,sa3,sa4,sa5,sa6,sa7⟩:=Cat.blk sw1;obtain ⟨sb0,sb1,sb2,sb3⟩:=Tab.blk sw2;clear sw1 sw2;go_simp;first|done|with_reducible rfl)
      refine tkT 2 hHeld ?_ (hy:=by intro w' hSw;obtain ⟨sw1,sw2⟩:=hSw;obtain ⟨sa0,sa1,sa2,sa3,sa4,sa5,sa6,sa7⟩:=Cat.blk sw1;obtain ⟨sb0,sb1,sb2,sb3⟩:=Tab.blk sw2;clear sw1 sw2;go_simp;first|done|with_reducible rfl)
      refine tkT 3 hHeld ?_ (hy:=by intro w' hSw;obtain ⟨sw1,sw2⟩:=hSw;obtain ⟨sa0,sa1,sa2,sa3,sa4,sa5,sa6,sa7⟩:=Cat.blk sw1;obtain ⟨sb0,sb1,sb2,sb3⟩:=Tab.blk sw2;clear sw1 sw2;go_simp;first|done|with_reducible rfl)
      refine tkT 4 hHeld ?_ (hy:=by intro w' hSw;obtain ⟨sw1,sw2⟩:=hSw;obtain ⟨sa0,sa1,sa2,sa3,sa4,sa5,sa6,sa7⟩:=Cat.blk sw1;obtain ⟨sb0,sb1,sb2,sb3⟩:=Tab.blk sw2;clear sw1 sw2;go_simp;first|done|with_reducible rfl)
      refine tkT 5 hHeld ?_ (hy:=by intro w' hSw;obtain ⟨sw1,sw2⟩:=hSw;obtain ⟨sa0,sa1,sa2,sa3,sa4,sa5,sa6,sa7⟩:=Cat.blk sw1;obtain ⟨sb0,sb1,sb2,sb3⟩:=Tab.blk sw2;clear sw1 sw2;go_simp;first|done|with_reducible rfl)
      refine tkT 6 hHeld ?_ (hy:=by intro w' hSw;obtain ⟨sw1,sw2⟩:=hSw;obtain ⟨sa0,sa1,sa2,sa3,sa4,sa5,sa6,sa7⟩:=Cat.blk sw1;obtain ⟨sb0,sb1,sb2,sb3⟩:=Tab.blk sw2;clear sw1 sw2;go_simp;first|done|with_reducible rfl)
      refine tkT 7 hHeld ?_ (hy:=by intro w' hSw;obtain ⟨sw1,sw2⟩:=hSw;obtain ⟨sa0,sa1,sa2,sa3,sa4,sa5,sa6,sa7⟩:=Cat.blk sw1;obtain ⟨sb0,sb1,sb2,sb3⟩:=Tab.blk sw2;clear sw1 sw2;go_simp;first|done|with_reducible rfl)
      refine r1T 8 (fun K hK => ?_)
      go_simp
      (with_reducible refine (BB g b (w.heap.size + 2) A c ts.length ts _ af.length _ HK5.out.Q6 (HI5.out.tabs.next ay) rfl HI5.out.up omA omA (fun t ht=>by obtain ⟨k,hk,rfl⟩:=List.getElem_of_mem ht;exact (HI5.out.ok.af hk).1) HI5.out.bV omA ⟨nx, .slice A9 af.length c9,r2,z3,rfl,rfl⟩).mono ?_)
      rintro e w5 ⟨⟨xn,xt,xs,xr,xA,xc,xo,xj,xd⟩,rfl,hxn,hk6,hg6⟩
      have SG:some T≠some g:=fun e=>by injection e with e;omega
      have SH:some (w.heap.size + 1)≠some g:=fun e=>by injection e with e;omega
      have HK6:=qh hk6
      have hG6:wo.grownBy w5 (some g):=aC (qX hG5) hg6
      have HO6:=qh (HO5.out.drew.grown hg6 omA)
      have hz6:=hG6.size
      have HXN:=qh hxn
      have VT:T<w5.heap.size:=by have:=hg6.size;simp at this;omega
      clear hk6 hxn
      go_wp2_with fail
      refine hK.out _ _ _ ⟨(hHeld.1.grown hg6 SH),(hHeld.2.grown hg6 SG)⟩ (fun hHeld => ?_)
      clear hK K
      clear hg6
      refine r1T 9 (fun K hK => ?_)
      dsimp only [Col.cells]
      go_simp
      refine hK.out _ _ _ ⟨(hHeld.1.alloc _),(hHeld.2.alloc _)⟩ (fun hHeld => ?_)
      clear hK K
      refine r1T 10 (fun K hK => ?_)
      (refine au _ rfl (.tmp 33) (.tmp 41) 75 rfl 79 ic _ Col.cells 7 96 Tryz.underlying75 hic Eo En Em rfl omA dC AB (T + 1) (.slice A9 af.length c9) af rfl (HO6.out.alloc _) _ _ _ [⟨xn,xt,xs,xr,xA,xc,xo,xj,xd⟩] rfl rfl (Blk.one (enc:=Col.cells) (x:=⟨xn,xt,xs,xr,xA,xc,xo,xj,xd⟩) (Blk.new' rfl) spA) smA mxA smA ?_;intro v' w6 hown6 hg7 Ob)
      obtain ⟨A10,c10,rfl,Ez,yL⟩:=hown6.form
      have Ag : ∀ k,k<T + 1→some k≠(Value.slice A9 af.length c9).ownBlock:=fun k hk e=>by have:=hrow _ e.symm;omega
      have HK7:=qh ((HK6.out.alloc _).oN hg7 (Ag g omA) (Ag b omA))
      have hG7:wo.grownBy w6 (some g):=dO (aZ hG6 _) hg7 (fun q e=>by have:=hrow q e;omega)
      refine hK.out _ _ _ ⟨(hHeld.1.grown hg7 (Ag _ omA)),(hHeld.2.grown hg7 (Ag _ omA))⟩ (fun hHeld => ?_)
      clear hK K
      have HB7:=qh hHeld.2
      have HO7:=qh hown6
      have VS:=hHeld.2.lt
      obtain ⟨_,s1,_,_⟩:=Tab.blk hHeld.2
      have sf:=hHeld.2.frozen 1
      clear hown6 hg7 Ob Ez yL
      refine tkT 11 hHeld ?_ (hy:=by intro w' hSw;obtain ⟨sw1,sw2⟩:=hSw;obtain ⟨sa0,sa1,sa2,sa3,sa4,sa5,sa6,sa7⟩:=Cat.blk sw1;obtain ⟨sb0,sb1,sb2,sb3⟩:=Tab.blk sw2;clear sw1 sw2;go_simp;first|done|with_reducible rfl)
      refine rzT 12 (fun K hK => ?_)
      clear hHeld
      go_simp
      refine hK.out _ _ _ ?_
      clear hK K
      refine bn krA ?_ _
      clear s1 sf
      go_wp2_with fail
      go_roundw
      case rel =>
       refine ⟨mm - 1,A10,c10,af ++ [⟨xn,xt,xs,xr,xA,xc,xo,xj,xd⟩],by go_num,by simp;omega,?_,HO7.out.far (fun k hk e => ?_) _,fun y hy => ?_,HK7.out.far smA smA _,ak hG7 (.inr smA) _⟩
       ·have:=HB7.out.bS 1 (.slice A10 (af ++ [(⟨xn,xt,xs,xr,xA,xc,xo,xj,xd⟩:Col)]).length c10)
        simpa using this
       ·have h1:=HO7.out.row k hk
        have e:k=T:=e
        omega
       ·rcases List.mem_append.1 hy with h|h
        ·exact HN5.out y h
        ·rw [List.mem_singleton.1 h]
         exact HXN.out
      case measure=>exact meA
     ·obtain rfl:mm = 0:=by omega
      have hpos : 0<af.length:=by omega
      have Tn:af.length ≤ 8:=by omega
      obtain ⟨q,cap,hq,hTq⟩:=hO5.BG hpos
      injection hq with hq1 hq2 hq3
      subst hq1 hq3
      clear hq2 hI5 hO5 hN5 hK5
      obtain ⟨a0,a1,a2,a3,a4,a5,a6,a7⟩:=Cat.blk fJ
      clear fJ
      go_wp2_with fail
      (with_reducible refine (IC g b (w.heap.size + 2) (T + 1) q af.length c9 A c ts.length ts nx af r2 z3 _ HK5.out HI5.out.tabs rfl HI5.out.up omA (fO.out.bd.ne omA) omA (fun t ht=>by obtain ⟨k,hk,rfl⟩:=List.getElem_of_mem ht;exact (HI5.out.ok.af hk).1) HI5.out.bV HO5.out rfl Tn HN5.out omA omA).mono ?_)
      rintro e w7 ⟨iO,er7,rfl,hO7,hl7,hf7,hk7,Am⟩
      have hz7:=Am.size
      have QT:T≠q:=by omega
      have hB7:Blk w7 T 77 #[.string nx, .slice (some ⟨q,0,none⟩) af.length c9, .int .i64 r2, .int .i64 z3]:=(Am.block T TE omA QT).trans hB5
      have hG7:wo.grownBy w7 (some g):=Am.up hG5 omA
      have HB7:=qh hB7
      have HO7:=qh hO7
      have HF7:=qh hf7
      have HK7:=qh hk7
      have HL7:=qh hl7
      obtain ⟨p0,p1,p2,p3⟩:=Tab.blk hB7
      have f0:=hB7.frozen 0
      have f1:=hB7.frozen 1
      have f2:=hB7.frozen 2
      have f3:=hB7.frozen 3
      clear hB7 hO7 hf7 hk7 hl7 Am hB5 a0 a1 a2 a3 a4 a5 a6 a7 HI5 HO5 HN5 HK5 HB5
      go_upto_region 11 with (fail)
      refine ai (P:=fun u=>Code.wp _ _ _ _ u) (R:=fun u=>Blk u T 77 #[.string nx, .slice (some ⟨q,0,none⟩) af.length c9, .int .i64 er7, .int .i64 z3]∧aB u (T + 1) 79 Col.cells 7 (.slice (some ⟨q,0,none⟩) af.length c9) iO∧(∀ x∈iO,dN 100 (T + 1) u x)∧aP u g b∧wo.grownBy u (some g)) ⟨?_,?_,?_,?_,?_⟩ ?_
      ·with_reducible refine Blk.eq ((((HB7.out.bS 0 _).bS 1 _).bS 2 _).bS 3 _) ?_
       simp
      ·have oH : ∀ k,(Value.slice (some ⟨q,0,none⟩) af.length c9).ownBlock=some k→k≠T:=fun k hk=>by have:=HO7.out.row k hk;omega
       exact (((HO7.out.far oH _).far oH _).far oH _).far oH _
      ·intro x hx
       have f:=HF7.out x hx
       have f':dN 100 (T + 1) w7 x:=⟨f.name,f.ns,f.refs,f.own,f.cap,f.list,fun a ha=>by have:=f.up a ha;omega,f.lt⟩
       exact (((f'.LQ (Nat.lt_succ_self T) _).LQ (Nat.lt_succ_self T) _).LQ (Nat.lt_succ_self T) _).LQ (Nat.lt_succ_self T) _
      ·have n1:g≠T:=by omega
       have n2:b≠T:=by omega
       exact (((HK7.out.far n1 n2 _).far n1 n2 _).far n1 n2 _).far n1 n2 _
      ·exact ak (ak (ak (ak hG7 (.inr hTz) _) (.inr hTz) _) (.inr hTz) _) (.inr hTz) _
      clear HB7 HO7 HF7 HK7 hG7 p0 p1 p2 p3 f0 f1 f2 f3 QT
      rintro V ⟨hB8,hO8,hF8,hK8,hG8⟩
      have hI8:=fO.out.next hG8 hK8
      have HI8:=qh hI8
      have HB8:=qh hB8
      have HO8:=qh hO8
      have HF8:=qh hF8
      have TD:=hB8.lt
      have Sw:=hO8.lt q rfl
      have VD:=hI8.cat.lt
      obtain ⟨a0,a1,a2,a3,a4,a5,a6,a7⟩:=Cat.blk hI8.cat
      clear hB8 hO8 hF8 hK8 hI8
      go_upto_region 12 with (fail)
      obtain ⟨D,hD⟩ : ∃ D,V.heap.size=D:=⟨_,rfl⟩
      rw [hD]
      refine ai (P:=fun u=>Code.wp _ _ _ _ u) (R:=fun u=>Blk u D 39 #[.slice A ts.length c, .slice none 0 0, .slice none 0 0, .slice none 0 0, .slice none 0 0, .slice none 0 0, .slice none 0 0, .slice none 0 0]∧Below V.heap.size V u) ⟨?_,?_⟩ ?_
      ·exact Blk.new' hD
      ·exact ay
      clear a0 a1 a2 a3 a4 a5 a6 a7
      rintro X ⟨hBD,hbX⟩
      rw [← hD] at hBD ⊢
      have hzX:=hBD.lt
      have hGX:wo.grownBy X (some g):=CS hG8 hbX
      have HIX:=qh (HI8.out.next (bu hbX _) (HI8.out.tape.below hbX))
      have HBX:=qh (HB8.out.below hbX TD)
      have HOX:=qh (HO8.out.below hbX nlr)
      have HFX:Hid (∀ x∈iO,dN 100 (T + 1) X x):=qh (fun x hx=>(HF8.out x hx).keep (bu hbX none) (fun i e=>by cases e))
      have HBD:=qh hBD
      have hcX:=HIX.out.cat
      have hbT:=HBX.out
      have UZ:ts.length ≤ 3:=by omega
      have Ql : ∀ x∈iO,∀ a,x.A=some a→a.block<V.heap.size:=fun x hx=>(HF8.out x hx).lt
      have HLV:=qh Ql
      clear HB8 HO8 HF8 HI8 hG8 hbX hD Ql
      have hcells:(Tab.cells ⟨nx,some ⟨q,0,none⟩,c9,iO,er7,z3⟩).toArray = #[.string nx, .slice (some ⟨q,0,none⟩) af.length c9, .int .i64 er7, .int .i64 z3]:=by simp [Tab.cells,HL7.out]
      have HCE:=qh hcells
      have hzc:w.heap.size + 1<X.heap.size:=HIX.out.cat.lt
      have hzT:T<X.heap.size:=HBX.out.lt
      clear hcells
      go_cut [] (fun wc => ∃ (A10:Option Addr) (c10:Nat),ts.length + 1≤c10∧Blk wc V.heap.size 39 #[.slice A10 (ts.length + 1) c10, .slice none 0 0, .slice none 0 0, .slice none 0 0, .slice none 0 0, .slice none 0 0, .slice none 0 0, .slice none 0 0]∧ah wc wc.heap.size Tab.cells 4 A10 (ts ++ [⟨nx,some ⟨q,0,none⟩,c9,iO,er7,z3⟩])∧(∀ a,A10=some a→X.heap.size≤a.block∧a.block<wc.heap.size)∧X.grownBy wc (some V.heap.size))
      case first =>
       refine aR (S:=(fun w'=>Blk w' (w.heap.size + 1) 39 #[.slice A ts.length c, .slice none 0 0, .slice none 0 0, .slice none 0 0, .slice none 0 0, .slice none 0 0, .slice none 0 0, .slice none 0 0]∧Blk w' T 77 #[.string nx, .slice (some ⟨q,0,none⟩) af.length c9, .int .i64 er7, .int .i64 z3])) [8] krA ⟨hcX.drew,hbT.drew⟩ (fun hHeld => ?_)
       clear hcX hbT hBD
       refine tkT 1 hHeld ?_ (hy:=by intro w' hSw;obtain ⟨sw1,sw2⟩:=hSw;obtain ⟨sa0,sa1,sa2,sa3,sa4,sa5,sa6,sa7⟩:=Cat.blk sw1;obtain ⟨sb0,sb1,sb2,sb3⟩:=Tab.blk sw2;clear sw1 sw2;go_simp;first|done|with_reducible rfl)
       refine tkT 2 hHeld ?_ (hy:=by intro w' hSw;obtain ⟨sw1,sw2⟩:=hSw;obtain ⟨sa0,sa1,sa2,sa3,sa4,sa5,sa6,sa7⟩:=Cat.blk sw1;obtain ⟨sb0,sb1,sb2,sb3⟩:=Tab.blk sw2;clear sw1 sw2;go_simp;first|done|with_reducible rfl)
       refine tkT 4 hHeld ?_ (hy:=by intro w' hSw;obtain ⟨sw1,sw2⟩:=hSw;obtain ⟨sa0,sa1,sa2,sa3,sa4,sa5,sa6,sa7⟩:=Cat.blk sw1;obtain ⟨sb0,sb1,sb2,sb3⟩:=Tab.blk sw2;clear sw1 sw2;go_simp;first|done|with_reducible rfl)
       refine r2T 0 5 (fun K hK => ?_) (fun K hK => ?_)
       ·go_simp
        refine hK.out _ _ _ ⟨(hHeld.1.alloc _),(hHeld.2.alloc _)⟩ (fun hHeld => ?_)
        clear hK K
        refine r2T 3 5 (fun K hK => ?_) (fun K hK => ?_)
        ·(refine au _ rfl (.tmp 49) (.tmp 51) 30 rfl 77 it _ Tab.cells 4 56 Tryz.underlying30 hit Cz Cy Cx rfl omA eP mZ X.heap.size (.slice (some ⟨X.heap.size,0,none⟩) 0 0) [] rfl (aB.empty nbA leA) _ _ _ ts rfl rfl (HIX.out.tabs.1.next ay) smA mxA leA ?_;intro v1 w9 oG hg9 QM;have hb9:Below X.heap.size X w9:=Below.grown ay hg9 leA (aW leA);rw [List.nil_append] at oG;have hz9:=hb9.size)
         refine hK.out _ _ _ ⟨(HIX.out.cat.below hb9 hzc),(HBX.out.below hb9 hzT)⟩ (fun hHeld => ?_)
         clear hK K
         refine r1T 5 (fun K hK => ?_)
         go_simp
         refine hK.out _ _ _ ⟨(hHeld.1.alloc _),(hHeld.2.alloc _)⟩ (fun hHeld => ?_)
         clear hK K
         refine r1T 6 (fun K hK => ?_)
         (refine au _ rfl (.tmp 52) (.tmp 54) 30 rfl 77 it _ Tab.cells 4 56 Tryz.underlying30 hit Cz Cy Cx rfl omA eP mZ X.heap.size v1 ts rfl (oG.alloc _) _ _ _ [⟨nx,some ⟨q,0,none⟩,c9,iO,er7,z3⟩] rfl rfl (Blk.one (enc:=Tab.cells) (x:=⟨nx,some ⟨q,0,none⟩,c9,iO,er7,z3⟩) (by rw [HCE.out];exact (Blk.new' rfl)) spA) smA mxA leA ?_;intro v2 w10 xx Au MG;have vO:Below X.heap.size X w10:=Below.grown ay Au leA oG.row;have Nh:=vO.size;obtain ⟨A10,c10,rfl,Ez,GV,yL⟩:=xx.slice eP)
         exact D9
        ·go_simp
         refine hK.out _ _ _ ⟨(hHeld.1.alloc _),(hHeld.2.alloc _)⟩ (fun hHeld => ?_)
         clear hK K
         refine r1T 3 (fun K hK => ?_)
         (refine au _ rfl (.tmp 49) (.tmp 51) 30 rfl 77 it _ Tab.cells 4 56 Tryz.underlying30 hit Cz Cy Cx rfl omA eP mZ X.heap.size (.slice (some ⟨X.heap.size,0,none⟩) 0 0) [] rfl (aB.empty nbA leA) _ _ _ ts rfl rfl (HIX.out.tabs.1.next ay) smA mxA leA ?_;intro v1 w9 oG hg9 QM;have hb9:Below X.heap.size X w9:=Below.grown ay hg9 leA (aW leA);rw [List.nil_append] at oG;have hz9:=hb9.size)
         have hbt:=Blk.grown (g:=X.heap.size + 1) (t := 77) (cs := #[.string nx, .slice (some ⟨q,0,none⟩) af.length c9, .int .i64 er7, .int .i64 z3]) (by first|exact Blk.new' sdA|exact (Blk.new' sdA).drew) hg9 (dH omA)
         refine hK.out _ _ _ ⟨(HIX.out.cat.below hb9 hzc),(HBX.out.below hb9 hzT)⟩ (fun hHeld => ?_)
         clear hK K
         refine r1T 6 (fun K hK => ?_)
         (refine au _ rfl (.tmp 52) (.tmp 54) 30 rfl 77 it _ Tab.cells 4 56 Tryz.underlying30 hit Cz Cy Cx rfl omA eP mZ X.heap.size v1 ts rfl oG _ _ _ [⟨nx,some ⟨q,0,none⟩,c9,iO,er7,z3⟩] rfl rfl (Blk.one (enc:=Tab.cells) (x:=⟨nx,some ⟨q,0,none⟩,c9,iO,er7,z3⟩) (by rw [HCE.out];exact hbt) hbt.lt) smA mxA leA ?_;intro v2 w10 xx Au MG;have vO:Below X.heap.size X w10:=Below.grown ay Au leA oG.row;have Nh:=vO.size;obtain ⟨A10,c10,rfl,Ez,GV,yL⟩:=xx.slice eP)
         exact D9
       ·go_simp
        refine hK.out _ _ _ ⟨(hHeld.1.alloc _),(hHeld.2.alloc _)⟩ (fun hHeld => ?_)
        clear hK K
        refine r1T 0 (fun K hK => ?_)
        go_simp
        refine hK.out _ _ _ ⟨(hHeld.1.alloc _),(hHeld.2.alloc _)⟩ (fun hHeld => ?_)
        clear hK K
        refine r1T 3 (fun K hK => ?_)
        (refine au _ rfl (.tmp 49) (.tmp 51) 30 rfl 77 it _ Tab.cells 4 56 Tryz.underlying30 hit Cz Cy Cx rfl omA eP mZ X.heap.size (.slice (some ⟨(X.heap.size + 1),0,none⟩) 0 0) [] rfl (aB.empty nbA leA) _ _ _ ts rfl rfl (HIX.out.tabs.1.next ay) smA mxA leA ?_;intro v1 w9 oG hg9 QM;have hb9:Below X.heap.size X w9:=Below.grown ay hg9 leA (aW leA);rw [List.nil_append] at oG;have hz9:=hb9.size)
        have hbt:=Blk.grown (g:=X.heap.size) (t := 77) (cs := #[.string nx, .slice (some ⟨q,0,none⟩) af.length c9, .int .i64 er7, .int .i64 z3]) (by first|exact (Blk.new' sdA).alloc _|exact ((Blk.new' sdA).alloc _).drew|exact ((Blk.new' sdA).drew).alloc _) hg9 (dH omA)
        refine hK.out _ _ _ ⟨(HIX.out.cat.below hb9 hzc),(HBX.out.below hb9 hzT)⟩ (fun hHeld => ?_)
        clear hK K
        refine r1T 6 (fun K hK => ?_)
        (refine au _ rfl (.tmp 52) (.tmp 54) 30 rfl 77 it _ Tab.cells 4 56 Tryz.underlying30 hit Cz Cy Cx rfl omA eP mZ X.heap.size v1 ts rfl oG _ _ _ [⟨nx,some ⟨q,0,none⟩,c9,iO,er7,z3⟩] rfl rfl (Blk.one (enc:=Tab.cells) (x:=⟨nx,some ⟨q,0,none⟩,c9,iO,er7,z3⟩) (by rw [HCE.out];exact hbt) hbt.lt) smA mxA leA ?_;intro v2 w10 xx Au MG;have vO:Below X.heap.size X w10:=Below.grown ay Au leA oG.row;have Nh:=vO.size;obtain ⟨A10,c10,rfl,Ez,GV,yL⟩:=xx.slice eP)
        exact D9
      case rest =>
       obtain ⟨A10,c10,Ez,J6,GV,yL,hgc⟩:=hcut
       clear hcX hbT hBD
       have UK:V.heap.size<X.heap.size:=hzX
       have R8:wo.heap.size≤V.heap.size:=by omega
       have VC:=hgc.size
       have htc:=HIX.out.tabs.gK hgc (fO.out.bd.ne R8)
       have hkc:aP wc g b:=HIX.out.tape.grown hgc omA omA
       have hGc:wo.grownBy wc (some g):=dO hGX hgc (fun i e=>by injection e with e;omega)
       have HIC:=qh (fO.out.next hGc hkc)
       have QB:fP wc wc.heap.size (some ⟨q,0,none⟩) iO:=by
        obtain ⟨A0,c0,he0,_,hsl0,_⟩:=HOX.out.slice dC
        injection he0 with he1 _ _
        subst he1
        exact ⟨hsl0.grown hgc (fun a ha e=>by injection ha with ha;subst ha;injection e with e;have e:q=V.heap.size:=e;omega),fun x hx=>(HFX.out x hx).list.grown hgc (fun a ha e=>by have:=HLV.out x hx a ha;injection e with e;omega)⟩
       have hti:=htc.app GV QB
       have hup:fE (w.heap.size + 2) A10 (ts ++ [⟨nx,some ⟨q,0,none⟩,c9,iO,er7,z3⟩]):=fO.out.up.app (fun a ha=>by have:=(yL a ha).1;omega) (fun a ha=>by injection ha with ha;subst ha;show w.heap.size + 2≤q;omega) (fun x hx a ha=>by have:=(HFX.out x hx).up a ha;omega)
       have hbd:lM wc.heap.size A10 (ts ++ [⟨nx,some ⟨q,0,none⟩,c9,iO,er7,z3⟩]):=(HIC.out.bd).app (fun a ha=>(yL a ha).2) (fun a ha=>by injection ha with ha;subst ha;show q<wc.heap.size;omega) (fun x hx a ha=>by have:=HLV.out x hx a ha;omega)
       have hsn:aN (ts ++ [⟨nx,some ⟨q,0,none⟩,c9,iO,er7,z3⟩]):=fO.out.bV.app omA ⟨show nx.size ≤ 1000000 by omega,by have:=HL7.out;show iO.length ≤ 1000000;omega,by (obtain ⟨_,_,he0,hcap,_,_⟩:=HOX.out.slice dC;injection he0 with _ _ he;rw [← he] at hcap;exact hcap),fun x hx=>by have f:=HFX.out x hx;exact ⟨f.name,f.ns,f.refs,by have:=f.own;omega⟩⟩
       obtain ⟨ts',Nr⟩ : ∃ l,ts ++ [⟨nx,some ⟨q,0,none⟩,c9,iO,er7,z3⟩]=l:=⟨_,rfl⟩
       have Ns:ts'.length=ts.length + 1:=by rw [← Nr];simp
       rw [Nr] at hti hup hbd hsn
       have HTI:=qh hti
       have HUP:=qh hup
       have OL:=qh hbd
       have HSN:=qh hsn
       have HTL:=qh Ns
       rw [← Ns] at J6 Ez
       have OM:=qh J6
       obtain ⟨a0,a1,a2,a3,a4,a5,a6,a7⟩:=Cat.blk J6
       have Sj:=J6.lt
       have Sq:ts'.length≤i + 1:=by omega
       clear hti hup hbd hsn Ns J6 GV yL hgc htc hkc QB hGc Nr HBX HOX HFX HLV HL7 HCE HIX hGX HBD
       cases hok:pb (aX ts')
       ·have HOK:=qh hok
        clear hok
        go_wp2_with fail
        (with_reducible refine (uU A10 c10 ts'.length ts' _ HTI.out rfl HSN.out HOK.out).mono ?_)
        rintro e w11 ⟨rfl,sH⟩
        have Dk:=qh (HIC.out.next (bu sH _) (HIC.out.tape.below sH))
        clear sH a0 a1 a2 a3 a4 a5 a6 a7
        go_upto_if 58 with (fail)
        go_cut [] (fun wd => ∃ (A:Option Addr) (c:Nat) (ts:List Tab),ts.length≤i + 1∧nL w g b A c ts wd)
        case first =>
         go_wp2_with fail
         go_meet
         exact ⟨A,c,ts,by omega,Dk.out⟩
        case rest =>
         (
         clear HIC HTI HUP OL HSN HTL OM Dk HOK
         obtain ⟨A,c,ts,hle,hinv⟩:=hcut
         have HID:=qh hinv
         obtain ⟨a0,_⟩:=Cat.blk hinv.cat
         have hkd:=hinv.tape
         clear hinv
         by_cases ht0:ts.length = 0
         ·have ht0':decide (0<ts.length)=false:=by rw [ht0];rfl
          clear hkd
          go_wp2_with fail
          go_roundw
          case rel=>exact ⟨i + 1,A,c,ts,by omega,by go_num,hle,HID.out⟩
          case measure=>exact meA
         ·have ht0':decide (0<ts.length)=true:=by simp;omega
          have HKD:=qh hkd
          clear hkd ht0
          go_wp2_with fail
          (with_reducible refine (aD g b 4 _ HKD.out omA omA).mono ?_)
          rintro e w12 ⟨r6,rfl,hr6,yI,Ar⟩
          have HIE:=qh (HID.out.next Ar yI)
          clear hr6 yI Ar a0 HID HKD
          by_cases hr0:r6 = 0
          ·subst hr0
           go_wp2_with fail
           go_meet
           exact ⟨A,c,ts,by omega,HIE.out⟩
          ·have oD:((r6:Int) == 0)=false:=by simp;omega
           clear hr0
           go_wp2_with fail
           go_roundw
           case rel=>exact ⟨i + 1,A,c,ts,by omega,by go_num,hle,HIE.out⟩
           case measure=>exact meA)
       ·have HOK:=qh hok
        clear hok
        go_wp2_with fail
        (with_reducible refine (uU A10 c10 ts'.length ts' _ HTI.out rfl HSN.out HOK.out).mono ?_)
        rintro e w11 ⟨rfl,sH⟩
        have Dk:=qh (HIC.out.next (bu sH _) (HIC.out.tape.below sH))
        have MH:=OM.out.below sH Sj
        have Mt:=HTI.out.next sH
        have RV:=qh (OL.out.mono sH.size)
        have UO:=sH.size
        clear sH a0 a1 a2 a3 a4 a5 a6 a7
        obtain ⟨a0,a1,a2,a3,a4,a5,a6,a7⟩:=Cat.blk MH
        have Q9:=qh Mt
        have fJ:=Dk.out.cat
        obtain ⟨b0,b1,b2,b3,b4,b5,b6,b7⟩:=Cat.blk fJ
        have f0:=fJ.frozen 0
        have f1:=fJ.frozen 1
        have f2:=fJ.frozen 2
        have f3:=fJ.frozen 3
        have f4:=fJ.frozen 4
        have f5:=fJ.frozen 5
        have f6:=fJ.frozen 6
        have f7:=fJ.frozen 7
        have uN:=qh fJ
        clear Mt MH fJ
        go_upto_if 58 with (fail)
        go_cut [] (fun wd => ∃ (A:Option Addr) (c:Nat) (ts:List Tab),ts.length≤i + 1∧nL w g b A c ts wd)
        case first =>
         go_wp2_with fail
         go_meet
         refine ⟨A10,c10,ts',Sq,?_⟩
         have hg:=ak (ak (ak (ak (ak (ak (ak (ak (iR w11 (some (w.heap.size + 1))) (p:=⟨w.heap.size + 1,0,none⟩) (.inl rfl) (.slice A10 ts'.length c10)) (p:=⟨w.heap.size + 1,1,none⟩) (.inl rfl) (.slice none 0 0)) (p:=⟨w.heap.size + 1,2,none⟩) (.inl rfl) (.slice none 0 0)) (p:=⟨w.heap.size + 1,3,none⟩) (.inl rfl) (.slice none 0 0)) (p:=⟨w.heap.size + 1,4,none⟩) (.inl rfl) (.slice none 0 0)) (p:=⟨w.heap.size + 1,5,none⟩) (.inl rfl) (.slice none 0 0)) (p:=⟨w.heap.size + 1,6,none⟩) (.inl rfl) (.slice none 0 0)) (p:=⟨w.heap.size + 1,7,none⟩) (.inl rfl) (.slice none 0 0)
         have hc8:=(((((((uN.out.bS 0 (.slice A10 ts'.length c10)).bS 1 (.slice none 0 0)).bS 2 (.slice none 0 0)).bS 3 (.slice none 0 0)).bS 4 (.slice none 0 0)).bS 5 (.slice none 0 0)).bS 6 (.slice none 0 0)).bS 7 (.slice none 0 0)
         refine ⟨hc8.eq spA,Dk.out.res.grown hg (fun e=>by injection e with e;omega),Q9.out.gK hg (HUP.out.ne omA),HUP.out,RV.out.mono hg.size,gu.1 HOK.out,HSN.out,by omega,Dk.out.tape.grown hg omA omA,dO Dk.out.grown hg (fun i e=>by injection e with e;omega),hgl,hbl⟩
        case rest =>
         (
         clear HIC HTI HUP OL HSN HTL OM Dk HOK
         obtain ⟨A,c,ts,hle,hinv⟩:=hcut
         have HID:=qh hinv
         obtain ⟨a0,_⟩:=Cat.blk hinv.cat
         have hkd:=hinv.tape
         clear hinv
         by_cases ht0:ts.length = 0
         ·have ht0':decide (0<ts.length)=false:=by rw [ht0];rfl
          clear hkd
          go_wp2_with fail
          go_roundw
          case rel=>exact ⟨i + 1,A,c,ts,by omega,by go_num,hle,HID.out⟩
          case measure=>exact meA
         ·have ht0':decide (0<ts.length)=true:=by simp;omega
          have HKD:=qh hkd
          clear hkd ht0
          go_wp2_with fail
          (with_reducible refine (aD g b 4 _ HKD.out omA omA).mono ?_)
          rintro e w12 ⟨r6,rfl,hr6,yI,Ar⟩
          have HIE:=qh (HID.out.next Ar yI)
          clear hr6 yI Ar a0 HID HKD
          by_cases hr0:r6 = 0
          ·subst hr0
           go_wp2_with fail
           go_meet
           exact ⟨A,c,ts,by omega,HIE.out⟩
          ·have oD:((r6:Int) == 0)=false:=by simp;omega
           clear hr0
           go_wp2_with fail
           go_roundw
           case rel=>exact ⟨i + 1,A,c,ts,by omega,by go_num,hle,HIE.out⟩
           case measure=>exact meA)
   ·have hlt':decide ((i:Int)<(n:Int))=false:=by simp;omega
    have hlt2:decide (i<n)=false:=by simp;omega
    have hle:ts.length≤n:=by omega
    go_wp2_with fail
    go_meet
    exact ⟨A,c,ts,hle,fO.out⟩
 case rest =>
  clear fO
  obtain ⟨A,c,ts,hle,hinv⟩:=hcut
  have HI:=qh hinv
  obtain ⟨a0,a1,a2,a3,a4,a5,a6,a7⟩:=Cat.blk hinv.cat
  have hcz:=hinv.cat.lt
  have fa:=hinv.cat.frozen 0
  clear hinv
  by_cases ht0:ts.length = 0
  ·have ht0':((ts.length:Int) == 0)=true:=by rw [ht0];rfl
   have hn0 : ¬ (0<ts.length):=by omega
   clear ht0
   obtain ⟨C,hC⟩ : ∃ C,w.heap.size + 1=C:=⟨_,rfl⟩
   rw [hC] at a0 fa hcz ⊢
   clear a1 a2 a3 a4 a5 a6 a7
   have HCE:=qh hC
   clear hC
   have Qx:C<wc.heap.size + 1:=by omega
   have hcz2:C<wc.heap.size + 1 + 1:=by omega
   have Qw:C<wc.heap.size + 2:=by omega
   have CO:C≠wc.heap.size:=by omega
   have Qz:C≠wc.heap.size + 1:=by omega
   have Qy:C≠wc.heap.size + 1 + 1:=by omega
   go_upto_region 18 with (fail)
   refine ai (P:=fun u=>Code.wp _ _ _ _ u) (R:=fun u=>nL w g b (some ⟨wc.heap.size + 2,0,none⟩) 1 [pW wc.heap.size (wc.heap.size + 1)] u) ?_ ?_
   ·clear a0 fa Qx hcz2 Qw CO Qz Qy
    obtain rfl:=HCE.out
    have hI:=HI.out
    have hU:=aZ (aZ (aZ (ak (iR wc (some (w.heap.size + 1))) (p:=⟨w.heap.size + 1,0,none⟩) (.inl rfl) (.slice (some ⟨wc.heap.size + 1 + 1,0,none⟩) 1 1)) (.cells #[.int .i64 0] 3)) (.cells ([dR,dM wc.heap.size].flatMap Col.cells).toArray 79)) (.cells (Tab.cells (pW wc.heap.size (wc.heap.size + 1))).toArray 77)
    have hb0:=(((Blk.new' (w:=wc.setCell ⟨w.heap.size + 1,0,none⟩ (.slice (some ⟨wc.heap.size + 1 + 1,0,none⟩) 1 1)) (g:=wc.heap.size) (t := 3) (cs := #[.int .i64 0]) spA).alloc (.cells ([dR,dM wc.heap.size].flatMap Col.cells).toArray 79)).alloc (.cells (Tab.cells (pW wc.heap.size (wc.heap.size + 1))).toArray 77))
    have hb1:=((Blk.new' (w:=(wc.setCell ⟨w.heap.size + 1,0,none⟩ (.slice (some ⟨wc.heap.size + 1 + 1,0,none⟩) 1 1)).alloc (.cells #[.int .i64 0] 3)) (g:=wc.heap.size + 1) (t := 79) (cs:=([dR,dM wc.heap.size].flatMap Col.cells).toArray) spA).alloc (.cells (Tab.cells (pW wc.heap.size (wc.heap.size + 1))).toArray 77))
    have hb2:=(Blk.new' (w:=((wc.setCell ⟨w.heap.size + 1,0,none⟩ (.slice (some ⟨wc.heap.size + 1 + 1,0,none⟩) 1 1)).alloc (.cells #[.int .i64 0] 3)).alloc (.cells ([dR,dM wc.heap.size].flatMap Col.cells).toArray 79)) (g:=wc.heap.size + 2) (t := 77) (cs:=(Tab.cells (pW wc.heap.size (wc.heap.size + 1))).toArray) spA)
    have hc0:=(((hI.cat.bS 0 (.slice (some ⟨wc.heap.size + 1 + 1,0,none⟩) 1 1)).alloc (.cells #[.int .i64 0] 3)).alloc (.cells ([dR,dM wc.heap.size].flatMap Col.cells).toArray 79)).alloc (.cells (Tab.cells (pW wc.heap.size (wc.heap.size + 1))).toArray 77)
    refine ⟨hc0.eq spA,hI.res.grown hU (fun e=>by injection e with e;omega),⟨Blk.one (enc:=Tab.cells) hb2 hb2.lt,fun t ht => ?_⟩,⟨fun a ha => ?_,fun t ht => ?_⟩,⟨fun a ha => ?_,fun t ht => ?_⟩,LV _ _,Hy _ _,Nat.le_refl _,hI.tape.grown hU omA omA,dO hI.grown hU (fun i e=>by injection e with e;omega),hgl,hbl⟩
    ·rw [List.mem_singleton.1 ht]
     refine ⟨Blk.list dC (l := [dR,dM wc.heap.size]) hb1 hb1.lt,fun x hx => ?_⟩
     have hx:x=dR∨x=dM wc.heap.size:=by simpa [pW] using hx
     rcases hx with rfl|rfl
     ·exact ah.nil
     ·exact Blk.one (enc:=intCells) (x:=(0:Int)) hb0 hb0.lt
    ·injection ha with ha
     subst ha
     show w.heap.size + 2≤wc.heap.size + 2
     omega
    ·rw [List.mem_singleton.1 ht]
     refine ⟨fun a ha => ?_,fun x hx a ha => ?_⟩
     ·injection ha with ha
      subst ha
      show w.heap.size + 2≤wc.heap.size + 1
      omega
     ·have hx:x=dR∨x=dM wc.heap.size:=by simpa [pW] using hx
      rcases hx with rfl|rfl
      ·cases ha
      ·injection ha with ha
       subst ha
       show w.heap.size + 2≤wc.heap.size
       omega
    ·injection ha with ha
     subst ha
     exact hb2.lt
    ·rw [List.mem_singleton.1 ht]
     refine ⟨fun a ha => ?_,fun x hx a ha => ?_⟩
     ·injection ha with ha
      subst ha
      exact hb1.lt
     ·have hx:x=dR∨x=dM wc.heap.size:=by simpa [pW] using hx
      rcases hx with rfl|rfl
      ·cases ha
      ·injection ha with ha
       subst ha
       exact hb0.lt
   ·rintro U hU
    clear a0 fa Qx hcz2 Qw CO Qz Qy HI hn0 hle
    obtain rfl:=HCE.out
    obtain ⟨td,htd⟩ : ∃ td,pW wc.heap.size (wc.heap.size + 1)=td:=⟨_,rfl⟩
    rw [htd] at hU
    have HI:=qh hU
    have hn0 : 0 < [td].length:=by simp
    have hle : [td].length≤n:=by simpa using hn1
    clear hU htd
    have hinv:=HI.out
    obtain ⟨a0,a1,a2,a3,a4,a5,a6,a7⟩:=Cat.blk hinv.cat
    obtain ⟨b0,b1,b2,b3,b4,b5,b6,b7⟩:=Cat.blk hinv.res
    have f0:=hinv.res.frozen 0
    have f1:=hinv.res.frozen 1
    have f2:=hinv.res.frozen 2
    have f3:=hinv.res.frozen 3
    have f4:=hinv.res.frozen 4
    have f5:=hinv.res.frozen 5
    have f6:=hinv.res.frozen 6
    have f7:=hinv.res.frozen 7
    have hrz:=hinv.res.lt
    clear hinv
    go_wp2_with fail
    have hg:=ak (ak (ak (ak (ak (ak (ak (ak (iR U (some w.heap.size)) (p:=⟨w.heap.size,0,none⟩) (.inl rfl) (.slice (some ⟨wc.heap.size + 2,0,none⟩) [td].length 1)) (p:=⟨w.heap.size,1,none⟩) (.inl rfl) (.slice none 0 0)) (p:=⟨w.heap.size,2,none⟩) (.inl rfl) (.slice none 0 0)) (p:=⟨w.heap.size,3,none⟩) (.inl rfl) (.slice none 0 0)) (p:=⟨w.heap.size,4,none⟩) (.inl rfl) (.slice none 0 0)) (p:=⟨w.heap.size,5,none⟩) (.inl rfl) (.slice none 0 0)) (p:=⟨w.heap.size,6,none⟩) (.inl rfl) (.slice none 0 0)) (p:=⟨w.heap.size,7,none⟩) (.inl rfl) (.slice none 0 0)
    have HG:=qh hg
    clear hg
    refine bodyPost_ret (v := .agg #[.slice (some ⟨wc.heap.size + 2,0,none⟩) [td].length 1, .slice none 0 0, .slice none 0 0, .slice none 0 0, .slice none 0 0, .slice none 0 0, .slice none 0 0, .slice none 0 0]) (by simp [results,Tryz.results9,go_sem,b0,b1,b2,b3,b4,b5,b6,b7,hrz]) rfl ⟨(some ⟨wc.heap.size + 2,0,none⟩),1,[td],rfl,HI.out.tabs.gK HG.out (HI.out.up.ne omA),⟨fun a ha=>by have:=HI.out.up.1 a ha;omega,fun t ht=>⟨fun a ha=>by have:=(HI.out.up.2 t ht).1 a ha;omega,fun x hx a ha=>by have:=(HI.out.up.2 t ht).2 x hx a ha;omega⟩⟩,HI.out.bd.mono HG.out.size,HI.out.bV,HI.out.ok,hn0,hle,HI.out.tape.grown HG.out omA omA,dO HI.out.grown HG.out (fun i e=>by injection e with e;omega)⟩
  ·have ht0':((ts.length:Int) == 0)=false:=by rw [beq_eq_false_iff_ne];omega
   have hn0 : 0<ts.length:=by omega
   clear ht0 fa
   go_upto_region 18 with (fail)
   clear a0 a1 a2 a3 a4 a5 a6 a7
   have hinv:=HI.out
   obtain ⟨a0,a1,a2,a3,a4,a5,a6,a7⟩:=Cat.blk hinv.cat
   obtain ⟨b0,b1,b2,b3,b4,b5,b6,b7⟩:=Cat.blk hinv.res
   have f0:=hinv.res.frozen 0
   have f1:=hinv.res.frozen 1
   have f2:=hinv.res.frozen 2
   have f3:=hinv.res.frozen 3
   have f4:=hinv.res.frozen 4
   have f5:=hinv.res.frozen 5
   have f6:=hinv.res.frozen 6
   have f7:=hinv.res.frozen 7
   have hrz:=hinv.res.lt
   clear hinv
   go_wp2_with fail
   have hg:=ak (ak (ak (ak (ak (ak (ak (ak (iR wc (some w.heap.size)) (p:=⟨w.heap.size,0,none⟩) (.inl rfl) (.slice A ts.length c)) (p:=⟨w.heap.size,1,none⟩) (.inl rfl) (.slice none 0 0)) (p:=⟨w.heap.size,2,none⟩) (.inl rfl) (.slice none 0 0)) (p:=⟨w.heap.size,3,none⟩) (.inl rfl) (.slice none 0 0)) (p:=⟨w.heap.size,4,none⟩) (.inl rfl) (.slice none 0 0)) (p:=⟨w.heap.size,5,none⟩) (.inl rfl) (.slice none 0 0)) (p:=⟨w.heap.size,6,none⟩) (.inl rfl) (.slice none 0 0)) (p:=⟨w.heap.size,7,none⟩) (.inl rfl) (.slice none 0 0)
   have HG:=qh hg
   clear hg
   refine bodyPost_ret (v := .agg #[.slice A ts.length c, .slice none 0 0, .slice none 0 0, .slice none 0 0, .slice none 0 0, .slice none 0 0, .slice none 0 0, .slice none 0 0]) (by simp [results,Tryz.results9,go_sem,b0,b1,b2,b3,b4,b5,b6,b7,hrz]) rfl ⟨A,c,ts,rfl,HI.out.tabs.gK HG.out (HI.out.up.ne omA),⟨fun a ha=>by have:=HI.out.up.1 a ha;omega,fun t ht=>⟨fun a ha=>by have:=(HI.out.up.2 t ht).1 a ha;omega,fun x hx a ha=>by have:=(HI.out.up.2 t ht).2 x hx a ha;omega⟩⟩,HI.out.bd.mono HG.out.size,HI.out.bV,HI.out.ok,hn0,hle,HI.out.tape.grown HG.out omA omA,dO HI.out.grown HG.out (fun i e=>by injection e with e;omega)⟩
end Go.Proofs.YtebippoohpnjkaaGreat
