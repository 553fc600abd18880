/-
  Contracts and plain laws of this seat, part 16: OwnI, OwnG, TabD, TabG.
-/
import Derived.Test.YtjhnpnhpmdkpcaaGreatB15
import Derived.Test.YtjhnpnhpmdkpcaaGreatB6
import Derived.Deep.CutBlock
import Derived.Test.YtjhnpnhpmdkpcaaGreatB14
set_option linter.unusedVariables false
set_option linter.unusedSimpArgs false
set_option maxRecDepth 100000
set_option maxHeartbeats 16000000
namespace Go.Proofs.YtjhnpnhpmdkpcaaGreat
open Go.RowKit
structure Kept2 (g q:Nat) (w w':World):Prop where
 os:w'.os=w.os
 tape:w'.tape=w.tape
 output:w'.output=w.output
 size:w.heap.size≤w'.heap.size
 block : ∀ k,k<w.heap.size→k≠g→k≠q→w'.heap[k]? = w.heap[k]?
section
variable {g q:Nat} {w u v:World}
theorem Kept2.refl (g q:Nat) (w:World):Kept2 g q w w:=⟨rfl,rfl,rfl,Nat.le_refl _,fun _ _ _ _=>rfl⟩
theorem Kept2.grown (h:Kept2 g q w u) {row:Option Nat} (k:u.grownBy v row) (hr : ∀ i,row=some i→i=g∨i=q∨w.heap.size≤i):Kept2 g q w v :=
 ⟨k.os.trans h.os,k.tape.trans h.tape,k.output.trans h.output,Nat.le_trans h.size k.size,fun i hi h1 h2=>(k.block i (Nat.lt_of_lt_of_le hi h.size) (fun e=>by rcases hr i e.symm with h|h|h <;> omega)).trans (h.block i hi h1 h2)⟩
theorem Kept2.below (h:Kept2 g q w u) (k:Below u.heap.size u v):Kept2 g q w v:=h.grown (only_of_below k none) (fun i e=>by cases e)
theorem Kept2.set (h:Kept2 g q w u) {p:Addr} (hp:p.block=g∨p.block=q∨w.heap.size≤p.block) (x:Value):Kept2 g q w (u.setCell p x) :=
 ⟨h.os,h.tape,h.output,by simpa using h.size,fun i hi h1 h2=>(Below.heap_setCell u p x i (by intro e;rcases hp with h'|h'|h' <;> omega)).trans (h.block i hi h1 h2)⟩
theorem Kept2.up {w0:World} (h:w0.grownBy w (some g)) (k:Kept2 g q w u) (hq:w0.heap.size≤q):w0.grownBy u (some g) :=
 ⟨k.os.trans h.os,k.tape.trans h.tape,k.output.trans h.output,Nat.le_trans h.size k.size,fun i hi hne=>(k.block i (Nat.lt_of_lt_of_le hi h.size) (fun e=>hne (by rw [e])) omA).trans (h.block i hi hne)⟩
theorem SliceIs.kept2 {α : Type} {enc : α → List Value} {k:Nat} {A:Option Addr} {l:List α} (h:SliceIs w w.heap.size enc k A l) (hk:Kept2 g q w u) (hA : ∀ a,A=some a→a.block≠g∧a.block≠q):SliceIs u u.heap.size enc k A l:=by
 intro hl
 obtain ⟨b,o,rfl,hB,hc⟩:=h hl
 obtain ⟨h1,h2⟩:=hA _ rfl
 exact ⟨b,o,rfl,Nat.lt_of_lt_of_le hB hk.size,fun i hi j v hv=>(World.cell?_of_block (hk.block b hB h1 h2)).trans (hc i hi j v hv)⟩
end
def TabsNe (q:Nat) (A:Option Addr) (ts:List Tab):Prop:=(∀ a,A=some a→a.block≠q) ∧ ∀ t∈ts,(∀ a,t.A=some a→a.block≠q) ∧ ∀ x∈t.cols,∀ a,x.A=some a→a.block≠q
theorem TabsIn.kept2 {g q B:Nat} {w u:World} {A:Option Addr} {ts:List Tab} (h:TabsIn w w.heap.size A ts) (hk:Kept2 g q w u) (hu:TabsUp B A ts) (hg:g<B) (hq:TabsNe q A ts):TabsIn u u.heap.size A ts :=
 ⟨h.1.kept2 hk fun a ha=>⟨by have:=hu.1 a ha;omega,hq.1 a ha⟩,fun t ht=>⟨(h.2 t ht).1.kept2 hk fun a ha=>⟨by have:=(hu.2 t ht).1 a ha;omega,(hq.2 t ht).1 a ha⟩,fun x hx=>((h.2 t ht).2 x hx).kept2 hk fun a ha=>⟨by have:=(hu.2 t ht).2 x hx a ha;omega,(hq.2 t ht).2 x hx a ha⟩⟩⟩
structure ColFine (M w0:Nat) (w:World) (x:Col):Prop where
 name:x.name.size ≤ 1000000
 ns:x.ns.size ≤ 1000000
 refs:x.refs.size ≤ 1000000
 own:x.own.length≤M
 cap:x.own.length≤x.cap
 list:SliceIs w w.heap.size intCells 1 x.A x.own
 up : ∀ a,x.A=some a→w0≤a.block
 lt : ∀ a,x.A=some a→a.block<w.heap.size
theorem ColFine.keep {M w0:Nat} {w u:World} {x:Col} (h:ColFine M w0 w x) {row:Option Nat} (hg:w.grownBy u row) (hr : ∀ i,row=some i→i<w0):ColFine M w0 u x :=
 ⟨h.name,h.ns,h.refs,h.own,h.cap,h.list.grown hg fun a ha e=>by have:=h.up a ha;have:=hr _ e.symm;omega,h.up,fun a ha=>Nat.lt_of_lt_of_le (h.lt a ha) hg.size⟩
structure OwnInv (M:Nat) (w:World) (g b q B n cap:Nat) (cv nm:Value) (rt:Int) (LA:Option Addr) (l:List Int) (cols:List Col) (er:Int) (u:World):Prop where
 own:Owns u B 73 Col.cells 7 (.slice (some ⟨q,0,none⟩) n cap) cols
 len:cols.length=n
 fine : ∀ x∈cols,ColFine M (w.heap.size + 3) u x
 tbox:Blk u (w.heap.size + 1) 71 #[nm, .slice (some ⟨q,0,none⟩) n cap, .int .i64 er, .int .i64 rt]
 cbox:Blk u w.heap.size 34 #[cv, .slice none 0 0, .slice none 0 0, .slice none 0 0, .slice none 0 0, .slice none 0 0, .slice none 0 0, .slice none 0 0]
 res:Blk u (w.heap.size + 2) 71 #[.string ⟨#[]⟩, .slice none 0 0, .int .i64 0, .int .i64 0]
 list:SliceIs u u.heap.size intCells 1 LA l
 up : ∀ a,LA=some a→w.heap.size + 3≤a.block
 tape:IsTape u g b
 kept:Kept2 g q w u
 ltg:g<w.heap.size
 ltb:b<w.heap.size
 ltq:q<w.heap.size
 neg:g<B
 neb:b<B
 hq:B≤q
section
variable {M:Nat} {w u v:World} {g b q B n cap:Nat} {cv nm:Value} {rt:Int} {LA:Option Addr} {l:List Int} {cols:List Col} {er:Int}
theorem OwnInv.next (h:OwnInv M w g b q B n cap cv nm rt LA l cols er u) (hg:u.grownBy v (some g)) (hk:IsTape v g b):OwnInv M w g b q B n cap cv nm rt LA l cols er v:=by
 have h1:=h.ltg
 have hne : ∀ i,w.heap.size≤i→some i≠some g:=fun i hi e=>by injection e with e;omega
 exact ⟨h.own.grown hg h.neg,h.len,fun x hx=>(h.fine x hx).keep hg (fun i e=>by injection e with e;omega),h.tbox.grown hg (hne _ omA),h.cbox.grown hg (hne _ omA),h.res.grown hg (hne _ omA),h.list.grown hg (fun a ha=>hne _ (by have:=h.up a ha;omega)),h.up,hk,h.kept.grown hg (fun i e=>by injection e with e;exact .inl e.symm),h.ltg,h.ltb,h.ltq,h.neg,h.neb,h.hq⟩
theorem OwnInv.wide {M':Nat} (h:OwnInv M w g b q B n cap cv nm rt LA l cols er u) (hM:M≤M'):OwnInv M' w g b q B n cap cv nm rt LA l cols er u :=
 ⟨h.own,h.len,fun x hx=>by have f:=h.fine x hx;exact ⟨f.name,f.ns,f.refs,Nat.le_trans f.own hM,f.cap,f.list,f.up,f.lt⟩,h.tbox,h.cbox,h.res,h.list,h.up,h.tape,h.kept,h.ltg,h.ltb,h.ltq,h.neg,h.neb,h.hq⟩
theorem OwnInv.below (h:OwnInv M w g b q B n cap cv nm rt LA l cols er u) (hb:Below u.heap.size u v):OwnInv M w g b q B n cap cv nm rt LA l cols er v :=
 h.next (only_of_below hb _) (h.tape.below hb)
theorem OwnInv.alloc (h:OwnInv M w g b q B n cap cv nm rt LA l cols er u) (o:Obj):OwnInv M w g b q B n cap cv nm rt LA l cols er (u.alloc o) :=
 h.below (brf.alloc nlr o)
theorem OwnInv.set (h:OwnInv M w g b q B n cap cv nm rt LA l cols er u) {i:Nat} (hi:i<cols.length) (x:Col) {j o:Nat} {z:Value} (hj:j < 7) (ho:o=i * 7+j) (hx:x.cells=(cols[i]).cells.set j z) (hf:ColFine M (w.heap.size + 3) u x):OwnInv M w g b q B n cap cv nm rt LA l (cols.set i x) er (u.setCell ⟨q,o,none⟩ z):=by
 have h1:=h.ltg
 have h2:=h.ltb
 have h3:=h.ltq
 have hqg:q≠g:=by have:=h.neg;have:=h.hq;omega
 have hqb:q≠b:=by have:=h.neb;have:=h.hq;omega
 have hfar : ∀ y,ColFine M (w.heap.size + 3) u y→ColFine M (w.heap.size + 3) (u.setCell ⟨q,o,none⟩ z) y:=fun y hy=>⟨hy.name,hy.ns,hy.refs,hy.own,hy.cap,by have:=hy.list.far (p:=⟨q,o,none⟩) (fun a ha e=>by have:=hy.up a ha;have e:a.block=q:=e;omega) z;simpa using this,hy.up,fun a ha=>by simpa using hy.lt a ha⟩
 refine ⟨h.own.store1 col_len h.len.symm hi x hj ho hx,by simpa using h.len,fun y hy => ?_,h.tbox.far (show _≠q by omega) z,h.cbox.far (show _≠q by omega) z,h.res.far (show _≠q by omega) z,?_,h.up,h.tape.far (show g≠q by omega) (show b≠q by omega) z,h.kept.set (.inr (.inl rfl)) z,h.ltg,h.ltb,h.ltq,h.neg,h.neb,h.hq⟩
 ·rcases List.mem_or_eq_of_mem_set hy with h|rfl
  ·exact hfar y (OwnInv.fine ‹_› y h)
  ·exact hfar _ hf
 ·have:=h.list.far (p:=⟨q,o,none⟩) (fun a ha e=>by have:=h.up a ha;have e:a.block=q:=e;omega) z
  simpa using this
theorem OwnInv.app (h:OwnInv M w g b q B n cap cv nm rt LA l cols er u) {nb i o:Nat} {x:Col} {z:Value} (hg:u.grownBy v (some nb)) (hnb:w.heap.size + 3≤nb) (hi:i<cols.length) (ho:o=i * 7 + 4) (hx:x.cells=(cols[i]).cells.set 4 z) (hf:ColFine M (w.heap.size + 3) v x) (hoth : ∀ k (hk:k<cols.length),k≠i → ∀ a,cols[k].A=some a→a.block≠nb) (hL : ∀ a,LA=some a→a.block≠nb) :
 OwnInv M w g b q B n cap cv nm rt LA l (cols.set i x) er (v.setCell ⟨q,o,none⟩ z):=by
 have h1:=h.ltg
 have h2:=h.ltb
 have h3:=h.ltq
 have hqg:q≠g:=by have:=h.neg;have:=h.hq;omega
 have hqb:q≠b:=by have:=h.neb;have:=h.hq;omega
 have hne : ∀ i,i<w.heap.size + 3→some i≠some nb:=fun i hi e=>by injection e with e;omega
 have hfar : ∀ y,ColFine M (w.heap.size + 3) v y→ColFine M (w.heap.size + 3) (v.setCell ⟨q,o,none⟩ z) y:=fun y hy=>⟨hy.name,hy.ns,hy.refs,hy.own,hy.cap,by have:=hy.list.far (p:=⟨q,o,none⟩) (fun a ha e=>by have:=hy.up a ha;have e:a.block=q:=e;omega) z;simpa using this,hy.up,fun a ha=>by simpa using hy.lt a ha⟩
 have hown := h.own.kept hg (fun k hk => by have : q = k := by simpa [Value.ownBlock] using hk
                                            exact hne k omA)
 refine ⟨hown.store1 col_len h.len.symm hi x (j := 4) omA ho hx,by simpa using h.len,fun y hy => ?_,(h.tbox.grown hg (hne _ omA)).far (show _≠q by omega) z,(h.cbox.grown hg (hne _ omA)).far (show _≠q by omega) z,(h.res.grown hg (hne _ omA)).far (show _≠q by omega) z,?_,h.up,(h.tape.grown hg (show nb≠g by omega) (show nb≠b by omega)).far (show g≠q by omega) (show b≠q by omega) z,(h.kept.grown hg (fun i e=>by injection e with e;exact .inr (.inr omA))).set (.inr (.inl rfl)) z,h.ltg,h.ltb,h.ltq,h.neg,h.neb,h.hq⟩
 ·obtain ⟨k,hk,rfl⟩:=List.getElem_of_mem hy
  rw [List.getElem_set]
  split
  ·exact hfar _ hf
  ·rename_i hki
   have hk':k<cols.length:=by simpa using hk
   have hy:=h.fine cols[k] (lgm hk')
   exact hfar _ ⟨hy.name,hy.ns,hy.refs,hy.own,hy.cap,hy.list.grown hg (fun a ha e=>hoth k hk' (fun e'=>hki e'.symm) a ha (by injection e)),hy.up,fun a ha=>Nat.lt_of_lt_of_le (hy.lt a ha) hg.size⟩
 ·have:=(h.list.grown hg (fun a ha e=>hL a ha (by injection e))).far (p:=⟨q,o,none⟩) (fun a ha e=>by have:=h.up a ha;have e:a.block=q:=e;omega) z
  simpa using this
theorem OwnInv.setErase (h:OwnInv M w g b q B n cap cv nm rt LA l cols er u) (z:Int):OwnInv M w g b q B n cap cv nm rt LA l cols z (u.setCell ⟨w.heap.size + 1,2,none⟩ (.int .i64 z)):=by
 have h1:=h.ltg
 have h2:=h.ltb
 have h3:=h.ltq
 refine ⟨h.own.far (fun k hk => ?_) _,h.len,fun y hy => ?_,?_,h.cbox.far (show _≠w.heap.size + 1 by omega) _,h.res.far (show _≠w.heap.size + 1 by omega) _,?_,h.up,h.tape.far (show g≠w.heap.size + 1 by omega) (show b≠w.heap.size + 1 by omega) _,h.kept.set (.inr (.inr (show _≤w.heap.size + 1 by omega))) _,h.ltg,h.ltb,h.ltq,h.neg,h.neb,h.hq⟩
 ·have:q=k:=by simpa [Value.ownBlock] using hk
  show k≠w.heap.size + 1
  omega
 ·have hf:=h.fine y hy
  exact ⟨hf.name,hf.ns,hf.refs,hf.own,hf.cap,by have:=hf.list.far (p:=⟨w.heap.size + 1,2,none⟩) (fun a ha e=>by have:=hf.up a ha;have e:a.block=w.heap.size + 1:=e;omega) (.int .i64 z);simpa using this,hf.up,fun a ha=>by simpa using hf.lt a ha⟩
 ·have:=h.tbox.set_ 2 (.int .i64 z)
  simpa using this
 ·have:=h.list.far (p:=⟨w.heap.size + 1,2,none⟩) (fun a ha e=>by have:=h.up a ha;have e:a.block=w.heap.size + 1:=e;omega) (.int .i64 z)
  simpa using this
structure OwnEnd (M:Nat) (w:World) (g b q B n cap:Nat) (cols:List Col) (u:World):Prop where
 own:Owns u B 73 Col.cells 7 (.slice (some ⟨q,0,none⟩) n cap) cols
 len:cols.length=n
 fine : ∀ x∈cols,ColFine M (w.heap.size + 3) u x
 tape:IsTape u g b
 kept:Kept2 g q w u
 ltg:g<w.heap.size
 ltb:b<w.heap.size
 ltq:q<w.heap.size
theorem OwnInv.toEnd (h:OwnInv M w g b q B n cap cv nm rt LA l cols er u):OwnEnd M w g b q B n cap cols u:=⟨h.own,h.len,h.fine,h.tape,h.kept,h.ltg,h.ltb,h.ltq⟩
theorem OwnEnd.set (h:OwnEnd M w g b q B n cap cols u) (j:Nat) (z:Value):OwnEnd M w g b q B n cap cols (u.setCell ⟨w.heap.size + 2,j,none⟩ z):=by
 have h1:=h.ltg
 have h2:=h.ltb
 have h3:=h.ltq
 refine ⟨h.own.far (fun k hk => ?_) _,h.len,fun y hy => ?_,h.tape.far (show g≠w.heap.size + 2 by omega) (show b≠w.heap.size + 2 by omega) _,h.kept.set (.inr (.inr (show _≤w.heap.size + 2 by omega))) _,h1,h2,h3⟩
 ·have:q=k:=by simpa [Value.ownBlock] using hk
  show k≠w.heap.size + 2
  omega
 ·have hf:=h.fine y hy
  exact ⟨hf.name,hf.ns,hf.refs,hf.own,hf.cap,by have:=hf.list.far (p:=⟨w.heap.size + 2,j,none⟩) (fun a ha e=>by have:=hf.up a ha;have e:a.block=w.heap.size + 2:=e;omega) z;simpa using this,hf.up,fun a ha=>by simpa using hf.lt a ha⟩
theorem OwnEnd.low (h:OwnEnd M w g b q B n cap cols u) : ∀ x∈cols,ColFine M w.heap.size u x:=fun x hx=>by
 have f:=h.fine x hx
 exact ⟨f.name,f.ns,f.refs,f.own,f.cap,f.list,fun a ha=>by have:=f.up a ha;omega,f.lt⟩
end
theorem lOwnG1 {P:Prop} (h:P:=by
 go_wp2_with fail
 (with_reducible refine (tape_Next g b (l.length:Int) _ HI2.out.tape omA omA).mono ?_)
 rintro e w3 ⟨r3,rfl,hr3,hk3,hg3⟩
 have hr33:r3<l.length:=by rcases hr3 with h|h <;> omega
 have HI3:=qh (HI2.out.next hg3 hk3)
 clear HI2 hk3 hg3 hr3
 obtain ⟨lb,lo,rfl,hlb,hlc3⟩:=HI3.out.list.get hr33
 have y0:=hlc3 0 _ rfl
 simp only [Nat.mul_one,Nat.add_zero] at y0
 obtain ⟨z3,hz3⟩ : ∃ z,l[r3]=z:=⟨_,rfl⟩
 rw [hz3] at y0
 have s0:=HI3.out.own.getE col_len HI3.out.len.symm hil (j := 4) rfl
 have sf:=HI3.out.own.frzE HI3.out.len.symm (i * 7 + 4)
 have hqz:=HI3.out.own.lt q rfl
 have hw3:=HI3.out.res.lt
 obtain ⟨⟨xn,xt,xs,xr,xA,xc,xo,xj,xd⟩,hx⟩ : ∃ x:Col,cols[i]=x:=⟨_,rfl⟩
 have hf0:=HI3.out.fine cols[i] (lgm hil)
 rw [hx] at s0 hf0
 have HX:=qh hx
 clear hlc3 hz3 hx
 go_upto_region 9 with (fail)
 obtain ⟨nb,hnb⟩ : ∃ nb,w3.heap.size=nb:=⟨_,rfl⟩
 refine abs_world (P:=fun u=>Code.wp _ _ _ _ u) (R:=fun u => ∃ (cols1:List Col) (hi:i<cols1.length),cols1[i]=⟨xn,xt,xs,xr,some ⟨w3.heap.size,0,none⟩,1,[z3],xj,xd⟩∧(∀ k (hk:k<cols1.length),k≠i → ∀ a,cols1[k].A=some a→a.block≠w3.heap.size)∧Blk u w3.heap.size 3 #[.int .i64 z3]∧(OwnInv 20 w g b q B n cap (.slice A ts.length c) (.string nm) rt (some ⟨lb,lo,none⟩) l cols1 er2 u)) ⟨cols.set i ⟨xn,xt,xs,xr,some ⟨w3.heap.size,0,none⟩,1,[z3],xj,xd⟩,by simpa using hil,by simp,fun k hk hki a ha => ?_,?_,?_⟩ ?_
 ·rw [List.getElem_set_ne (fun e=>hki e.symm)] at ha
  have:=(HI3.out.fine _ (lgm (by simpa using hk))).lt a ha
  omega
 ·exact Blk.new' spA
 ·rw [← World.setCell_alloc_past _ q _ _ hqz]
  exact (HI3.out.alloc _).set hil ⟨xn,xt,xs,xr,some ⟨w3.heap.size,0,none⟩,1,[z3],xj,xd⟩ (j := 4) omA rfl (by rw [HX.out];rfl) ⟨hf0.name,hf0.ns,hf0.refs,by simp,by simp,Blk.one (enc:=intCells) (x:=z3) (Blk.new' rfl) spA,fun a ha=>by injection ha with ha;subst ha;exact hw3,fun a ha=>by injection ha with ha;subst ha;simp⟩
 rw [hnb]
 rw [hnb] at hw3
 rintro U ⟨cols1,hi1,hx1,ho1,hB1,hI1⟩
 have HO1:=qh ho1
 have hlbn:lb≠nb:=by omega
 have HI4:=qh hI1
 have HB4:=qh hB1
 have HX1:=qh hx1
 clear ho1 hI1 hB1 hx1 HI3 HX hnb s0 sf y0 hil hqz hlb hf0
 go_wp2_with fail
 (with_reducible refine (tape_Next g b (l.length:Int) _ HI4.out.tape omA omA).mono ?_)
 rintro e w4 ⟨r4,rfl,hr4,hk4,hg4⟩
 have hr44:r4<l.length:=by rcases hr4 with h|h <;> omega
 have HI5:=qh (HI4.out.next hg4 hk4)
 have HB5:=qh (HB4.out.grown hg4 (fun e=>by injection e with e;omega))
 clear HI4 HB4 hk4 hg4 hr4
 obtain ⟨lb5,lo5,he5,hlb,hlc4⟩:=HI5.out.list.get hr44
 injection he5 with he5
 injection he5 with he6 he7
 subst he6 he7
 have y0:=hlc4 0 _ rfl
 simp only [Nat.mul_one,Nat.add_zero] at y0
 obtain ⟨z4,hz4⟩ : ∃ z,l[r4]=z:=⟨_,rfl⟩
 rw [hz4] at y0
 have s0:=HI5.out.own.getE col_len HI5.out.len.symm hi1 (j := 4) (by rw [HX1.out];rfl)
 have sf:=HI5.out.own.frzE HI5.out.len.symm (i * 7 + 4)
 have hqz:=HI5.out.own.lt q rfl
 have hw4:=HI5.out.res.lt
 have n0:=HB5.out.cell 0
 have hnz:=HB5.out.lt
 simp only [gE3,List.length_cons,List.length_nil,Nat.zero_add] at n0 s0
 clear hlc4 hz4
 cases h34:decide (z3<z4)
 ·go_upto_if 76 with (fail)
  go_cut [] (fun wc => ∃ (cols2:List Col) (hi:i<cols2.length),(∃ A' c' o',cols2[i]=⟨xn,xt,xs,xr,A',c',o',xj,xd⟩)∧(OwnInv 20 w g b q B n cap (.slice A ts.length c) (.string nm) rt (some ⟨lb,lo,none⟩) l cols2 er2 wc))
  case first =>
   go_wp2_with fail
   go_meet
   exact ⟨cols1,hi1,⟨_,_,_,HX1.out⟩,HI5.out⟩
  case rest=>exact lOwnG2
 ·go_upto_if 76 with (fail)
  go_cut [] (fun wc => ∃ (cols2:List Col) (hi:i<cols2.length),(∃ A' c' o',cols2[i]=⟨xn,xt,xs,xr,A',c',o',xj,xd⟩)∧(OwnInv 20 w g b q B n cap (.slice A ts.length c) (.string nm) rt (some ⟨lb,lo,none⟩) l cols2 er2 wc))
  case first =>
   have hOW5:Owns w4 (w.heap.size + 3) 3 intCells 1 (.slice (some ⟨nb,0,none⟩) 1 1) [z3]:=Owns.one (enc:=intCells) (x:=z3) HB5.out hw3 int_len
   have HOW5:=qh hOW5
   clear hOW5
   go_wp2_with (at_builtin;go_must (refine wpList_append_list _ rfl (.tmp 81) (.tmp 83) 22 rfl 3 i0 _ intCells 1 8 Tryz.underlying22 hi0 hz0 hz1 hz2 rfl omA int_len int_one (w.heap.size + 3) (.slice (some ⟨nb,0,none⟩) 1 1) [z3] rfl (HOW5.out.alloc _) _ _ _ [z4] rfl rfl (Blk.one (enc:=intCells) (x:=z4) (Blk.new' rfl) spA) spA (by simp [maxLen]) smA ?_);intro v' w5 hown5 hg5 hat5;obtain ⟨A5,c5,rfl,hc5,hs5,hA5⟩:=hown5.slice int_len;have hO6:=(HI5.out.alloc _).own.kept hg5 (fun k hk e=>by (have e1:q=k:=by simpa [Value.ownBlock] using hk);(have e2:k=nb:=by simpa [Value.ownBlock] using e);have:=HI5.out.ltq;omega);have s6:=hO6.getE col_len HI5.out.len.symm hi1 (j := 4) (by rw [HX1.out];rfl);have sf6:=hO6.frzE HI5.out.len.symm (i * 7 + 4);have HG5:=qh hg5)
   go_meet
   have hf1:=HI5.out.fine cols1[i] (lgm hi1)
   rw [HX1.out] at hf1
   exact ⟨cols1.set i ⟨xn,xt,xs,xr,A5,c5,[z3,z4],xj,xd⟩,by simpa using hi1,⟨A5,c5,[z3,z4],by simp⟩,(HI5.out.alloc _).app HG5.out hw3 hi1 rfl (by rw [HX1.out];rfl) ⟨hf1.name,hf1.ns,hf1.refs,by simp,by simpa using hc5,by simpa using hs5,fun a ha=>(hA5 a ha).1,fun a ha=>(hA5 a ha).2⟩ HO1.out (fun a ha=>by injection ha with ha;subst ha;exact hlbn)⟩
  case rest=>exact lOwnG2):P:=h
theorem lOwnG2 {P:Prop} (h:P:=by
 (
 obtain ⟨cols2,hi2,⟨A2,c2,o2,hx2⟩,hI2⟩:=hcut
 have HI6:=qh hI2
 have HX2:=qh hx2
 clear hI2 hx2 HI5 HB5 HX1 s0 sf n0 y0 h34 hi1
 go_wp2_with fail
 (with_reducible refine (tape_Next g b 2 _ HI6.out.tape omA omA).mono ?_)
 rintro e w6 ⟨r5,rfl,hr5,hk6,hg6⟩
 have HI7:=qh (HI6.out.next hg6 hk6)
 clear HI6 hk6 hg6 hr5
 have s5:=HI7.out.own.getE col_len HI7.out.len.symm hi2 (j := 5) (by rw [HX2.out];rfl)
 have sf5:=HI7.out.own.frzE HI7.out.len.symm (i * 7 + 5)
 have hf2:=HI7.out.fine cols2[i] (lgm hi2)
 rw [HX2.out] at hf2
 have hw6:=HI7.out.res.lt
 have hq6:=HI7.out.own.lt q rfl
 go_upto_region 13 with (fail)
 refine abs_world (P:=fun u=>Code.wp _ _ _ _ u) (R:=fun u => ∃ (cols3:List Col) (hi:i<cols3.length),cols3[i]=⟨xn,xt,xs,xr,A2,c2,o2,r5,xd⟩∧(OwnInv 20 w g b q B n cap (.slice A ts.length c) (.string nm) rt (some ⟨lb,lo,none⟩) l cols3 er2 u)) ⟨cols2.set i ⟨xn,xt,xs,xr,A2,c2,o2,r5,xd⟩,by simpa using hi2,by simp,HI7.out.set hi2 ⟨xn,xt,xs,xr,A2,c2,o2,r5,xd⟩ (j := 5) omA rfl (by rw [HX2.out];rfl) ⟨hf2.name,hf2.ns,hf2.refs,hf2.own,hf2.cap,hf2.list,hf2.up,hf2.lt⟩⟩ ?_
 rintro V ⟨cols3,hi3,hx3,hI3⟩
 have HI8:=qh hI3
 have HX3:=qh hx3
 clear HI7 HX2 hi2 hI3 hx3 s5 sf5 hf2
 have hw8:=HI8.out.res.lt
 go_wp2_with fail
 (with_reducible refine (tape_Next g b 5 _ (HI8.out.tape.alloc _) omA omA).mono ?_)
 rintro e w8 ⟨r6,rfl,hr6,hk8,hg8⟩
 have hr66:r6 < 5:=by rcases hr6 with h|h <;> omega
 have HI9:=qh ((HI8.out.alloc _).next hg8 hk8)
 have hL:Blk w8 V.heap.size 3 #[.int .i64 0, .int .i64 0, .int .i64 0, .int .i64 5, .int .i64 20]:=Blk.grown (Blk.new' rfl) hg8 (fun e=>by injection e with e;omega)
 obtain ⟨z6,hz6⟩ : ∃ z:Int,w8.cell? ⟨V.heap.size,r6,none⟩=some (.int .i64 z):=by
  rw [hL.cell]
  rcases (show r6 = 0∨r6 = 1∨r6 = 2∨r6 = 3∨r6 = 4 by omega) with rfl|rfl|rfl|rfl|rfl
  all_goals exact ⟨_,rfl⟩
 clear HI8 hk8 hg8 hr6 hL
 have s6:=HI9.out.own.getE col_len HI9.out.len.symm hi3 (j := 6) (by rw [HX3.out];rfl)
 have sf6:=HI9.out.own.frzE HI9.out.len.symm (i * 7 + 6)
 have hf3:=HI9.out.fine cols3[i] (lgm hi3)
 rw [HX3.out] at hf3
 go_upto_region 14 with (fail)
 refine abs_world (P:=fun u=>Code.wp _ _ _ _ u) (R:=fun u => ∃ (cols4:List Col),(OwnInv 20 w g b q B n cap (.slice A ts.length c) (.string nm) rt (some ⟨lb,lo,none⟩) l cols4 er2 u)) ⟨cols3.set i ⟨xn,xt,xs,xr,A2,c2,o2,r5,z6⟩,HI9.out.set hi3 ⟨xn,xt,xs,xr,A2,c2,o2,r5,z6⟩ (j := 6) omA rfl (by rw [HX3.out];rfl) ⟨hf3.name,hf3.ns,hf3.refs,hf3.own,hf3.cap,hf3.list,hf3.up,hf3.lt⟩⟩ ?_
 rintro X ⟨cols4,hI4⟩
 have HI10:=qh hI4
 have e2:=hI4.tbox.cell 2
 have ef:=hI4.tbox.frozen 2
 have hwX:=hI4.res.lt
 simp only [gE3] at e2
 clear HI9 HX3 hi3 hI4 s6 sf6 hz6 hf3
 go_wp2_with fail
 go_roundw
 case rel=>exact ⟨i + 1,cols4,_,by omega,by go_num,by first|exact HI10.out|exact HI10.out.setErase 1⟩
 case measure=>exact meA)):P:=h
theorem tape_own (g b B0 B q n cap:Nat) (A:Option Addr) (c m:Nat) (ts:List Tab) (nm:ByteArray) (cols0:List Col) (er rt:Int) (w:World) (hk:IsTape w g b) (ht:TabsIn w w.heap.size A ts) (hm:ts.length=m) (hup:TabsUp B0 A ts) (hg0:g<B0) (hne:TabsNe q A ts) (hl:m ≤ 10) (hcols : ∀ t∈ts,0<t.cols.length) (hsn:SaneCat ts)
 (hown:Owns w B 73 Col.cells 7 (.slice (some ⟨q,0,none⟩) n cap) cols0) (hn:cols0.length=n) (h8:n ≤ 8) (hnew : ∀ x∈cols0,ColNew x) (hgB:g<B) (hbB:b<B) :
 Calls Tryz.prog 28 #[.pointer (some ⟨g,0,none⟩), .agg #[.slice A m c, .slice none 0 0, .slice none 0 0, .slice none 0 0, .slice none 0 0, .slice none 0 0, .slice none 0 0, .slice none 0 0], .agg #[.string nm, .slice (some ⟨q,0,none⟩) n cap, .int .i64 er, .int .i64 rt]] w fun e w' =>
  ∃ (cols:List Col) (er':Int),e = .returned (.agg #[.string nm, .slice (some ⟨q,0,none⟩) n cap, .int .i64 er', .int .i64 rt])∧Owns w' B 73 Col.cells 7 (.slice (some ⟨q,0,none⟩) n cap) cols∧cols.length=n∧(∀ x∈cols,ColFine 100 w.heap.size w' x)∧IsTape w' g b∧Kept2 g q w w':=by
 subst hm
 have HK:=qh hk
 have HT:=qh ht
 have HU:=qh hup
 have HNE:=qh hne
 have HC:=qh hcols
 have HS:=qh hsn
 have HOW:=qh hown
 have HN:=qh hn
 have HNEW:=qh hnew
 have hgl:=hk.ltg
 have hbl:=hk.lt
 have hql:=(hown.lt q rfl)
 have hBq:=hown.row q rfl
 obtain ⟨i0,hi0,hz0,hz1,hz2⟩:=info_parts infoIntT
 clear hk ht hup hne hcols hsn hown hn hnew
 go_enter Tryz.func28,Tryz.ntmps28
 go_upto_region 1 with (fail)
 refine abs_world (P:=fun u=>Code.wp _ _ _ _ u) (R:=fun u=>Blk u w.heap.size 34 #[.slice A ts.length c, .slice none 0 0, .slice none 0 0, .slice none 0 0, .slice none 0 0, .slice none 0 0, .slice none 0 0, .slice none 0 0]∧Blk u (w.heap.size + 1) 71 #[.string nm, .slice (some ⟨q,0,none⟩) n cap, .int .i64 er, .int .i64 rt]∧Blk u (w.heap.size + 2) 71 #[.string ⟨#[]⟩, .slice none 0 0, .int .i64 0, .int .i64 0]∧Below w.heap.size w u) ⟨?_,?_,?_,?_⟩ ?_
 ·exact ((Blk.new _ _ _).alloc _).alloc _
 ·exact (Blk.new' spA).alloc _
 ·exact Blk.new' spA
 ·exact belA
 rintro W ⟨hC,hB,hR,hbW⟩
 have hzW:=hR.lt
 obtain ⟨q0,q1,q2,q3⟩:=Tab.blk hB
 have HCB:=qh hC
 have HTB:=qh hB
 have HRB:=qh hR
 have hOW:=HOW.out.below hbW nlr
 obtain ⟨A0,c0,he0,hcap0,hsl0,_⟩:=hOW.slice col_len
 injection he0 with he1 he2 he3
 subst he1
 have HSL0:=qh hsl0
 have HOW1:=qh hOW
 clear hC hB hR hOW hsl0 he2 he3
 go_wp2_with fail
 (with_reducible refine (kit_some nm (some ⟨q,0,none⟩) cap n cols0 er rt _ HSL0.out HN.out omA).mono ?_)
 rintro e w1 ⟨⟨LA,lc,l,rfl,hlc,hln,hls,hlA⟩,hb1⟩
 have hbel1:Below w.heap.size w w1:=below_nextN hbW hb1 hbW.size
 have hinv:OwnInv 20 w g b q B n cap (.slice A ts.length c) (.string nm) rt LA l cols0 er w1:=by
  refine ⟨HOW1.out.below hb1 nlr,HN.out,fun x hx => ?_,HTB.out.below hb1 omA,HCB.out.below hb1 omA,HRB.out.below hb1 hzW,hls,fun a ha=>by have:=hlA a ha;omega,HK.out.below hbel1,(Kept2.refl g q w).below hbel1,hgl,hbl,hql,hgB,hbB,hBq⟩
  have hx:=HNEW.out x hx
  exact ⟨hx.name,hx.ns,hx.refs,by rw [hx.own];simp,by rw [hx.own];simp,by rw [hx.own];exact SliceIs.nil,fun a ha=>(by rw [hx.A] at ha;cases ha),fun a ha=>(by rw [hx.A] at ha;cases ha)⟩
 have HINV:=qh hinv
 clear hinv HOW HOW1 HSL0 HK HTB HCB HRB HNEW HN hb1 hbel1 hlA hls q0 q1 q2 q3
 go_upto_block 0 with (fail)
 go_cut [] (fun wc => ∃ (cols:List Col) (er:Int),OwnInv 20 w g b q B n cap (.slice A ts.length c) (.string nm) rt LA l cols er wc)
 case first =>
  go_wp2_with fail
  go_loopw [8] (fun vi wr => ∃ (i:Nat) (cols:List Col) (er:Int),i≤n∧vi = .int .i64 i∧OwnInv 20 w g b q B n cap (.slice A ts.length c) (.string nm) rt LA l cols er wr) (fun vi _=>n - (intOf vi).toNat)
  case atStart=>exact ⟨0,cols0,er,Nat.zero_le _,rfl,HINV.out⟩
  case round =>
   clear HINV
   obtain ⟨i,cols,er2,hin,rfl,hinv⟩:=hrel
   have HINV:=qh hinv
   obtain ⟨q0,q1,q2,q3⟩:=Tab.blk hinv.tbox
   have hwz:=hinv.res.lt
   have hci:i<n→i<cols.length:=fun h=>by rw [hinv.len];exact h
   clear hinv
   by_cases hlt:i<n
   ·have hil:=hci hlt
    have hlt':decide (i<n)=true:=by simpa using hlt
    by_cases hl0 : 0<l.length
    ·have hl0':decide (0<l.length)=true:=by simpa using hl0
     clear hci
     go_wp2_with fail
     (with_reducible refine (tape_Next g b 3 _ HINV.out.tape omA omA).mono ?_)
     rintro e w2 ⟨r1,rfl,hr1,hk2,hg2⟩
     have HI2:=qh (HINV.out.next hg2 hk2)
     clear HINV hk2 hg2 q0 q1 q2 q3 hr1
     by_cases hi0:i = 0
     ·have hi0':((i:Int) == 0)=true:=by simp;omega
      have hi1':decide (0<(i:Int))=false:=by simp;omega
      have hi2':decide (0<i)=false:=by simp;omega
      clear hi0
      by_cases hr0:r1 = 0
      ·subst hr0
       exact lOwnG1
      ·have hr0':((r1:Int) == 0)=false:=by simp;omega
       go_wp2_with fail
       go_roundw
       case rel=>exact ⟨i + 1,cols,er2,by omega,by go_num,HI2.out⟩
       case measure=>exact meA
     ·have hi0':((i:Int) == 0)=false:=by simp;omega
      have hi1':decide (0<(i:Int))=true:=by simp;omega
      have hi2':decide (0<i)=true:=by simp;omega
      clear hi0
      go_wp2_with fail
      (with_reducible refine (tape_Next g b 4 _ HI2.out.tape omA omA).mono ?_)
      rintro e w2' ⟨r2,rfl,hr2,hk2,hg2⟩
      have HI2':=qh (HI2.out.next hg2 hk2)
      clear HI2 hk2 hg2 hr2
      have HI2:=HI2'
      clear HI2'
      by_cases hr0:r2 = 0
      ·subst hr0
       go_wp2_with fail
       go_roundw
       case rel=>exact ⟨i + 1,cols,er2,by omega,by go_num,HI2.out⟩
       case measure=>exact meA
      ·have hr0':((r2:Int) == 0)=false:=by simp;omega
       clear hr0
       exact lOwnG1
    ·have hl0':decide (0<l.length)=false:=by simpa using hl0
     go_wp2_with fail
     go_meet
     exact ⟨cols,er2,HINV.out⟩
   ·have hlt':decide (i<n)=false:=by simpa using hlt
    go_wp2_with fail
    go_meet
    exact ⟨cols,er2,HINV.out⟩
 case rest =>
  clear HINV
  obtain ⟨cols,er3,hinv⟩:=hcut
  have h20 : ∀ k (hk:k<cols.length),0≤k→cols[k].own.length ≤ 20:=fun k hk _=>(hinv.fine _ (lgm hk)).own
  have HINV:=qh (hinv.wide (show 20 ≤ 100 by omega))
  have H20:=qh h20
  clear hinv h20
  go_wp2_with fail
  go_loopw [12] (fun vi wr => ∃ (i:Nat) (cols:List Col),i≤n∧vi = .int .i64 i∧OwnInv 100 w g b q B n cap (.slice A ts.length c) (.string nm) rt LA l cols er3 wr∧(∀ k (hk:k<cols.length),i≤k→cols[k].own.length ≤ 20)) (fun vi _=>n - (intOf vi).toNat)
  case atStart=>exact ⟨0,cols,Nat.zero_le _,rfl,HINV.out,H20.out⟩
  case round =>
   clear HINV H20
   obtain ⟨i,cols,hin,rfl,hinv,h20⟩:=hrel
   have HINV:=qh hinv
   have H20:=qh h20
   obtain ⟨q0,q1,q2,q3⟩:=Tab.blk hinv.tbox
   have hwz:=hinv.res.lt
   have hci:i<n→i<cols.length:=fun h=>by rw [hinv.len];exact h
   clear hinv h20
   by_cases hlt:i<n
   ·have hil:=hci hlt
    have hlt':decide (i<n)=true:=by simpa using hlt
    clear hci
    go_wp2_with fail
    clear q0 q1 q2 q3
    obtain ⟨wo,rfl⟩ : ∃ wo:World,wo=wr:=⟨_,rfl⟩
    go_loopw [14] (fun vn wi => ∃ (m:Nat) (cols:List Col),m≤ts.length∧vn = .int .i64 m∧OwnInv 100 w g b q B n cap (.slice A ts.length c) (.string nm) rt LA l cols er3 wi∧(∀ k (hk:k<cols.length),i + 1≤k→cols[k].own.length ≤ 20)∧(∀ hk:i<cols.length,cols[i].own.length ≤ 20+m)) (fun vn _=>ts.length - (intOf vn).toNat)
    case atStart=>exact ⟨0,cols,Nat.zero_le _,rfl,HINV.out,fun k hk h=>H20.out k hk omA,fun hk=>by have:=H20.out i hk nlr;omega⟩
    case round =>
     clear HINV H20 hil
     obtain ⟨m,cols,hm,rfl,hinv,h20,h20m⟩:=hrel
     have HINV:=qh hinv
     have H20:=qh h20
     have hil:i<cols.length:=by rw [hinv.len];exact hlt
     have p0:=hinv.cbox.cell 0
     simp only [gE3] at p0
     have hwz:=hinv.res.lt
     by_cases hmt:m<ts.length
     ·have htab:=HT.out.kept2 hinv.kept HU.out hg0 HNE.out
      obtain ⟨tb,tbo,rfl,htb,htc⟩:=htab.1.get hmt
      obtain ⟨t0,t1,_,_⟩:=Tab.cells4 htc
      have hcl:=HC.out ts[m] (lgm hmt)
      obtain ⟨cb,co,hce,hcb,hcc⟩:=(htab.2 ts[m] (lgm hmt)).1.get hcl
      have z4:=hcc 4 _ rfl
      have s3:=hinv.own.getE col_len hinv.len.symm hil (j := 3) rfl
      have s4:=hinv.own.getE col_len hinv.len.symm hil (j := 4) rfl
      have s4f:=hinv.own.frzE hinv.len.symm (i * 7 + 4)
      have hqz:=hinv.own.lt q rfl
      simp only [Nat.zero_mul,Nat.add_zero] at z4
      have hf:=hinv.fine cols[i] (lgm hil)
      have hol:=h20m hil
      obtain ⟨⟨xn,xt,xs,xr,xA,xc,xo,xj,xd⟩,hx⟩ : ∃ x:Col,cols[i]=x:=⟨_,rfl⟩
      rw [hx] at s3 s4 hf hol
      rw [hce] at t1
      obtain ⟨tn,htn⟩ : ∃ s,ts[m].name=s:=⟨_,rfl⟩
      rw [htn] at t0
      obtain ⟨ol,hol0⟩ : ∃ k:Nat,ts[m].cols[0].own.length=k:=⟨_,rfl⟩
      rw [hol0] at z4
      obtain ⟨cl,hcle⟩ : ∃ k:Nat,ts[m].cols.length=k:=⟨_,rfl⟩
      rw [hcle] at t1 hcl
      have hcl':decide (0<cl)=true:=by simpa using hcl
      have hk0:=keepQ (w:=wr) tb htb
      have hk1:=keepQ (w:=wr) cb hcb
      have hk2:=keepQ (w:=wr) q hqz
      have hk3:=keepQ (w:=wr) w.heap.size omA
      have HX:=qh hx
      have HF:=qh hf
      clear hinv h20 h20m htab htc hce hcc hx htn hol0 hcle hf
      by_cases hnm:tn=xr
      ·have hs:=strT hnm
       clear hnm
       by_cases ho0 : 0<ol
       ·have ho0':decide (0<ol)=true:=by simpa using ho0
        go_upto_region 23 with (fail)
        refine wp_region_bel krA krA ?_;(repeat (go_big_quiet_step (fail)));refine wpQuiet_nil ?_;intro wq hq
        have HIQ:=qh (HINV.out.below hq)
        clear hk0 hk1 hk2 hk3 p0 t0 t1 z4 s3 s4 s4f hs
        have s4:=HIQ.out.own.getE col_len HIQ.out.len.symm hil (j := 4) (by rw [HX.out];rfl)
        have hfq:=HIQ.out.fine cols[i] (lgm hil)
        rw [HX.out] at hfq
        have HFQ:=qh hfq
        have HXCAP:=qh hfq.cap
        have HXL:=qh hfq.list
        have hwq:=HIQ.out.res.lt
        simp only at s4
        clear hfq
        go_wp2_with fail
        (with_reducible refine (kit_insert xA xc xo.length xo (i:Int) _ HXL.out rfl omA HXCAP.out).mono ?_)
        rintro e w8 ⟨⟨A8,c8,rfl,hc8,hs8,hA8⟩,hb8⟩
        have hil8:(insI xo (i:Int)).length≤xo.length + 1:=insG_len (fun a b:Int=>a<b) xo (i:Int)
        have hpos : 0<(insI xo (i:Int)).length:=List.length_pos_of_mem ((insG_mem (fun a b:Int=>a<b) xo (i:Int) (i:Int)).2 (.inr rfl))
        have HI8:=qh (HIQ.out.below hb8)
        have s4':=HI8.out.own.getE col_len HI8.out.len.symm hil (j := 4) (by rw [HX.out];rfl)
        have s4f:=HI8.out.own.frzE HI8.out.len.symm (i * 7 + 4)
        have hw8:=hb8.size
        have hcf:ColFine 100 (w.heap.size + 3) w8 ⟨xn,xt,xs,xr,A8,c8,insI xo (i:Int),xj,xd⟩:=by
         have hf8:=HI8.out.fine cols[i] (lgm hil)
         rw [HX.out] at hf8
         refine ⟨hf8.name,hf8.ns,hf8.refs,show (insI xo (i:Int)).length ≤ 100 by omega,hc8,hs8,fun a ha => ?_,fun a ha => ?_⟩
         ·rcases hA8 with h|h
          ·exact hf8.up a (h▸ha)
          ·have:=h a ha
           omega
         ·obtain ⟨b9,o9,he9,hb9,_⟩:=hs8 hpos
          have ha:A8=some a:=ha
          rw [he9] at ha
          injection ha with ha
          subst ha
          exact hb9
        have HCF:=qh hcf
        clear hcf hs8 hA8 hc8 hb8 HIQ HFQ HXCAP HXL s4
        go_wp2_with fail
        go_roundw
        case rel=>exact ⟨m + 1,cols.set i ⟨xn,xt,xs,xr,A8,c8,insI xo (i:Int),xj,xd⟩,by omega,by go_num,HI8.out.set hil ⟨xn,xt,xs,xr,A8,c8,insI xo (i:Int),xj,xd⟩ (j := 4) omA rfl (by rw [HX.out];rfl) HCF.out,fun k hk hki=>by rw [List.getElem_set_ne omA];exact H20.out k (by simpa using hk) hki,fun hk=>by rw [List.getElem_set_self];show (insI xo (i:Int)).length ≤ 20+(m + 1);omega⟩
        case measure=>exact meA
       ·have ho0':decide (0<ol)=false:=by simpa using ho0
        go_upto_region 23 with (fail)
        refine wp_region_bel krA krA ?_;(repeat (go_big_quiet_step (fail)));refine wpQuiet_nil ?_;intro wq hq
        clear hk0 hk1 hk2 hk3 p0 t0 t1 z4 s3 s4 s4f hs
        have HIQ:=qh (HINV.out.below hq)
        go_wp2_with fail
        go_roundw
        case rel=>exact ⟨m + 1,cols,by omega,by go_num,HIQ.out,H20.out,fun hk=>by rw [HX.out];exact Nat.le_succ_of_le hol⟩
        case measure=>exact meA
      ·have hs:=strF hnm
       clear hnm
       go_upto_region 23 with (fail)
       refine wp_region_bel krA krA ?_;(repeat (go_big_quiet_step (fail)));refine wpQuiet_nil ?_;intro wq hq
       clear hk0 hk1 hk2 hk3 p0 t0 t1 z4 s3 s4 s4f hs
       have HIQ:=qh (HINV.out.below hq)
       go_wp2_with fail
       go_roundw
       case rel=>exact ⟨m + 1,cols,by omega,by go_num,HIQ.out,H20.out,fun hk=>by rw [HX.out];exact Nat.le_succ_of_le hol⟩
       case measure=>exact meA
     ·have hmt':decide (m<ts.length)=false:=by simpa using hmt
      clear hinv h20
      have hme:m=ts.length:=by omega
      go_wp2_with fail
      go_roundw
      case rel=>exact ⟨i + 1,cols,by omega,by go_num,HINV.out,H20.out⟩
      case measure=>exact meA
   ·have hlt':decide (i<n)=false:=by simpa using hlt
    clear hci
    have hinv:=HINV.out
    obtain ⟨r0,r1,r2,r3⟩:=Tab.blk hinv.res
    have f0:=hinv.res.frozen 0
    have f1:=hinv.res.frozen 1
    have f2:=hinv.res.frozen 2
    have f3:=hinv.res.frozen 3
    have HE:=qh hinv.toEnd
    clear hinv HINV
    go_wp2_with fail
    refine bodyPost_ret (v := .agg #[.string nm, .slice (some ⟨q,0,none⟩) n cap, .int .i64 er3, .int .i64 rt]) (by simp [results,Tryz.results28,go_sem,r0,r1,r2,r3]) rfl ?_
    have hE:=(((HE.out.set 0 (.string nm)).set 1 (.slice (some ⟨q,0,none⟩) n cap)).set 2 (.int .i64 er3)).set 3 (.int .i64 rt)
    exact ⟨cols,er3,rfl,hE.own,hE.len,hE.low,hE.tape,hE.kept⟩
def colD0:Col:=⟨⟨#[99,48]⟩,1,⟨#[112,101,114,115,111,110]⟩,⟨#[]⟩,none,0,[],0,0⟩
def colD1 (b:Nat):Col:=⟨⟨#[99,49]⟩,2,⟨#[]⟩,⟨#[]⟩,some ⟨b,0,none⟩,1,[0],0,0⟩
def tabD (b q:Nat):Tab:=⟨⟨#[116,48]⟩,some ⟨q,0,none⟩,2,[colD0,colD1 b],0,0⟩
theorem colD0_ok (ts:List Tab) (b q:Nat):colErr ts [colD0,colD1 b] 0 0 0 0 colD0 = 0:=by
 have h1:cE1 colD0=false:=by decide +kernel
 have h2:cE2 [colD0,colD1 b] 0 colD0=false:=pb_false (fun ⟨k,h,hk,_⟩=>by omega)
 have hr:(!colD0.refs.toList.isEmpty)=false:=by decide +kernel
 have h3 : ∀ tg,cE3 colD0 tg=false:=fun tg=>by rw [cE3,hr];rfl
 have h4 : ∀ tg,cE4 ts colD0 tg=false:=fun tg=>by rw [cE4,hr,Bool.and_false,Bool.false_and,Bool.or_false];rfl
 have h5:cE5 [colD0,colD1 b] colD0=false:=by
  have:pb (OwnersOk [colD0,colD1 b] colD0.own)=true:=pb_true (fun i h=>by simp [colD0] at h)
  rw [cE5,hr,this]
  simp [colD0,colD1,withinB]
 have h6:cE6 0 0 0 colD0=false:=by rfl
 have h7 : ∀ tg,cE7 ts 0 colD0 tg=false:=fun tg=>by rw [cE7,hr];rfl
 unfold colErr
 simp only [h1,h2,h3,h4,h5,h6,h7]
 rfl
theorem colD1_ok (ts:List Tab) (b q:Nat):colErr ts [colD0,colD1 b] 0 0 0 1 (colD1 b) = 0:=by
 have h1:cE1 (colD1 b)=false:=by
  have e1:nameB (colD1 b).name=true:=by show nameB ⟨#[99,49]⟩=true;decide +kernel
  have e2:(!(colD1 b).ns.toList.isEmpty)=false:=by show (!(⟨#[]⟩:ByteArray).toList.isEmpty)=false;decide +kernel
  rw [cE1,e1,e2]
  rfl
 have h2:cE2 [colD0,colD1 b] 1 (colD1 b)=false:=pb_false (fun ⟨k,h,hk,he⟩=>by
  obtain rfl:k = 0:=by omega
  have he:(⟨#[99,48]⟩:ByteArray)=⟨#[99,49]⟩:=he
  exact absurd he (by decide +kernel))
 have hr:(!(colD1 b).refs.toList.isEmpty)=false:=by show (!(⟨#[]⟩:ByteArray).toList.isEmpty)=false;decide +kernel
 have hn:(!(colD1 b).ns.toList.isEmpty)=false:=hr
 have h3 : ∀ tg,cE3 (colD1 b) tg=false:=fun tg=>by rw [cE3,hr];rfl
 have h4 : ∀ tg,cE4 ts (colD1 b) tg=false:=fun tg=>by rw [cE4,hr,Bool.and_false,Bool.false_and,Bool.or_false];rfl
 have h5:cE5 [colD0,colD1 b] (colD1 b)=false:=by
  have:pb (OwnersOk [colD0,colD1 b] (colD1 b).own)=true:=pb_true (fun i h=>by
   have h':i < 1:=h
   obtain rfl:i = 0:=by omega
   refine ⟨show (0:Int) ≤ 0 by omega,show (0:Int).toNat < 2 by decide,fun h0=>absurd h0 omA,?_⟩
   rintro ⟨e,_⟩
   have e:(⟨#[112,101,114,115,111,110]⟩:ByteArray)=⟨#[]⟩:=e
   exact absurd e (by decide +kernel))
  rw [cE5,hr,this]
  simp [colD0,colD1,withinB]
 have h6:cE6 0 0 1 (colD1 b)=false:=by rfl
 have h7 : ∀ tg,cE7 ts 1 (colD1 b) tg=false:=fun tg=>by rw [cE7,hr];rfl
 unfold colErr
 simp only [h1,h2,h3,h4,h5,h6,h7]
 rfl
theorem catD_ok (b q:Nat):CatOk [tabD b q]:=by
 refine ⟨by simp,fun i h => ?_⟩
 have h':i < 1:=by simpa using h
 obtain rfl:i = 0:=by omega
 refine ⟨?_,fun k hk=>by omega,?_⟩
 ·show nameB ⟨#[116,48]⟩=true
  decide +kernel
 ·show tabErr [tabD b q] 0 (tabD b q) = 0
  have hs:shapeB (tabD b q)=true:=rfl
  rw [tabErr,if_pos hs]
  refine firstErr_none fun i hi => ?_
  have hi':i < 2:=hi
  rcases (show i = 0∨i = 1 by omega) with rfl|rfl
  ·exact colD0_ok _ b q
  ·exact colD1_ok _ b q
theorem catD_sane (b q:Nat):SaneCat [tabD b q]:=by
 refine ⟨by simp,fun t ht => ?_⟩
 rw [List.mem_singleton.1 ht]
 refine ⟨show 2 ≤ 1000000 by omega,show 2 ≤ 1000000 by omega,Nat.le_refl 2,fun x hx => ?_⟩
 have hx:x=colD0∨x=colD1 b:=by simpa [tabD] using hx
 rcases hx with rfl|rfl
 ·exact ⟨show 2 ≤ 1000000 by omega,show 6 ≤ 1000000 by omega,show 0 ≤ 1000000 by omega,show 0 ≤ 1000000 by omega⟩
 ·exact ⟨show 2 ≤ 1000000 by omega,show 0 ≤ 1000000 by omega,show 0 ≤ 1000000 by omega,show 1 ≤ 1000000 by omega⟩
theorem lTabG1 {P:Prop} (h:P:=by
 refine hK.out _ _ _ ⟨(HIX.out.cat.below hb10 hzc),(HBX.out.below hb10 hzT)⟩ (fun hHeld => ?_)
 clear hK K
 refine tkT 7 hHeld ?_ (hy:=by intro w' hSw;obtain ⟨sw1,sw2⟩:=hSw;obtain ⟨sa0,sa1,sa2,sa3,sa4,sa5,sa6,sa7⟩:=Cat.blk sw1;obtain ⟨sb0,sb1,sb2,sb3⟩:=Tab.blk sw2;clear sw1 sw2;go_simp;first|done|with_reducible rfl)
 refine rzT 8 (fun K hK => ?_)
 clear hHeld
 have hBD10:=HBD.out.below hb10 hzX
 have s0:=hBD10.cell 0
 have sf:=hBD10.frozen 0
 simp only [gE3] at s0
 go_simp
 refine hK.out _ _ _ ?_
 clear hK K
 refine wpT_done krA ?_ _
 go_wp2_with fail
 go_meet
 refine ⟨A10,c10,by simpa using hc10,?_,?_,fun a ha => ?_,only_setCell (only_of_below hb10 _) (.inl rfl) _⟩
 ·have:=hBD10.set_ 0 (.slice A10 (ts.length + 1) c10)
  simpa using this
 ·have:=hs10.far (p:=⟨V.heap.size,0,none⟩) (fun a ha e=>by have:=(hA10 a ha).1;have e:a.block=V.heap.size:=e;omega) (.slice A10 (ts.length + 1) c10)
  simpa using this
 ·have:=hA10 a ha
  simpa using this):P:=h
def TabsBd (B:Nat) (A:Option Addr) (ts:List Tab):Prop:=(∀ a,A=some a→a.block<B) ∧ ∀ t∈ts,(∀ a,t.A=some a→a.block<B) ∧ ∀ x∈t.cols,∀ a,x.A=some a→a.block<B
theorem TabsBd.mono {B B':Nat} {A:Option Addr} {ts:List Tab} (h:TabsBd B A ts) (hB:B≤B'):TabsBd B' A ts :=
 ⟨fun a ha=>Nat.lt_of_lt_of_le (h.1 a ha) hB,fun t ht=>⟨fun a ha=>Nat.lt_of_lt_of_le ((h.2 t ht).1 a ha) hB,fun x hx a ha=>Nat.lt_of_lt_of_le ((h.2 t ht).2 x hx a ha) hB⟩⟩
theorem TabsBd.ne {B q:Nat} {A:Option Addr} {ts:List Tab} (h:TabsBd B A ts) (hq:B≤q):TabsNe q A ts :=
 ⟨fun a ha e=>by have:=h.1 a ha;omega,fun t ht=>⟨fun a ha e=>by have:=(h.2 t ht).1 a ha;omega,fun x hx a ha e=>by have:=(h.2 t ht).2 x hx a ha;omega⟩⟩
theorem TabsIn.grownNe {w w':World} {A:Option Addr} {ts:List Tab} {d:Nat} (h:TabsIn w w.heap.size A ts) (hg:w.grownBy w' (some d)) (hne:TabsNe d A ts):TabsIn w' w'.heap.size A ts :=
 ⟨h.1.grown hg (fun a ha e=>hne.1 a ha (by injection e)),fun t ht=>⟨(h.2 t ht).1.grown hg (fun a ha e=>(hne.2 t ht).1 a ha (by injection e)),fun x hx=>((h.2 t ht).2 x hx).grown hg (fun a ha e=>(hne.2 t ht).2 x hx a ha (by injection e))⟩⟩
theorem TabsUp.ne {B q:Nat} {A:Option Addr} {ts:List Tab} (h:TabsUp B A ts) (hq:q<B):TabsNe q A ts :=
 ⟨fun a ha e=>by have:=h.1 a ha;omega,fun t ht=>⟨fun a ha e=>by have:=(h.2 t ht).1 a ha;omega,fun x hx a ha e=>by have:=(h.2 t ht).2 x hx a ha;omega⟩⟩
theorem TabsUp.app {B:Nat} {A A':Option Addr} {ts:List Tab} {t:Tab} (h:TabsUp B A ts) (h1 : ∀ a,A'=some a→B≤a.block) (h2 : ∀ a,t.A=some a→B≤a.block) (h3 : ∀ x∈t.cols,∀ a,x.A=some a→B≤a.block):TabsUp B A' (ts ++ [t]) :=
 ⟨h1,fun y hy=>by
  rcases List.mem_append.1 hy with hy|hy
  ·exact h.2 y hy
  ·rw [List.mem_singleton.1 hy];exact ⟨h2,h3⟩⟩
theorem TabsBd.app {B:Nat} {A A':Option Addr} {ts:List Tab} {t:Tab} (h:TabsBd B A ts) (h1 : ∀ a,A'=some a→a.block<B) (h2 : ∀ a,t.A=some a→a.block<B) (h3 : ∀ x∈t.cols,∀ a,x.A=some a→a.block<B):TabsBd B A' (ts ++ [t]) :=
 ⟨h1,fun y hy=>by
  rcases List.mem_append.1 hy with hy|hy
  ·exact h.2 y hy
  ·rw [List.mem_singleton.1 hy];exact ⟨h2,h3⟩⟩
theorem SaneCat.app {ts:List Tab} {t:Tab} (h:SaneCat ts) (hl:ts.length ≤ 100) (ht:SaneTab t):SaneCat (ts ++ [t]) :=
 ⟨by simp;omega,fun y hy=>by
  rcases List.mem_append.1 hy with hy|hy
  ·exact h.tabs y hy
  ·rw [List.mem_singleton.1 hy];exact ht⟩
theorem TabsIn.app {w:World} {A A':Option Addr} {ts:List Tab} {t:Tab} (h:TabsIn w w.heap.size A ts) (hs:SliceIs w w.heap.size Tab.cells 4 A' (ts ++ [t])) (ht:ColsIn w w.heap.size t.A t.cols):TabsIn w w.heap.size A' (ts ++ [t]) :=
 ⟨hs,fun y hy=>by
  rcases List.mem_append.1 hy with hy|hy
  ·exact h.2 y hy
  ·rw [List.mem_singleton.1 hy];exact ht⟩
structure GenInv (w:World) (g b:Nat) (A:Option Addr) (c:Nat) (ts:List Tab) (u:World):Prop where
 cat:Blk u (w.heap.size + 1) 34 #[.slice A ts.length c, .slice none 0 0, .slice none 0 0, .slice none 0 0, .slice none 0 0, .slice none 0 0, .slice none 0 0, .slice none 0 0]
 res:Blk u w.heap.size 34 #[.slice none 0 0, .slice none 0 0, .slice none 0 0, .slice none 0 0, .slice none 0 0, .slice none 0 0, .slice none 0 0, .slice none 0 0]
 tabs:TabsIn u u.heap.size A ts
 up:TabsUp (w.heap.size + 2) A ts
 bd:TabsBd u.heap.size A ts
 ok:CatOk ts
 sane:SaneCat ts
 cap:ts.length≤c
 tape:IsTape u g b
 grown:w.grownBy u (some g)
 ltg:g<w.heap.size
 ltb:b<w.heap.size
section
variable {w u v:World} {g b:Nat} {A:Option Addr} {c:Nat} {ts:List Tab}
theorem GenInv.next (h:GenInv w g b A c ts u) (hg:u.grownBy v (some g)) (hk:IsTape v g b):GenInv w g b A c ts v:=by
 have h1:=h.ltg
 have hne : ∀ i,w.heap.size≤i→some i≠some g:=fun i hi e=>by injection e with e;omega
 exact ⟨h.cat.grown hg (hne _ omA),h.res.grown hg (hne _ omA),h.tabs.grown h.up omA hg,h.up,h.bd.mono hg.size,h.ok,h.sane,h.cap,hk,grown_trans h.grown hg,h.ltg,h.ltb⟩
theorem catOk_nil:CatOk []:=⟨by simp,fun i h=>by simp at h⟩
theorem sane_nilT:SaneCat []:=⟨by simp,fun t h=>by simp at h⟩
end
theorem ColFine.farB {M w0:Nat} {u:World} {x:Col} (h:ColFine M w0 u x) {p:Addr} (hp:p.block<w0) (z:Value):ColFine M w0 (u.setCell p z) x :=
 ⟨h.name,h.ns,h.refs,h.own,h.cap,by have:=h.list.far (p:=p) (fun a ha e=>by have:=h.up a ha;omega) z;simpa using this,h.up,fun a ha=>by simpa using h.lt a ha⟩
theorem IsTape.drewG {w:World} {g b:Nat} (h:IsTape w g b):IsTape w.drew g b:=h.below (brf.drew)
theorem tape_Tables (g b n:Nat) (w:World) (hk:IsTape w g b) (hn:n ≤ 3) (hn1 : 1≤n) :
 Calls Tryz.prog 8 #[.pointer (some ⟨g,0,none⟩), .int .i64 n] w fun e w' =>
  ∃ (A:Option Addr) (c:Nat) (ts:List Tab),e = .returned (.agg #[.slice A ts.length c, .slice none 0 0, .slice none 0 0, .slice none 0 0, .slice none 0 0, .slice none 0 0, .slice none 0 0, .slice none 0 0])∧TabsIn w' w'.heap.size A ts∧TabsUp w.heap.size A ts∧TabsBd w'.heap.size A ts∧SaneCat ts∧CatOk ts ∧ 0<ts.length∧ts.length≤n∧IsTape w' g b∧w.grownBy w' (some g):=by
 have HK:=qh hk
 have hgl:=hk.ltg
 have hbl:=hk.lt
 obtain ⟨ic,hic,hzc1,hzc2,hzc3⟩:=info_parts infoCol
 obtain ⟨it,hit,hzt1,hzt2,hzt3⟩:=info_parts infoTab
 clear hk
 go_enter Tryz.func8,Tryz.ntmps8
 go_upto_region 2 with (fail)
 refine abs_world (P:=fun u=>Code.wp _ _ _ _ u) (R:=fun u=>GenInv w g b none 0 ([]:List Tab) u) ?_ ?_
 ·refine ⟨Blk.new' spA,(Blk.new' rfl).alloc _,⟨SliceIs.nil,fun t h=>by simp at h⟩,⟨fun a ha=>(by cases ha),fun t h=>by simp at h⟩,⟨fun a ha=>(by cases ha),fun t h=>by simp at h⟩,catOk_nil,sane_nilT,Nat.le_refl _,(HK.out.alloc _).alloc _,only_of_below belA _,hgl,hbl⟩
 rintro W hinv
 have HINV:=qh hinv
 clear hinv HK
 go_upto_block 0 with (fail)
 go_cut [] (fun wc => ∃ (A:Option Addr) (c:Nat) (ts:List Tab),ts.length≤n∧GenInv w g b A c ts wc)
 case first =>
  go_wp2_with fail
  go_loopw [6] (fun vi wr => ∃ (i:Nat) (A:Option Addr) (c:Nat) (ts:List Tab),i≤n∧vi = .int .i64 i∧ts.length≤i∧GenInv w g b A c ts wr) (fun vi _=>n - (intOf vi).toNat)
  case atStart=>exact ⟨0,none,0,[],Nat.zero_le _,rfl,Nat.le_refl _,HINV.out⟩
  case round =>
   clear HINV
   obtain ⟨i,A,c,ts,hin,rfl,htl,hinv⟩:=hrel
   have HINV:=qh hinv
   have hwz:=hinv.cat.lt
   have hU:=hinv.tape
   clear hinv
   by_cases hlt:i<n
   ·have hlt':decide (i<n)=true:=by simpa using hlt
    have hlti:(i:Int)<(n:Int):=by omega
    have HT0:=qh hU
    clear hU
    go_wp2_with fail
    (with_reducible refine (kit_digit ⟨#[116]⟩ i omA (by decide) _).mono ?_)
    rintro e w1 ⟨rfl,hb1⟩
    obtain ⟨nx,hnx⟩ : ∃ nx:ByteArray,(⟨#[116]⟩++⟨#[digitB i]⟩:ByteArray)=nx:=⟨_,rfl⟩
    have hnxs:nx.size ≤ 2:=by rw [← hnx,ByteArray.size_append];exact Nat.le_refl 2
    rw [hnx]
    have hg1:wr.grownBy w1 (some g):=only_of_below hb1 _
    have HT1:=qh (HT0.out.below hb1)
    clear HT0 hnx hb1
    go_wp2_with fail
    (with_reducible refine (tape_Next g b 2 _ HT1.out omA omA).mono ?_)
    rintro e w2 ⟨r2,rfl,hr2,hk2,hg2⟩
    have hg12:=grown_trans hg1 hg2
    have HT2:=qh hk2
    clear HT1 hk2 hg1 hg2
    go_wp2_with fail
    (with_reducible refine (tape_Next g b 4 _ (HT2.out.alloc _) omA omA).mono ?_)
    rintro e w3 ⟨r3,rfl,hr3,hk3,hg3⟩
    have hr33:r3 < 4:=by rcases hr3 with h|h <;> omega
    have hL:Blk w3 w2.heap.size 3 #[.int .i64 0, .int .i64 0, .int .i64 25, .int .i64 40]:=Blk.grown (Blk.new' rfl) hg3 (fun e=>by injection e with e;have:=hg12.size;omega)
    obtain ⟨z3,hz3⟩ : ∃ z:Int,w3.cell? ⟨w2.heap.size,r3,none⟩=some (.int .i64 z):=by
     rw [hL.cell]
     rcases (show r3 = 0∨r3 = 1∨r3 = 2∨r3 = 3 by omega) with rfl|rfl|rfl|rfl
     all_goals exact ⟨_,rfl⟩
    have hg13:=grown_trans (grown_alloc hg12 _) hg3
    have HT3:=qh hk3
    clear HT2 hk3 hg12 hg3 hL hr2 hr3
    go_upto_region 6 with (fail)
    obtain ⟨T,hT⟩ : ∃ T,w3.heap.size=T:=⟨_,rfl⟩
    rw [hT]
    refine abs_world (P:=fun u=>Code.wp _ _ _ _ u) (R:=fun u=>Blk u T 71 #[.string nx, .slice none 0 0, .int .i64 r2, .int .i64 z3]∧IsTape u g b∧wr.grownBy u (some g)) ⟨?_,?_,?_⟩ ?_
    ·exact Blk.new' hT
    ·exact HT3.out.alloc _
    ·exact grown_alloc hg13 _
    have hTz:wr.heap.size≤T:=by have:=hg13.size;omega
    clear HT3 hg13 hT hz3
    rintro U ⟨hBU,hKU,hGU⟩
    have HBU:=qh hBU
    have HKU:=qh hKU
    have hUz:=hBU.lt
    clear hBU hKU
    go_wp2_with fail
    (with_reducible refine (tape_Next g b 3 _ HKU.out omA omA).mono ?_)
    rintro e w4 ⟨r4,rfl,hr4,hk4,hg4⟩
    have hr44:r4 < 3:=by rcases hr4 with h|h <;> omega
    have hG4:=grown_trans hGU hg4
    have HT4:=qh hk4
    have HB4:=qh (HBU.out.grown hg4 (fun e=>by injection e with e;omega))
    have hz4:=hG4.size
    have hTz4:=HB4.out.lt
    clear HKU HBU hGU hk4 hg4 hr4
    go_wp2_with fail
    obtain ⟨wo,rfl⟩ : ∃ wo:World,wo=wr:=⟨_,rfl⟩
    go_loopw [8] (fun vm wi => ∃ (mm:Nat) (A9:Option Addr) (c9:Nat) (cols:List Col),vm = .int .i64 mm∧cols.length+mm = 2+r4∧Blk wi T 71 #[.string nx, .slice A9 cols.length c9, .int .i64 r2, .int .i64 z3]∧Owns wi (T + 1) 73 Col.cells 7 (.slice A9 cols.length c9) cols∧(∀ x∈cols,ColNew x)∧IsTape wi g b∧wo.grownBy wi (some g)) (fun vm _=>(intOf vm).toNat)
    case atStart=>exact ⟨2+r4,none,0,[],by go_num,by simp,HB4.out,Owns.nil,fun x h=>absurd h spA,HT4.out,hG4⟩
    case round =>
     clear HB4 HT4 hG4 hz4 hTz4 hUz
     obtain ⟨mm,A9,c9,cols,rfl,hmm,hB5,hO5,hN5,hK5,hG5⟩:=hrel
     have hI5:=HINV.out.next hG5 hK5
     have HI5:=qh hI5
     have HB5:=qh hB5
     have HO5:=qh hO5
     have HN5:=qh hN5
     have HK5:=qh hK5
     have hrow:=hO5.row
     have hTz5:=hB5.lt
     have hcat:=hI5.cat
     obtain ⟨p0,p1,p2,p3⟩:=Tab.blk hB5
     have hz5:=hG5.size
     by_cases hm0 : 0<mm
     ·have hm0':(0:Int)<(mm:Int):=by omega
      have hcl5:cols.length ≤ 4:=by omega
      clear hI5 hO5 hN5 hK5
      go_upto_region 9 with (fail)
      clear p0 p1 p2 p3
      have HCAT:=qh hcat
      refine wp_region_T (S:=(fun w'=>Blk w' (w.heap.size + 1) 34 #[.slice A ts.length c, .slice none 0 0, .slice none 0 0, .slice none 0 0, .slice none 0 0, .slice none 0 0, .slice none 0 0, .slice none 0 0]∧Blk w' T 71 #[.string nx, .slice A9 cols.length c9, .int .i64 r2, .int .i64 z3])) [12] krA ⟨hcat.drew,hB5.drew⟩ (fun hHeld => ?_)
      clear hcat hB5
      refine tkT 0 hHeld ?_ (hy:=by intro w' hSw;obtain ⟨sw1,sw2⟩:=hSw;obtain ⟨sa0,sa1,sa2,sa3,sa4,sa5,sa6,sa7⟩:=Cat.blk sw1;obtain ⟨sb0,sb1,sb2,sb3⟩:=Tab.blk sw2;clear sw1 sw2;go_simp;first|done|with_reducible rfl)
      refine tkT 1 hHeld ?_ (hy:=by intro w' hSw;obtain ⟨sw1,sw2⟩:=hSw;obtain ⟨sa0,sa1,sa2,sa3,sa4,sa5,sa6,sa7⟩:=Cat.blk sw1;obtain ⟨sb0,sb1,sb2,sb3⟩:=Tab.blk sw2;clear sw1 sw2;go_simp;first|done|with_reducible rfl)
      refine tkT 2 hHeld ?_ (hy:=by intro w' hSw;obtain ⟨sw1,sw2⟩:=hSw;obtain ⟨sa0,sa1,sa2,sa3,sa4,sa5,sa6,sa7⟩:=Cat.blk sw1;obtain ⟨sb0,sb1,sb2,sb3⟩:=Tab.blk sw2;clear sw1 sw2;go_simp;first|done|with_reducible rfl)
      refine tkT 3 hHeld ?_ (hy:=by intro w' hSw;obtain ⟨sw1,sw2⟩:=hSw;obtain ⟨sa0,sa1,sa2,sa3,sa4,sa5,sa6,sa7⟩:=Cat.blk sw1;obtain ⟨sb0,sb1,sb2,sb3⟩:=Tab.blk sw2;clear sw1 sw2;go_simp;first|done|with_reducible rfl)
      refine tkT 4 hHeld ?_ (hy:=by intro w' hSw;obtain ⟨sw1,sw2⟩:=hSw;obtain ⟨sa0,sa1,sa2,sa3,sa4,sa5,sa6,sa7⟩:=Cat.blk sw1;obtain ⟨sb0,sb1,sb2,sb3⟩:=Tab.blk sw2;clear sw1 sw2;go_simp;first|done|with_reducible rfl)
      refine tkT 5 hHeld ?_ (hy:=by intro w' hSw;obtain ⟨sw1,sw2⟩:=hSw;obtain ⟨sa0,sa1,sa2,sa3,sa4,sa5,sa6,sa7⟩:=Cat.blk sw1;obtain ⟨sb0,sb1,sb2,sb3⟩:=Tab.blk sw2;clear sw1 sw2;go_simp;first|done|with_reducible rfl)
      refine tkT 6 hHeld ?_ (hy:=by intro w' hSw;obtain ⟨sw1,sw2⟩:=hSw;obtain ⟨sa0,sa1,sa2,sa3,sa4,sa5,sa6,sa7⟩:=Cat.blk sw1;obtain ⟨sb0,sb1,sb2,sb3⟩:=Tab.blk sw2;clear sw1 sw2;go_simp;first|done|with_reducible rfl)
      refine tkT 7 hHeld ?_ (hy:=by intro w' hSw;obtain ⟨sw1,sw2⟩:=hSw;obtain ⟨sa0,sa1,sa2,sa3,sa4,sa5,sa6,sa7⟩:=Cat.blk sw1;obtain ⟨sb0,sb1,sb2,sb3⟩:=Tab.blk sw2;clear sw1 sw2;go_simp;first|done|with_reducible rfl)
      refine r1T 8 (fun K hK => ?_)
      go_simp
      (with_reducible refine (tape_column g b (w.heap.size + 2) A c ts.length ts _ cols.length _ HK5.out.drewG (HI5.out.tabs.next belA) rfl HI5.out.up omA omA (fun t ht=>by obtain ⟨k,hk,rfl⟩:=List.getElem_of_mem ht;exact (HI5.out.ok.cols hk).1) HI5.out.sane omA ⟨nx, .slice A9 cols.length c9,r2,z3,rfl,rfl⟩).mono ?_)
      rintro e w5 ⟨⟨xn,xt,xs,xr,xA,xc,xo,xj,xd⟩,rfl,hxn,hk6,hg6⟩
      have hneT:some T≠some g:=fun e=>by injection e with e;omega
      have hneC:some (w.heap.size + 1)≠some g:=fun e=>by injection e with e;omega
      have HK6:=qh hk6
      have hG6:wo.grownBy w5 (some g):=grown_trans (grown_drew hG5) hg6
      have HO6:=qh (HO5.out.drew.grown hg6 omA)
      have hz6:=hG6.size
      have HXN:=qh hxn
      have hTz6:T<w5.heap.size:=by have:=hg6.size;simp at this;omega
      clear hk6 hxn
      go_wp2_with fail
      refine hK.out _ _ _ ⟨(hHeld.1.grown hg6 hneC),(hHeld.2.grown hg6 hneT)⟩ (fun hHeld => ?_)
      clear hK K
      clear hg6
      refine r1T 9 (fun K hK => ?_)
      dsimp only [Col.cells]
      go_simp
      refine hK.out _ _ _ ⟨(hHeld.1.alloc _),(hHeld.2.alloc _)⟩ (fun hHeld => ?_)
      clear hK K
      refine r1T 10 (fun K hK => ?_)
      (refine step_append_list _ rfl (.tmp 33) (.tmp 41) 69 rfl 73 ic _ Col.cells 7 96 Tryz.underlying69 hic hzc1 hzc2 hzc3 rfl omA col_len col_one (T + 1) (.slice A9 cols.length c9) cols rfl (HO6.out.alloc _) _ _ _ [⟨xn,xt,xs,xr,xA,xc,xo,xj,xd⟩] rfl rfl (Blk.one (enc:=Col.cells) (x:=⟨xn,xt,xs,xr,xA,xc,xo,xj,xd⟩) (Blk.new' rfl) spA) smA mxA smA ?_;intro v' w6 hown6 hg7 hat7)
      obtain ⟨A10,c10,rfl,hc10,hA10⟩:=hown6.form
      have hrowne : ∀ k,k<T + 1→some k≠(Value.slice A9 cols.length c9).ownBlock:=fun k hk e=>by have:=hrow _ e.symm;omega
      have HK7:=qh ((HK6.out.alloc _).grownO hg7 (hrowne g omA) (hrowne b omA))
      have hG7:wo.grownBy w6 (some g):=grown_newO (grown_alloc hG6 _) hg7 (fun q e=>by have:=hrow q e;omega)
      refine hK.out _ _ _ ⟨(hHeld.1.grown hg7 (hrowne _ omA)),(hHeld.2.grown hg7 (hrowne _ omA))⟩ (fun hHeld => ?_)
      clear hK K
      have HB7:=qh hHeld.2
      have HO7:=qh hown6
      have hTz7:=hHeld.2.lt
      obtain ⟨_,s1,_,_⟩:=Tab.blk hHeld.2
      have sf:=hHeld.2.frozen 1
      clear hown6 hg7 hat7 hc10 hA10
      refine tkT 11 hHeld ?_ (hy:=by intro w' hSw;obtain ⟨sw1,sw2⟩:=hSw;obtain ⟨sa0,sa1,sa2,sa3,sa4,sa5,sa6,sa7⟩:=Cat.blk sw1;obtain ⟨sb0,sb1,sb2,sb3⟩:=Tab.blk sw2;clear sw1 sw2;go_simp;first|done|with_reducible rfl)
      refine rzT 12 (fun K hK => ?_)
      clear hHeld
      go_simp
      refine hK.out _ _ _ ?_
      clear hK K
      refine wpT_done krA ?_ _
      clear s1 sf
      go_wp2_with fail
      go_roundw
      case rel =>
       refine ⟨mm - 1,A10,c10,cols ++ [⟨xn,xt,xs,xr,xA,xc,xo,xj,xd⟩],by go_num,by simp;omega,?_,HO7.out.far (fun k hk e => ?_) _,fun y hy => ?_,HK7.out.far smA smA _,only_setCell hG7 (.inr smA) _⟩
       ·have:=HB7.out.set_ 1 (.slice A10 (cols ++ [(⟨xn,xt,xs,xr,xA,xc,xo,xj,xd⟩:Col)]).length c10)
        simpa using this
       ·have h1:=HO7.out.row k hk
        have e:k=T:=e
        omega
       ·rcases List.mem_append.1 hy with h|h
        ·exact HN5.out y h
        ·rw [List.mem_singleton.1 h]
         exact HXN.out
      case measure=>exact meA
     ·obtain rfl:mm = 0:=by omega
      have hpos : 0<cols.length:=by omega
      have hcl8:cols.length ≤ 8:=by omega
      obtain ⟨q,cap,hq,hTq⟩:=hO5.some_of_pos hpos
      injection hq with hq1 hq2 hq3
      subst hq1 hq3
      clear hq2 hI5 hO5 hN5 hK5
      obtain ⟨a0,a1,a2,a3,a4,a5,a6,a7⟩:=Cat.blk hcat
      clear hcat
      go_wp2_with fail
      (with_reducible refine (tape_own g b (w.heap.size + 2) (T + 1) q cols.length c9 A c ts.length ts nx cols r2 z3 _ HK5.out HI5.out.tabs rfl HI5.out.up omA (HINV.out.bd.ne omA) omA (fun t ht=>by obtain ⟨k,hk,rfl⟩:=List.getElem_of_mem ht;exact (HI5.out.ok.cols hk).1) HI5.out.sane HO5.out rfl hcl8 HN5.out omA omA).mono ?_)
      rintro e w7 ⟨cols7,er7,rfl,hO7,hl7,hf7,hk7,hkept7⟩
      have hz7:=hkept7.size
      have hTne:T≠q:=by omega
      have hB7:Blk w7 T 71 #[.string nx, .slice (some ⟨q,0,none⟩) cols.length c9, .int .i64 r2, .int .i64 z3]:=(hkept7.block T hTz5 omA hTne).trans hB5
      have hG7:wo.grownBy w7 (some g):=hkept7.up hG5 omA
      have HB7:=qh hB7
      have HO7:=qh hO7
      have HF7:=qh hf7
      have HK7:=qh hk7
      have HL7:=qh hl7
      obtain ⟨p0,p1,p2,p3⟩:=Tab.blk hB7
      have f0:=hB7.frozen 0
      have f1:=hB7.frozen 1
      have f2:=hB7.frozen 2
      have f3:=hB7.frozen 3
      clear hB7 hO7 hf7 hk7 hl7 hkept7 hB5 a0 a1 a2 a3 a4 a5 a6 a7 HI5 HO5 HN5 HK5 HB5
      go_upto_region 11 with (fail)
      refine abs_world (P:=fun u=>Code.wp _ _ _ _ u) (R:=fun u=>Blk u T 71 #[.string nx, .slice (some ⟨q,0,none⟩) cols.length c9, .int .i64 er7, .int .i64 z3]∧Owns u (T + 1) 73 Col.cells 7 (.slice (some ⟨q,0,none⟩) cols.length c9) cols7∧(∀ x∈cols7,ColFine 100 (T + 1) u x)∧IsTape u g b∧wo.grownBy u (some g)) ⟨?_,?_,?_,?_,?_⟩ ?_
      ·with_reducible refine Blk.eq ((((HB7.out.set_ 0 _).set_ 1 _).set_ 2 _).set_ 3 _) ?_
       simp
      ·have hfar : ∀ k,(Value.slice (some ⟨q,0,none⟩) cols.length c9).ownBlock=some k→k≠T:=fun k hk=>by have:=HO7.out.row k hk;omega
       exact (((HO7.out.far hfar _).far hfar _).far hfar _).far hfar _
      ·intro x hx
       have f:=HF7.out x hx
       have f':ColFine 100 (T + 1) w7 x:=⟨f.name,f.ns,f.refs,f.own,f.cap,f.list,fun a ha=>by have:=f.up a ha;omega,f.lt⟩
       exact (((f'.farB (Nat.lt_succ_self T) _).farB (Nat.lt_succ_self T) _).farB (Nat.lt_succ_self T) _).farB (Nat.lt_succ_self T) _
      ·have n1:g≠T:=by omega
       have n2:b≠T:=by omega
       exact (((HK7.out.far n1 n2 _).far n1 n2 _).far n1 n2 _).far n1 n2 _
      ·exact only_setCell (only_setCell (only_setCell (only_setCell hG7 (.inr hTz) _) (.inr hTz) _) (.inr hTz) _) (.inr hTz) _
      clear HB7 HO7 HF7 HK7 hG7 p0 p1 p2 p3 f0 f1 f2 f3 hTne
      rintro V ⟨hB8,hO8,hF8,hK8,hG8⟩
      have hI8:=HINV.out.next hG8 hK8
      have HI8:=qh hI8
      have HB8:=qh hB8
      have HO8:=qh hO8
      have HF8:=qh hF8
      have hTz8:=hB8.lt
      have hqz8:=hO8.lt q rfl
      have hcz8:=hI8.cat.lt
      obtain ⟨a0,a1,a2,a3,a4,a5,a6,a7⟩:=Cat.blk hI8.cat
      clear hB8 hO8 hF8 hK8 hI8
      go_upto_region 12 with (fail)
      obtain ⟨D,hD⟩ : ∃ D,V.heap.size=D:=⟨_,rfl⟩
      rw [hD]
      refine abs_world (P:=fun u=>Code.wp _ _ _ _ u) (R:=fun u=>Blk u D 34 #[.slice A ts.length c, .slice none 0 0, .slice none 0 0, .slice none 0 0, .slice none 0 0, .slice none 0 0, .slice none 0 0, .slice none 0 0]∧Below V.heap.size V u) ⟨?_,?_⟩ ?_
      ·exact Blk.new' hD
      ·exact belA
      clear a0 a1 a2 a3 a4 a5 a6 a7
      rintro X ⟨hBD,hbX⟩
      rw [← hD] at hBD ⊢
      have hzX:=hBD.lt
      have hGX:wo.grownBy X (some g):=grown_below hG8 hbX
      have HIX:=qh (HI8.out.next (only_of_below hbX _) (HI8.out.tape.below hbX))
      have HBX:=qh (HB8.out.below hbX hTz8)
      have HOX:=qh (HO8.out.below hbX nlr)
      have HFX:Hid (∀ x∈cols7,ColFine 100 (T + 1) X x):=qh (fun x hx=>(HF8.out x hx).keep (only_of_below hbX none) (fun i e=>by cases e))
      have HBD:=qh hBD
      have hcX:=HIX.out.cat
      have hbT:=HBX.out
      have htl3:ts.length ≤ 3:=by omega
      have hltV : ∀ x∈cols7,∀ a,x.A=some a→a.block<V.heap.size:=fun x hx=>(HF8.out x hx).lt
      have HLV:=qh hltV
      clear HB8 HO8 HF8 HI8 hG8 hbX hD hltV
      have hcells:(Tab.cells ⟨nx,some ⟨q,0,none⟩,c9,cols7,er7,z3⟩).toArray = #[.string nx, .slice (some ⟨q,0,none⟩) cols.length c9, .int .i64 er7, .int .i64 z3]:=by simp [Tab.cells,HL7.out]
      have HCE:=qh hcells
      have hzc:w.heap.size + 1<X.heap.size:=HIX.out.cat.lt
      have hzT:T<X.heap.size:=HBX.out.lt
      clear hcells
      go_cut [] (fun wc => ∃ (A10:Option Addr) (c10:Nat),ts.length + 1≤c10∧Blk wc V.heap.size 34 #[.slice A10 (ts.length + 1) c10, .slice none 0 0, .slice none 0 0, .slice none 0 0, .slice none 0 0, .slice none 0 0, .slice none 0 0, .slice none 0 0]∧SliceIs wc wc.heap.size Tab.cells 4 A10 (ts ++ [⟨nx,some ⟨q,0,none⟩,c9,cols7,er7,z3⟩])∧(∀ a,A10=some a→X.heap.size≤a.block∧a.block<wc.heap.size)∧X.grownBy wc (some V.heap.size))
      case first =>
       refine wp_region_T (S:=(fun w'=>Blk w' (w.heap.size + 1) 34 #[.slice A ts.length c, .slice none 0 0, .slice none 0 0, .slice none 0 0, .slice none 0 0, .slice none 0 0, .slice none 0 0, .slice none 0 0]∧Blk w' T 71 #[.string nx, .slice (some ⟨q,0,none⟩) cols.length c9, .int .i64 er7, .int .i64 z3])) [8] krA ⟨hcX.drew,hbT.drew⟩ (fun hHeld => ?_)
       clear hcX hbT hBD
       refine tkT 1 hHeld ?_ (hy:=by intro w' hSw;obtain ⟨sw1,sw2⟩:=hSw;obtain ⟨sa0,sa1,sa2,sa3,sa4,sa5,sa6,sa7⟩:=Cat.blk sw1;obtain ⟨sb0,sb1,sb2,sb3⟩:=Tab.blk sw2;clear sw1 sw2;go_simp;first|done|with_reducible rfl)
       refine tkT 2 hHeld ?_ (hy:=by intro w' hSw;obtain ⟨sw1,sw2⟩:=hSw;obtain ⟨sa0,sa1,sa2,sa3,sa4,sa5,sa6,sa7⟩:=Cat.blk sw1;obtain ⟨sb0,sb1,sb2,sb3⟩:=Tab.blk sw2;clear sw1 sw2;go_simp;first|done|with_reducible rfl)
       refine tkT 4 hHeld ?_ (hy:=by intro w' hSw;obtain ⟨sw1,sw2⟩:=hSw;obtain ⟨sa0,sa1,sa2,sa3,sa4,sa5,sa6,sa7⟩:=Cat.blk sw1;obtain ⟨sb0,sb1,sb2,sb3⟩:=Tab.blk sw2;clear sw1 sw2;go_simp;first|done|with_reducible rfl)
       refine r2T 0 5 (fun K hK => ?_) (fun K hK => ?_)
       ·go_simp
        refine hK.out _ _ _ ⟨(hHeld.1.alloc _),(hHeld.2.alloc _)⟩ (fun hHeld => ?_)
        clear hK K
        refine r2T 3 5 (fun K hK => ?_) (fun K hK => ?_)
        ·(refine step_append_list _ rfl (.tmp 49) (.tmp 51) 25 rfl 71 it _ Tab.cells 4 56 Tryz.underlying25 hit hzt1 hzt2 hzt3 rfl omA tab_len tab_one X.heap.size (.slice (some ⟨X.heap.size,0,none⟩) 0 0) [] rfl (Owns.empty nbA leA) _ _ _ ts rfl rfl (HIX.out.tabs.1.next belA) smA mxA leA ?_;intro v1 w9 hown9 hg9 hat9;have hb9:Below X.heap.size X w9:=Below.grown belA hg9 leA (own_row leA);rw [List.nil_append] at hown9;have hz9:=hb9.size)
         refine hK.out _ _ _ ⟨(HIX.out.cat.below hb9 hzc),(HBX.out.below hb9 hzT)⟩ (fun hHeld => ?_)
         clear hK K
         refine r1T 5 (fun K hK => ?_)
         go_simp
         refine hK.out _ _ _ ⟨(hHeld.1.alloc _),(hHeld.2.alloc _)⟩ (fun hHeld => ?_)
         clear hK K
         refine r1T 6 (fun K hK => ?_)
         (refine step_append_list _ rfl (.tmp 52) (.tmp 54) 25 rfl 71 it _ Tab.cells 4 56 Tryz.underlying25 hit hzt1 hzt2 hzt3 rfl omA tab_len tab_one X.heap.size v1 ts rfl (hown9.alloc _) _ _ _ [⟨nx,some ⟨q,0,none⟩,c9,cols7,er7,z3⟩] rfl rfl (Blk.one (enc:=Tab.cells) (x:=⟨nx,some ⟨q,0,none⟩,c9,cols7,er7,z3⟩) (by rw [HCE.out];exact (Blk.new' rfl)) spA) smA mxA leA ?_;intro v2 w10 hown10 hg10 hat10;have hb10:Below X.heap.size X w10:=Below.grown belA hg10 leA hown9.row;have hz10:=hb10.size;obtain ⟨A10,c10,rfl,hc10,hs10,hA10⟩:=hown10.slice tab_len)
         exact lTabG1
        ·go_simp
         refine hK.out _ _ _ ⟨(hHeld.1.alloc _),(hHeld.2.alloc _)⟩ (fun hHeld => ?_)
         clear hK K
         refine r1T 3 (fun K hK => ?_)
         (refine step_append_list _ rfl (.tmp 49) (.tmp 51) 25 rfl 71 it _ Tab.cells 4 56 Tryz.underlying25 hit hzt1 hzt2 hzt3 rfl omA tab_len tab_one X.heap.size (.slice (some ⟨X.heap.size,0,none⟩) 0 0) [] rfl (Owns.empty nbA leA) _ _ _ ts rfl rfl (HIX.out.tabs.1.next belA) smA mxA leA ?_;intro v1 w9 hown9 hg9 hat9;have hb9:Below X.heap.size X w9:=Below.grown belA hg9 leA (own_row leA);rw [List.nil_append] at hown9;have hz9:=hb9.size)
         have hbt:=Blk.grown (g:=X.heap.size + 1) (t := 71) (cs := #[.string nx, .slice (some ⟨q,0,none⟩) cols.length c9, .int .i64 er7, .int .i64 z3]) (by first|exact Blk.new' sdA|exact (Blk.new' sdA).drew) hg9 (ne_row omA)
         refine hK.out _ _ _ ⟨(HIX.out.cat.below hb9 hzc),(HBX.out.below hb9 hzT)⟩ (fun hHeld => ?_)
         clear hK K
         refine r1T 6 (fun K hK => ?_)
         (refine step_append_list _ rfl (.tmp 52) (.tmp 54) 25 rfl 71 it _ Tab.cells 4 56 Tryz.underlying25 hit hzt1 hzt2 hzt3 rfl omA tab_len tab_one X.heap.size v1 ts rfl hown9 _ _ _ [⟨nx,some ⟨q,0,none⟩,c9,cols7,er7,z3⟩] rfl rfl (Blk.one (enc:=Tab.cells) (x:=⟨nx,some ⟨q,0,none⟩,c9,cols7,er7,z3⟩) (by rw [HCE.out];exact hbt) hbt.lt) smA mxA leA ?_;intro v2 w10 hown10 hg10 hat10;have hb10:Below X.heap.size X w10:=Below.grown belA hg10 leA hown9.row;have hz10:=hb10.size;obtain ⟨A10,c10,rfl,hc10,hs10,hA10⟩:=hown10.slice tab_len)
         exact lTabG1
       ·go_simp
        refine hK.out _ _ _ ⟨(hHeld.1.alloc _),(hHeld.2.alloc _)⟩ (fun hHeld => ?_)
        clear hK K
        refine r1T 0 (fun K hK => ?_)
        go_simp
        refine hK.out _ _ _ ⟨(hHeld.1.alloc _),(hHeld.2.alloc _)⟩ (fun hHeld => ?_)
        clear hK K
        refine r1T 3 (fun K hK => ?_)
        (refine step_append_list _ rfl (.tmp 49) (.tmp 51) 25 rfl 71 it _ Tab.cells 4 56 Tryz.underlying25 hit hzt1 hzt2 hzt3 rfl omA tab_len tab_one X.heap.size (.slice (some ⟨(X.heap.size + 1),0,none⟩) 0 0) [] rfl (Owns.empty nbA leA) _ _ _ ts rfl rfl (HIX.out.tabs.1.next belA) smA mxA leA ?_;intro v1 w9 hown9 hg9 hat9;have hb9:Below X.heap.size X w9:=Below.grown belA hg9 leA (own_row leA);rw [List.nil_append] at hown9;have hz9:=hb9.size)
        have hbt:=Blk.grown (g:=X.heap.size) (t := 71) (cs := #[.string nx, .slice (some ⟨q,0,none⟩) cols.length c9, .int .i64 er7, .int .i64 z3]) (by first|exact (Blk.new' sdA).alloc _|exact ((Blk.new' sdA).alloc _).drew|exact ((Blk.new' sdA).drew).alloc _) hg9 (ne_row omA)
        refine hK.out _ _ _ ⟨(HIX.out.cat.below hb9 hzc),(HBX.out.below hb9 hzT)⟩ (fun hHeld => ?_)
        clear hK K
        refine r1T 6 (fun K hK => ?_)
        (refine step_append_list _ rfl (.tmp 52) (.tmp 54) 25 rfl 71 it _ Tab.cells 4 56 Tryz.underlying25 hit hzt1 hzt2 hzt3 rfl omA tab_len tab_one X.heap.size v1 ts rfl hown9 _ _ _ [⟨nx,some ⟨q,0,none⟩,c9,cols7,er7,z3⟩] rfl rfl (Blk.one (enc:=Tab.cells) (x:=⟨nx,some ⟨q,0,none⟩,c9,cols7,er7,z3⟩) (by rw [HCE.out];exact hbt) hbt.lt) smA mxA leA ?_;intro v2 w10 hown10 hg10 hat10;have hb10:Below X.heap.size X w10:=Below.grown belA hg10 leA hown9.row;have hz10:=hb10.size;obtain ⟨A10,c10,rfl,hc10,hs10,hA10⟩:=hown10.slice tab_len)
        exact lTabG1
      case rest =>
       obtain ⟨A10,c10,hc10,hBDc,hs10,hA10,hgc⟩:=hcut
       clear hcX hbT hBD
       have hzVX:V.heap.size<X.heap.size:=hzX
       have hzwV:wo.heap.size≤V.heap.size:=by omega
       have hgcz:=hgc.size
       have htc:=HIX.out.tabs.grownNe hgc (HINV.out.bd.ne hzwV)
       have hkc:IsTape wc g b:=HIX.out.tape.grown hgc omA omA
       have hGc:wo.grownBy wc (some g):=grown_newO hGX hgc (fun i e=>by injection e with e;omega)
       have HIC:=qh (HINV.out.next hGc hkc)
       have hcin:ColsIn wc wc.heap.size (some ⟨q,0,none⟩) cols7:=by
        obtain ⟨A0,c0,he0,_,hsl0,_⟩:=HOX.out.slice col_len
        injection he0 with he1 _ _
        subst he1
        exact ⟨hsl0.grown hgc (fun a ha e=>by injection ha with ha;subst ha;injection e with e;have e:q=V.heap.size:=e;omega),fun x hx=>(HFX.out x hx).list.grown hgc (fun a ha e=>by have:=HLV.out x hx a ha;injection e with e;omega)⟩
       have hti:=htc.app hs10 hcin
       have hup:TabsUp (w.heap.size + 2) A10 (ts ++ [⟨nx,some ⟨q,0,none⟩,c9,cols7,er7,z3⟩]):=HINV.out.up.app (fun a ha=>by have:=(hA10 a ha).1;omega) (fun a ha=>by injection ha with ha;subst ha;show w.heap.size + 2≤q;omega) (fun x hx a ha=>by have:=(HFX.out x hx).up a ha;omega)
       have hbd:TabsBd wc.heap.size A10 (ts ++ [⟨nx,some ⟨q,0,none⟩,c9,cols7,er7,z3⟩]):=(HIC.out.bd).app (fun a ha=>(hA10 a ha).2) (fun a ha=>by injection ha with ha;subst ha;show q<wc.heap.size;omega) (fun x hx a ha=>by have:=HLV.out x hx a ha;omega)
       have hsn:SaneCat (ts ++ [⟨nx,some ⟨q,0,none⟩,c9,cols7,er7,z3⟩]):=HINV.out.sane.app omA ⟨show nx.size ≤ 1000000 by omega,by have:=HL7.out;show cols7.length ≤ 1000000;omega,by (obtain ⟨_,_,he0,hcap,_,_⟩:=HOX.out.slice col_len;injection he0 with _ _ he;rw [← he] at hcap;exact hcap),fun x hx=>by have f:=HFX.out x hx;exact ⟨f.name,f.ns,f.refs,by have:=f.own;omega⟩⟩
       obtain ⟨ts',hts'⟩ : ∃ l,ts ++ [⟨nx,some ⟨q,0,none⟩,c9,cols7,er7,z3⟩]=l:=⟨_,rfl⟩
       have htl':ts'.length=ts.length + 1:=by rw [← hts'];simp
       rw [hts'] at hti hup hbd hsn
       have HTI:=qh hti
       have HUP:=qh hup
       have HBDD:=qh hbd
       have HSN:=qh hsn
       have HTL:=qh htl'
       rw [← htl'] at hBDc hc10
       have HBDC:=qh hBDc
       obtain ⟨a0,a1,a2,a3,a4,a5,a6,a7⟩:=Cat.blk hBDc
       have hzDc:=hBDc.lt
       have htl4:ts'.length≤i + 1:=by omega
       clear hti hup hbd hsn htl' hBDc hs10 hA10 hgc htc hkc hcin hGc hts' HBX HOX HFX HLV HL7 HCE HIX hGX HBD
       cases hok:pb (CatOk ts')
       ·have HOK:=qh hok
        clear hok
        go_wp2_with fail
        (with_reducible refine (ref04_Valid A10 c10 ts'.length ts' _ HTI.out rfl HSN.out HOK.out).mono ?_)
        rintro e w11 ⟨rfl,hb11⟩
        have HI11:=qh (HIC.out.next (only_of_below hb11 _) (HIC.out.tape.below hb11))
        clear hb11 a0 a1 a2 a3 a4 a5 a6 a7
        go_upto_if 58 with (fail)
        go_cut [] (fun wd => ∃ (A:Option Addr) (c:Nat) (ts:List Tab),ts.length≤i + 1∧GenInv w g b A c ts wd)
        case first =>
         go_wp2_with fail
         go_meet
         exact ⟨A,c,ts,by omega,HI11.out⟩
        case rest =>
         (
         clear HIC HTI HUP HBDD HSN HTL HBDC HI11 HOK
         obtain ⟨A,c,ts,hle,hinv⟩:=hcut
         have HID:=qh hinv
         obtain ⟨a0,_⟩:=Cat.blk hinv.cat
         have hkd:=hinv.tape
         clear hinv
         by_cases ht0:ts.length = 0
         ·have ht0':decide (0<ts.length)=false:=by rw [ht0];rfl
          clear hkd
          go_wp2_with fail
          go_roundw
          case rel=>exact ⟨i + 1,A,c,ts,by omega,by go_num,hle,HID.out⟩
          case measure=>exact meA
         ·have ht0':decide (0<ts.length)=true:=by simp;omega
          have HKD:=qh hkd
          clear hkd ht0
          go_wp2_with fail
          (with_reducible refine (tape_Next g b 4 _ HKD.out omA omA).mono ?_)
          rintro e w12 ⟨r6,rfl,hr6,hk12,hg12⟩
          have HIE:=qh (HID.out.next hg12 hk12)
          clear hr6 hk12 hg12 a0 HID HKD
          by_cases hr0:r6 = 0
          ·subst hr0
           go_wp2_with fail
           go_meet
           exact ⟨A,c,ts,by omega,HIE.out⟩
          ·have hr0':((r6:Int) == 0)=false:=by simp;omega
           clear hr0
           go_wp2_with fail
           go_roundw
           case rel=>exact ⟨i + 1,A,c,ts,by omega,by go_num,hle,HIE.out⟩
           case measure=>exact meA)
       ·have HOK:=qh hok
        clear hok
        go_wp2_with fail
        (with_reducible refine (ref04_Valid A10 c10 ts'.length ts' _ HTI.out rfl HSN.out HOK.out).mono ?_)
        rintro e w11 ⟨rfl,hb11⟩
        have HI11:=qh (HIC.out.next (only_of_below hb11 _) (HIC.out.tape.below hb11))
        have hBD11:=HBDC.out.below hb11 hzDc
        have hti11:=HTI.out.next hb11
        have HBD11:=qh (HBDD.out.mono hb11.size)
        have hz11:=hb11.size
        clear hb11 a0 a1 a2 a3 a4 a5 a6 a7
        obtain ⟨a0,a1,a2,a3,a4,a5,a6,a7⟩:=Cat.blk hBD11
        have HTI11:=qh hti11
        have hcat:=HI11.out.cat
        obtain ⟨b0,b1,b2,b3,b4,b5,b6,b7⟩:=Cat.blk hcat
        have f0:=hcat.frozen 0
        have f1:=hcat.frozen 1
        have f2:=hcat.frozen 2
        have f3:=hcat.frozen 3
        have f4:=hcat.frozen 4
        have f5:=hcat.frozen 5
        have f6:=hcat.frozen 6
        have f7:=hcat.frozen 7
        have HCAT:=qh hcat
        clear hti11 hBD11 hcat
        go_upto_if 58 with (fail)
        go_cut [] (fun wd => ∃ (A:Option Addr) (c:Nat) (ts:List Tab),ts.length≤i + 1∧GenInv w g b A c ts wd)
        case first =>
         go_wp2_with fail
         go_meet
         refine ⟨A10,c10,ts',htl4,?_⟩
         have hg:=only_setCell (only_setCell (only_setCell (only_setCell (only_setCell (only_setCell (only_setCell (only_setCell (grown_refl w11 (some (w.heap.size + 1))) (p:=⟨w.heap.size + 1,0,none⟩) (.inl rfl) (.slice A10 ts'.length c10)) (p:=⟨w.heap.size + 1,1,none⟩) (.inl rfl) (.slice none 0 0)) (p:=⟨w.heap.size + 1,2,none⟩) (.inl rfl) (.slice none 0 0)) (p:=⟨w.heap.size + 1,3,none⟩) (.inl rfl) (.slice none 0 0)) (p:=⟨w.heap.size + 1,4,none⟩) (.inl rfl) (.slice none 0 0)) (p:=⟨w.heap.size + 1,5,none⟩) (.inl rfl) (.slice none 0 0)) (p:=⟨w.heap.size + 1,6,none⟩) (.inl rfl) (.slice none 0 0)) (p:=⟨w.heap.size + 1,7,none⟩) (.inl rfl) (.slice none 0 0)
         have hc8:=(((((((HCAT.out.set_ 0 (.slice A10 ts'.length c10)).set_ 1 (.slice none 0 0)).set_ 2 (.slice none 0 0)).set_ 3 (.slice none 0 0)).set_ 4 (.slice none 0 0)).set_ 5 (.slice none 0 0)).set_ 6 (.slice none 0 0)).set_ 7 (.slice none 0 0)
         refine ⟨hc8.eq spA,HI11.out.res.grown hg (fun e=>by injection e with e;omega),HTI11.out.grownNe hg (HUP.out.ne omA),HUP.out,HBD11.out.mono hg.size,pb_iff.1 HOK.out,HSN.out,by omega,HI11.out.tape.grown hg omA omA,grown_newO HI11.out.grown hg (fun i e=>by injection e with e;omega),hgl,hbl⟩
        case rest =>
         (
         clear HIC HTI HUP HBDD HSN HTL HBDC HI11 HOK
         obtain ⟨A,c,ts,hle,hinv⟩:=hcut
         have HID:=qh hinv
         obtain ⟨a0,_⟩:=Cat.blk hinv.cat
         have hkd:=hinv.tape
         clear hinv
         by_cases ht0:ts.length = 0
         ·have ht0':decide (0<ts.length)=false:=by rw [ht0];rfl
          clear hkd
          go_wp2_with fail
          go_roundw
          case rel=>exact ⟨i + 1,A,c,ts,by omega,by go_num,hle,HID.out⟩
          case measure=>exact meA
         ·have ht0':decide (0<ts.length)=true:=by simp;omega
          have HKD:=qh hkd
          clear hkd ht0
          go_wp2_with fail
          (with_reducible refine (tape_Next g b 4 _ HKD.out omA omA).mono ?_)
          rintro e w12 ⟨r6,rfl,hr6,hk12,hg12⟩
          have HIE:=qh (HID.out.next hg12 hk12)
          clear hr6 hk12 hg12 a0 HID HKD
          by_cases hr0:r6 = 0
          ·subst hr0
           go_wp2_with fail
           go_meet
           exact ⟨A,c,ts,by omega,HIE.out⟩
          ·have hr0':((r6:Int) == 0)=false:=by simp;omega
           clear hr0
           go_wp2_with fail
           go_roundw
           case rel=>exact ⟨i + 1,A,c,ts,by omega,by go_num,hle,HIE.out⟩
           case measure=>exact meA)
   ·have hlt':decide ((i:Int)<(n:Int))=false:=by simp;omega
    have hlt2:decide (i<n)=false:=by simp;omega
    have hle:ts.length≤n:=by omega
    go_wp2_with fail
    go_meet
    exact ⟨A,c,ts,hle,HINV.out⟩
 case rest =>
  clear HINV
  obtain ⟨A,c,ts,hle,hinv⟩:=hcut
  have HI:=qh hinv
  obtain ⟨a0,a1,a2,a3,a4,a5,a6,a7⟩:=Cat.blk hinv.cat
  have hcz:=hinv.cat.lt
  have fa:=hinv.cat.frozen 0
  clear hinv
  by_cases ht0:ts.length = 0
  ·have ht0':((ts.length:Int) == 0)=true:=by rw [ht0];rfl
   have hn0 : ¬ (0<ts.length):=by omega
   clear ht0
   obtain ⟨C,hC⟩ : ∃ C,w.heap.size + 1=C:=⟨_,rfl⟩
   rw [hC] at a0 fa hcz ⊢
   clear a1 a2 a3 a4 a5 a6 a7
   have HCE:=qh hC
   clear hC
   have hcz1:C<wc.heap.size + 1:=by omega
   have hcz2:C<wc.heap.size + 1 + 1:=by omega
   have hcz3:C<wc.heap.size + 2:=by omega
   have hcn0:C≠wc.heap.size:=by omega
   have hcn1:C≠wc.heap.size + 1:=by omega
   have hcn2:C≠wc.heap.size + 1 + 1:=by omega
   go_upto_region 18 with (fail)
   refine abs_world (P:=fun u=>Code.wp _ _ _ _ u) (R:=fun u=>GenInv w g b (some ⟨wc.heap.size + 2,0,none⟩) 1 [tabD wc.heap.size (wc.heap.size + 1)] u) ?_ ?_
   ·clear a0 fa hcz1 hcz2 hcz3 hcn0 hcn1 hcn2
    obtain rfl:=HCE.out
    have hI:=HI.out
    have hU:=grown_alloc (grown_alloc (grown_alloc (only_setCell (grown_refl wc (some (w.heap.size + 1))) (p:=⟨w.heap.size + 1,0,none⟩) (.inl rfl) (.slice (some ⟨wc.heap.size + 1 + 1,0,none⟩) 1 1)) (.cells #[.int .i64 0] 3)) (.cells ([colD0,colD1 wc.heap.size].flatMap Col.cells).toArray 73)) (.cells (Tab.cells (tabD wc.heap.size (wc.heap.size + 1))).toArray 71)
    have hb0:=(((Blk.new' (w:=wc.setCell ⟨w.heap.size + 1,0,none⟩ (.slice (some ⟨wc.heap.size + 1 + 1,0,none⟩) 1 1)) (g:=wc.heap.size) (t := 3) (cs := #[.int .i64 0]) spA).alloc (.cells ([colD0,colD1 wc.heap.size].flatMap Col.cells).toArray 73)).alloc (.cells (Tab.cells (tabD wc.heap.size (wc.heap.size + 1))).toArray 71))
    have hb1:=((Blk.new' (w:=(wc.setCell ⟨w.heap.size + 1,0,none⟩ (.slice (some ⟨wc.heap.size + 1 + 1,0,none⟩) 1 1)).alloc (.cells #[.int .i64 0] 3)) (g:=wc.heap.size + 1) (t := 73) (cs:=([colD0,colD1 wc.heap.size].flatMap Col.cells).toArray) spA).alloc (.cells (Tab.cells (tabD wc.heap.size (wc.heap.size + 1))).toArray 71))
    have hb2:=(Blk.new' (w:=((wc.setCell ⟨w.heap.size + 1,0,none⟩ (.slice (some ⟨wc.heap.size + 1 + 1,0,none⟩) 1 1)).alloc (.cells #[.int .i64 0] 3)).alloc (.cells ([colD0,colD1 wc.heap.size].flatMap Col.cells).toArray 73)) (g:=wc.heap.size + 2) (t := 71) (cs:=(Tab.cells (tabD wc.heap.size (wc.heap.size + 1))).toArray) spA)
    have hc0:=(((hI.cat.set_ 0 (.slice (some ⟨wc.heap.size + 1 + 1,0,none⟩) 1 1)).alloc (.cells #[.int .i64 0] 3)).alloc (.cells ([colD0,colD1 wc.heap.size].flatMap Col.cells).toArray 73)).alloc (.cells (Tab.cells (tabD wc.heap.size (wc.heap.size + 1))).toArray 71)
    refine ⟨hc0.eq spA,hI.res.grown hU (fun e=>by injection e with e;omega),⟨Blk.one (enc:=Tab.cells) hb2 hb2.lt,fun t ht => ?_⟩,⟨fun a ha => ?_,fun t ht => ?_⟩,⟨fun a ha => ?_,fun t ht => ?_⟩,catD_ok _ _,catD_sane _ _,Nat.le_refl _,hI.tape.grown hU omA omA,grown_newO hI.grown hU (fun i e=>by injection e with e;omega),hgl,hbl⟩
    ·rw [List.mem_singleton.1 ht]
     refine ⟨Blk.list col_len (l := [colD0,colD1 wc.heap.size]) hb1 hb1.lt,fun x hx => ?_⟩
     have hx:x=colD0∨x=colD1 wc.heap.size:=by simpa [tabD] using hx
     rcases hx with rfl|rfl
     ·exact SliceIs.nil
     ·exact Blk.one (enc:=intCells) (x:=(0:Int)) hb0 hb0.lt
    ·injection ha with ha
     subst ha
     show w.heap.size + 2≤wc.heap.size + 2
     omega
    ·rw [List.mem_singleton.1 ht]
     refine ⟨fun a ha => ?_,fun x hx a ha => ?_⟩
     ·injection ha with ha
      subst ha
      show w.heap.size + 2≤wc.heap.size + 1
      omega
     ·have hx:x=colD0∨x=colD1 wc.heap.size:=by simpa [tabD] using hx
      rcases hx with rfl|rfl
      ·cases ha
      ·injection ha with ha
       subst ha
       show w.heap.size + 2≤wc.heap.size
       omega
    ·injection ha with ha
     subst ha
     exact hb2.lt
    ·rw [List.mem_singleton.1 ht]
     refine ⟨fun a ha => ?_,fun x hx a ha => ?_⟩
     ·injection ha with ha
      subst ha
      exact hb1.lt
     ·have hx:x=colD0∨x=colD1 wc.heap.size:=by simpa [tabD] using hx
      rcases hx with rfl|rfl
      ·cases ha
      ·injection ha with ha
       subst ha
       exact hb0.lt
   ·rintro U hU
    clear a0 fa hcz1 hcz2 hcz3 hcn0 hcn1 hcn2 HI hn0 hle
    obtain rfl:=HCE.out
    obtain ⟨td,htd⟩ : ∃ td,tabD wc.heap.size (wc.heap.size + 1)=td:=⟨_,rfl⟩
    rw [htd] at hU
    have HI:=qh hU
    have hn0 : 0 < [td].length:=by simp
    have hle : [td].length≤n:=by simpa using hn1
    clear hU htd
    have hinv:=HI.out
    obtain ⟨a0,a1,a2,a3,a4,a5,a6,a7⟩:=Cat.blk hinv.cat
    obtain ⟨b0,b1,b2,b3,b4,b5,b6,b7⟩:=Cat.blk hinv.res
    have f0:=hinv.res.frozen 0
    have f1:=hinv.res.frozen 1
    have f2:=hinv.res.frozen 2
    have f3:=hinv.res.frozen 3
    have f4:=hinv.res.frozen 4
    have f5:=hinv.res.frozen 5
    have f6:=hinv.res.frozen 6
    have f7:=hinv.res.frozen 7
    have hrz:=hinv.res.lt
    clear hinv
    go_wp2_with fail
    have hg:=only_setCell (only_setCell (only_setCell (only_setCell (only_setCell (only_setCell (only_setCell (only_setCell (grown_refl U (some w.heap.size)) (p:=⟨w.heap.size,0,none⟩) (.inl rfl) (.slice (some ⟨wc.heap.size + 2,0,none⟩) [td].length 1)) (p:=⟨w.heap.size,1,none⟩) (.inl rfl) (.slice none 0 0)) (p:=⟨w.heap.size,2,none⟩) (.inl rfl) (.slice none 0 0)) (p:=⟨w.heap.size,3,none⟩) (.inl rfl) (.slice none 0 0)) (p:=⟨w.heap.size,4,none⟩) (.inl rfl) (.slice none 0 0)) (p:=⟨w.heap.size,5,none⟩) (.inl rfl) (.slice none 0 0)) (p:=⟨w.heap.size,6,none⟩) (.inl rfl) (.slice none 0 0)) (p:=⟨w.heap.size,7,none⟩) (.inl rfl) (.slice none 0 0)
    have HG:=qh hg
    clear hg
    refine bodyPost_ret (v := .agg #[.slice (some ⟨wc.heap.size + 2,0,none⟩) [td].length 1, .slice none 0 0, .slice none 0 0, .slice none 0 0, .slice none 0 0, .slice none 0 0, .slice none 0 0, .slice none 0 0]) (by simp [results,Tryz.results8,go_sem,b0,b1,b2,b3,b4,b5,b6,b7,hrz]) rfl ⟨(some ⟨wc.heap.size + 2,0,none⟩),1,[td],rfl,HI.out.tabs.grownNe HG.out (HI.out.up.ne omA),⟨fun a ha=>by have:=HI.out.up.1 a ha;omega,fun t ht=>⟨fun a ha=>by have:=(HI.out.up.2 t ht).1 a ha;omega,fun x hx a ha=>by have:=(HI.out.up.2 t ht).2 x hx a ha;omega⟩⟩,HI.out.bd.mono HG.out.size,HI.out.sane,HI.out.ok,hn0,hle,HI.out.tape.grown HG.out omA omA,grown_newO HI.out.grown HG.out (fun i e=>by injection e with e;omega)⟩
  ·have ht0':((ts.length:Int) == 0)=false:=by rw [beq_eq_false_iff_ne];omega
   have hn0 : 0<ts.length:=by omega
   clear ht0 fa
   go_upto_region 18 with (fail)
   clear a0 a1 a2 a3 a4 a5 a6 a7
   have hinv:=HI.out
   obtain ⟨a0,a1,a2,a3,a4,a5,a6,a7⟩:=Cat.blk hinv.cat
   obtain ⟨b0,b1,b2,b3,b4,b5,b6,b7⟩:=Cat.blk hinv.res
   have f0:=hinv.res.frozen 0
   have f1:=hinv.res.frozen 1
   have f2:=hinv.res.frozen 2
   have f3:=hinv.res.frozen 3
   have f4:=hinv.res.frozen 4
   have f5:=hinv.res.frozen 5
   have f6:=hinv.res.frozen 6
   have f7:=hinv.res.frozen 7
   have hrz:=hinv.res.lt
   clear hinv
   go_wp2_with fail
   have hg:=only_setCell (only_setCell (only_setCell (only_setCell (only_setCell (only_setCell (only_setCell (only_setCell (grown_refl wc (some w.heap.size)) (p:=⟨w.heap.size,0,none⟩) (.inl rfl) (.slice A ts.length c)) (p:=⟨w.heap.size,1,none⟩) (.inl rfl) (.slice none 0 0)) (p:=⟨w.heap.size,2,none⟩) (.inl rfl) (.slice none 0 0)) (p:=⟨w.heap.size,3,none⟩) (.inl rfl) (.slice none 0 0)) (p:=⟨w.heap.size,4,none⟩) (.inl rfl) (.slice none 0 0)) (p:=⟨w.heap.size,5,none⟩) (.inl rfl) (.slice none 0 0)) (p:=⟨w.heap.size,6,none⟩) (.inl rfl) (.slice none 0 0)) (p:=⟨w.heap.size,7,none⟩) (.inl rfl) (.slice none 0 0)
   have HG:=qh hg
   clear hg
   refine bodyPost_ret (v := .agg #[.slice A ts.length c, .slice none 0 0, .slice none 0 0, .slice none 0 0, .slice none 0 0, .slice none 0 0, .slice none 0 0, .slice none 0 0]) (by simp [results,Tryz.results8,go_sem,b0,b1,b2,b3,b4,b5,b6,b7,hrz]) rfl ⟨A,c,ts,rfl,HI.out.tabs.grownNe HG.out (HI.out.up.ne omA),⟨fun a ha=>by have:=HI.out.up.1 a ha;omega,fun t ht=>⟨fun a ha=>by have:=(HI.out.up.2 t ht).1 a ha;omega,fun x hx a ha=>by have:=(HI.out.up.2 t ht).2 x hx a ha;omega⟩⟩,HI.out.bd.mono HG.out.size,HI.out.sane,HI.out.ok,hn0,hle,HI.out.tape.grown HG.out omA omA,grown_newO HI.out.grown HG.out (fun i e=>by injection e with e;omega)⟩
end Go.Proofs.YtjhnpnhpmdkpcaaGreat
