/-
  Contracts and plain laws of this seat, part 16.
-/
import Derived.Test.YtebippoohpnjkaaGreatF15
import Derived.Deep.CutBlock
import Derived.Test.YtebippoohpnjkaaGreatF14
set_option linter.unusedVariables false
set_option linter.unusedSimpArgs false
set_option maxRecDepth 100000
set_option maxHeartbeats 16000000
namespace Go.Proofs.YtebippoohpnjkaaGreat
open Go.RowKit
theorem cJ{P:Prop}(h:P:=by simp[results,Tryz.results9,go_sem,b0,b1,b2,b3,b4,b5,b6,b7,hrz]):P:=h
theorem cL{P:Prop}(h:P:=by injection e):P:=h
theorem cM{P:Prop}(h:P:=by rw[HX.out];rfl):P:=h
structure jq (g q:Nat) (w w':World):Prop where
 os:w'.os=w.os
 tape:w'.tape=w.tape
 output:w'.output=w.output
 size:w.heap.size≤w'.heap.size
 block:∀k,k<w.heap.size→k≠g→k≠q→w'.heap[k]?=w.heap[k]?
section
variable {g q:Nat}{w u v:World}
theorem jq.refl(g q:Nat)(w:World):jq g q w w:=⟨rfl,rfl,rfl,Nat.le_refl _,fun _ _ _ _=>rfl⟩
theorem jq.grown(h:jq g q w u){row:Option Nat}(k:u.grownBy v row)(hr:∀i,row=some i→i=g∨i=q∨w.heap.size≤i):jq g q w v:=
 ⟨k.os.trans h.os,k.tape.trans h.tape,k.output.trans h.output,Nat.le_trans h.size k.size,fun i hi h1 h2=>(k.block i (Nat.lt_of_lt_of_le hi h.size) (fun e=>by rcases hr i e.symm with h|h|h<;>omega)).trans (h.block i hi h1 h2)⟩
theorem jq.below(h:jq g q w u)(k:Below u.heap.size u v):jq g q w v:=h.grown (aN k none) (fun i e=>by cases e)
theorem jq.set(h:jq g q w u){p:Addr}(hp:p.block=g∨p.block=q∨w.heap.size≤p.block)(x:Value):jq g q w (u.setCell p x):=
 ⟨h.os,h.tape,h.output,by simpa using h.size,fun i hi h1 h2=>(Below.heap_setCell u p x i (by intro e;rcases hp with h'|h'|h'<;>omega)).trans (h.block i hi h1 h2)⟩
theorem jq.up{w0:World}(h:w0.grownBy w (some g))(k:jq g q w u)(hq:w0.heap.size≤q):w0.grownBy u (some g):=
 ⟨k.os.trans h.os,k.tape.trans h.tape,k.output.trans h.output,Nat.le_trans h.size k.size,fun i hi hne=>(k.block i (Nat.lt_of_lt_of_le hi h.size) (fun e=>hne (by rw[e])) omA).trans (h.block i hi hne)⟩
theorem ah.Cz{α:Type}{enc:α→List Value}{k:Nat}{A:Option Addr}{l:List α}(h:ah w w.heap.size enc k A l)(hk:jq g q w u)(hA:∀a,A=some a→a.block≠g∧a.block≠q):ah u u.heap.size enc k A l:=by
 intro hl
 obtain⟨b,o,rfl,hB,hc⟩:=h hl
 obtain⟨h1,h2⟩:=hA _ rfl
 exact⟨b,o,rfl,Nat.lt_of_lt_of_le hB hk.size,fun i hi j v hv=>(World.cell?_of_block (hk.block b hB h1 h2)).trans (hc i hi j v hv)⟩
end
def nS(q:Nat)(A:Option Addr)(ts:List Tab):Prop:=(∀a,A=some a→a.block≠q) ∧ ∀t∈ts,(∀a,t.A=some a→a.block≠q) ∧ ∀x∈t.af,∀a,x.A=some a→a.block≠q
theorem aJ.Cz{g q B:Nat}{w u:World}{A:Option Addr}{ts:List Tab}(h:aJ w w.heap.size A ts)(hk:jq g q w u)(hu:gN B A ts)(hg:g<B)(hq:nS q A ts):aJ u u.heap.size A ts:=
 ⟨h.1.Cz hk fun a ha=>⟨by have:=hu.1 a ha;omega,hq.1 a ha⟩,fun t ht=>⟨(h.2 t ht).1.Cz hk fun a ha=>⟨by have:=(hu.2 t ht).1 a ha;omega,(hq.2 t ht).1 a ha⟩,fun x hx=>((h.2 t ht).2 x hx).Cz hk fun a ha=>⟨by have:=(hu.2 t ht).2 x hx a ha;omega,(hq.2 t ht).2 x hx a ha⟩⟩⟩
structure eP (M w0:Nat) (w:World) (x:Col):Prop where
 name:x.name.size≤1000000
 ns:x.ns.size≤1000000
 refs:x.refs.size≤1000000
 own:x.own.length≤M
 cap:x.own.length≤x.cap
 list:ah w w.heap.size intCells 1 x.A x.own
 up:∀a,x.A=some a→w0≤a.block
 lt:∀a,x.A=some a→a.block<w.heap.size
theorem eP.keep{M w0:Nat}{w u:World}{x:Col}(h:eP M w0 w x){row:Option Nat}(hg:w.grownBy u row)(hr:∀i,row=some i→i<w0):eP M w0 u x:=
 ⟨h.name,h.ns,h.refs,h.own,h.cap,h.list.grown hg fun a ha e=>by have:=h.up a ha;have:=hr _ e.symm;omega,h.up,fun a ha=>Nat.lt_of_lt_of_le (h.lt a ha) hg.size⟩
structure dw (M:Nat) (w:World) (g b q B n cap:Nat) (cv nm:Value) (rt:Int) (LA:Option Addr) (l:List Int) (af:List Col) (er:Int) (u:World):Prop where
 own:ax u B 79 Col.cells 7 (.slice (some ⟨q,0,none⟩) n cap) af
 len:af.length=n
 fine:∀x∈af,eP M (w.heap.size+3) u x
 Ai:Blk u (w.heap.size+1) 77 #[nm,.slice (some ⟨q,0,none⟩) n cap,.int .i64 er,.int .i64 rt]
 IU:Blk u w.heap.size 39 #[cv,.slice none 0 0,.slice none 0 0,.slice none 0 0,.slice none 0 0,.slice none 0 0,.slice none 0 0,.slice none 0 0]
 res:Blk u (w.heap.size+2) 77 #[.string ⟨#[]⟩,.slice none 0 0,.int .i64 0,.int .i64 0]
 list:ah u u.heap.size intCells 1 LA l
 up:∀a,LA=some a→w.heap.size+3≤a.block
 tape:aO u g b
 kept:jq g q w u
 ltg:g<w.heap.size
 ltb:b<w.heap.size
 ltq:q<w.heap.size
 neg:g<B
 neb:b<B
 hq:B≤q
section
variable {M:Nat}{w u v:World}{g b q B n cap:Nat}{cv nm:Value}{rt:Int}{LA:Option Addr}{l:List Int}{af:List Col}{er:Int}
theorem dw.next(h:dw M w g b q B n cap cv nm rt LA l af er u)(hg:u.grownBy v (some g))(hk:aO v g b):dw M w g b q B n cap cv nm rt LA l af er v:=by
 have h1:=h.ltg
 have hne:∀i,w.heap.size≤i→some i≠some g:=fun i hi e=>by injection e with e;omega
 exact⟨h.own.grown hg h.neg,h.len,fun x hx=>(h.fine x hx).keep hg inB,h.Ai.grown hg (hne _ omA),h.IU.grown hg (hne _ omA),h.res.grown hg (hne _ omA),h.list.grown hg (fun a ha=>hne _ (by have:=h.up a ha;omega)),h.up,hk,h.kept.grown hg (fun i e=>by injection e with e;exact .inl e.symm),h.ltg,h.ltb,h.ltq,h.neg,h.neb,h.hq⟩
theorem dw.wide{M':Nat}(h:dw M w g b q B n cap cv nm rt LA l af er u)(hM:M≤M'):dw M' w g b q B n cap cv nm rt LA l af er u:=
 ⟨h.own,h.len,fun x hx=>by have f:=h.fine x hx;exact⟨f.name,f.ns,f.refs,Nat.le_trans f.own hM,f.cap,f.list,f.up,f.lt⟩,h.Ai,h.IU,h.res,h.list,h.up,h.tape,h.kept,h.ltg,h.ltb,h.ltq,h.neg,h.neb,h.hq⟩
theorem dw.below(h:dw M w g b q B n cap cv nm rt LA l af er u)(hb:Below u.heap.size u v):dw M w g b q B n cap cv nm rt LA l af er v:=
 h.next (aN hb _) (h.tape.below hb)
theorem dw.alloc(h:dw M w g b q B n cap cv nm rt LA l af er u)(o:Obj):dw M w g b q B n cap cv nm rt LA l af er (u.alloc o):=
 h.below (brf.alloc nlr o)
theorem dw.set(h:dw M w g b q B n cap cv nm rt LA l af er u){i:Nat}(hi:i<af.length)(x:Col){j o:Nat}{z:Value}(hj:j<7)(ho:o=i*7+j)(hx:x.cells=(af[i]).cells.set j z)(hf:eP M (w.heap.size+3) u x):dw M w g b q B n cap cv nm rt LA l (af.set i x) er (u.setCell ⟨q,o,none⟩ z):=by
 have h1:=h.ltg
 have h2:=h.ltb
 have h3:=h.ltq
 have hqg:q≠g:=by have:=h.neg;have:=h.hq;omega
 have hqb:q≠b:=by have:=h.neb;have:=h.hq;omega
 have j6:∀y,eP M (w.heap.size+3) u y→eP M (w.heap.size+3) (u.setCell ⟨q,o,none⟩ z) y:=fun y hy=>⟨hy.name,hy.ns,hy.refs,hy.own,hy.cap,by have:=hy.list.far (p:=⟨q,o,none⟩) (fun a ha e=>by have:=hy.up a ha;have e:a.block=q:=e;omega) z;simpa using this,hy.up,fun a ha=>by simpa using hy.lt a ha⟩
 refine⟨h.own.dJ dS h.len.symm hi x hj ho hx,by simpa using h.len,fun y hy =>?_,h.Ai.far (show _≠q by omega) z,h.IU.far (show _≠q by omega) z,h.res.far (show _≠q by omega) z,?_,h.up,h.tape.far (show g≠q by omega) (show b≠q by omega) z,h.kept.set (.inr (.inl rfl)) z,h.ltg,h.ltb,h.ltq,h.neg,h.neb,h.hq⟩
 ·rcases List.mem_or_eq_of_mem_set hy with h|rfl
  ·exact j6 y (dw.fine ‹_› y h)
  ·exact j6 _ hf
 ·have:=h.list.far (p:=⟨q,o,none⟩) (fun a ha e=>by have:=h.up a ha;have e:a.block=q:=e;omega) z
  simpa using this
theorem dw.app(h:dw M w g b q B n cap cv nm rt LA l af er u){nb i o:Nat}{x:Col}{z:Value}(hg:u.grownBy v (some nb))(hnb:w.heap.size+3≤nb)(hi:i<af.length)(ho:o=i*7+4)(hx:x.cells=(af[i]).cells.set 4 z)(hf:eP M (w.heap.size+3) v x)(hoth:∀k (hk:k<af.length),k≠i→∀a,af[k].A=some a→a.block≠nb)(hL:∀a,LA=some a→a.block≠nb):
 dw M w g b q B n cap cv nm rt LA l (af.set i x) er (v.setCell ⟨q,o,none⟩ z):=by
 have h1:=h.ltg
 have h2:=h.ltb
 have h3:=h.ltq
 have hqg:q≠g:=by have:=h.neg;have:=h.hq;omega
 have hqb:q≠b:=by have:=h.neb;have:=h.hq;omega
 have hne:∀i,i<w.heap.size+3→some i≠some nb:=fun i hi e=>by injection e with e;omega
 have j6:∀y,eP M (w.heap.size+3) v y→eP M (w.heap.size+3) (v.setCell ⟨q,o,none⟩ z) y:=fun y hy=>⟨hy.name,hy.ns,hy.refs,hy.own,hy.cap,by have:=hy.list.far (p:=⟨q,o,none⟩) (fun a ha e=>by have:=hy.up a ha;have e:a.block=q:=e;omega) z;simpa using this,hy.up,fun a ha=>by simpa using hy.lt a ha⟩
 have hown := h.own.kept hg (fun k hk => by have : q = k := by simpa [Value.ownBlock] using hk
                                            exact hne k omA)
 refine⟨hown.dJ dS h.len.symm hi x (j:= 4) omA ho hx,by simpa using h.len,fun y hy =>?_,(h.Ai.grown hg (hne _ omA)).far (show _≠q by omega) z,(h.IU.grown hg (hne _ omA)).far (show _≠q by omega) z,(h.res.grown hg (hne _ omA)).far (show _≠q by omega) z,?_,h.up,(h.tape.grown hg (show nb≠g by omega) (show nb≠b by omega)).far (show g≠q by omega) (show b≠q by omega) z,(h.kept.grown hg (fun i e=>by injection e with e;exact .inr (.inr omA))).set (.inr (.inl rfl)) z,h.ltg,h.ltb,h.ltq,h.neg,h.neb,h.hq⟩
 ·obtain⟨k,hk,rfl⟩:=List.getElem_of_mem hy
  rw[List.getElem_set]
  split
  ·exact j6 _ hf
  ·rename_i hki
   have hk':k<af.length:=by simpa using hk
   have hy:=h.fine af[k] (lgm hk')
   exact j6 _ ⟨hy.name,hy.ns,hy.refs,hy.own,hy.cap,hy.list.grown hg (fun a ha e=>hoth k hk' (fun e'=>hki e'.symm) a ha cL),hy.up,fun a ha=>Nat.lt_of_lt_of_le (hy.lt a ha) hg.size⟩
 ·have:=(h.list.grown hg (fun a ha e=>hL a ha cL)).far (p:=⟨q,o,none⟩) (fun a ha e=>by have:=h.up a ha;have e:a.block=q:=e;omega) z
  simpa using this
theorem dw.Kc(h:dw M w g b q B n cap cv nm rt LA l af er u)(z:Int):dw M w g b q B n cap cv nm rt LA l af z (u.setCell ⟨w.heap.size+1,2,none⟩ (.int .i64 z)):=by
 have h1:=h.ltg
 have h2:=h.ltb
 have h3:=h.ltq
 refine⟨h.own.far (fun k hk =>?_) _,h.len,fun y hy =>?_,?_,h.IU.far (show _≠w.heap.size+1 by omega) _,h.res.far (show _≠w.heap.size+1 by omega) _,?_,h.up,h.tape.far (show g≠w.heap.size+1 by omega) (show b≠w.heap.size+1 by omega) _,h.kept.set (.inr (.inr (show _≤w.heap.size+1 by omega))) _,h.ltg,h.ltb,h.ltq,h.neg,h.neb,h.hq⟩
 ·have:q=k:=by simpa[Value.ownBlock]using hk
  show k≠w.heap.size+1
  omega
 ·have hf:=h.fine y hy
  exact⟨hf.name,hf.ns,hf.refs,hf.own,hf.cap,by have:=hf.list.far (p:=⟨w.heap.size+1,2,none⟩) (fun a ha e=>by have:=hf.up a ha;have e:a.block=w.heap.size+1:=e;omega) (.int .i64 z);simpa using this,hf.up,fun a ha=>by simpa using hf.lt a ha⟩
 ·have:=h.Ai.bM 2 (.int .i64 z)
  simpa using this
 ·have:=h.list.far (p:=⟨w.heap.size+1,2,none⟩) (fun a ha e=>by have:=h.up a ha;have e:a.block=w.heap.size+1:=e;omega) (.int .i64 z)
  simpa using this
structure uT (M:Nat) (w:World) (g b q B n cap:Nat) (af:List Col) (u:World):Prop where
 own:ax u B 79 Col.cells 7 (.slice (some ⟨q,0,none⟩) n cap) af
 len:af.length=n
 fine:∀x∈af,eP M (w.heap.size+3) u x
 tape:aO u g b
 kept:jq g q w u
 ltg:g<w.heap.size
 ltb:b<w.heap.size
 ltq:q<w.heap.size
theorem dw.toEnd(h:dw M w g b q B n cap cv nm rt LA l af er u):uT M w g b q B n cap af u:=⟨h.own,h.len,h.fine,h.tape,h.kept,h.ltg,h.ltb,h.ltq⟩
theorem uT.set(h:uT M w g b q B n cap af u)(j:Nat)(z:Value):uT M w g b q B n cap af (u.setCell ⟨w.heap.size+2,j,none⟩ z):=by
 have h1:=h.ltg
 have h2:=h.ltb
 have h3:=h.ltq
 refine⟨h.own.far (fun k hk =>?_) _,h.len,fun y hy =>?_,h.tape.far (show g≠w.heap.size+2 by omega) (show b≠w.heap.size+2 by omega) _,h.kept.set (.inr (.inr (show _≤w.heap.size+2 by omega))) _,h1,h2,h3⟩
 ·have:q=k:=by simpa[Value.ownBlock]using hk
  show k≠w.heap.size+2
  omega
 ·have hf:=h.fine y hy
  exact⟨hf.name,hf.ns,hf.refs,hf.own,hf.cap,by have:=hf.list.far (p:=⟨w.heap.size+2,j,none⟩) (fun a ha e=>by have:=hf.up a ha;have e:a.block=w.heap.size+2:=e;omega) z;simpa using this,hf.up,fun a ha=>by simpa using hf.lt a ha⟩
theorem uT.low(h:uT M w g b q B n cap af u):∀x∈af,eP M w.heap.size u x:=fun x hx=>by
 have f:=h.fine x hx
 exact⟨f.name,f.ns,f.refs,f.own,f.cap,f.list,fun a ha=>by have:=f.up a ha;omega,f.lt⟩
end
theorem KH{P:Prop}(h:P:=by
 go_wp2_with fail
 (with_reducible refine(aA g b (l.length:Int) _ HI2.out.tape omA omA).mono ?_)
 rintro e w3 ⟨r3,rfl,hr3,hk3,hg3⟩
 have Bg:r3<l.length:=by rcases hr3 with h|h<;>omega
 have HI3:=qh (HI2.out.next hg3 hk3)
 clear HI2 hk3 hg3 hr3
 obtain⟨lb,lo,rfl,hlb,Sv⟩:=HI3.out.list.get Bg
 have y0:=Sv 0 _ rfl
 simp only[Nat.mul_one,Nat.add_zero]at y0
 obtain⟨z3,hz3⟩:∃z,l[r3]=z:=⟨_,rfl⟩
 rw[hz3]at y0
 have s0:=HI3.out.own.gI dS HI3.out.len.symm hil (j:= 4) rfl
 have sf:=HI3.out.own.kg HI3.out.len.symm (i*7+4)
 have hqz:=HI3.out.own.lt q rfl
 have hw3:=HI3.out.res.lt
 obtain⟨⟨xn,xt,xs,xr,xA,xc,xo,xj,xd⟩,hx⟩:∃x:Col,af[i]=x:=⟨_,rfl⟩
 have hf0:=HI3.out.fine af[i] (lgm hil)
 rw[hx]at s0 hf0
 have HX:=qh hx
 clear Sv hz3 hx
 go_upto_region 9 with (fail)
 obtain⟨nb,hnb⟩:∃nb,w3.heap.size=nb:=⟨_,rfl⟩
 refine ai (P:=fun u=>Code.wp _ _ _ _ u) (R:=fun u =>∃(tN:List Col) (hi:i<tN.length),tN[i]=⟨xn,xt,xs,xr,some ⟨w3.heap.size,0,none⟩,1,[z3],xj,xd⟩∧(∀k (hk:k<tN.length),k≠i→∀a,tN[k].A=some a→a.block≠w3.heap.size)∧Blk u w3.heap.size 3 #[.int .i64 z3]∧(dw 20 w g b q B n cap (.slice A ts.length c) (.string nm) rt (some ⟨lb,lo,none⟩) l tN er2 u)) ⟨af.set i ⟨xn,xt,xs,xr,some ⟨w3.heap.size,0,none⟩,1,[z3],xj,xd⟩,by simpa using hil,by simp,fun k hk hki a ha =>?_,?_,?_⟩ ?_
 ·rw[List.getElem_set_ne (fun e=>hki e.symm)]at ha
  have:=(HI3.out.fine _ (lgm (by simpa using hk))).lt a ha
  omega
 ·exact Blk.new' spA
 ·rw[←World.setCell_alloc_past _ q _ _ hqz]
  exact(HI3.out.alloc _).set hil ⟨xn,xt,xs,xr,some ⟨w3.heap.size,0,none⟩,1,[z3],xj,xd⟩ (j:= 4) omA rfl cM ⟨hf0.name,hf0.ns,hf0.refs,by simp,by simp,Blk.one (enc:=intCells) (x:=z3) (Blk.new' rfl) spA,fun a ha=>by injection ha with ha;subst ha;exact hw3,fun a ha=>by injection ha with ha;subst ha;simp⟩
 rw[hnb]
 rw[hnb]at hw3
 rintro U ⟨tN,hi1,hx1,ho1,hB1,hI1⟩
 have HO1:=qh ho1
 have UT:lb≠nb:=by omega
 have HI4:=qh hI1
 have HB4:=qh hB1
 have HX1:=qh hx1
 clear ho1 hI1 hB1 hx1 HI3 HX hnb s0 sf y0 hil hqz hlb hf0
 go_wp2_with fail
 (with_reducible refine(aA g b (l.length:Int) _ HI4.out.tape omA omA).mono ?_)
 rintro e w4 ⟨r4,rfl,hr4,hk4,hg4⟩
 have R8:r4<l.length:=by rcases hr4 with h|h<;>omega
 have HI5:=qh (HI4.out.next hg4 hk4)
 have HB5:=qh (HB4.out.grown hg4 inA)
 clear HI4 HB4 hk4 hg4 hr4
 obtain⟨lb5,lo5,he5,hlb,Su⟩:=HI5.out.list.get R8
 injection he5 with he5
 injection he5 with he6 he7
 subst he6 he7
 have y0:=Su 0 _ rfl
 simp only[Nat.mul_one,Nat.add_zero]at y0
 obtain⟨z4,hz4⟩:∃z,l[r4]=z:=⟨_,rfl⟩
 rw[hz4]at y0
 have s0:=HI5.out.own.gI dS HI5.out.len.symm hi1 (j:= 4) (by rw[HX1.out];rfl)
 have sf:=HI5.out.own.kg HI5.out.len.symm (i*7+4)
 have hqz:=HI5.out.own.lt q rfl
 have hw4:=HI5.out.res.lt
 have n0:=HB5.out.cell 0
 have hnz:=HB5.out.lt
 simp only[gE3,List.length_cons,List.length_nil,Nat.zero_add]at n0 s0
 clear Su hz4
 cases h34:decide (z3<z4)
 ·go_upto_if 76 with (fail)
  go_cut [] (fun wc =>∃(qN:List Col) (hi:i<qN.length),(∃A' c' o',qN[i]=⟨xn,xt,xs,xr,A',c',o',xj,xd⟩)∧(dw 20 w g b q B n cap (.slice A ts.length c) (.string nm) rt (some ⟨lb,lo,none⟩) l qN er2 wc))
  case first =>
   go_wp2_with fail
   go_meet
   exact⟨tN,hi1,⟨_,_,_,HX1.out⟩,HI5.out⟩
  case rest=>exact KG
 ·go_upto_if 76 with (fail)
  go_cut [] (fun wc =>∃(qN:List Col) (hi:i<qN.length),(∃A' c' o',qN[i]=⟨xn,xt,xs,xr,A',c',o',xj,xd⟩)∧(dw 20 w g b q B n cap (.slice A ts.length c) (.string nm) rt (some ⟨lb,lo,none⟩) l qN er2 wc))
  case first =>
   have Tn:ax w4 (w.heap.size+3) 3 intCells 1 (.slice (some ⟨nb,0,none⟩) 1 1) [z3]:=ax.one (enc:=intCells) (x:=z3) HB5.out hw3 bn
   have Q6:=qh Tn
   clear Tn
   go_wp2_with (at_builtin;go_must (refine aK _ rfl (.tmp 81) (.tmp 83) 22 rfl 3 i0 _ intCells 1 8 Tryz.underlying22 hi0 hz0 hz1 hz2 rfl omA bn eu (w.heap.size+3) (.slice (some ⟨nb,0,none⟩) 1 1) [z3] rfl (Q6.out.alloc _) _ _ _ [z4] rfl rfl (Blk.one (enc:=intCells) (x:=z4) (Blk.new' rfl) spA) spA (by simp[maxLen]) smA ?_);intro v' w5 hown5 hg5 Xk;obtain⟨A5,c5,rfl,hc5,hs5,hA5⟩:=hown5.slice bn;have hO6:=(HI5.out.alloc _).own.kept hg5 (fun k hk e=>by(have e1:q=k:=by simpa[Value.ownBlock]using hk);(have e2:k=nb:=by simpa[Value.ownBlock]using e);have:=HI5.out.ltq;omega);have s6:=hO6.gI dS HI5.out.len.symm hi1 (j:= 4) (by rw[HX1.out];rfl);have sf6:=hO6.kg HI5.out.len.symm (i*7+4);have HG5:=qh hg5)
   go_meet
   have hf1:=HI5.out.fine tN[i] (lgm hi1)
   rw[HX1.out]at hf1
   exact⟨tN.set i ⟨xn,xt,xs,xr,A5,c5,[z3,z4],xj,xd⟩,by simpa using hi1,⟨A5,c5,[z3,z4],by simp⟩,(HI5.out.alloc _).app HG5.out hw3 hi1 rfl (by rw[HX1.out];rfl) ⟨hf1.name,hf1.ns,hf1.refs,by simp,by simpa using hc5,by simpa using hs5,fun a ha=>(hA5 a ha).1,fun a ha=>(hA5 a ha).2⟩ HO1.out (fun a ha=>by injection ha with ha;subst ha;exact UT)⟩
  case rest=>exact KG):P:=h
theorem KG{P:Prop}(h:P:=by
 (
 obtain⟨qN,hi2,⟨A2,c2,o2,hx2⟩,hI2⟩:=hcut
 have HI6:=qh hI2
 have HX2:=qh hx2
 clear hI2 hx2 HI5 HB5 HX1 s0 sf n0 y0 h34 hi1
 go_wp2_with fail
 (with_reducible refine(aA g b 2 _ HI6.out.tape omA omA).mono ?_)
 rintro e w6 ⟨r5,rfl,hr5,hk6,hg6⟩
 have HI7:=qh (HI6.out.next hg6 hk6)
 clear HI6 hk6 hg6 hr5
 have s5:=HI7.out.own.gI dS HI7.out.len.symm hi2 (j:= 5) (by rw[HX2.out];rfl)
 have sf5:=HI7.out.own.kg HI7.out.len.symm (i*7+5)
 have hf2:=HI7.out.fine qN[i] (lgm hi2)
 rw[HX2.out]at hf2
 have hw6:=HI7.out.res.lt
 have hq6:=HI7.out.own.lt q rfl
 go_upto_region 13 with (fail)
 refine ai (P:=fun u=>Code.wp _ _ _ _ u) (R:=fun u =>∃(z8:List Col) (hi:i<z8.length),z8[i]=⟨xn,xt,xs,xr,A2,c2,o2,r5,xd⟩∧(dw 20 w g b q B n cap (.slice A ts.length c) (.string nm) rt (some ⟨lb,lo,none⟩) l z8 er2 u)) ⟨qN.set i ⟨xn,xt,xs,xr,A2,c2,o2,r5,xd⟩,by simpa using hi2,by simp,HI7.out.set hi2 ⟨xn,xt,xs,xr,A2,c2,o2,r5,xd⟩ (j:= 5) omA rfl (by rw[HX2.out];rfl) ⟨hf2.name,hf2.ns,hf2.refs,hf2.own,hf2.cap,hf2.list,hf2.up,hf2.lt⟩⟩ ?_
 rintro V ⟨z8,hi3,hx3,hI3⟩
 have HI8:=qh hI3
 have HX3:=qh hx3
 clear HI7 HX2 hi2 hI3 hx3 s5 sf5 hf2
 have hw8:=HI8.out.res.lt
 go_wp2_with fail
 (with_reducible refine(aA g b 5 _ (HI8.out.tape.alloc _) omA omA).mono ?_)
 rintro e w8 ⟨r6,rfl,hr6,hk8,hg8⟩
 have K9:r6<5:=by rcases hr6 with h|h<;>omega
 have HI9:=qh ((HI8.out.alloc _).next hg8 hk8)
 have hL:Blk w8 V.heap.size 3 #[.int .i64 0,.int .i64 0,.int .i64 0,.int .i64 5,.int .i64 20]:=Blk.grown (Blk.new' rfl) hg8 inA
 obtain⟨z6,hz6⟩:∃z:Int,w8.cell? ⟨V.heap.size,r6,none⟩=some (.int .i64 z):=by
  rw[hL.cell]
  rcases(show r6=0∨r6=1∨r6=2∨r6=3∨r6=4 by omega) with rfl|rfl|rfl|rfl|rfl
  all_goals exact⟨_,rfl⟩
 clear HI8 hk8 hg8 hr6 hL
 have s6:=HI9.out.own.gI dS HI9.out.len.symm hi3 (j:= 6) (by rw[HX3.out];rfl)
 have sf6:=HI9.out.own.kg HI9.out.len.symm (i*7+6)
 have hf3:=HI9.out.fine z8[i] (lgm hi3)
 rw[HX3.out]at hf3
 go_upto_region 14 with (fail)
 refine ai (P:=fun u=>Code.wp _ _ _ _ u) (R:=fun u =>∃(Mk:List Col),(dw 20 w g b q B n cap (.slice A ts.length c) (.string nm) rt (some ⟨lb,lo,none⟩) l Mk er2 u)) ⟨z8.set i ⟨xn,xt,xs,xr,A2,c2,o2,r5,z6⟩,HI9.out.set hi3 ⟨xn,xt,xs,xr,A2,c2,o2,r5,z6⟩ (j:= 6) omA rfl (by rw[HX3.out];rfl) ⟨hf3.name,hf3.ns,hf3.refs,hf3.own,hf3.cap,hf3.list,hf3.up,hf3.lt⟩⟩ ?_
 rintro X ⟨Mk,hI4⟩
 have TZ:=qh hI4
 have e2:=hI4.Ai.cell 2
 have ef:=hI4.Ai.frozen 2
 have hwX:=hI4.res.lt
 simp only[gE3]at e2
 clear HI9 HX3 hi3 hI4 s6 sf6 hz6 hf3
 go_wp2_with fail
 go_roundw
 case rel=>exact⟨i+1,Mk,_,by omega,by go_num,by first|exact TZ.out|exact TZ.out.Kc 1⟩
 case measure=>exact meA)):P:=h
theorem J7(g b B0 B q n cap:Nat)(A:Option Addr)(c m:Nat)(ts:List Tab)(nm:ByteArray)(Aa:List Col)(er rt:Int)(w:World)(hk:aO w g b)(ht:aJ w w.heap.size A ts)(hm:ts.length=m)(hup:gN B0 A ts)(hg0:g<B0)(hne:nS q A ts)(hl:m≤10)(dR:∀t∈ts,0<t.af.length)(hsn:aI ts)
 (hown:ax w B 79 Col.cells 7 (.slice (some ⟨q,0,none⟩) n cap) Aa) (hn:Aa.length=n) (h8:n≤8) (hnew:∀x∈Aa,Gb x) (hgB:g<B) (hbB:b<B):
 Calls Tryz.prog 36 #[.pointer (some ⟨g,0,none⟩),.agg #[.slice A m c,.slice none 0 0,.slice none 0 0,.slice none 0 0,.slice none 0 0,.slice none 0 0,.slice none 0 0,.slice none 0 0],.agg #[.string nm,.slice (some ⟨q,0,none⟩) n cap,.int .i64 er,.int .i64 rt]] w fun e w' =>
  ∃(af:List Col) (er':Int),e=.returned (.agg #[.string nm,.slice (some ⟨q,0,none⟩) n cap,.int .i64 er',.int .i64 rt])∧ax w' B 79 Col.cells 7 (.slice (some ⟨q,0,none⟩) n cap) af∧af.length=n∧(∀x∈af,eP 100 w.heap.size w' x)∧aO w' g b∧jq g q w w':=by
 subst hm
 have HK:=qh hk
 have HT:=qh ht
 have HU:=qh hup
 have HNE:=qh hne
 have HC:=qh dR
 have HS:=qh hsn
 have HOW:=qh hown
 have HN:=qh hn
 have D5:=qh hnew
 have hgl:=hk.ltg
 have hbl:=hk.lt
 have hql:=(hown.lt q rfl)
 have hBq:=hown.row q rfl
 obtain⟨i0,hi0,hz0,hz1,hz2⟩:=info_parts lh
 clear hk ht hup hne dR hsn hown hn hnew
 go_enter Tryz.func36,Tryz.ntmps36
 go_upto_region 1 with (fail)
 refine ai (P:=fun u=>Code.wp _ _ _ _ u) (R:=fun u=>Blk u w.heap.size 39 #[.slice A ts.length c,.slice none 0 0,.slice none 0 0,.slice none 0 0,.slice none 0 0,.slice none 0 0,.slice none 0 0,.slice none 0 0]∧Blk u (w.heap.size+1) 77 #[.string nm,.slice (some ⟨q,0,none⟩) n cap,.int .i64 er,.int .i64 rt]∧Blk u (w.heap.size+2) 77 #[.string ⟨#[]⟩,.slice none 0 0,.int .i64 0,.int .i64 0]∧Below w.heap.size w u) ⟨?_,?_,?_,?_⟩ ?_
 ·exact((Blk.new _ _ _).alloc _).alloc _
 ·exact(Blk.new' spA).alloc _
 ·exact Blk.new' spA
 ·exact ak
 rintro W ⟨hC,hB,hR,hbW⟩
 have hzW:=hR.lt
 obtain⟨q0,q1,q2,q3⟩:=Tab.blk hB
 have HCB:=qh hC
 have HTB:=qh hB
 have HRB:=qh hR
 have hOW:=HOW.out.below hbW nlr
 obtain⟨A0,c0,he0,hcap0,hsl0,_⟩:=hOW.slice dS
 injection he0 with he1 he2 he3
 subst he1
 have TJ:=qh hsl0
 have TQ:=qh hOW
 clear hC hB hR hOW hsl0 he2 he3
 go_wp2_with fail
 (with_reducible refine(KL nm (some ⟨q,0,none⟩) cap n Aa er rt _ TJ.out HN.out omA).mono ?_)
 rintro e w1 ⟨⟨LA,lc,l,rfl,hlc,hln,hls,hlA⟩,hb1⟩
 have LJ:Below w.heap.size w w1:=ae hbW hb1 hbW.size
 have hinv:dw 20 w g b q B n cap (.slice A ts.length c) (.string nm) rt LA l Aa er w1:=by
  refine⟨TQ.out.below hb1 nlr,HN.out,fun x hx =>?_,HTB.out.below hb1 omA,HCB.out.below hb1 omA,HRB.out.below hb1 hzW,hls,fun a ha=>by have:=hlA a ha;omega,HK.out.below LJ,(jq.refl g q w).below LJ,hgl,hbl,hql,hgB,hbB,hBq⟩
  have hx:=D5.out x hx
  exact⟨hx.name,hx.ns,hx.refs,by rw[hx.own];simp,by rw[hx.own];simp,by rw[hx.own];exact ah.nil,fun a ha=>(by rw[hx.A]at ha;cases ha),fun a ha=>(by rw[hx.A]at ha;cases ha)⟩
 have iD:=qh hinv
 clear hinv HOW TQ TJ HK HTB HCB HRB D5 HN hb1 LJ hlA hls q0 q1 q2 q3
 go_upto_block 0 with (fail)
 go_cut [] (fun wc =>∃(af:List Col) (er:Int),dw 20 w g b q B n cap (.slice A ts.length c) (.string nm) rt LA l af er wc)
 case first =>
  go_wp2_with fail
  go_loopw [8] (fun vi wr =>∃(i:Nat) (af:List Col) (er:Int),i≤n∧vi=.int .i64 i∧dw 20 w g b q B n cap (.slice A ts.length c) (.string nm) rt LA l af er wr) (fun vi _=>n-(intOf vi).toNat)
  case atStart=>exact⟨0,Aa,er,Nat.zero_le _,rfl,iD.out⟩
  case round =>
   clear iD
   obtain⟨i,af,er2,hin,rfl,hinv⟩:=hrel
   have iD:=qh hinv
   obtain⟨q0,q1,q2,q3⟩:=Tab.blk hinv.Ai
   have hwz:=hinv.res.lt
   have hci:i<n→i<af.length:=fun h=>by rw[hinv.len];exact h
   clear hinv
   by_cases hlt:i<n
   ·have hil:=hci hlt
    have hlt':decide (i<n)=true:=by simpa using hlt
    by_cases hl0:0<l.length
    ·have hl0':decide (0<l.length)=true:=by simpa using hl0
     clear hci
     go_wp2_with fail
     (with_reducible refine(aA g b 3 _ iD.out.tape omA omA).mono ?_)
     rintro e w2 ⟨r1,rfl,hr1,hk2,hg2⟩
     have HI2:=qh (iD.out.next hg2 hk2)
     clear iD hk2 hg2 q0 q1 q2 q3 hr1
     by_cases hi0:i=0
     ·have NH:((i:Int) == 0)=true:=by simp;omega
      have SC:decide (0<(i:Int))=false:=by simp;omega
      have SB:decide (0<i)=false:=by simp;omega
      clear hi0
      by_cases hr0:r1=0
      ·subst hr0
       exact KH
      ·have ou:((r1:Int) == 0)=false:=by simp;omega
       go_wp2_with fail
       go_roundw
       case rel=>exact⟨i+1,af,er2,by omega,by go_num,HI2.out⟩
       case measure=>exact meA
     ·have NH:((i:Int) == 0)=false:=by simp;omega
      have SC:decide (0<(i:Int))=true:=by simp;omega
      have SB:decide (0<i)=true:=by simp;omega
      clear hi0
      go_wp2_with fail
      (with_reducible refine(aA g b 4 _ HI2.out.tape omA omA).mono ?_)
      rintro e w2' ⟨r2,rfl,hr2,hk2,hg2⟩
      have TY:=qh (HI2.out.next hg2 hk2)
      clear HI2 hk2 hg2 hr2
      have HI2:=TY
      clear TY
      by_cases hr0:r2=0
      ·subst hr0
       go_wp2_with fail
       go_roundw
       case rel=>exact⟨i+1,af,er2,by omega,by go_num,HI2.out⟩
       case measure=>exact meA
      ·have ou:((r2:Int) == 0)=false:=by simp;omega
       clear hr0
       exact KH
    ·have hl0':decide (0<l.length)=false:=by simpa using hl0
     go_wp2_with fail
     go_meet
     exact⟨af,er2,iD.out⟩
   ·have hlt':decide (i<n)=false:=by simpa using hlt
    go_wp2_with fail
    go_meet
    exact⟨af,er2,iD.out⟩
 case rest =>
  clear iD
  obtain⟨af,er3,hinv⟩:=hcut
  have h20:∀k (hk:k<af.length),0≤k→af[k].own.length≤20:=fun k hk _=>(hinv.fine _ (lgm hk)).own
  have iD:=qh (hinv.wide (show 20≤100 by omega))
  have H20:=qh h20
  clear hinv h20
  go_wp2_with fail
  go_loopw [12] (fun vi wr =>∃(i:Nat) (af:List Col),i≤n∧vi=.int .i64 i∧dw 100 w g b q B n cap (.slice A ts.length c) (.string nm) rt LA l af er3 wr∧(∀k (hk:k<af.length),i≤k→af[k].own.length≤20)) (fun vi _=>n-(intOf vi).toNat)
  case atStart=>exact⟨0,af,Nat.zero_le _,rfl,iD.out,H20.out⟩
  case round =>
   clear iD H20
   obtain⟨i,af,hin,rfl,hinv,h20⟩:=hrel
   have iD:=qh hinv
   have H20:=qh h20
   obtain⟨q0,q1,q2,q3⟩:=Tab.blk hinv.Ai
   have hwz:=hinv.res.lt
   have hci:i<n→i<af.length:=fun h=>by rw[hinv.len];exact h
   clear hinv h20
   by_cases hlt:i<n
   ·have hil:=hci hlt
    have hlt':decide (i<n)=true:=by simpa using hlt
    clear hci
    go_wp2_with fail
    clear q0 q1 q2 q3
    obtain⟨wo,rfl⟩:∃wo:World,wo=wr:=⟨_,rfl⟩
    go_loopw [14] (fun vn wi =>∃(m:Nat) (af:List Col),m≤ts.length∧vn=.int .i64 m∧dw 100 w g b q B n cap (.slice A ts.length c) (.string nm) rt LA l af er3 wi∧(∀k (hk:k<af.length),i+1≤k→af[k].own.length≤20)∧(∀hk:i<af.length,af[i].own.length≤20+m)) (fun vn _=>ts.length-(intOf vn).toNat)
    case atStart=>exact⟨0,af,Nat.zero_le _,rfl,iD.out,fun k hk h=>H20.out k hk omA,fun hk=>by have:=H20.out i hk nlr;omega⟩
    case round =>
     clear iD H20 hil
     obtain⟨m,af,hm,rfl,hinv,h20,Tt⟩:=hrel
     have iD:=qh hinv
     have H20:=qh h20
     have hil:i<af.length:=by rw[hinv.len];exact hlt
     have p0:=hinv.IU.cell 0
     simp only[gE3]at p0
     have hwz:=hinv.res.lt
     by_cases hmt:m<ts.length
     ·have htab:=HT.out.Cz hinv.kept HU.out hg0 HNE.out
      obtain⟨tb,tbo,rfl,htb,htc⟩:=htab.1.get hmt
      obtain⟨t0,t1,_,_⟩:=Tab.fe htc
      have hcl:=HC.out ts[m] (lgm hmt)
      obtain⟨cb,co,hce,hcb,hcc⟩:=(htab.2 ts[m] (lgm hmt)).1.get hcl
      have z4:=hcc 4 _ rfl
      have s3:=hinv.own.gI dS hinv.len.symm hil (j:= 3) rfl
      have s4:=hinv.own.gI dS hinv.len.symm hil (j:= 4) rfl
      have s4f:=hinv.own.kg hinv.len.symm (i*7+4)
      have hqz:=hinv.own.lt q rfl
      simp only[Nat.zero_mul,Nat.add_zero]at z4
      have hf:=hinv.fine af[i] (lgm hil)
      have hol:=Tt hil
      obtain⟨⟨xn,xt,xs,xr,xA,xc,xo,xj,xd⟩,hx⟩:∃x:Col,af[i]=x:=⟨_,rfl⟩
      rw[hx]at s3 s4 hf hol
      rw[hce]at t1
      obtain⟨tn,htn⟩:∃s,ts[m].name=s:=⟨_,rfl⟩
      rw[htn]at t0
      obtain⟨ol,Sk⟩:∃k:Nat,ts[m].af[0].own.length=k:=⟨_,rfl⟩
      rw[Sk]at z4
      obtain⟨cl,LG⟩:∃k:Nat,ts[m].af.length=k:=⟨_,rfl⟩
      rw[LG]at t1 hcl
      have hcl':decide (0<cl)=true:=by simpa using hcl
      have hk0:=aH (w:=wr) tb htb
      have hk1:=aH (w:=wr) cb hcb
      have hk2:=aH (w:=wr) q hqz
      have hk3:=aH (w:=wr) w.heap.size omA
      have HX:=qh hx
      have HF:=qh hf
      clear hinv h20 Tt htab htc hce hcc hx htn Sk LG hf
      by_cases hnm:tn=xr
      ·have hs:=G7 hnm
       clear hnm
       by_cases ho0:0<ol
       ·have UI:decide (0<ol)=true:=by simpa using ho0
        go_upto_region 23 with (fail)
        refine ag krA krA ?_;(repeat(go_big_quiet_step (fail)));refine wpQuiet_nil ?_;intro wq hq
        have HIQ:=qh (iD.out.below hq)
        clear hk0 hk1 hk2 hk3 p0 t0 t1 z4 s3 s4 s4f hs
        have s4:=HIQ.out.own.gI dS HIQ.out.len.symm hil (j:= 4) cM
        have hfq:=HIQ.out.fine af[i] (lgm hil)
        rw[HX.out]at hfq
        have HFQ:=qh hfq
        have O8:=qh hfq.cap
        have HXL:=qh hfq.list
        have hwq:=HIQ.out.res.lt
        simp only at s4
        clear hfq
        go_wp2_with fail
        (with_reducible refine(EO xA xc xo.length xo (i:Int) _ HXL.out rfl omA O8.out).mono ?_)
        rintro e w8 ⟨⟨A8,c8,rfl,hc8,hs8,hA8⟩,hb8⟩
        have WS:(jH xo (i:Int)).length≤xo.length+1:=CJ (fun a b:Int=>a<b) xo (i:Int)
        have hpos:0<(jH xo (i:Int)).length:=List.length_pos_of_mem ((CG (fun a b:Int=>a<b) xo (i:Int) (i:Int)).2 (.inr rfl))
        have HI8:=qh (HIQ.out.below hb8)
        have s4':=HI8.out.own.gI dS HI8.out.len.symm hil (j:= 4) cM
        have s4f:=HI8.out.own.kg HI8.out.len.symm (i*7+4)
        have hw8:=hb8.size
        have hcf:eP 100 (w.heap.size+3) w8 ⟨xn,xt,xs,xr,A8,c8,jH xo (i:Int),xj,xd⟩:=by
         have hf8:=HI8.out.fine af[i] (lgm hil)
         rw[HX.out]at hf8
         refine⟨hf8.name,hf8.ns,hf8.refs,show (jH xo (i:Int)).length≤100 by omega,hc8,hs8,fun a ha =>?_,fun a ha =>?_⟩
         ·rcases hA8 with h|h
          ·exact hf8.up a (h▸ha)
          ·have:=h a ha
           omega
         ·obtain⟨b9,o9,he9,hb9,_⟩:=hs8 hpos
          have ha:A8=some a:=ha
          rw[he9]at ha
          injection ha with ha
          subst ha
          exact hb9
        have HCF:=qh hcf
        clear hcf hs8 hA8 hc8 hb8 HIQ HFQ O8 HXL s4
        go_wp2_with fail
        go_roundw
        case rel=>exact⟨m+1,af.set i ⟨xn,xt,xs,xr,A8,c8,jH xo (i:Int),xj,xd⟩,by omega,by go_num,HI8.out.set hil ⟨xn,xt,xs,xr,A8,c8,jH xo (i:Int),xj,xd⟩ (j:= 4) omA rfl cM HCF.out,fun k hk hki=>by rw[List.getElem_set_ne omA];exact H20.out k (by simpa using hk) hki,fun hk=>by rw[List.getElem_set_self];show (jH xo (i:Int)).length≤20+(m+1);omega⟩
        case measure=>exact meA
       ·have UI:decide (0<ol)=false:=by simpa using ho0
        go_upto_region 23 with (fail)
        refine ag krA krA ?_;(repeat(go_big_quiet_step (fail)));refine wpQuiet_nil ?_;intro wq hq
        clear hk0 hk1 hk2 hk3 p0 t0 t1 z4 s3 s4 s4f hs
        have HIQ:=qh (iD.out.below hq)
        go_wp2_with fail
        go_roundw
        case rel=>exact⟨m+1,af,by omega,by go_num,HIQ.out,H20.out,fun hk=>by rw[HX.out];exact Nat.le_succ_of_le hol⟩
        case measure=>exact meA
      ·have hs:=G8 hnm
       clear hnm
       go_upto_region 23 with (fail)
       refine ag krA krA ?_;(repeat(go_big_quiet_step (fail)));refine wpQuiet_nil ?_;intro wq hq
       clear hk0 hk1 hk2 hk3 p0 t0 t1 z4 s3 s4 s4f hs
       have HIQ:=qh (iD.out.below hq)
       go_wp2_with fail
       go_roundw
       case rel=>exact⟨m+1,af,by omega,by go_num,HIQ.out,H20.out,fun hk=>by rw[HX.out];exact Nat.le_succ_of_le hol⟩
       case measure=>exact meA
     ·have hmt':decide (m<ts.length)=false:=by simpa using hmt
      clear hinv h20
      have hme:m=ts.length:=by omega
      go_wp2_with fail
      go_roundw
      case rel=>exact⟨i+1,af,by omega,by go_num,iD.out,H20.out⟩
      case measure=>exact meA
   ·have hlt':decide (i<n)=false:=by simpa using hlt
    clear hci
    have hinv:=iD.out
    obtain⟨r0,r1,r2,r3⟩:=Tab.blk hinv.res
    have f0:=hinv.res.frozen 0
    have f1:=hinv.res.frozen 1
    have f2:=hinv.res.frozen 2
    have f3:=hinv.res.frozen 3
    have HE:=qh hinv.toEnd
    clear hinv iD
    go_wp2_with fail
    refine bodyPost_ret (v:= .agg #[.string nm,.slice (some ⟨q,0,none⟩) n cap,.int .i64 er3,.int .i64 rt]) (by simp[results,Tryz.results36,go_sem,r0,r1,r2,r3]) rfl ?_
    have hE:=(((HE.out.set 0 (.string nm)).set 1 (.slice (some ⟨q,0,none⟩) n cap)).set 2 (.int .i64 er3)).set 3 (.int .i64 rt)
    exact⟨af,er3,rfl,hE.own,hE.len,hE.low,hE.tape,hE.kept⟩
def fu:Col:=⟨⟨#[99,48]⟩,1,⟨#[112,101,114,115,111,110]⟩,⟨#[]⟩,none,0,[],0,0⟩
def eH(b:Nat):Col:=⟨⟨#[99,49]⟩,2,⟨#[]⟩,⟨#[]⟩,some ⟨b,0,none⟩,1,[0],0,0⟩
def qm(b q:Nat):Tab:=⟨⟨#[116,48]⟩,some ⟨q,0,none⟩,2,[fu,eH b],0,0⟩
theorem Mq(ts:List Tab)(b q:Nat):df ts [fu,eH b] 0 0 0 0 fu=0:=by
 have h1:cE1 fu=false:=by decide +kernel
 have h2:cE2 [fu,eH b] 0 fu=false:=aM (fun⟨k,h,hk,_⟩=>by omega)
 have hr:(!fu.refs.toList.isEmpty)=false:=by decide +kernel
 have h3:∀tg,cE3 fu tg=false:=fun tg=>by rw[cE3,hr];rfl
 have h4:∀tg,cE4 ts fu tg=false:=fun tg=>by rw[cE4,hr,Bool.and_false,Bool.false_and,Bool.or_false];rfl
 have h5:cE5 [fu,eH b] fu=false:=by
  have:pb (gm [fu,eH b] fu.own)=true:=aU (fun i h=>by simp[fu]at h)
  rw[cE5,hr,this]
  simp[fu,eH,aD]
 have h6:cE6 0 0 0 fu=false:=by rfl
 have h7:∀tg,cE7 ts 0 fu tg=false:=fun tg=>by rw[cE7,hr];rfl
 unfold df
 simp only[h1,h2,h3,h4,h5,h6,h7]
 rfl
theorem Mo(ts:List Tab)(b q:Nat):df ts [fu,eH b] 0 0 0 1 (eH b)=0:=by
 have h1:cE1 (eH b)=false:=by
  have e1:dQ (eH b).name=true:=by show dQ ⟨#[99,49]⟩=true;decide +kernel
  have e2:(!(eH b).ns.toList.isEmpty)=false:=by show (!(⟨#[]⟩:ByteArray).toList.isEmpty)=false;decide +kernel
  rw[cE1,e1,e2]
  rfl
 have h2:cE2 [fu,eH b] 1 (eH b)=false:=aM (fun⟨k,h,hk,he⟩=>by
  obtain rfl:k=0:=by omega
  have he:(⟨#[99,48]⟩:ByteArray)=⟨#[99,49]⟩:=he
  exact absurd he (by decide +kernel))
 have hr:(!(eH b).refs.toList.isEmpty)=false:=by show (!(⟨#[]⟩:ByteArray).toList.isEmpty)=false;decide +kernel
 have hn:(!(eH b).ns.toList.isEmpty)=false:=hr
 have h3:∀tg,cE3 (eH b) tg=false:=fun tg=>by rw[cE3,hr];rfl
 have h4:∀tg,cE4 ts (eH b) tg=false:=fun tg=>by rw[cE4,hr,Bool.and_false,Bool.false_and,Bool.or_false];rfl
 have h5:cE5 [fu,eH b] (eH b)=false:=by
  have:pb (gm [fu,eH b] (eH b).own)=true:=aU (fun i h=>by
   have h':i<1:=h
   obtain rfl:i=0:=by omega
   refine⟨show (0:Int)≤0 by omega,show (0:Int).toNat<2 by decide,fun h0=>absurd h0 omA,?_⟩
   rintro⟨e,_⟩
   have e:(⟨#[112,101,114,115,111,110]⟩:ByteArray)=⟨#[]⟩:=e
   exact absurd e (by decide +kernel))
  rw[cE5,hr,this]
  simp[fu,eH,aD]
 have h6:cE6 0 0 1 (eH b)=false:=by rfl
 have h7:∀tg,cE7 ts 1 (eH b) tg=false:=fun tg=>by rw[cE7,hr];rfl
 unfold df
 simp only[h1,h2,h3,h4,h5,h6,h7]
 rfl
theorem Og(b q:Nat):aV [qm b q]:=by
 refine⟨by simp,fun i h =>?_⟩
 have h':i<1:=by simpa using h
 obtain rfl:i=0:=by omega
 refine⟨?_,fun k hk=>by omega,?_⟩
 ·show dQ ⟨#[116,48]⟩=true
  decide +kernel
 ·show il [qm b q] 0 (qm b q)=0
  have hs:gK (qm b q)=true:=rfl
  rw[il,if_pos hs]
  refine gY fun i hi =>?_
  have hi':i<2:=hi
  rcases(show i=0∨i=1 by omega) with rfl|rfl
  ·exact Mq _ b q
  ·exact Mo _ b q
theorem IX(b q:Nat):aI [qm b q]:=by
 refine⟨by simp,fun t ht =>?_⟩
 rw[List.mem_singleton.1 ht]
 refine⟨show 2≤1000000 by omega,show 2≤1000000 by omega,Nat.le_refl 2,fun x hx =>?_⟩
 have hx:x=fu∨x=eH b:=by simpa[qm]using hx
 rcases hx with rfl|rfl
 ·exact⟨show 2≤1000000 by omega,show 6≤1000000 by omega,show 0≤1000000 by omega,show 0≤1000000 by omega⟩
 ·exact⟨show 2≤1000000 by omega,show 0≤1000000 by omega,show 0≤1000000 by omega,show 1≤1000000 by omega⟩
theorem EG{P:Prop}(h:P:=by
 refine hK.out _ _ _ ⟨(HIX.out.cat.below Br hzc),(HBX.out.below Br hzT)⟩ (fun hHeld =>?_)
 clear hK K
 refine tkT 7 hHeld ?_ (hy:=by intro w' hSw;obtain⟨sw1,sw2⟩:=hSw;obtain⟨sa0,sa1,sa2,sa3,sa4,sa5,sa6,sa7⟩:=Cat.blk sw1;obtain⟨sb0,sb1,sb2,sb3⟩:=Tab.blk sw2;clear sw1 sw2;go_simp;first|done|with_reducible rfl)
 refine rzT 8 (fun K hK =>?_)
 clear hHeld
 have L9:=HBD.out.below Br hzX
 have s0:=L9.cell 0
 have sf:=L9.frozen 0
 simp only[gE3]at s0
 go_simp
 refine hK.out _ _ _ ?_
 clear hK K
 refine bE krA ?_ _
 go_wp2_with fail
 go_meet
 refine⟨A10,c10,by simpa using Fe,?_,?_,fun a ha =>?_,aj (aN Br _) (.inl rfl) _⟩
 ·have:=L9.bM 0 (.slice A10 (ts.length+1) c10)
  simpa using this
 ·have:=Ie.far (p:=⟨V.heap.size,0,none⟩) (fun a ha e=>by have:=(zw a ha).1;have e:a.block=V.heap.size:=e;omega) (.slice A10 (ts.length+1) c10)
  simpa using this
 ·have:=zw a ha
  simpa using this):P:=h
def lG(B:Nat)(A:Option Addr)(ts:List Tab):Prop:=(∀a,A=some a→a.block<B) ∧ ∀t∈ts,(∀a,t.A=some a→a.block<B) ∧ ∀x∈t.af,∀a,x.A=some a→a.block<B
theorem lG.mono{B B':Nat}{A:Option Addr}{ts:List Tab}(h:lG B A ts)(hB:B≤B'):lG B' A ts:=
 ⟨fun a ha=>Nat.lt_of_lt_of_le (h.1 a ha) hB,fun t ht=>⟨fun a ha=>Nat.lt_of_lt_of_le ((h.2 t ht).1 a ha) hB,fun x hx a ha=>Nat.lt_of_lt_of_le ((h.2 t ht).2 x hx a ha) hB⟩⟩
theorem lG.ne{B q:Nat}{A:Option Addr}{ts:List Tab}(h:lG B A ts)(hq:B≤q):nS q A ts:=
 ⟨fun a ha e=>by have:=h.1 a ha;omega,fun t ht=>⟨fun a ha e=>by have:=(h.2 t ht).1 a ha;omega,fun x hx a ha e=>by have:=(h.2 t ht).2 x hx a ha;omega⟩⟩
theorem aJ.jh{w w':World}{A:Option Addr}{ts:List Tab}{d:Nat}(h:aJ w w.heap.size A ts)(hg:w.grownBy w' (some d))(hne:nS d A ts):aJ w' w'.heap.size A ts:=
 ⟨h.1.grown hg (fun a ha e=>hne.1 a ha cL),fun t ht=>⟨(h.2 t ht).1.grown hg (fun a ha e=>(hne.2 t ht).1 a ha cL),fun x hx=>((h.2 t ht).2 x hx).grown hg (fun a ha e=>(hne.2 t ht).2 x hx a ha cL)⟩⟩
theorem gN.ne{B q:Nat}{A:Option Addr}{ts:List Tab}(h:gN B A ts)(hq:q<B):nS q A ts:=
 ⟨fun a ha e=>by have:=h.1 a ha;omega,fun t ht=>⟨fun a ha e=>by have:=(h.2 t ht).1 a ha;omega,fun x hx a ha e=>by have:=(h.2 t ht).2 x hx a ha;omega⟩⟩
theorem gN.app{B:Nat}{A A':Option Addr}{ts:List Tab}{t:Tab}(h:gN B A ts)(h1:∀a,A'=some a→B≤a.block)(h2:∀a,t.A=some a→B≤a.block)(h3:∀x∈t.af,∀a,x.A=some a→B≤a.block):gN B A' (ts ++ [t]):=
 ⟨h1,fun y hy=>by
  rcases List.mem_append.1 hy with hy|hy
  ·exact h.2 y hy
  ·rw[List.mem_singleton.1 hy];exact⟨h2,h3⟩⟩
theorem lG.app{B:Nat}{A A':Option Addr}{ts:List Tab}{t:Tab}(h:lG B A ts)(h1:∀a,A'=some a→a.block<B)(h2:∀a,t.A=some a→a.block<B)(h3:∀x∈t.af,∀a,x.A=some a→a.block<B):lG B A' (ts ++ [t]):=
 ⟨h1,fun y hy=>by
  rcases List.mem_append.1 hy with hy|hy
  ·exact h.2 y hy
  ·rw[List.mem_singleton.1 hy];exact⟨h2,h3⟩⟩
theorem aI.app{ts:List Tab}{t:Tab}(h:aI ts)(hl:ts.length≤100)(ht:GJ t):aI (ts ++ [t]):=
 ⟨by simp;omega,fun y hy=>by
  rcases List.mem_append.1 hy with hy|hy
  ·exact h.tabs y hy
  ·rw[List.mem_singleton.1 hy];exact ht⟩
theorem aJ.app{w:World}{A A':Option Addr}{ts:List Tab}{t:Tab}(h:aJ w w.heap.size A ts)(hs:ah w w.heap.size Tab.cells 4 A' (ts ++ [t]))(ht:iJ w w.heap.size t.A t.af):aJ w w.heap.size A' (ts ++ [t]):=
 ⟨hs,fun y hy=>by
  rcases List.mem_append.1 hy with hy|hy
  ·exact h.2 y hy
  ·rw[List.mem_singleton.1 hy];exact ht⟩
structure nT (w:World) (g b:Nat) (A:Option Addr) (c:Nat) (ts:List Tab) (u:World):Prop where
 cat:Blk u (w.heap.size+1) 39 #[.slice A ts.length c,.slice none 0 0,.slice none 0 0,.slice none 0 0,.slice none 0 0,.slice none 0 0,.slice none 0 0,.slice none 0 0]
 res:Blk u w.heap.size 39 #[.slice none 0 0,.slice none 0 0,.slice none 0 0,.slice none 0 0,.slice none 0 0,.slice none 0 0,.slice none 0 0,.slice none 0 0]
 tabs:aJ u u.heap.size A ts
 up:gN (w.heap.size+2) A ts
 bd:lG u.heap.size A ts
 ok:aV ts
 bZ:aI ts
 cap:ts.length≤c
 tape:aO u g b
 grown:w.grownBy u (some g)
 ltg:g<w.heap.size
 ltb:b<w.heap.size
section
variable {w u v:World}{g b:Nat}{A:Option Addr}{c:Nat}{ts:List Tab}
theorem nT.next(h:nT w g b A c ts u)(hg:u.grownBy v (some g))(hk:aO v g b):nT w g b A c ts v:=by
 have h1:=h.ltg
 have hne:∀i,w.heap.size≤i→some i≠some g:=fun i hi e=>by injection e with e;omega
 exact⟨h.cat.grown hg (hne _ omA),h.res.grown hg (hne _ omA),h.tabs.grown h.up omA hg,h.up,h.bd.mono hg.size,h.ok,h.bZ,h.cap,hk,az h.grown hg,h.ltg,h.ltb⟩
theorem IW:aV []:=⟨by simp,fun i h=>by simp at h⟩
theorem Hl:aI []:=⟨by simp,fun t h=>by simp at h⟩
end
theorem eP.Oa{M w0:Nat}{u:World}{x:Col}(h:eP M w0 u x){p:Addr}(hp:p.block<w0)(z:Value):eP M w0 (u.setCell p z) x:=
 ⟨h.name,h.ns,h.refs,h.own,h.cap,by have:=h.list.far (p:=p) (fun a ha e=>by have:=h.up a ha;omega) z;simpa using this,h.up,fun a ha=>by simpa using h.lt a ha⟩
theorem aO.Tv{w:World}{g b:Nat}(h:aO w g b):aO w.drew g b:=h.below (brf.drew)
theorem ve(g b n:Nat)(w:World)(hk:aO w g b)(hn:n≤3)(hn1:1≤n):
 Calls Tryz.prog 9 #[.pointer (some ⟨g,0,none⟩),.int .i64 n] w fun e w' =>
  ∃(A:Option Addr) (c:Nat) (ts:List Tab),e=.returned (.agg #[.slice A ts.length c,.slice none 0 0,.slice none 0 0,.slice none 0 0,.slice none 0 0,.slice none 0 0,.slice none 0 0,.slice none 0 0])∧aJ w' w'.heap.size A ts∧gN w.heap.size A ts∧lG w'.heap.size A ts∧aI ts∧aV ts ∧ 0<ts.length∧ts.length≤n∧aO w' g b∧w.grownBy w' (some g):=by
 have HK:=qh hk
 have hgl:=hk.ltg
 have hbl:=hk.lt
 obtain⟨ic,hic,sV,sU,sS⟩:=info_parts A7
 obtain⟨it,hit,CP,CO,CL⟩:=info_parts Gs
 clear hk
 go_enter Tryz.func9,Tryz.ntmps9
 go_upto_region 2 with (fail)
 refine ai (P:=fun u=>Code.wp _ _ _ _ u) (R:=fun u=>nT w g b none 0 ([]:List Tab) u) ?_ ?_
 ·refine⟨Blk.new' spA,(Blk.new' rfl).alloc _,⟨ah.nil,fun t h=>by simp at h⟩,⟨fun a ha=>(by cases ha),fun t h=>by simp at h⟩,⟨fun a ha=>(by cases ha),fun t h=>by simp at h⟩,IW,Hl,Nat.le_refl _,(HK.out.alloc _).alloc _,aN ak _,hgl,hbl⟩
 rintro W hinv
 have iD:=qh hinv
 clear hinv HK
 go_upto_block 0 with (fail)
 go_cut [] (fun wc =>∃(A:Option Addr) (c:Nat) (ts:List Tab),ts.length≤n∧nT w g b A c ts wc)
 case first =>
  go_wp2_with fail
  go_loopw [6] (fun vi wr =>∃(i:Nat) (A:Option Addr) (c:Nat) (ts:List Tab),i≤n∧vi=.int .i64 i∧ts.length≤i∧nT w g b A c ts wr) (fun vi _=>n-(intOf vi).toNat)
  case atStart=>exact⟨0,none,0,[],Nat.zero_le _,rfl,Nat.le_refl _,iD.out⟩
  case round =>
   clear iD
   obtain⟨i,A,c,ts,hin,rfl,htl,hinv⟩:=hrel
   have iD:=qh hinv
   have hwz:=hinv.cat.lt
   have hU:=hinv.tape
   clear hinv
   by_cases hlt:i<n
   ·have hlt':decide (i<n)=true:=by simpa using hlt
    have WL:(i:Int)<(n:Int):=by omega
    have HT0:=qh hU
    clear hU
    go_wp2_with fail
    (with_reducible refine(qa ⟨#[116]⟩ i omA (by decide) _).mono ?_)
    rintro e w1 ⟨rfl,hb1⟩
    obtain⟨nx,hnx⟩:∃nx:ByteArray,(⟨#[116]⟩++⟨#[rF i]⟩:ByteArray)=nx:=⟨_,rfl⟩
    have UJ:nx.size≤2:=by rw[←hnx,ByteArray.size_append];exact Nat.le_refl 2
    rw[hnx]
    have hg1:wr.grownBy w1 (some g):=aN hb1 _
    have HT1:=qh (HT0.out.below hb1)
    clear HT0 hnx hb1
    go_wp2_with fail
    (with_reducible refine(aA g b 2 _ HT1.out omA omA).mono ?_)
    rintro e w2 ⟨r2,rfl,hr2,hk2,hg2⟩
    have Bn:=az hg1 hg2
    have HT2:=qh hk2
    clear HT1 hk2 hg1 hg2
    go_wp2_with fail
    (with_reducible refine(aA g b 4 _ (HT2.out.alloc _) omA omA).mono ?_)
    rintro e w3 ⟨r3,rfl,hr3,hk3,hg3⟩
    have Bg:r3<4:=by rcases hr3 with h|h<;>omega
    have hL:Blk w3 w2.heap.size 3 #[.int .i64 0,.int .i64 0,.int .i64 25,.int .i64 40]:=Blk.grown (Blk.new' rfl) hg3 (fun e=>by injection e with e;have:=Bn.size;omega)
    obtain⟨z3,hz3⟩:∃z:Int,w3.cell? ⟨w2.heap.size,r3,none⟩=some (.int .i64 z):=by
     rw[hL.cell]
     rcases(show r3=0∨r3=1∨r3=2∨r3=3 by omega) with rfl|rfl|rfl|rfl
     all_goals exact⟨_,rfl⟩
    have QC:=az (bW Bn _) hg3
    have HT3:=qh hk3
    clear HT2 hk3 Bn hg3 hL hr2 hr3
    go_upto_region 6 with (fail)
    obtain⟨T,hT⟩:∃T,w3.heap.size=T:=⟨_,rfl⟩
    rw[hT]
    refine ai (P:=fun u=>Code.wp _ _ _ _ u) (R:=fun u=>Blk u T 77 #[.string nx,.slice none 0 0,.int .i64 r2,.int .i64 z3]∧aO u g b∧wr.grownBy u (some g)) ⟨?_,?_,?_⟩ ?_
    ·exact Blk.new' hT
    ·exact HT3.out.alloc _
    ·exact bW QC _
    have hTz:wr.heap.size≤T:=by have:=QC.size;omega
    clear HT3 QC hT hz3
    rintro U ⟨hBU,hKU,hGU⟩
    have HBU:=qh hBU
    have HKU:=qh hKU
    have hUz:=hBU.lt
    clear hBU hKU
    go_wp2_with fail
    (with_reducible refine(aA g b 3 _ HKU.out omA omA).mono ?_)
    rintro e w4 ⟨r4,rfl,hr4,hk4,hg4⟩
    have R8:r4<3:=by rcases hr4 with h|h<;>omega
    have hG4:=az hGU hg4
    have HT4:=qh hk4
    have HB4:=qh (HBU.out.grown hg4 inA)
    have hz4:=hG4.size
    have Vl:=HB4.out.lt
    clear HKU HBU hGU hk4 hg4 hr4
    go_wp2_with fail
    obtain⟨wo,rfl⟩:∃wo:World,wo=wr:=⟨_,rfl⟩
    go_loopw [8] (fun vm wi =>∃(mm:Nat) (A9:Option Addr) (c9:Nat) (af:List Col),vm=.int .i64 mm∧af.length+mm=2+r4∧Blk wi T 77 #[.string nx,.slice A9 af.length c9,.int .i64 r2,.int .i64 z3]∧ax wi (T+1) 79 Col.cells 7 (.slice A9 af.length c9) af∧(∀x∈af,Gb x)∧aO wi g b∧wo.grownBy wi (some g)) (fun vm _=>(intOf vm).toNat)
    case atStart=>exact⟨2+r4,none,0,[],by go_num,by simp,HB4.out,ax.nil,fun x h=>absurd h spA,HT4.out,hG4⟩
    case round =>
     clear HB4 HT4 hG4 hz4 Vl hUz
     obtain⟨mm,A9,c9,af,rfl,hmm,hB5,hO5,hN5,hK5,hG5⟩:=hrel
     have hI5:=iD.out.next hG5 hK5
     have HI5:=qh hI5
     have HB5:=qh hB5
     have HO5:=qh hO5
     have HN5:=qh hN5
     have HK5:=qh hK5
     have hrow:=hO5.row
     have Vk:=hB5.lt
     have iN:=hI5.cat
     obtain⟨p0,p1,p2,p3⟩:=Tab.blk hB5
     have hz5:=hG5.size
     by_cases hm0:0<mm
     ·have WK:(0:Int)<(mm:Int):=by omega
      have Xc:af.length≤4:=by omega
      clear hI5 hO5 hN5 hK5
      go_upto_region 9 with (fail)
      clear p0 p1 p2 p3
      have uV:=qh iN
      refine aY (S:=(fun w'=>Blk w' (w.heap.size+1) 39 #[.slice A ts.length c,.slice none 0 0,.slice none 0 0,.slice none 0 0,.slice none 0 0,.slice none 0 0,.slice none 0 0,.slice none 0 0]∧Blk w' T 77 #[.string nx,.slice A9 af.length c9,.int .i64 r2,.int .i64 z3])) [12] krA ⟨iN.drew,hB5.drew⟩ (fun hHeld =>?_)
      clear iN hB5
      refine tkT 0 hHeld ?_ (hy:=by intro w' hSw;obtain⟨sw1,sw2⟩:=hSw;obtain⟨sa0,sa1,sa2,sa3,sa4,sa5,sa6,sa7⟩:=Cat.blk sw1;obtain⟨sb0,sb1,sb2,sb3⟩:=Tab.blk sw2;clear sw1 sw2;go_simp;first|done|with_reducible rfl)
      refine tkT 1 hHeld ?_ (hy:=by intro w' hSw;obtain⟨sw1,sw2⟩:=hSw;obtain⟨sa0,sa1,sa2,sa3,sa4,sa5,sa6,sa7⟩:=Cat.blk sw1;obtain⟨sb0,sb1,sb2,sb3⟩:=Tab.blk sw2;clear sw1 sw2;go_simp;first|done|with_reducible rfl)
      refine tkT 2 hHeld ?_ (hy:=by intro w' hSw;obtain⟨sw1,sw2⟩:=hSw;obtain⟨sa0,sa1,sa2,sa3,sa4,sa5,sa6,sa7⟩:=Cat.blk sw1;obtain⟨sb0,sb1,sb2,sb3⟩:=Tab.blk sw2;clear sw1 sw2;go_simp;first|done|with_reducible rfl)
      refine tkT 3 hHeld ?_ (hy:=by intro w' hSw;obtain⟨sw1,sw2⟩:=hSw;obtain⟨sa0,sa1,sa2,sa3,sa4,sa5,sa6,sa7⟩:=Cat.blk sw1;obtain⟨sb0,sb1,sb2,sb3⟩:=Tab.blk sw2;clear sw1 sw2;go_simp;first|done|with_reducible rfl)
      refine tkT 4 hHeld ?_ (hy:=by intro w' hSw;obtain⟨sw1,sw2⟩:=hSw;obtain⟨sa0,sa1,sa2,sa3,sa4,sa5,sa6,sa7⟩:=Cat.blk sw1;obtain⟨sb0,sb1,sb2,sb3⟩:=Tab.blk sw2;clear sw1 sw2;go_simp;first|done|with_reducible rfl)
      refine tkT 5 hHeld ?_ (hy:=by intro w' hSw;obtain⟨sw1,sw2⟩:=hSw;obtain⟨sa0,sa1,sa2,sa3,sa4,sa5,sa6,sa7⟩:=Cat.blk sw1;obtain⟨sb0,sb1,sb2,sb3⟩:=Tab.blk sw2;clear sw1 sw2;go_simp;first|done|with_reducible rfl)
      refine tkT 6 hHeld ?_ (hy:=by intro w' hSw;obtain⟨sw1,sw2⟩:=hSw;obtain⟨sa0,sa1,sa2,sa3,sa4,sa5,sa6,sa7⟩:=Cat.blk sw1;obtain⟨sb0,sb1,sb2,sb3⟩:=Tab.blk sw2;clear sw1 sw2;go_simp;first|done|with_reducible rfl)
      refine tkT 7 hHeld ?_ (hy:=by intro w' hSw;obtain⟨sw1,sw2⟩:=hSw;obtain⟨sa0,sa1,sa2,sa3,sa4,sa5,sa6,sa7⟩:=Cat.blk sw1;obtain⟨sb0,sb1,sb2,sb3⟩:=Tab.blk sw2;clear sw1 sw2;go_simp;first|done|with_reducible rfl)
      refine r1T 8 (fun K hK =>?_)
      go_simp
      (with_reducible refine(BR g b (w.heap.size+2) A c ts.length ts _ af.length _ HK5.out.Tv (HI5.out.tabs.next ak) rfl HI5.out.up omA omA (fun t ht=>by obtain⟨k,hk,rfl⟩:=List.getElem_of_mem ht;exact(HI5.out.ok.af hk).1) HI5.out.bZ omA ⟨nx,.slice A9 af.length c9,r2,z3,rfl,rfl⟩).mono ?_)
      rintro e w5 ⟨⟨xn,xt,xs,xr,xA,xc,xo,xj,xd⟩,rfl,hxn,hk6,hg6⟩
      have UK:some T≠some g:=fun e=>by injection e with e;omega
      have UL:some (w.heap.size+1)≠some g:=fun e=>by injection e with e;omega
      have HK6:=qh hk6
      have hG6:wo.grownBy w5 (some g):=az (nM hG5) hg6
      have HO6:=qh (HO5.out.drew.grown hg6 omA)
      have hz6:=hG6.size
      have HXN:=qh hxn
      have Xm:T<w5.heap.size:=by have:=hg6.size;simp at this;omega
      clear hk6 hxn
      go_wp2_with fail
      refine hK.out _ _ _ ⟨(hHeld.1.grown hg6 UL),(hHeld.2.grown hg6 UK)⟩ (fun hHeld =>?_)
      clear hK K
      clear hg6
      refine r1T 9 (fun K hK =>?_)
      dsimp only[Col.cells]
      go_simp
      refine hK.out _ _ _ ⟨(hHeld.1.alloc _),(hHeld.2.alloc _)⟩ (fun hHeld =>?_)
      clear hK K
      refine r1T 10 (fun K hK =>?_)
      (refine aC _ rfl (.tmp 33) (.tmp 41) 75 rfl 79 ic _ Col.cells 7 96 Tryz.underlying75 hic sV sU sS rfl omA dS BD (T+1) (.slice A9 af.length c9) af rfl (HO6.out.alloc _) _ _ _ [⟨xn,xt,xs,xr,xA,xc,xo,xj,xd⟩] rfl rfl (Blk.one (enc:=Col.cells) (x:=⟨xn,xt,xs,xr,xA,xc,xo,xj,xd⟩) (Blk.new' rfl) spA) smA mxA smA ?_;intro v' w6 hown6 hg7 NT)
      obtain⟨A10,c10,rfl,Fe,zw⟩:=hown6.form
      have Be:∀k,k<T+1→some k≠(Value.slice A9 af.length c9).ownBlock:=fun k hk e=>by have:=hrow _ e.symm;omega
      have HK7:=qh ((HK6.out.alloc _).uM hg7 (Be g omA) (Be b omA))
      have hG7:wo.grownBy w6 (some g):=gu (bW hG6 _) hg7 (fun q e=>by have:=hrow q e;omega)
      refine hK.out _ _ _ ⟨(hHeld.1.grown hg7 (Be _ omA)),(hHeld.2.grown hg7 (Be _ omA))⟩ (fun hHeld =>?_)
      clear hK K
      have HB7:=qh hHeld.2
      have HO7:=qh hown6
      have Xl:=hHeld.2.lt
      obtain⟨_,s1,_,_⟩:=Tab.blk hHeld.2
      have sf:=hHeld.2.frozen 1
      clear hown6 hg7 NT Fe zw
      refine tkT 11 hHeld ?_ (hy:=by intro w' hSw;obtain⟨sw1,sw2⟩:=hSw;obtain⟨sa0,sa1,sa2,sa3,sa4,sa5,sa6,sa7⟩:=Cat.blk sw1;obtain⟨sb0,sb1,sb2,sb3⟩:=Tab.blk sw2;clear sw1 sw2;go_simp;first|done|with_reducible rfl)
      refine rzT 12 (fun K hK =>?_)
      clear hHeld
      go_simp
      refine hK.out _ _ _ ?_
      clear hK K
      refine bE krA ?_ _
      clear s1 sf
      go_wp2_with fail
      go_roundw
      case rel =>
       refine⟨mm-1,A10,c10,af ++ [⟨xn,xt,xs,xr,xA,xc,xo,xj,xd⟩],by go_num,by simp;omega,?_,HO7.out.far (fun k hk e =>?_) _,fun y hy =>?_,HK7.out.far smA smA _,aj hG7 (.inr smA) _⟩
       ·have:=HB7.out.bM 1 (.slice A10 (af ++ [(⟨xn,xt,xs,xr,xA,xc,xo,xj,xd⟩:Col)]).length c10)
        simpa using this
       ·have h1:=HO7.out.row k hk
        have e:k=T:=e
        omega
       ·rcases List.mem_append.1 hy with h|h
        ·exact HN5.out y h
        ·rw[List.mem_singleton.1 h]
         exact HXN.out
      case measure=>exact meA
     ·obtain rfl:mm=0:=by omega
      have hpos:0<af.length:=by omega
      have Vb:af.length≤8:=by omega
      obtain⟨q,cap,hq,hTq⟩:=hO5.oK hpos
      injection hq with hq1 hq2 hq3
      subst hq1 hq3
      clear hq2 hI5 hO5 hN5 hK5
      obtain⟨a0,a1,a2,a3,a4,a5,a6,a7⟩:=Cat.blk iN
      clear iN
      go_wp2_with fail
      (with_reducible refine(J7 g b (w.heap.size+2) (T+1) q af.length c9 A c ts.length ts nx af r2 z3 _ HK5.out HI5.out.tabs rfl HI5.out.up omA (iD.out.bd.ne omA) omA (fun t ht=>by obtain⟨k,hk,rfl⟩:=List.getElem_of_mem ht;exact(HI5.out.ok.af hk).1) HI5.out.bZ HO5.out rfl Vb HN5.out omA omA).mono ?_)
      rintro e w7 ⟨jC,er7,rfl,hO7,hl7,hf7,hk7,Bi⟩
      have hz7:=Bi.size
      have Tj:T≠q:=by omega
      have hB7:Blk w7 T 77 #[.string nx,.slice (some ⟨q,0,none⟩) af.length c9,.int .i64 r2,.int .i64 z3]:=(Bi.block T Vk omA Tj).trans hB5
      have hG7:wo.grownBy w7 (some g):=Bi.up hG5 omA
      have HB7:=qh hB7
      have HO7:=qh hO7
      have HF7:=qh hf7
      have HK7:=qh hk7
      have HL7:=qh hl7
      obtain⟨p0,p1,p2,p3⟩:=Tab.blk hB7
      have f0:=hB7.frozen 0
      have f1:=hB7.frozen 1
      have f2:=hB7.frozen 2
      have f3:=hB7.frozen 3
      clear hB7 hO7 hf7 hk7 hl7 Bi hB5 a0 a1 a2 a3 a4 a5 a6 a7 HI5 HO5 HN5 HK5 HB5
      go_upto_region 11 with (fail)
      refine ai (P:=fun u=>Code.wp _ _ _ _ u) (R:=fun u=>Blk u T 77 #[.string nx,.slice (some ⟨q,0,none⟩) af.length c9,.int .i64 er7,.int .i64 z3]∧ax u (T+1) 79 Col.cells 7 (.slice (some ⟨q,0,none⟩) af.length c9) jC∧(∀x∈jC,eP 100 (T+1) u x)∧aO u g b∧wo.grownBy u (some g)) ⟨?_,?_,?_,?_,?_⟩ ?_
      ·with_reducible refine Blk.eq ((((HB7.out.bM 0 _).bM 1 _).bM 2 _).bM 3 _) ?_
       simp
      ·have j6:∀k,(Value.slice (some ⟨q,0,none⟩) af.length c9).ownBlock=some k→k≠T:=fun k hk=>by have:=HO7.out.row k hk;omega
       exact(((HO7.out.far j6 _).far j6 _).far j6 _).far j6 _
      ·intro x hx
       have f:=HF7.out x hx
       have f':eP 100 (T+1) w7 x:=⟨f.name,f.ns,f.refs,f.own,f.cap,f.list,fun a ha=>by have:=f.up a ha;omega,f.lt⟩
       exact(((f'.Oa (Nat.lt_succ_self T) _).Oa (Nat.lt_succ_self T) _).Oa (Nat.lt_succ_self T) _).Oa (Nat.lt_succ_self T) _
      ·have n1:g≠T:=by omega
       have n2:b≠T:=by omega
       exact(((HK7.out.far n1 n2 _).far n1 n2 _).far n1 n2 _).far n1 n2 _
      ·exact aj (aj (aj (aj hG7 (.inr hTz) _) (.inr hTz) _) (.inr hTz) _) (.inr hTz) _
      clear HB7 HO7 HF7 HK7 hG7 p0 p1 p2 p3 f0 f1 f2 f3 Tj
      rintro V ⟨hB8,hO8,hF8,hK8,hG8⟩
      have hI8:=iD.out.next hG8 hK8
      have HI8:=qh hI8
      have HB8:=qh hB8
      have HO8:=qh hO8
      have HF8:=qh hF8
      have Vj:=hB8.lt
      have UD:=hO8.lt q rfl
      have WY:=hI8.cat.lt
      obtain⟨a0,a1,a2,a3,a4,a5,a6,a7⟩:=Cat.blk hI8.cat
      clear hB8 hO8 hF8 hK8 hI8
      go_upto_region 12 with (fail)
      obtain⟨D,hD⟩:∃D,V.heap.size=D:=⟨_,rfl⟩
      rw[hD]
      refine ai (P:=fun u=>Code.wp _ _ _ _ u) (R:=fun u=>Blk u D 39 #[.slice A ts.length c,.slice none 0 0,.slice none 0 0,.slice none 0 0,.slice none 0 0,.slice none 0 0,.slice none 0 0,.slice none 0 0]∧Below V.heap.size V u) ⟨?_,?_⟩ ?_
      ·exact Blk.new' hD
      ·exact ak
      clear a0 a1 a2 a3 a4 a5 a6 a7
      rintro X ⟨hBD,hbX⟩
      rw[←hD]at hBD ⊢
      have hzX:=hBD.lt
      have hGX:wo.grownBy X (some g):=vP hG8 hbX
      have HIX:=qh (HI8.out.next (aN hbX _) (HI8.out.tape.below hbX))
      have HBX:=qh (HB8.out.below hbX Vj)
      have HOX:=qh (HO8.out.below hbX nlr)
      have HFX:Hid (∀x∈jC,eP 100 (T+1) X x):=qh (fun x hx=>(HF8.out x hx).keep (aN hbX none) (fun i e=>by cases e))
      have HBD:=qh hBD
      have hcX:=HIX.out.cat
      have hbT:=HBX.out
      have Ww:ts.length≤3:=by omega
      have Sr:∀x∈jC,∀a,x.A=some a→a.block<V.heap.size:=fun x hx=>(HF8.out x hx).lt
      have HLV:=qh Sr
      clear HB8 HO8 HF8 HI8 hG8 hbX hD Sr
      have hcells:(Tab.cells ⟨nx,some ⟨q,0,none⟩,c9,jC,er7,z3⟩).toArray=#[.string nx,.slice (some ⟨q,0,none⟩) af.length c9,.int .i64 er7,.int .i64 z3]:=by simp[Tab.cells,HL7.out]
      have HCE:=qh hcells
      have hzc:w.heap.size+1<X.heap.size:=HIX.out.cat.lt
      have hzT:T<X.heap.size:=HBX.out.lt
      clear hcells
      go_cut [] (fun wc =>∃(A10:Option Addr) (c10:Nat),ts.length+1≤c10∧Blk wc V.heap.size 39 #[.slice A10 (ts.length+1) c10,.slice none 0 0,.slice none 0 0,.slice none 0 0,.slice none 0 0,.slice none 0 0,.slice none 0 0,.slice none 0 0]∧ah wc wc.heap.size Tab.cells 4 A10 (ts ++ [⟨nx,some ⟨q,0,none⟩,c9,jC,er7,z3⟩])∧(∀a,A10=some a→X.heap.size≤a.block∧a.block<wc.heap.size)∧X.grownBy wc (some V.heap.size))
      case first =>
       refine aY (S:=(fun w'=>Blk w' (w.heap.size+1) 39 #[.slice A ts.length c,.slice none 0 0,.slice none 0 0,.slice none 0 0,.slice none 0 0,.slice none 0 0,.slice none 0 0,.slice none 0 0]∧Blk w' T 77 #[.string nx,.slice (some ⟨q,0,none⟩) af.length c9,.int .i64 er7,.int .i64 z3])) [8] krA ⟨hcX.drew,hbT.drew⟩ (fun hHeld =>?_)
       clear hcX hbT hBD
       refine tkT 1 hHeld ?_ (hy:=by intro w' hSw;obtain⟨sw1,sw2⟩:=hSw;obtain⟨sa0,sa1,sa2,sa3,sa4,sa5,sa6,sa7⟩:=Cat.blk sw1;obtain⟨sb0,sb1,sb2,sb3⟩:=Tab.blk sw2;clear sw1 sw2;go_simp;first|done|with_reducible rfl)
       refine tkT 2 hHeld ?_ (hy:=by intro w' hSw;obtain⟨sw1,sw2⟩:=hSw;obtain⟨sa0,sa1,sa2,sa3,sa4,sa5,sa6,sa7⟩:=Cat.blk sw1;obtain⟨sb0,sb1,sb2,sb3⟩:=Tab.blk sw2;clear sw1 sw2;go_simp;first|done|with_reducible rfl)
       refine tkT 4 hHeld ?_ (hy:=by intro w' hSw;obtain⟨sw1,sw2⟩:=hSw;obtain⟨sa0,sa1,sa2,sa3,sa4,sa5,sa6,sa7⟩:=Cat.blk sw1;obtain⟨sb0,sb1,sb2,sb3⟩:=Tab.blk sw2;clear sw1 sw2;go_simp;first|done|with_reducible rfl)
       refine r2T 0 5 (fun K hK =>?_) (fun K hK =>?_)
       ·go_simp
        refine hK.out _ _ _ ⟨(hHeld.1.alloc _),(hHeld.2.alloc _)⟩ (fun hHeld =>?_)
        clear hK K
        refine r2T 3 5 (fun K hK =>?_) (fun K hK =>?_)
        ·(refine aC _ rfl (.tmp 49) (.tmp 51) 30 rfl 77 it _ Tab.cells 4 56 Tryz.underlying30 hit CP CO CL rfl omA gy ny X.heap.size (.slice (some ⟨X.heap.size,0,none⟩) 0 0) [] rfl (ax.empty nbA leA) _ _ _ ts rfl rfl (HIX.out.tabs.1.next ak) smA mxA leA ?_;intro v1 w9 oV hg9 Td;have hb9:Below X.heap.size X w9:=Below.grown ak hg9 leA (bR leA);rw[List.nil_append]at oV;have hz9:=hb9.size)
         refine hK.out _ _ _ ⟨(HIX.out.cat.below hb9 hzc),(HBX.out.below hb9 hzT)⟩ (fun hHeld =>?_)
         clear hK K
         refine r1T 5 (fun K hK =>?_)
         go_simp
         refine hK.out _ _ _ ⟨(hHeld.1.alloc _),(hHeld.2.alloc _)⟩ (fun hHeld =>?_)
         clear hK K
         refine r1T 6 (fun K hK =>?_)
         (refine aC _ rfl (.tmp 52) (.tmp 54) 30 rfl 77 it _ Tab.cells 4 56 Tryz.underlying30 hit CP CO CL rfl omA gy ny X.heap.size v1 ts rfl (oV.alloc _) _ _ _ [⟨nx,some ⟨q,0,none⟩,c9,jC,er7,z3⟩] rfl rfl (Blk.one (enc:=Tab.cells) (x:=⟨nx,some ⟨q,0,none⟩,c9,jC,er7,z3⟩) (by rw[HCE.out];exact(Blk.new' rfl)) spA) smA mxA leA ?_;intro v2 w10 xX Bo O3;have Br:Below X.heap.size X w10:=Below.grown ak Bo leA oV.row;have P8:=Br.size;obtain⟨A10,c10,rfl,Fe,Ie,zw⟩:=xX.slice gy)
         exact EG
        ·go_simp
         refine hK.out _ _ _ ⟨(hHeld.1.alloc _),(hHeld.2.alloc _)⟩ (fun hHeld =>?_)
         clear hK K
         refine r1T 3 (fun K hK =>?_)
         (refine aC _ rfl (.tmp 49) (.tmp 51) 30 rfl 77 it _ Tab.cells 4 56 Tryz.underlying30 hit CP CO CL rfl omA gy ny X.heap.size (.slice (some ⟨X.heap.size,0,none⟩) 0 0) [] rfl (ax.empty nbA leA) _ _ _ ts rfl rfl (HIX.out.tabs.1.next ak) smA mxA leA ?_;intro v1 w9 oV hg9 Td;have hb9:Below X.heap.size X w9:=Below.grown ak hg9 leA (bR leA);rw[List.nil_append]at oV;have hz9:=hb9.size)
         have hbt:=Blk.grown (g:=X.heap.size+1) (t:= 77) (cs:= #[.string nx,.slice (some ⟨q,0,none⟩) af.length c9,.int .i64 er7,.int .i64 z3]) (by first|exact Blk.new' sdA|exact(Blk.new' sdA).drew) hg9 (gL omA)
         refine hK.out _ _ _ ⟨(HIX.out.cat.below hb9 hzc),(HBX.out.below hb9 hzT)⟩ (fun hHeld =>?_)
         clear hK K
         refine r1T 6 (fun K hK =>?_)
         (refine aC _ rfl (.tmp 52) (.tmp 54) 30 rfl 77 it _ Tab.cells 4 56 Tryz.underlying30 hit CP CO CL rfl omA gy ny X.heap.size v1 ts rfl oV _ _ _ [⟨nx,some ⟨q,0,none⟩,c9,jC,er7,z3⟩] rfl rfl (Blk.one (enc:=Tab.cells) (x:=⟨nx,some ⟨q,0,none⟩,c9,jC,er7,z3⟩) (by rw[HCE.out];exact hbt) hbt.lt) smA mxA leA ?_;intro v2 w10 xX Bo O3;have Br:Below X.heap.size X w10:=Below.grown ak Bo leA oV.row;have P8:=Br.size;obtain⟨A10,c10,rfl,Fe,Ie,zw⟩:=xX.slice gy)
         exact EG
       ·go_simp
        refine hK.out _ _ _ ⟨(hHeld.1.alloc _),(hHeld.2.alloc _)⟩ (fun hHeld =>?_)
        clear hK K
        refine r1T 0 (fun K hK =>?_)
        go_simp
        refine hK.out _ _ _ ⟨(hHeld.1.alloc _),(hHeld.2.alloc _)⟩ (fun hHeld =>?_)
        clear hK K
        refine r1T 3 (fun K hK =>?_)
        (refine aC _ rfl (.tmp 49) (.tmp 51) 30 rfl 77 it _ Tab.cells 4 56 Tryz.underlying30 hit CP CO CL rfl omA gy ny X.heap.size (.slice (some ⟨(X.heap.size+1),0,none⟩) 0 0) [] rfl (ax.empty nbA leA) _ _ _ ts rfl rfl (HIX.out.tabs.1.next ak) smA mxA leA ?_;intro v1 w9 oV hg9 Td;have hb9:Below X.heap.size X w9:=Below.grown ak hg9 leA (bR leA);rw[List.nil_append]at oV;have hz9:=hb9.size)
        have hbt:=Blk.grown (g:=X.heap.size) (t:= 77) (cs:= #[.string nx,.slice (some ⟨q,0,none⟩) af.length c9,.int .i64 er7,.int .i64 z3]) (by first|exact(Blk.new' sdA).alloc _|exact((Blk.new' sdA).alloc _).drew|exact((Blk.new' sdA).drew).alloc _) hg9 (gL omA)
        refine hK.out _ _ _ ⟨(HIX.out.cat.below hb9 hzc),(HBX.out.below hb9 hzT)⟩ (fun hHeld =>?_)
        clear hK K
        refine r1T 6 (fun K hK =>?_)
        (refine aC _ rfl (.tmp 52) (.tmp 54) 30 rfl 77 it _ Tab.cells 4 56 Tryz.underlying30 hit CP CO CL rfl omA gy ny X.heap.size v1 ts rfl oV _ _ _ [⟨nx,some ⟨q,0,none⟩,c9,jC,er7,z3⟩] rfl rfl (Blk.one (enc:=Tab.cells) (x:=⟨nx,some ⟨q,0,none⟩,c9,jC,er7,z3⟩) (by rw[HCE.out];exact hbt) hbt.lt) smA mxA leA ?_;intro v2 w10 xX Bo O3;have Br:Below X.heap.size X w10:=Below.grown ak Bo leA oV.row;have P8:=Br.size;obtain⟨A10,c10,rfl,Fe,Ie,zw⟩:=xX.slice gy)
        exact EG
      case rest =>
       obtain⟨A10,c10,Fe,L8,Ie,zw,hgc⟩:=hcut
       clear hcX hbT hBD
       have Wh:V.heap.size<X.heap.size:=hzX
       have Um:wo.heap.size≤V.heap.size:=by omega
       have WW:=hgc.size
       have htc:=HIX.out.tabs.jh hgc (iD.out.bd.ne Um)
       have hkc:aO wc g b:=HIX.out.tape.grown hgc omA omA
       have hGc:wo.grownBy wc (some g):=gu hGX hgc inB
       have HIC:=qh (iD.out.next hGc hkc)
       have SL:iJ wc wc.heap.size (some ⟨q,0,none⟩) jC:=by
        obtain⟨A0,c0,he0,_,hsl0,_⟩:=HOX.out.slice dS
        injection he0 with he1 _ _
        subst he1
        exact⟨hsl0.grown hgc (fun a ha e=>by injection ha with ha;subst ha;injection e with e;have e:q=V.heap.size:=e;omega),fun x hx=>(HFX.out x hx).list.grown hgc (fun a ha e=>by have:=HLV.out x hx a ha;injection e with e;omega)⟩
       have hti:=htc.app Ie SL
       have hup:gN (w.heap.size+2) A10 (ts ++ [⟨nx,some ⟨q,0,none⟩,c9,jC,er7,z3⟩]):=iD.out.up.app (fun a ha=>by have:=(zw a ha).1;omega) (fun a ha=>by injection ha with ha;subst ha;show w.heap.size+2≤q;omega) (fun x hx a ha=>by have:=(HFX.out x hx).up a ha;omega)
       have hbd:lG wc.heap.size A10 (ts ++ [⟨nx,some ⟨q,0,none⟩,c9,jC,er7,z3⟩]):=(HIC.out.bd).app (fun a ha=>(zw a ha).2) (fun a ha=>by injection ha with ha;subst ha;show q<wc.heap.size;omega) (fun x hx a ha=>by have:=HLV.out x hx a ha;omega)
       have hsn:aI (ts ++ [⟨nx,some ⟨q,0,none⟩,c9,jC,er7,z3⟩]):=iD.out.bZ.app omA ⟨show nx.size≤1000000 by omega,by have:=HL7.out;show jC.length≤1000000;omega,by(obtain⟨_,_,he0,hcap,_,_⟩:=HOX.out.slice dS;injection he0 with _ _ he;rw[←he]at hcap;exact hcap),fun x hx=>by have f:=HFX.out x hx;exact⟨f.name,f.ns,f.refs,by have:=f.own;omega⟩⟩
       obtain⟨ts',Qg⟩:∃l,ts ++ [⟨nx,some ⟨q,0,none⟩,c9,jC,er7,z3⟩]=l:=⟨_,rfl⟩
       have Qh:ts'.length=ts.length+1:=by rw[←Qg];simp
       rw[Qg]at hti hup hbd hsn
       have HTI:=qh hti
       have HUP:=qh hup
       have Rc:=qh hbd
       have HSN:=qh hsn
       have HTL:=qh Qh
       rw[←Qh]at L8 Fe
       have Re:=qh L8
       obtain⟨a0,a1,a2,a3,a4,a5,a6,a7⟩:=Cat.blk L8
       have Uq:=L8.lt
       have Uy:ts'.length≤i+1:=by omega
       clear hti hup hbd hsn Qh L8 Ie zw hgc htc hkc SL hGc Qg HBX HOX HFX HLV HL7 HCE HIX hGX HBD
       cases hok:pb (aV ts')
       ·have HOK:=qh hok
        clear hok
        go_wp2_with fail
        (with_reducible refine(vG A10 c10 ts'.length ts' _ HTI.out rfl HSN.out HOK.out).mono ?_)
        rintro e w11 ⟨rfl,rz⟩
        have D8:=qh (HIC.out.next (aN rz _) (HIC.out.tape.below rz))
        clear rz a0 a1 a2 a3 a4 a5 a6 a7
        go_upto_if 58 with (fail)
        go_cut [] (fun wd =>∃(A:Option Addr) (c:Nat) (ts:List Tab),ts.length≤i+1∧nT w g b A c ts wd)
        case first =>
         go_wp2_with fail
         go_meet
         exact⟨A,c,ts,by omega,D8.out⟩
        case rest =>
         (
         clear HIC HTI HUP Rc HSN HTL Re D8 HOK
         obtain⟨A,c,ts,hle,hinv⟩:=hcut
         have HID:=qh hinv
         obtain⟨a0,_⟩:=Cat.blk hinv.cat
         have hkd:=hinv.tape
         clear hinv
         by_cases ht0:ts.length=0
         ·have ht0':decide (0<ts.length)=false:=by rw[ht0];rfl
          clear hkd
          go_wp2_with fail
          go_roundw
          case rel=>exact⟨i+1,A,c,ts,by omega,by go_num,hle,HID.out⟩
          case measure=>exact meA
         ·have ht0':decide (0<ts.length)=true:=by simp;omega
          have HKD:=qh hkd
          clear hkd ht0
          go_wp2_with fail
          (with_reducible refine(aA g b 4 _ HKD.out omA omA).mono ?_)
          rintro e w12 ⟨r6,rfl,hr6,zo,Bn⟩
          have HIE:=qh (HID.out.next Bn zo)
          clear hr6 zo Bn a0 HID HKD
          by_cases hr0:r6=0
          ·subst hr0
           go_wp2_with fail
           go_meet
           exact⟨A,c,ts,by omega,HIE.out⟩
          ·have ou:((r6:Int) == 0)=false:=by simp;omega
           clear hr0
           go_wp2_with fail
           go_roundw
           case rel=>exact⟨i+1,A,c,ts,by omega,by go_num,hle,HIE.out⟩
           case measure=>exact meA)
       ·have HOK:=qh hok
        clear hok
        go_wp2_with fail
        (with_reducible refine(vG A10 c10 ts'.length ts' _ HTI.out rfl HSN.out HOK.out).mono ?_)
        rintro e w11 ⟨rfl,rz⟩
        have D8:=qh (HIC.out.next (aN rz _) (HIC.out.tape.below rz))
        have O4:=Re.out.below rz Uq
        have OW:=HTI.out.next rz
        have Ud:=qh (Rc.out.mono rz.size)
        have Wj:=rz.size
        clear rz a0 a1 a2 a3 a4 a5 a6 a7
        obtain⟨a0,a1,a2,a3,a4,a5,a6,a7⟩:=Cat.blk O4
        have TF:=qh OW
        have iN:=D8.out.cat
        obtain⟨b0,b1,b2,b3,b4,b5,b6,b7⟩:=Cat.blk iN
        have f0:=iN.frozen 0
        have f1:=iN.frozen 1
        have f2:=iN.frozen 2
        have f3:=iN.frozen 3
        have f4:=iN.frozen 4
        have f5:=iN.frozen 5
        have f6:=iN.frozen 6
        have f7:=iN.frozen 7
        have uV:=qh iN
        clear OW O4 iN
        go_upto_if 58 with (fail)
        go_cut [] (fun wd =>∃(A:Option Addr) (c:Nat) (ts:List Tab),ts.length≤i+1∧nT w g b A c ts wd)
        case first =>
         go_wp2_with fail
         go_meet
         refine⟨A10,c10,ts',Uy,?_⟩
         have hg:=aj (aj (aj (aj (aj (aj (aj (aj (iy w11 (some (w.heap.size+1))) (p:=⟨w.heap.size+1,0,none⟩) (.inl rfl) (.slice A10 ts'.length c10)) (p:=⟨w.heap.size+1,1,none⟩) (.inl rfl) (.slice none 0 0)) (p:=⟨w.heap.size+1,2,none⟩) (.inl rfl) (.slice none 0 0)) (p:=⟨w.heap.size+1,3,none⟩) (.inl rfl) (.slice none 0 0)) (p:=⟨w.heap.size+1,4,none⟩) (.inl rfl) (.slice none 0 0)) (p:=⟨w.heap.size+1,5,none⟩) (.inl rfl) (.slice none 0 0)) (p:=⟨w.heap.size+1,6,none⟩) (.inl rfl) (.slice none 0 0)) (p:=⟨w.heap.size+1,7,none⟩) (.inl rfl) (.slice none 0 0)
         have hc8:=(((((((uV.out.bM 0 (.slice A10 ts'.length c10)).bM 1 (.slice none 0 0)).bM 2 (.slice none 0 0)).bM 3 (.slice none 0 0)).bM 4 (.slice none 0 0)).bM 5 (.slice none 0 0)).bM 6 (.slice none 0 0)).bM 7 (.slice none 0 0)
         refine⟨hc8.eq spA,D8.out.res.grown hg inA,TF.out.jh hg (HUP.out.ne omA),HUP.out,Ud.out.mono hg.size,iH.1 HOK.out,HSN.out,by omega,D8.out.tape.grown hg omA omA,gu D8.out.grown hg inB,hgl,hbl⟩
        case rest =>
         (
         clear HIC HTI HUP Rc HSN HTL Re D8 HOK
         obtain⟨A,c,ts,hle,hinv⟩:=hcut
         have HID:=qh hinv
         obtain⟨a0,_⟩:=Cat.blk hinv.cat
         have hkd:=hinv.tape
         clear hinv
         by_cases ht0:ts.length=0
         ·have ht0':decide (0<ts.length)=false:=by rw[ht0];rfl
          clear hkd
          go_wp2_with fail
          go_roundw
          case rel=>exact⟨i+1,A,c,ts,by omega,by go_num,hle,HID.out⟩
          case measure=>exact meA
         ·have ht0':decide (0<ts.length)=true:=by simp;omega
          have HKD:=qh hkd
          clear hkd ht0
          go_wp2_with fail
          (with_reducible refine(aA g b 4 _ HKD.out omA omA).mono ?_)
          rintro e w12 ⟨r6,rfl,hr6,zo,Bn⟩
          have HIE:=qh (HID.out.next Bn zo)
          clear hr6 zo Bn a0 HID HKD
          by_cases hr0:r6=0
          ·subst hr0
           go_wp2_with fail
           go_meet
           exact⟨A,c,ts,by omega,HIE.out⟩
          ·have ou:((r6:Int) == 0)=false:=by simp;omega
           clear hr0
           go_wp2_with fail
           go_roundw
           case rel=>exact⟨i+1,A,c,ts,by omega,by go_num,hle,HIE.out⟩
           case measure=>exact meA)
   ·have hlt':decide ((i:Int)<(n:Int))=false:=by simp;omega
    have hlt2:decide (i<n)=false:=by simp;omega
    have hle:ts.length≤n:=by omega
    go_wp2_with fail
    go_meet
    exact⟨A,c,ts,hle,iD.out⟩
 case rest =>
  clear iD
  obtain⟨A,c,ts,hle,hinv⟩:=hcut
  have HI:=qh hinv
  obtain⟨a0,a1,a2,a3,a4,a5,a6,a7⟩:=Cat.blk hinv.cat
  have hcz:=hinv.cat.lt
  have fa:=hinv.cat.frozen 0
  clear hinv
  by_cases ht0:ts.length=0
  ·have ht0':((ts.length:Int) == 0)=true:=by rw[ht0];rfl
   have hn0:¬ (0<ts.length):=by omega
   clear ht0
   obtain⟨C,hC⟩:∃C,w.heap.size+1=C:=⟨_,rfl⟩
   rw[hC]at a0 fa hcz ⊢
   clear a1 a2 a3 a4 a5 a6 a7
   have HCE:=qh hC
   clear hC
   have SG:C<wc.heap.size+1:=by omega
   have hcz2:C<wc.heap.size+1+1:=by omega
   have SF:C<wc.heap.size+2:=by omega
   have Da:C≠wc.heap.size:=by omega
   have SI:C≠wc.heap.size+1:=by omega
   have SH:C≠wc.heap.size+1+1:=by omega
   go_upto_region 18 with (fail)
   refine ai (P:=fun u=>Code.wp _ _ _ _ u) (R:=fun u=>nT w g b (some ⟨wc.heap.size+2,0,none⟩) 1 [qm wc.heap.size (wc.heap.size+1)] u) ?_ ?_
   ·clear a0 fa SG hcz2 SF Da SI SH
    obtain rfl:=HCE.out
    have hI:=HI.out
    have hU:=bW (bW (bW (aj (iy wc (some (w.heap.size+1))) (p:=⟨w.heap.size+1,0,none⟩) (.inl rfl) (.slice (some ⟨wc.heap.size+1+1,0,none⟩) 1 1)) (.cells #[.int .i64 0] 3)) (.cells ([fu,eH wc.heap.size].flatMap Col.cells).toArray 79)) (.cells (Tab.cells (qm wc.heap.size (wc.heap.size+1))).toArray 77)
    have hb0:=(((Blk.new' (w:=wc.setCell ⟨w.heap.size+1,0,none⟩ (.slice (some ⟨wc.heap.size+1+1,0,none⟩) 1 1)) (g:=wc.heap.size) (t:= 3) (cs:= #[.int .i64 0]) spA).alloc (.cells ([fu,eH wc.heap.size].flatMap Col.cells).toArray 79)).alloc (.cells (Tab.cells (qm wc.heap.size (wc.heap.size+1))).toArray 77))
    have hb1:=((Blk.new' (w:=(wc.setCell ⟨w.heap.size+1,0,none⟩ (.slice (some ⟨wc.heap.size+1+1,0,none⟩) 1 1)).alloc (.cells #[.int .i64 0] 3)) (g:=wc.heap.size+1) (t:= 79) (cs:=([fu,eH wc.heap.size].flatMap Col.cells).toArray) spA).alloc (.cells (Tab.cells (qm wc.heap.size (wc.heap.size+1))).toArray 77))
    have hb2:=(Blk.new' (w:=((wc.setCell ⟨w.heap.size+1,0,none⟩ (.slice (some ⟨wc.heap.size+1+1,0,none⟩) 1 1)).alloc (.cells #[.int .i64 0] 3)).alloc (.cells ([fu,eH wc.heap.size].flatMap Col.cells).toArray 79)) (g:=wc.heap.size+2) (t:= 77) (cs:=(Tab.cells (qm wc.heap.size (wc.heap.size+1))).toArray) spA)
    have hc0:=(((hI.cat.bM 0 (.slice (some ⟨wc.heap.size+1+1,0,none⟩) 1 1)).alloc (.cells #[.int .i64 0] 3)).alloc (.cells ([fu,eH wc.heap.size].flatMap Col.cells).toArray 79)).alloc (.cells (Tab.cells (qm wc.heap.size (wc.heap.size+1))).toArray 77)
    refine⟨hc0.eq spA,hI.res.grown hU inA,⟨Blk.one (enc:=Tab.cells) hb2 hb2.lt,fun t ht =>?_⟩,⟨fun a ha =>?_,fun t ht =>?_⟩,⟨fun a ha =>?_,fun t ht =>?_⟩,Og _ _,IX _ _,Nat.le_refl _,hI.tape.grown hU omA omA,gu hI.grown hU inB,hgl,hbl⟩
    ·rw[List.mem_singleton.1 ht]
     refine⟨Blk.list dS (l:= [fu,eH wc.heap.size]) hb1 hb1.lt,fun x hx =>?_⟩
     have hx:x=fu∨x=eH wc.heap.size:=by simpa[qm]using hx
     rcases hx with rfl|rfl
     ·exact ah.nil
     ·exact Blk.one (enc:=intCells) (x:=(0:Int)) hb0 hb0.lt
    ·injection ha with ha
     subst ha
     show w.heap.size+2≤wc.heap.size+2
     omega
    ·rw[List.mem_singleton.1 ht]
     refine⟨fun a ha =>?_,fun x hx a ha =>?_⟩
     ·injection ha with ha
      subst ha
      show w.heap.size+2≤wc.heap.size+1
      omega
     ·have hx:x=fu∨x=eH wc.heap.size:=by simpa[qm]using hx
      rcases hx with rfl|rfl
      ·cases ha
      ·injection ha with ha
       subst ha
       show w.heap.size+2≤wc.heap.size
       omega
    ·injection ha with ha
     subst ha
     exact hb2.lt
    ·rw[List.mem_singleton.1 ht]
     refine⟨fun a ha =>?_,fun x hx a ha =>?_⟩
     ·injection ha with ha
      subst ha
      exact hb1.lt
     ·have hx:x=fu∨x=eH wc.heap.size:=by simpa[qm]using hx
      rcases hx with rfl|rfl
      ·cases ha
      ·injection ha with ha
       subst ha
       exact hb0.lt
   ·rintro U hU
    clear a0 fa SG hcz2 SF Da SI SH HI hn0 hle
    obtain rfl:=HCE.out
    obtain⟨td,htd⟩:∃td,qm wc.heap.size (wc.heap.size+1)=td:=⟨_,rfl⟩
    rw[htd]at hU
    have HI:=qh hU
    have hn0:0<[td].length:=by simp
    have hle:[td].length≤n:=by simpa using hn1
    clear hU htd
    have hinv:=HI.out
    obtain⟨a0,a1,a2,a3,a4,a5,a6,a7⟩:=Cat.blk hinv.cat
    obtain⟨b0,b1,b2,b3,b4,b5,b6,b7⟩:=Cat.blk hinv.res
    have f0:=hinv.res.frozen 0
    have f1:=hinv.res.frozen 1
    have f2:=hinv.res.frozen 2
    have f3:=hinv.res.frozen 3
    have f4:=hinv.res.frozen 4
    have f5:=hinv.res.frozen 5
    have f6:=hinv.res.frozen 6
    have f7:=hinv.res.frozen 7
    have hrz:=hinv.res.lt
    clear hinv
    go_wp2_with fail
    have hg:=aj (aj (aj (aj (aj (aj (aj (aj (iy U (some w.heap.size)) (p:=⟨w.heap.size,0,none⟩) (.inl rfl) (.slice (some ⟨wc.heap.size+2,0,none⟩) [td].length 1)) (p:=⟨w.heap.size,1,none⟩) (.inl rfl) (.slice none 0 0)) (p:=⟨w.heap.size,2,none⟩) (.inl rfl) (.slice none 0 0)) (p:=⟨w.heap.size,3,none⟩) (.inl rfl) (.slice none 0 0)) (p:=⟨w.heap.size,4,none⟩) (.inl rfl) (.slice none 0 0)) (p:=⟨w.heap.size,5,none⟩) (.inl rfl) (.slice none 0 0)) (p:=⟨w.heap.size,6,none⟩) (.inl rfl) (.slice none 0 0)) (p:=⟨w.heap.size,7,none⟩) (.inl rfl) (.slice none 0 0)
    have HG:=qh hg
    clear hg
    refine bodyPost_ret (v:= .agg #[.slice (some ⟨wc.heap.size+2,0,none⟩) [td].length 1,.slice none 0 0,.slice none 0 0,.slice none 0 0,.slice none 0 0,.slice none 0 0,.slice none 0 0,.slice none 0 0]) cJ rfl ⟨(some ⟨wc.heap.size+2,0,none⟩),1,[td],rfl,HI.out.tabs.jh HG.out (HI.out.up.ne omA),⟨fun a ha=>by have:=HI.out.up.1 a ha;omega,fun t ht=>⟨fun a ha=>by have:=(HI.out.up.2 t ht).1 a ha;omega,fun x hx a ha=>by have:=(HI.out.up.2 t ht).2 x hx a ha;omega⟩⟩,HI.out.bd.mono HG.out.size,HI.out.bZ,HI.out.ok,hn0,hle,HI.out.tape.grown HG.out omA omA,gu HI.out.grown HG.out inB⟩
  ·have ht0':((ts.length:Int) == 0)=false:=by rw[beq_eq_false_iff_ne];omega
   have hn0:0<ts.length:=by omega
   clear ht0 fa
   go_upto_region 18 with (fail)
   clear a0 a1 a2 a3 a4 a5 a6 a7
   have hinv:=HI.out
   obtain⟨a0,a1,a2,a3,a4,a5,a6,a7⟩:=Cat.blk hinv.cat
   obtain⟨b0,b1,b2,b3,b4,b5,b6,b7⟩:=Cat.blk hinv.res
   have f0:=hinv.res.frozen 0
   have f1:=hinv.res.frozen 1
   have f2:=hinv.res.frozen 2
   have f3:=hinv.res.frozen 3
   have f4:=hinv.res.frozen 4
   have f5:=hinv.res.frozen 5
   have f6:=hinv.res.frozen 6
   have f7:=hinv.res.frozen 7
   have hrz:=hinv.res.lt
   clear hinv
   go_wp2_with fail
   have hg:=aj (aj (aj (aj (aj (aj (aj (aj (iy wc (some w.heap.size)) (p:=⟨w.heap.size,0,none⟩) (.inl rfl) (.slice A ts.length c)) (p:=⟨w.heap.size,1,none⟩) (.inl rfl) (.slice none 0 0)) (p:=⟨w.heap.size,2,none⟩) (.inl rfl) (.slice none 0 0)) (p:=⟨w.heap.size,3,none⟩) (.inl rfl) (.slice none 0 0)) (p:=⟨w.heap.size,4,none⟩) (.inl rfl) (.slice none 0 0)) (p:=⟨w.heap.size,5,none⟩) (.inl rfl) (.slice none 0 0)) (p:=⟨w.heap.size,6,none⟩) (.inl rfl) (.slice none 0 0)) (p:=⟨w.heap.size,7,none⟩) (.inl rfl) (.slice none 0 0)
   have HG:=qh hg
   clear hg
   refine bodyPost_ret (v:= .agg #[.slice A ts.length c,.slice none 0 0,.slice none 0 0,.slice none 0 0,.slice none 0 0,.slice none 0 0,.slice none 0 0,.slice none 0 0]) cJ rfl ⟨A,c,ts,rfl,HI.out.tabs.jh HG.out (HI.out.up.ne omA),⟨fun a ha=>by have:=HI.out.up.1 a ha;omega,fun t ht=>⟨fun a ha=>by have:=(HI.out.up.2 t ht).1 a ha;omega,fun x hx a ha=>by have:=(HI.out.up.2 t ht).2 x hx a ha;omega⟩⟩,HI.out.bd.mono HG.out.size,HI.out.bZ,HI.out.ok,hn0,hle,HI.out.tape.grown HG.out omA omA,gu HI.out.grown HG.out inB⟩
end Go.Proofs.YtebippoohpnjkaaGreat
