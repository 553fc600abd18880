/-
  Contracts and plain laws of this seat, part 16.
-/
import Derived.Test.YtjidligipoldeaaGreatS15
import Derived.Deep.CutBlock
import Derived.Test.YtjidligipoldeaaGreatS14
set_option linter.unusedVariables false
set_option linter.unusedSimpArgs false
set_option maxRecDepth 100000
set_option maxHeartbeats 16000000
namespace Go.Proofs.YtjidligipoldeaaGreat
open Go.RowKit
theorem aE{P:Prop}(h:P:=by simp[results,Tryz.results25,go_sem,b0,b1,b2,b3,b4,b5,b6,b7,hrz]):P:=h
theorem ba{P:Prop}(h:P:=by injection e):P:=h
theorem bb{P:Prop}(h:P:=by rw[HX.out];rfl):P:=h
structure jk (g q:Nat) (w w':World):Prop where
 os:w'.os=w.os
 tape:w'.tape=w.tape
 output:w'.output=w.output
 size:w.heap.size≤w'.heap.size
 block:∀k,k<w.heap.size→k≠g→k≠q→w'.heap[k]?=w.heap[k]?
section
variable {g q:Nat}{w u v:World}
theorem jk.refl(g q:Nat)(w:World):jk g q w w:=⟨rfl,rfl,rfl,Nat.le_refl _,fun _ _ _ _=>rfl⟩
theorem jk.grown(h:jk g q w u){row:Option Nat}(k:u.grownBy v row)(hr:∀i,row=some i→i=g∨i=q∨w.heap.size≤i):jk g q w v:=
 ⟨k.os.trans h.os,k.tape.trans h.tape,k.output.trans h.output,Nat.le_trans h.size k.size,fun i hi h1 h2=>(k.block i (Nat.lt_of_lt_of_le hi h.size) (fun e=>by rcases hr i e.symm with h|h|h<;>omega)).trans (h.block i hi h1 h2)⟩
theorem jk.below(h:jk g q w u)(k:Below u.heap.size u v):jk g q w v:=h.grown (aI k none) (fun i e=>by cases e)
theorem jk.set(h:jk g q w u){p:Addr}(hp:p.block=g∨p.block=q∨w.heap.size≤p.block)(x:Value):jk g q w (u.setCell p x):=
 ⟨h.os,h.tape,h.output,by simpa using h.size,fun i hi h1 h2=>(Below.heap_setCell u p x i (by intro e;rcases hp with h'|h'|h'<;>omega)).trans (h.block i hi h1 h2)⟩
theorem jk.up{w0:World}(h:w0.grownBy w (some g))(k:jk g q w u)(hq:w0.heap.size≤q):w0.grownBy u (some g):=
 ⟨k.os.trans h.os,k.tape.trans h.tape,k.output.trans h.output,Nat.le_trans h.size k.size,fun i hi hne=>(k.block i (Nat.lt_of_lt_of_le hi h.size) (fun e=>hne (by rw[e])) omA).trans (h.block i hi hne)⟩
theorem ag.Dl{α:Type}{enc:α→List Value}{k:Nat}{A:Option Addr}{l:List α}(h:ag w w.heap.size enc k A l)(hk:jk g q w u)(hA:∀a,A=some a→a.block≠g∧a.block≠q):ag u u.heap.size enc k A l:=by
 intro hl
 obtain⟨b,o,rfl,hB,hc⟩:=h hl
 obtain⟨h1,h2⟩:=hA _ rfl
 exact⟨b,o,rfl,Nat.lt_of_lt_of_le hB hk.size,fun i hi j v hv=>(World.cell?_of_block (hk.block b hB h1 h2)).trans (hc i hi j v hv)⟩
end
def zg(q:Nat)(A:Option Addr)(ts:List Tab):Prop:=(∀a,A=some a→a.block≠q) ∧ ∀t∈ts,(∀a,t.A=some a→a.block≠q) ∧ ∀x∈t.ae,∀a,x.A=some a→a.block≠q
theorem aF.Dl{g q B:Nat}{w u:World}{A:Option Addr}{ts:List Tab}(h:aF w w.heap.size A ts)(hk:jk g q w u)(hu:gu B A ts)(hg:g<B)(hq:zg q A ts):aF u u.heap.size A ts:=
 ⟨h.1.Dl hk fun a ha=>⟨by have:=hu.1 a ha;omega,hq.1 a ha⟩,fun t ht=>⟨(h.2 t ht).1.Dl hk fun a ha=>⟨by have:=(hu.2 t ht).1 a ha;omega,(hq.2 t ht).1 a ha⟩,fun x hx=>((h.2 t ht).2 x hx).Dl hk fun a ha=>⟨by have:=(hu.2 t ht).2 x hx a ha;omega,(hq.2 t ht).2 x hx a ha⟩⟩⟩
structure dU (M w0:Nat) (w:World) (x:Col):Prop where
 name:x.name.size≤1000000
 ns:x.ns.size≤1000000
 refs:x.refs.size≤1000000
 own:x.own.length≤M
 cap:x.own.length≤x.cap
 list:ag w w.heap.size intCells 1 x.A x.own
 up:∀a,x.A=some a→w0≤a.block
 lt:∀a,x.A=some a→a.block<w.heap.size
theorem dU.keep{M w0:Nat}{w u:World}{x:Col}(h:dU M w0 w x){row:Option Nat}(hg:w.grownBy u row)(hr:∀i,row=some i→i<w0):dU M w0 u x:=
 ⟨h.name,h.ns,h.refs,h.own,h.cap,h.list.grown hg fun a ha e=>by have:=h.up a ha;have:=hr _ e.symm;omega,h.up,fun a ha=>Nat.lt_of_lt_of_le (h.lt a ha) hg.size⟩
structure bO (M:Nat) (w:World) (g b q B n cap:Nat) (cv nm:Value) (rt:Int) (LA:Option Addr) (l:List Int) (ae:List Col) (er:Int) (u:World):Prop where
 own:ah u B 109 Col.cells 7 (.slice (some ⟨q,0,none⟩) n cap) ae
 len:ae.length=n
 fine:∀x∈ae,dU M (w.heap.size+3) u x
 AU:Blk u (w.heap.size+1) 61 #[nm,.slice (some ⟨q,0,none⟩) n cap,.int .i64 er,.int .i64 rt]
 Jn:Blk u w.heap.size 33 #[cv,.slice none 0 0,.slice none 0 0,.slice none 0 0,.slice none 0 0,.slice none 0 0,.slice none 0 0,.slice none 0 0]
 res:Blk u (w.heap.size+2) 61 #[.string ⟨#[]⟩,.slice none 0 0,.int .i64 0,.int .i64 0]
 list:ag u u.heap.size intCells 1 LA l
 up:∀a,LA=some a→w.heap.size+3≤a.block
 tape:aL u g b
 kept:jk g q w u
 ltg:g<w.heap.size
 ltb:b<w.heap.size
 ltq:q<w.heap.size
 neg:g<B
 neb:b<B
 hq:B≤q
section
variable {M:Nat}{w u v:World}{g b q B n cap:Nat}{cv nm:Value}{rt:Int}{LA:Option Addr}{l:List Int}{ae:List Col}{er:Int}
theorem bO.next(h:bO M w g b q B n cap cv nm rt LA l ae er u)(hg:u.grownBy v (some g))(hk:aL v g b):bO M w g b q B n cap cv nm rt LA l ae er v:=by
 have h1:=h.ltg
 have hne:∀i,w.heap.size≤i→some i≠some g:=fun i hi e=>by injection e with e;omega
 exact⟨h.own.grown hg h.neg,h.len,fun x hx=>(h.fine x hx).keep hg inB,h.AU.grown hg (hne _ omA),h.Jn.grown hg (hne _ omA),h.res.grown hg (hne _ omA),h.list.grown hg (fun a ha=>hne _ (by have:=h.up a ha;omega)),h.up,hk,h.kept.grown hg (fun i e=>by injection e with e;exact .inl e.symm),h.ltg,h.ltb,h.ltq,h.neg,h.neb,h.hq⟩
theorem bO.wide{M':Nat}(h:bO M w g b q B n cap cv nm rt LA l ae er u)(hM:M≤M'):bO M' w g b q B n cap cv nm rt LA l ae er u:=
 ⟨h.own,h.len,fun x hx=>by have f:=h.fine x hx;exact⟨f.name,f.ns,f.refs,Nat.le_trans f.own hM,f.cap,f.list,f.up,f.lt⟩,h.AU,h.Jn,h.res,h.list,h.up,h.tape,h.kept,h.ltg,h.ltb,h.ltq,h.neg,h.neb,h.hq⟩
theorem bO.below(h:bO M w g b q B n cap cv nm rt LA l ae er u)(hb:Below u.heap.size u v):bO M w g b q B n cap cv nm rt LA l ae er v:=
 h.next (aI hb _) (h.tape.below hb)
theorem bO.alloc(h:bO M w g b q B n cap cv nm rt LA l ae er u)(o:Obj):bO M w g b q B n cap cv nm rt LA l ae er (u.alloc o):=
 h.below (brf.alloc nlr o)
theorem bO.drew(h:bO M w g b q B n cap cv nm rt LA l ae er u):bO M w g b q B n cap cv nm rt LA l ae er u.drew:=
 h.below (brf.drew)
theorem bO.set(h:bO M w g b q B n cap cv nm rt LA l ae er u){i:Nat}(hi:i<ae.length)(x:Col){j o:Nat}{z:Value}(hj:j<7)(ho:o=i*7+j)(hx:x.cells=(ae[i]).cells.set j z)(hf:dU M (w.heap.size+3) u x):bO M w g b q B n cap cv nm rt LA l (ae.set i x) er (u.setCell ⟨q,o,none⟩ z):=by
 have h1:=h.ltg
 have h2:=h.ltb
 have h3:=h.ltq
 have hqg:q≠g:=by have:=h.neg;have:=h.hq;omega
 have hqb:q≠b:=by have:=h.neb;have:=h.hq;omega
 have iw:∀y,dU M (w.heap.size+3) u y→dU M (w.heap.size+3) (u.setCell ⟨q,o,none⟩ z) y:=fun y hy=>⟨hy.name,hy.ns,hy.refs,hy.own,hy.cap,by have:=hy.list.far (p:=⟨q,o,none⟩) (fun a ha e=>by have:=hy.up a ha;have e:a.block=q:=e;omega) z;simpa using this,hy.up,fun a ha=>by simpa using hy.lt a ha⟩
 refine⟨h.own.gJ fF h.len.symm hi x hj ho hx,by simpa using h.len,fun y hy =>?_,h.AU.far (show _≠q by omega) z,h.Jn.far (show _≠q by omega) z,h.res.far (show _≠q by omega) z,?_,h.up,h.tape.far (show g≠q by omega) (show b≠q by omega) z,h.kept.set (.inr (.inl rfl)) z,h.ltg,h.ltb,h.ltq,h.neg,h.neb,h.hq⟩
 ·rcases List.mem_or_eq_of_mem_set hy with h|rfl
  ·exact iw y (bO.fine ‹_› y h)
  ·exact iw _ hf
 ·have:=h.list.far (p:=⟨q,o,none⟩) (fun a ha e=>by have:=h.up a ha;have e:a.block=q:=e;omega) z
  simpa using this
theorem bO.app(h:bO M w g b q B n cap cv nm rt LA l ae er u){nb i o:Nat}{x:Col}{z:Value}(hg:u.grownBy v (some nb))(hnb:w.heap.size+3≤nb)(hi:i<ae.length)(ho:o=i*7+4)(hx:x.cells=(ae[i]).cells.set 4 z)(hf:dU M (w.heap.size+3) v x)(hoth:∀k (hk:k<ae.length),k≠i→∀a,ae[k].A=some a→a.block≠nb)(hL:∀a,LA=some a→a.block≠nb):
 bO M w g b q B n cap cv nm rt LA l (ae.set i x) er (v.setCell ⟨q,o,none⟩ z):=by
 have h1:=h.ltg
 have h2:=h.ltb
 have h3:=h.ltq
 have hqg:q≠g:=by have:=h.neg;have:=h.hq;omega
 have hqb:q≠b:=by have:=h.neb;have:=h.hq;omega
 have hne:∀i,i<w.heap.size+3→some i≠some nb:=fun i hi e=>by injection e with e;omega
 have iw:∀y,dU M (w.heap.size+3) v y→dU M (w.heap.size+3) (v.setCell ⟨q,o,none⟩ z) y:=fun y hy=>⟨hy.name,hy.ns,hy.refs,hy.own,hy.cap,by have:=hy.list.far (p:=⟨q,o,none⟩) (fun a ha e=>by have:=hy.up a ha;have e:a.block=q:=e;omega) z;simpa using this,hy.up,fun a ha=>by simpa using hy.lt a ha⟩
 have hown := h.own.kept hg (fun k hk => by have : q = k := by simpa [Value.ownBlock] using hk
                                            exact hne k omA)
 refine⟨hown.gJ fF h.len.symm hi x (j:= 4) omA ho hx,by simpa using h.len,fun y hy =>?_,(h.AU.grown hg (hne _ omA)).far (show _≠q by omega) z,(h.Jn.grown hg (hne _ omA)).far (show _≠q by omega) z,(h.res.grown hg (hne _ omA)).far (show _≠q by omega) z,?_,h.up,(h.tape.grown hg (show nb≠g by omega) (show nb≠b by omega)).far (show g≠q by omega) (show b≠q by omega) z,(h.kept.grown hg (fun i e=>by injection e with e;exact .inr (.inr omA))).set (.inr (.inl rfl)) z,h.ltg,h.ltb,h.ltq,h.neg,h.neb,h.hq⟩
 ·obtain⟨k,hk,rfl⟩:=List.getElem_of_mem hy
  rw[List.getElem_set]
  split
  ·exact iw _ hf
  ·rename_i hki
   have hk':k<ae.length:=by simpa using hk
   have hy:=h.fine ae[k] (lgm hk')
   exact iw _ ⟨hy.name,hy.ns,hy.refs,hy.own,hy.cap,hy.list.grown hg (fun a ha e=>hoth k hk' (fun e'=>hki e'.symm) a ha ba),hy.up,fun a ha=>Nat.lt_of_lt_of_le (hy.lt a ha) hg.size⟩
 ·have:=(h.list.grown hg (fun a ha e=>hL a ha ba)).far (p:=⟨q,o,none⟩) (fun a ha e=>by have:=h.up a ha;have e:a.block=q:=e;omega) z
  simpa using this
theorem bO.KT(h:bO M w g b q B n cap cv nm rt LA l ae er u)(z:Int):bO M w g b q B n cap cv nm rt LA l ae z (u.setCell ⟨w.heap.size+1,2,none⟩ (.int .i64 z)):=by
 have h1:=h.ltg
 have h2:=h.ltb
 have h3:=h.ltq
 refine⟨h.own.far (fun k hk =>?_) _,h.len,fun y hy =>?_,?_,h.Jn.far (show _≠w.heap.size+1 by omega) _,h.res.far (show _≠w.heap.size+1 by omega) _,?_,h.up,h.tape.far (show g≠w.heap.size+1 by omega) (show b≠w.heap.size+1 by omega) _,h.kept.set (.inr (.inr (show _≤w.heap.size+1 by omega))) _,h.ltg,h.ltb,h.ltq,h.neg,h.neb,h.hq⟩
 ·have:q=k:=by simpa[Value.ownBlock]using hk
  show k≠w.heap.size+1
  omega
 ·have hf:=h.fine y hy
  exact⟨hf.name,hf.ns,hf.refs,hf.own,hf.cap,by have:=hf.list.far (p:=⟨w.heap.size+1,2,none⟩) (fun a ha e=>by have:=hf.up a ha;have e:a.block=w.heap.size+1:=e;omega) (.int .i64 z);simpa using this,hf.up,fun a ha=>by simpa using hf.lt a ha⟩
 ·have:=h.AU.aH 2 (.int .i64 z)
  simpa using this
 ·have:=h.list.far (p:=⟨w.heap.size+1,2,none⟩) (fun a ha e=>by have:=h.up a ha;have e:a.block=w.heap.size+1:=e;omega) (.int .i64 z)
  simpa using this
structure uZ (M:Nat) (w:World) (g b q B n cap:Nat) (ae:List Col) (u:World):Prop where
 own:ah u B 109 Col.cells 7 (.slice (some ⟨q,0,none⟩) n cap) ae
 len:ae.length=n
 fine:∀x∈ae,dU M (w.heap.size+3) u x
 tape:aL u g b
 kept:jk g q w u
 ltg:g<w.heap.size
 ltb:b<w.heap.size
 ltq:q<w.heap.size
theorem bO.toEnd(h:bO M w g b q B n cap cv nm rt LA l ae er u):uZ M w g b q B n cap ae u:=⟨h.own,h.len,h.fine,h.tape,h.kept,h.ltg,h.ltb,h.ltq⟩
theorem uZ.set(h:uZ M w g b q B n cap ae u)(j:Nat)(z:Value):uZ M w g b q B n cap ae (u.setCell ⟨w.heap.size+2,j,none⟩ z):=by
 have h1:=h.ltg
 have h2:=h.ltb
 have h3:=h.ltq
 refine⟨h.own.far (fun k hk =>?_) _,h.len,fun y hy =>?_,h.tape.far (show g≠w.heap.size+2 by omega) (show b≠w.heap.size+2 by omega) _,h.kept.set (.inr (.inr (show _≤w.heap.size+2 by omega))) _,h1,h2,h3⟩
 ·have:q=k:=by simpa[Value.ownBlock]using hk
  show k≠w.heap.size+2
  omega
 ·have hf:=h.fine y hy
  exact⟨hf.name,hf.ns,hf.refs,hf.own,hf.cap,by have:=hf.list.far (p:=⟨w.heap.size+2,j,none⟩) (fun a ha e=>by have:=hf.up a ha;have e:a.block=w.heap.size+2:=e;omega) z;simpa using this,hf.up,fun a ha=>by simpa using hf.lt a ha⟩
theorem uZ.low(h:uZ M w g b q B n cap ae u):∀x∈ae,dU M w.heap.size u x:=fun x hx=>by
 have f:=h.fine x hx
 exact⟨f.name,f.ns,f.refs,f.own,f.cap,f.list,fun a ha=>by have:=f.up a ha;omega,f.lt⟩
end
theorem Lx{P:Prop}(h:P:=by
 go_wp2_with fail
 (with_reducible refine(aG g b (l.length:Int) _ HI2.out.tape omA omA).mono ?_)
 rintro e w3 ⟨r3,rfl,hr3,hk3,hg3⟩
 have BN:r3<l.length:=by rcases hr3 with h|h<;>omega
 have HI3:=qh (HI2.out.next hg3 hk3)
 clear HI2 hk3 hg3 hr3
 obtain⟨lb,lo,rfl,hlb,Un⟩:=HI3.out.list.get BN
 have y0:=Un 0 _ rfl
 simp only[Nat.mul_one,Nat.add_zero]at y0
 obtain⟨z3,hz3⟩:∃z,l[r3]=z:=⟨_,rfl⟩
 rw[hz3]at y0
 have s0:=HI3.out.own.fM fF HI3.out.len.symm hil (j:= 4) rfl
 have sf:=HI3.out.own.jX HI3.out.len.symm (i*7+4)
 have hqz:=HI3.out.own.lt q rfl
 have hw3:=HI3.out.res.lt
 obtain⟨⟨xn,xt,xs,xr,xA,xc,xo,xj,xd⟩,hx⟩:∃x:Col,ae[i]=x:=⟨_,rfl⟩
 have hf0:=HI3.out.fine ae[i] (lgm hil)
 rw[hx]at s0 hf0
 have HX:=qh hx
 clear Un hz3 hx
 go_upto_region 9 with (fail)
 obtain⟨nb,hnb⟩:∃nb,w3.heap.size=nb:=⟨_,rfl⟩
 refine aj (P:=fun u=>Code.wp _ _ _ _ u) (R:=fun u =>∃(tV:List Col) (hi:i<tV.length),tV[i]=⟨xn,xt,xs,xr,some ⟨w3.heap.size,0,none⟩,1,[z3],xj,xd⟩∧(∀k (hk:k<tV.length),k≠i→∀a,tV[k].A=some a→a.block≠w3.heap.size)∧Blk u w3.heap.size 3 #[.int .i64 z3]∧(bO 20 w g b q B n cap (.slice A ts.length c) (.string nm) rt (some ⟨lb,lo,none⟩) l tV er2 u)) ⟨ae.set i ⟨xn,xt,xs,xr,some ⟨w3.heap.size,0,none⟩,1,[z3],xj,xd⟩,by simpa using hil,by simp,fun k hk hki a ha =>?_,?_,?_⟩ ?_
 ·rw[List.getElem_set_ne (fun e=>hki e.symm)]at ha
  have:=(HI3.out.fine _ (lgm (by simpa using hk))).lt a ha
  omega
 ·exact Blk.new' spA
 ·rw[←World.setCell_alloc_past _ q _ _ hqz]
  exact(HI3.out.alloc _).set hil ⟨xn,xt,xs,xr,some ⟨w3.heap.size,0,none⟩,1,[z3],xj,xd⟩ (j:= 4) omA rfl bb ⟨hf0.name,hf0.ns,hf0.refs,by simp,by simp,Blk.one (enc:=intCells) (x:=z3) (Blk.new' rfl) spA,fun a ha=>by injection ha with ha;subst ha;exact hw3,fun a ha=>by injection ha with ha;subst ha;simp⟩
 rw[hnb]
 rw[hnb]at hw3
 rintro U ⟨tV,hi1,hx1,ho1,hB1,hI1⟩
 have HO1:=qh ho1
 have WL:lb≠nb:=by omega
 have HI4:=qh hI1
 have HB4:=qh hB1
 have HX1:=qh hx1
 clear ho1 hI1 hB1 hx1 HI3 HX hnb s0 sf y0 hil hqz hlb hf0
 go_wp2_with fail
 (with_reducible refine(aG g b (l.length:Int) _ HI4.out.tape omA omA).mono ?_)
 rintro e w4 ⟨r4,rfl,hr4,hk4,hg4⟩
 have TN:r4<l.length:=by rcases hr4 with h|h<;>omega
 have HI5:=qh (HI4.out.next hg4 hk4)
 have HB5:=qh (HB4.out.grown hg4 inA)
 clear HI4 HB4 hk4 hg4 hr4
 obtain⟨lb5,lo5,he5,hlb,Um⟩:=HI5.out.list.get TN
 injection he5 with he5
 injection he5 with he6 he7
 subst he6 he7
 have y0:=Um 0 _ rfl
 simp only[Nat.mul_one,Nat.add_zero]at y0
 obtain⟨z4,hz4⟩:∃z,l[r4]=z:=⟨_,rfl⟩
 rw[hz4]at y0
 have s0:=HI5.out.own.fM fF HI5.out.len.symm hi1 (j:= 4) (by rw[HX1.out];rfl)
 have sf:=HI5.out.own.jX HI5.out.len.symm (i*7+4)
 have hqz:=HI5.out.own.lt q rfl
 have hw4:=HI5.out.res.lt
 have n0:=HB5.out.cell 0
 have hnz:=HB5.out.lt
 simp only[gE3,List.length_cons,List.length_nil,Nat.zero_add]at n0 s0
 clear Um hz4
 cases h34:decide (z3<z4)
 ·go_upto_if 76 with (fail)
  go_cut [] (fun wc =>∃(qL:List Col) (hi:i<qL.length),(∃A' c' o',qL[i]=⟨xn,xt,xs,xr,A',c',o',xj,xd⟩)∧(bO 20 w g b q B n cap (.slice A ts.length c) (.string nm) rt (some ⟨lb,lo,none⟩) l qL er2 wc))
  case first =>
   go_wp2_with fail
   go_meet
   exact⟨tV,hi1,⟨_,_,_,HX1.out⟩,HI5.out⟩
  case rest=>exact Lv
 ·go_upto_if 76 with (fail)
  go_cut [] (fun wc =>∃(qL:List Col) (hi:i<qL.length),(∃A' c' o',qL[i]=⟨xn,xt,xs,xr,A',c',o',xj,xd⟩)∧(bO 20 w g b q B n cap (.slice A ts.length c) (.string nm) rt (some ⟨lb,lo,none⟩) l qL er2 wc))
  case first =>
   have UY:ah w4 (w.heap.size+3) 3 intCells 1 (.slice (some ⟨nb,0,none⟩) 1 1) [z3]:=ah.one (enc:=intCells) (x:=z3) HB5.out hw3 bq
   have X7:=qh UY
   clear UY
   go_wp2_with (at_builtin;go_must (refine aP _ rfl (.tmp 81) (.tmp 83) 22 rfl 3 i0 _ intCells 1 8 Tryz.underlying22 hi0 hz0 hz1 hz2 rfl omA bq dQ (w.heap.size+3) (.slice (some ⟨nb,0,none⟩) 1 1) [z3] rfl (X7.out.alloc _) _ _ _ [z4] rfl rfl (Blk.one (enc:=intCells) (x:=z4) (Blk.new' rfl) spA) spA (by simp[maxLen]) smA ?_);intro v' w5 hown5 hg5 ZI;obtain⟨A5,c5,rfl,hc5,hs5,hA5⟩:=hown5.slice bq;have hO6:=(HI5.out.alloc _).own.kept hg5 (fun k hk e=>by(have e1:q=k:=by simpa[Value.ownBlock]using hk);(have e2:k=nb:=by simpa[Value.ownBlock]using e);have:=HI5.out.ltq;omega);have s6:=hO6.fM fF HI5.out.len.symm hi1 (j:= 4) (by rw[HX1.out];rfl);have sf6:=hO6.jX HI5.out.len.symm (i*7+4);have HG5:=qh hg5)
   go_meet
   have hf1:=HI5.out.fine tV[i] (lgm hi1)
   rw[HX1.out]at hf1
   exact⟨tV.set i ⟨xn,xt,xs,xr,A5,c5,[z3,z4],xj,xd⟩,by simpa using hi1,⟨A5,c5,[z3,z4],by simp⟩,(HI5.out.alloc _).app HG5.out hw3 hi1 rfl (by rw[HX1.out];rfl) ⟨hf1.name,hf1.ns,hf1.refs,by simp,by simpa using hc5,by simpa using hs5,fun a ha=>(hA5 a ha).1,fun a ha=>(hA5 a ha).2⟩ HO1.out (fun a ha=>by injection ha with ha;subst ha;exact WL)⟩
  case rest=>exact Lv):P:=h
theorem Lv{P:Prop}(h:P:=by
 (
 obtain⟨qL,hi2,⟨A2,c2,o2,hx2⟩,hI2⟩:=hcut
 have HI6:=qh hI2
 have HX2:=qh hx2
 clear hI2 hx2 HI5 HB5 HX1 s0 sf n0 y0 h34 hi1
 go_wp2_with fail
 (with_reducible refine(aG g b 2 _ HI6.out.tape omA omA).mono ?_)
 rintro e w6 ⟨r5,rfl,hr5,hk6,hg6⟩
 have HI7:=qh (HI6.out.next hg6 hk6)
 clear HI6 hk6 hg6 hr5
 have s5:=HI7.out.own.fM fF HI7.out.len.symm hi2 (j:= 5) (by rw[HX2.out];rfl)
 have sf5:=HI7.out.own.jX HI7.out.len.symm (i*7+5)
 have hf2:=HI7.out.fine qL[i] (lgm hi2)
 rw[HX2.out]at hf2
 have hw6:=HI7.out.res.lt
 have hq6:=HI7.out.own.lt q rfl
 go_upto_region 13 with (fail)
 refine aj (P:=fun u=>Code.wp _ _ _ _ u) (R:=fun u =>∃(Ay:List Col) (hi:i<Ay.length),Ay[i]=⟨xn,xt,xs,xr,A2,c2,o2,r5,xd⟩∧(bO 20 w g b q B n cap (.slice A ts.length c) (.string nm) rt (some ⟨lb,lo,none⟩) l Ay er2 u)) ⟨qL.set i ⟨xn,xt,xs,xr,A2,c2,o2,r5,xd⟩,by simpa using hi2,by simp,HI7.out.set hi2 ⟨xn,xt,xs,xr,A2,c2,o2,r5,xd⟩ (j:= 5) omA rfl (by rw[HX2.out];rfl) ⟨hf2.name,hf2.ns,hf2.refs,hf2.own,hf2.cap,hf2.list,hf2.up,hf2.lt⟩⟩ ?_
 rintro V ⟨Ay,hi3,hx3,hI3⟩
 have HI8:=qh hI3
 have HX3:=qh hx3
 clear HI7 HX2 hi2 hI3 hx3 s5 sf5 hf2
 have hw8:=HI8.out.res.lt
 go_wp2_with fail
 (with_reducible refine(aG g b 5 _ (HI8.out.tape.alloc _) omA omA).mono ?_)
 rintro e w8 ⟨r6,rfl,hr6,hk8,hg8⟩
 have Me:r6<5:=by rcases hr6 with h|h<;>omega
 have HI9:=qh ((HI8.out.alloc _).next hg8 hk8)
 have hL:Blk w8 V.heap.size 3 #[.int .i64 0,.int .i64 0,.int .i64 0,.int .i64 5,.int .i64 20]:=Blk.grown (Blk.new' rfl) hg8 inA
 obtain⟨z6,hz6⟩:∃z:Int,w8.cell? ⟨V.heap.size,r6,none⟩=some (.int .i64 z):=by
  rw[hL.cell]
  rcases(show r6=0∨r6=1∨r6=2∨r6=3∨r6=4 by omega) with rfl|rfl|rfl|rfl|rfl
  all_goals exact⟨_,rfl⟩
 clear HI8 hk8 hg8 hr6 hL
 have s6:=HI9.out.own.fM fF HI9.out.len.symm hi3 (j:= 6) (by rw[HX3.out];rfl)
 have sf6:=HI9.out.own.jX HI9.out.len.symm (i*7+6)
 have hf3:=HI9.out.fine Ay[i] (lgm hi3)
 rw[HX3.out]at hf3
 go_upto_region 14 with (fail)
 refine aj (P:=fun u=>Code.wp _ _ _ _ u) (R:=fun u =>∃(MZ:List Col),(bO 20 w g b q B n cap (.slice A ts.length c) (.string nm) rt (some ⟨lb,lo,none⟩) l MZ er2 u)) ⟨Ay.set i ⟨xn,xt,xs,xr,A2,c2,o2,r5,z6⟩,HI9.out.set hi3 ⟨xn,xt,xs,xr,A2,c2,o2,r5,z6⟩ (j:= 6) omA rfl (by rw[HX3.out];rfl) ⟨hf3.name,hf3.ns,hf3.refs,hf3.own,hf3.cap,hf3.list,hf3.up,hf3.lt⟩⟩ ?_
 rintro X ⟨MZ,hI4⟩
 have VK:=qh hI4
 have e2:=hI4.AU.cell 2
 have ef:=hI4.AU.frozen 2
 have hwX:=hI4.res.lt
 simp only[gE3]at e2
 clear HI9 HX3 hi3 hI4 s6 sf6 hz6 hf3
 go_wp2_with fail
 go_roundw
 case rel=>exact⟨i+1,MZ,_,by omega,by go_num,by first|exact VK.out|exact VK.out.KT 1⟩
 case measure=>exact meA)):P:=h
theorem KH(g b B0 B q n cap:Nat)(A:Option Addr)(c m:Nat)(ts:List Tab)(nm:ByteArray)(Az:List Col)(er rt:Int)(w:World)(hk:aL w g b)(ht:aF w w.heap.size A ts)(hm:ts.length=m)(hup:gu B0 A ts)(hg0:g<B0)(hne:zg q A ts)(hl:m≤10)(dZ:∀t∈ts,0<t.ae.length)(hsn:aN ts)
 (hown:ah w B 109 Col.cells 7 (.slice (some ⟨q,0,none⟩) n cap) Az) (hn:Az.length=n) (h8:n≤8) (hnew:∀x∈Az,GK x) (hgB:g<B) (hbB:b<B):
 Calls Tryz.prog 65 #[.pointer (some ⟨g,0,none⟩),.agg #[.slice A m c,.slice none 0 0,.slice none 0 0,.slice none 0 0,.slice none 0 0,.slice none 0 0,.slice none 0 0,.slice none 0 0],.agg #[.string nm,.slice (some ⟨q,0,none⟩) n cap,.int .i64 er,.int .i64 rt]] w fun e w' =>
  ∃(ae:List Col) (er':Int),e=.returned (.agg #[.string nm,.slice (some ⟨q,0,none⟩) n cap,.int .i64 er',.int .i64 rt])∧ah w' B 109 Col.cells 7 (.slice (some ⟨q,0,none⟩) n cap) ae∧ae.length=n∧(∀x∈ae,dU 100 w.heap.size w' x)∧aL w' g b∧jk g q w w':=by
 subst hm
 have HK:=qh hk
 have HT:=qh ht
 have HU:=qh hup
 have HNE:=qh hne
 have HC:=qh dZ
 have HS:=qh hsn
 have HOW:=qh hown
 have HN:=qh hn
 have JZ:=qh hnew
 have hgl:=hk.ltg
 have hbl:=hk.lt
 have hql:=(hown.lt q rfl)
 have hBq:=hown.row q rfl
 obtain⟨i0,hi0,hz0,hz1,hz2⟩:=info_parts kV
 clear hk ht hup hne dZ hsn hown hn hnew
 go_enter Tryz.func65,Tryz.ntmps65
 go_upto_region 1 with (fail)
 refine aj (P:=fun u=>Code.wp _ _ _ _ u) (R:=fun u=>Blk u w.heap.size 33 #[.slice A ts.length c,.slice none 0 0,.slice none 0 0,.slice none 0 0,.slice none 0 0,.slice none 0 0,.slice none 0 0,.slice none 0 0]∧Blk u (w.heap.size+1) 61 #[.string nm,.slice (some ⟨q,0,none⟩) n cap,.int .i64 er,.int .i64 rt]∧Blk u (w.heap.size+2) 61 #[.string ⟨#[]⟩,.slice none 0 0,.int .i64 0,.int .i64 0]∧Below w.heap.size w u) ⟨?_,?_,?_,?_⟩ ?_
 ·exact((Blk.new _ _ _).alloc _).alloc _
 ·exact(Blk.new' spA).alloc _
 ·exact Blk.new' spA
 ·exact ak
 rintro W ⟨hC,hB,hR,hbW⟩
 have hzW:=hR.lt
 obtain⟨q0,q1,q2,q3⟩:=Tab.blk hB
 have HCB:=qh hC
 have HTB:=qh hB
 have HRB:=qh hR
 have hOW:=HOW.out.below hbW nlr
 obtain⟨A0,c0,he0,hcap0,hsl0,_⟩:=hOW.slice fF
 injection he0 with he1 he2 he3
 subst he1
 have Vs:=qh hsl0
 have VB:=qh hOW
 clear hC hB hR hOW hsl0 he2 he3
 go_wp2_with fail
 (with_reducible refine(LG nm (some ⟨q,0,none⟩) cap n Az er rt _ Vs.out HN.out omA).mono ?_)
 rintro e w1 ⟨⟨LA,lc,l,rfl,hlc,hln,hls,hlA⟩,hb1⟩
 have MG:Below w.heap.size w w1:=aa hbW hb1 hbW.size
 have hinv:bO 20 w g b q B n cap (.slice A ts.length c) (.string nm) rt LA l Az er w1:=by
  refine⟨VB.out.below hb1 nlr,HN.out,fun x hx =>?_,HTB.out.below hb1 omA,HCB.out.below hb1 omA,HRB.out.below hb1 hzW,hls,fun a ha=>by have:=hlA a ha;omega,HK.out.below MG,(jk.refl g q w).below MG,hgl,hbl,hql,hgB,hbB,hBq⟩
  have hx:=JZ.out x hx
  exact⟨hx.name,hx.ns,hx.refs,by rw[hx.own];simp,by rw[hx.own];simp,by rw[hx.own];exact ag.nil,fun a ha=>(by rw[hx.A]at ha;cases ha),fun a ha=>(by rw[hx.A]at ha;cases ha)⟩
 have gY:=qh hinv
 clear hinv HOW VB Vs HK HTB HCB HRB JZ HN hb1 MG hlA hls q0 q1 q2 q3
 go_upto_block 0 with (fail)
 go_cut [] (fun wc =>∃(ae:List Col) (er:Int),bO 20 w g b q B n cap (.slice A ts.length c) (.string nm) rt LA l ae er wc)
 case first =>
  go_wp2_with fail
  go_loopw [8] (fun vi wr =>∃(i:Nat) (ae:List Col) (er:Int),i≤n∧vi=.int .i64 i∧bO 20 w g b q B n cap (.slice A ts.length c) (.string nm) rt LA l ae er wr) (fun vi _=>n-(intOf vi).toNat)
  case atStart=>exact⟨0,Az,er,Nat.zero_le _,rfl,gY.out⟩
  case round =>
   clear gY
   obtain⟨i,ae,er2,hin,rfl,hinv⟩:=hrel
   have gY:=qh hinv
   obtain⟨q0,q1,q2,q3⟩:=Tab.blk hinv.AU
   have hwz:=hinv.res.lt
   have hci:i<n→i<ae.length:=fun h=>by rw[hinv.len];exact h
   clear hinv
   by_cases hlt:i<n
   ·have hil:=hci hlt
    have hlt':decide (i<n)=true:=by simpa using hlt
    by_cases hl0:0<l.length
    ·have hl0':decide (0<l.length)=true:=by simpa using hl0
     clear hci
     go_wp2_with fail
     (with_reducible refine(aG g b 3 _ gY.out.tape omA omA).mono ?_)
     rintro e w2 ⟨r1,rfl,hr1,hk2,hg2⟩
     have HI2:=qh (gY.out.next hg2 hk2)
     clear gY hk2 hg2 q0 q1 q2 q3 hr1
     by_cases hi0:i=0
     ·have Oz:((i:Int) == 0)=true:=by simp;omega
      have Us:decide (0<(i:Int))=false:=by simp;omega
      have Ur:decide (0<i)=false:=by simp;omega
      clear hi0
      by_cases hr0:r1=0
      ·subst hr0
       exact Lx
      ·have mR:((r1:Int) == 0)=false:=by simp;omega
       go_wp2_with fail
       go_roundw
       case rel=>exact⟨i+1,ae,er2,by omega,by go_num,HI2.out⟩
       case measure=>exact meA
     ·have Oz:((i:Int) == 0)=false:=by simp;omega
      have Us:decide (0<(i:Int))=true:=by simp;omega
      have Ur:decide (0<i)=true:=by simp;omega
      clear hi0
      go_wp2_with fail
      (with_reducible refine(aG g b 4 _ HI2.out.tape omA omA).mono ?_)
      rintro e w2' ⟨r2,rfl,hr2,hk2,hg2⟩
      have VJ:=qh (HI2.out.next hg2 hk2)
      clear HI2 hk2 hg2 hr2
      have HI2:=VJ
      clear VJ
      by_cases hr0:r2=0
      ·subst hr0
       go_wp2_with fail
       go_roundw
       case rel=>exact⟨i+1,ae,er2,by omega,by go_num,HI2.out⟩
       case measure=>exact meA
      ·have mR:((r2:Int) == 0)=false:=by simp;omega
       clear hr0
       exact Lx
    ·have hl0':decide (0<l.length)=false:=by simpa using hl0
     go_wp2_with fail
     go_meet
     exact⟨ae,er2,gY.out⟩
   ·have hlt':decide (i<n)=false:=by simpa using hlt
    go_wp2_with fail
    go_meet
    exact⟨ae,er2,gY.out⟩
 case rest =>
  clear gY
  obtain⟨ae,er3,hinv⟩:=hcut
  have h20:∀k (hk:k<ae.length),0≤k→ae[k].own.length≤20:=fun k hk _=>(hinv.fine _ (lgm hk)).own
  have gY:=qh (hinv.wide (show 20≤100 by omega))
  have H20:=qh h20
  clear hinv h20
  go_wp2_with fail
  go_loopw [12] (fun vi wr =>∃(i:Nat) (ae:List Col),i≤n∧vi=.int .i64 i∧bO 100 w g b q B n cap (.slice A ts.length c) (.string nm) rt LA l ae er3 wr∧(∀k (hk:k<ae.length),i≤k→ae[k].own.length≤20)) (fun vi _=>n-(intOf vi).toNat)
  case atStart=>exact⟨0,ae,Nat.zero_le _,rfl,gY.out,H20.out⟩
  case round =>
   clear gY H20
   obtain⟨i,ae,hin,rfl,hinv,h20⟩:=hrel
   have gY:=qh hinv
   have H20:=qh h20
   obtain⟨q0,q1,q2,q3⟩:=Tab.blk hinv.AU
   have hwz:=hinv.res.lt
   have hci:i<n→i<ae.length:=fun h=>by rw[hinv.len];exact h
   clear hinv h20
   by_cases hlt:i<n
   ·have hil:=hci hlt
    have hlt':decide (i<n)=true:=by simpa using hlt
    clear hci
    go_wp2_with fail
    clear q0 q1 q2 q3
    obtain⟨wo,rfl⟩:∃wo:World,wo=wr:=⟨_,rfl⟩
    go_loopw [14] (fun vn wi =>∃(m:Nat) (ae:List Col),m≤ts.length∧vn=.int .i64 m∧bO 100 w g b q B n cap (.slice A ts.length c) (.string nm) rt LA l ae er3 wi∧(∀k (hk:k<ae.length),i+1≤k→ae[k].own.length≤20)∧(∀hk:i<ae.length,ae[i].own.length≤20+m)) (fun vn _=>ts.length-(intOf vn).toNat)
    case atStart=>exact⟨0,ae,Nat.zero_le _,rfl,gY.out,fun k hk h=>H20.out k hk omA,fun hk=>by have:=H20.out i hk nlr;omega⟩
    case round =>
     clear gY H20 hil
     obtain⟨m,ae,hm,rfl,hinv,h20,U5⟩:=hrel
     have gY:=qh hinv
     have H20:=qh h20
     have hil:i<ae.length:=by rw[hinv.len];exact hlt
     have p0:=hinv.Jn.cell 0
     simp only[gE3]at p0
     have hwz:=hinv.res.lt
     by_cases hmt:m<ts.length
     ·have htab:=HT.out.Dl hinv.kept HU.out hg0 HNE.out
      obtain⟨tb,tbo,rfl,htb,htc⟩:=htab.1.get hmt
      obtain⟨t0,t1,_,_⟩:=Tab.fe htc
      have hcl:=HC.out ts[m] (lgm hmt)
      obtain⟨cb,co,hce,hcb,hcc⟩:=(htab.2 ts[m] (lgm hmt)).1.get hcl
      have z4:=hcc 4 _ rfl
      have s3:=hinv.own.fM fF hinv.len.symm hil (j:= 3) rfl
      have s4:=hinv.own.fM fF hinv.len.symm hil (j:= 4) rfl
      have s4f:=hinv.own.jX hinv.len.symm (i*7+4)
      have hqz:=hinv.own.lt q rfl
      simp only[Nat.zero_mul,Nat.add_zero]at z4
      have hf:=hinv.fine ae[i] (lgm hil)
      have hol:=U5 hil
      obtain⟨⟨xn,xt,xs,xr,xA,xc,xo,xj,xd⟩,hx⟩:∃x:Col,ae[i]=x:=⟨_,rfl⟩
      rw[hx]at s3 s4 hf hol
      rw[hce]at t1
      obtain⟨tn,htn⟩:∃s,ts[m].name=s:=⟨_,rfl⟩
      rw[htn]at t0
      obtain⟨ol,Ua⟩:∃k:Nat,ts[m].ae[0].own.length=k:=⟨_,rfl⟩
      rw[Ua]at z4
      obtain⟨cl,ME⟩:∃k:Nat,ts[m].ae.length=k:=⟨_,rfl⟩
      rw[ME]at t1 hcl
      have hcl':decide (0<cl)=true:=by simpa using hcl
      have hk0:=aD (w:=wr) tb htb
      have hk1:=aD (w:=wr) cb hcb
      have hk2:=aD (w:=wr) q hqz
      have hk3:=aD (w:=wr) w.heap.size omA
      have HX:=qh hx
      have HF:=qh hf
      clear hinv h20 U5 htab htc hce hcc hx htn Ua ME hf
      by_cases hnm:tn=xr
      ·have hs:=KP hnm
       clear hnm
       by_cases ho0:0<ol
       ·have WA:decide (0<ol)=true:=by simpa using ho0
        go_upto_region 23 with (fail)
        refine af krA krA ?_;(repeat(go_big_quiet_step (fail)));refine wpQuiet_nil ?_;intro wq hq
        have HIQ:=qh (gY.out.below hq)
        clear hk0 hk1 hk2 hk3 p0 t0 t1 z4 s3 s4 s4f hs
        have s4:=HIQ.out.own.fM fF HIQ.out.len.symm hil (j:= 4) bb
        have hfq:=HIQ.out.fine ae[i] (lgm hil)
        rw[HX.out]at hfq
        have HFQ:=qh hfq
        have Qd:=qh hfq.cap
        have HXL:=qh hfq.list
        have hwq:=HIQ.out.res.lt
        simp only at s4
        clear hfq
        go_wp2_with fail
        (with_reducible refine(Fu xA xc xo.length xo (i:Int) _ HXL.out rfl omA Qd.out).mono ?_)
        rintro e w8 ⟨⟨A8,c8,rfl,hc8,hs8,hA8⟩,hb8⟩
        have Zk:(jC xo (i:Int)).length≤xo.length+1:=Dt (fun a b:Int=>a<b) xo (i:Int)
        have hpos:0<(jC xo (i:Int)).length:=List.length_pos_of_mem ((Dr (fun a b:Int=>a<b) xo (i:Int) (i:Int)).2 (.inr rfl))
        have HI8:=qh (HIQ.out.below hb8)
        have s4':=HI8.out.own.fM fF HI8.out.len.symm hil (j:= 4) bb
        have s4f:=HI8.out.own.jX HI8.out.len.symm (i*7+4)
        have hw8:=hb8.size
        have hcf:dU 100 (w.heap.size+3) w8 ⟨xn,xt,xs,xr,A8,c8,jC xo (i:Int),xj,xd⟩:=by
         have hf8:=HI8.out.fine ae[i] (lgm hil)
         rw[HX.out]at hf8
         refine⟨hf8.name,hf8.ns,hf8.refs,show (jC xo (i:Int)).length≤100 by omega,hc8,hs8,fun a ha =>?_,fun a ha =>?_⟩
         ·rcases hA8 with h|h
          ·exact hf8.up a (h▸ha)
          ·have:=h a ha
           omega
         ·obtain⟨b9,o9,he9,hb9,_⟩:=hs8 hpos
          have ha:A8=some a:=ha
          rw[he9]at ha
          injection ha with ha
          subst ha
          exact hb9
        have HCF:=qh hcf
        clear hcf hs8 hA8 hc8 hb8 HIQ HFQ Qd HXL s4
        go_wp2_with fail
        go_roundw
        case rel=>exact⟨m+1,ae.set i ⟨xn,xt,xs,xr,A8,c8,jC xo (i:Int),xj,xd⟩,by omega,by go_num,HI8.out.set hil ⟨xn,xt,xs,xr,A8,c8,jC xo (i:Int),xj,xd⟩ (j:= 4) omA rfl bb HCF.out,fun k hk hki=>by rw[List.getElem_set_ne omA];exact H20.out k (by simpa using hk) hki,fun hk=>by rw[List.getElem_set_self];show (jC xo (i:Int)).length≤20+(m+1);omega⟩
        case measure=>exact meA
       ·have WA:decide (0<ol)=false:=by simpa using ho0
        go_upto_region 23 with (fail)
        refine af krA krA ?_;(repeat(go_big_quiet_step (fail)));refine wpQuiet_nil ?_;intro wq hq
        clear hk0 hk1 hk2 hk3 p0 t0 t1 z4 s3 s4 s4f hs
        have HIQ:=qh (gY.out.below hq)
        go_wp2_with fail
        go_roundw
        case rel=>exact⟨m+1,ae,by omega,by go_num,HIQ.out,H20.out,fun hk=>by rw[HX.out];exact Nat.le_succ_of_le hol⟩
        case measure=>exact meA
      ·have hs:=Ig hnm
       clear hnm
       go_upto_region 23 with (fail)
       refine af krA krA ?_;(repeat(go_big_quiet_step (fail)));refine wpQuiet_nil ?_;intro wq hq
       clear hk0 hk1 hk2 hk3 p0 t0 t1 z4 s3 s4 s4f hs
       have HIQ:=qh (gY.out.below hq)
       go_wp2_with fail
       go_roundw
       case rel=>exact⟨m+1,ae,by omega,by go_num,HIQ.out,H20.out,fun hk=>by rw[HX.out];exact Nat.le_succ_of_le hol⟩
       case measure=>exact meA
     ·have hmt':decide (m<ts.length)=false:=by simpa using hmt
      clear hinv h20
      have hme:m=ts.length:=by omega
      go_wp2_with fail
      go_roundw
      case rel=>exact⟨i+1,ae,by omega,by go_num,gY.out,H20.out⟩
      case measure=>exact meA
   ·have hlt':decide (i<n)=false:=by simpa using hlt
    clear hci
    have hinv:=gY.out
    obtain⟨r0,r1,r2,r3⟩:=Tab.blk hinv.res
    have f0:=hinv.res.frozen 0
    have f1:=hinv.res.frozen 1
    have f2:=hinv.res.frozen 2
    have f3:=hinv.res.frozen 3
    have HE:=qh hinv.toEnd
    clear hinv gY
    go_wp2_with fail
    refine bodyPost_ret (v:= .agg #[.string nm,.slice (some ⟨q,0,none⟩) n cap,.int .i64 er3,.int .i64 rt]) (by simp[results,Tryz.results65,go_sem,r0,r1,r2,r3]) rfl ?_
    have hE:=(((HE.out.set 0 (.string nm)).set 1 (.slice (some ⟨q,0,none⟩) n cap)).set 2 (.int .i64 er3)).set 3 (.int .i64 rt)
    exact⟨ae,er3,rfl,hE.own,hE.len,hE.low,hE.tape,hE.kept⟩
def eH:Col:=⟨⟨#[99,48]⟩,1,⟨#[112,101,114,115,111,110]⟩,⟨#[]⟩,none,0,[],0,0⟩
def dR(b:Nat):Col:=⟨⟨#[99,49]⟩,2,⟨#[]⟩,⟨#[]⟩,some ⟨b,0,none⟩,1,[0],0,0⟩
def qo(b q:Nat):Tab:=⟨⟨#[116,48]⟩,some ⟨q,0,none⟩,2,[eH,dR b],0,0⟩
theorem M7(ts:List Tab)(b q:Nat):bZ ts [eH,dR b] 0 0 0 0 eH=0:=by
 have h1:cE1 eH=false:=by decide +kernel
 have h2:cE2 [eH,dR b] 0 eH=false:=bD (fun⟨k,h,hk,_⟩=>by omega)
 have hr:(!eH.refs.toList.isEmpty)=false:=by decide +kernel
 have h3:∀tg,cE3 eH tg=false:=fun tg=>by rw[cE3,hr];rfl
 have h4:∀tg,cE4 ts eH tg=false:=fun tg=>by rw[cE4,hr,Bool.and_false,Bool.false_and,Bool.or_false];rfl
 have h5:cE5 [eH,dR b] eH=false:=by
  have:pb (fT [eH,dR b] eH.own)=true:=bS (fun i h=>by simp[eH]at h)
  rw[cE5,hr,this]
  simp[eH,dR,aB]
 have h6:cE6 0 0 0 eH=false:=by rfl
 have h7:∀tg,cE7 ts 0 eH tg=false:=fun tg=>by rw[cE7,hr];rfl
 unfold bZ
 simp only[h1,h2,h3,h4,h5,h6,h7]
 rfl
theorem M6(ts:List Tab)(b q:Nat):bZ ts [eH,dR b] 0 0 0 1 (dR b)=0:=by
 have h1:cE1 (dR b)=false:=by
  have e1:dX (dR b).name=true:=by show dX ⟨#[99,49]⟩=true;decide +kernel
  have e2:(!(dR b).ns.toList.isEmpty)=false:=by show (!(⟨#[]⟩:ByteArray).toList.isEmpty)=false;decide +kernel
  rw[cE1,e1,e2]
  rfl
 have h2:cE2 [eH,dR b] 1 (dR b)=false:=bD (fun⟨k,h,hk,he⟩=>by
  obtain rfl:k=0:=by omega
  have he:(⟨#[99,48]⟩:ByteArray)=⟨#[99,49]⟩:=he
  exact absurd he (by decide +kernel))
 have hr:(!(dR b).refs.toList.isEmpty)=false:=by show (!(⟨#[]⟩:ByteArray).toList.isEmpty)=false;decide +kernel
 have hn:(!(dR b).ns.toList.isEmpty)=false:=hr
 have h3:∀tg,cE3 (dR b) tg=false:=fun tg=>by rw[cE3,hr];rfl
 have h4:∀tg,cE4 ts (dR b) tg=false:=fun tg=>by rw[cE4,hr,Bool.and_false,Bool.false_and,Bool.or_false];rfl
 have h5:cE5 [eH,dR b] (dR b)=false:=by
  have:pb (fT [eH,dR b] (dR b).own)=true:=bS (fun i h=>by
   have h':i<1:=h
   obtain rfl:i=0:=by omega
   refine⟨show (0:Int)≤0 by omega,show (0:Int).toNat<2 by decide,fun h0=>absurd h0 omA,?_⟩
   rintro⟨e,_⟩
   have e:(⟨#[112,101,114,115,111,110]⟩:ByteArray)=⟨#[]⟩:=e
   exact absurd e (by decide +kernel))
  rw[cE5,hr,this]
  simp[eH,dR,aB]
 have h6:cE6 0 0 1 (dR b)=false:=by rfl
 have h7:∀tg,cE7 ts 1 (dR b) tg=false:=fun tg=>by rw[cE7,hr];rfl
 unfold bZ
 simp only[h1,h2,h3,h4,h5,h6,h7]
 rfl
theorem Ph(b q:Nat):aR [qo b q]:=by
 refine⟨by simp,fun i h =>?_⟩
 have h':i<1:=by simpa using h
 obtain rfl:i=0:=by omega
 refine⟨?_,fun k hk=>by omega,?_⟩
 ·show dX ⟨#[116,48]⟩=true
  decide +kernel
 ·show jy [qo b q] 0 (qo b q)=0
  have hs:jU (qo b q)=true:=rfl
  rw[jy,if_pos hs]
  refine iE fun i hi =>?_
  have hi':i<2:=hi
  rcases(show i=0∨i=1 by omega) with rfl|rfl
  ·exact M7 _ b q
  ·exact M6 _ b q
theorem Js(b q:Nat):aN [qo b q]:=by
 refine⟨by simp,fun t ht =>?_⟩
 rw[List.mem_singleton.1 ht]
 refine⟨show 2≤1000000 by omega,show 2≤1000000 by omega,Nat.le_refl 2,fun x hx =>?_⟩
 have hx:x=eH∨x=dR b:=by simpa[qo]using hx
 rcases hx with rfl|rfl
 ·exact⟨show 2≤1000000 by omega,show 6≤1000000 by omega,show 0≤1000000 by omega,show 0≤1000000 by omega⟩
 ·exact⟨show 2≤1000000 by omega,show 0≤1000000 by omega,show 0≤1000000 by omega,show 1≤1000000 by omega⟩
theorem Fe{P:Prop}(h:P:=by
 refine hK.out _ _ _ ⟨(HIX.out.cat.below Cb hzc),(HBX.out.below Cb hzT)⟩ (fun hHeld =>?_)
 clear hK K
 refine tkT 7 hHeld ?_ (hy:=by intro w' hSw;obtain⟨sw1,sw2⟩:=hSw;obtain⟨sa0,sa1,sa2,sa3,sa4,sa5,sa6,sa7⟩:=Cat.blk sw1;obtain⟨sb0,sb1,sb2,sb3⟩:=Tab.blk sw2;clear sw1 sw2;go_simp;first|done|with_reducible rfl)
 refine rzT 8 (fun K hK =>?_)
 clear hHeld
 have MQ:=HBD.out.below Cb hzX
 have s0:=MQ.cell 0
 have sf:=MQ.frozen 0
 simp only[gE3]at s0
 go_simp
 refine hK.out _ _ _ ?_
 clear hK K
 refine aM krA ?_ _
 go_wp2_with fail
 go_meet
 refine⟨A10,c10,by simpa using FN,?_,?_,fun a ha =>?_,ai (aI Cb _) (.inl rfl) _⟩
 ·have:=MQ.aH 0 (.slice A10 (ts.length+1) c10)
  simpa using this
 ·have:=IK.far (p:=⟨V.heap.size,0,none⟩) (fun a ha e=>by have:=(zM a ha).1;have e:a.block=V.heap.size:=e;omega) (.slice A10 (ts.length+1) c10)
  simpa using this
 ·have:=zM a ha
  simpa using this):P:=h
def lu(B:Nat)(A:Option Addr)(ts:List Tab):Prop:=(∀a,A=some a→a.block<B) ∧ ∀t∈ts,(∀a,t.A=some a→a.block<B) ∧ ∀x∈t.ae,∀a,x.A=some a→a.block<B
theorem lu.mono{B B':Nat}{A:Option Addr}{ts:List Tab}(h:lu B A ts)(hB:B≤B'):lu B' A ts:=
 ⟨fun a ha=>Nat.lt_of_lt_of_le (h.1 a ha) hB,fun t ht=>⟨fun a ha=>Nat.lt_of_lt_of_le ((h.2 t ht).1 a ha) hB,fun x hx a ha=>Nat.lt_of_lt_of_le ((h.2 t ht).2 x hx a ha) hB⟩⟩
theorem lu.ne{B q:Nat}{A:Option Addr}{ts:List Tab}(h:lu B A ts)(hq:B≤q):zg q A ts:=
 ⟨fun a ha e=>by have:=h.1 a ha;omega,fun t ht=>⟨fun a ha e=>by have:=(h.2 t ht).1 a ha;omega,fun x hx a ha e=>by have:=(h.2 t ht).2 x hx a ha;omega⟩⟩
theorem aF.wJ{w w':World}{A:Option Addr}{ts:List Tab}{d:Nat}(h:aF w w.heap.size A ts)(hg:w.grownBy w' (some d))(hne:zg d A ts):aF w' w'.heap.size A ts:=
 ⟨h.1.grown hg (fun a ha e=>hne.1 a ha ba),fun t ht=>⟨(h.2 t ht).1.grown hg (fun a ha e=>(hne.2 t ht).1 a ha ba),fun x hx=>((h.2 t ht).2 x hx).grown hg (fun a ha e=>(hne.2 t ht).2 x hx a ha ba)⟩⟩
theorem gu.ne{B q:Nat}{A:Option Addr}{ts:List Tab}(h:gu B A ts)(hq:q<B):zg q A ts:=
 ⟨fun a ha e=>by have:=h.1 a ha;omega,fun t ht=>⟨fun a ha e=>by have:=(h.2 t ht).1 a ha;omega,fun x hx a ha e=>by have:=(h.2 t ht).2 x hx a ha;omega⟩⟩
theorem gu.app{B:Nat}{A A':Option Addr}{ts:List Tab}{t:Tab}(h:gu B A ts)(h1:∀a,A'=some a→B≤a.block)(h2:∀a,t.A=some a→B≤a.block)(h3:∀x∈t.ae,∀a,x.A=some a→B≤a.block):gu B A' (ts ++ [t]):=
 ⟨h1,fun y hy=>by
  rcases List.mem_append.1 hy with hy|hy
  ·exact h.2 y hy
  ·rw[List.mem_singleton.1 hy];exact⟨h2,h3⟩⟩
theorem lu.app{B:Nat}{A A':Option Addr}{ts:List Tab}{t:Tab}(h:lu B A ts)(h1:∀a,A'=some a→a.block<B)(h2:∀a,t.A=some a→a.block<B)(h3:∀x∈t.ae,∀a,x.A=some a→a.block<B):lu B A' (ts ++ [t]):=
 ⟨h1,fun y hy=>by
  rcases List.mem_append.1 hy with hy|hy
  ·exact h.2 y hy
  ·rw[List.mem_singleton.1 hy];exact⟨h2,h3⟩⟩
theorem aN.app{ts:List Tab}{t:Tab}(h:aN ts)(hl:ts.length≤100)(ht:Hy t):aN (ts ++ [t]):=
 ⟨by simp;omega,fun y hy=>by
  rcases List.mem_append.1 hy with hy|hy
  ·exact h.tabs y hy
  ·rw[List.mem_singleton.1 hy];exact ht⟩
theorem aF.app{w:World}{A A':Option Addr}{ts:List Tab}{t:Tab}(h:aF w w.heap.size A ts)(hs:ag w w.heap.size Tab.cells 4 A' (ts ++ [t]))(ht:gy w w.heap.size t.A t.ae):aF w w.heap.size A' (ts ++ [t]):=
 ⟨hs,fun y hy=>by
  rcases List.mem_append.1 hy with hy|hy
  ·exact h.2 y hy
  ·rw[List.mem_singleton.1 hy];exact ht⟩
structure nU (w:World) (g b:Nat) (A:Option Addr) (c:Nat) (ts:List Tab) (u:World):Prop where
 cat:Blk u (w.heap.size+1) 33 #[.slice A ts.length c,.slice none 0 0,.slice none 0 0,.slice none 0 0,.slice none 0 0,.slice none 0 0,.slice none 0 0,.slice none 0 0]
 res:Blk u w.heap.size 33 #[.slice none 0 0,.slice none 0 0,.slice none 0 0,.slice none 0 0,.slice none 0 0,.slice none 0 0,.slice none 0 0,.slice none 0 0]
 tabs:aF u u.heap.size A ts
 up:gu (w.heap.size+2) A ts
 bd:lu u.heap.size A ts
 ok:aR ts
 vW:aN ts
 cap:ts.length≤c
 tape:aL u g b
 grown:w.grownBy u (some g)
 ltg:g<w.heap.size
 ltb:b<w.heap.size
section
variable {w u v:World}{g b:Nat}{A:Option Addr}{c:Nat}{ts:List Tab}
theorem nU.next(h:nU w g b A c ts u)(hg:u.grownBy v (some g))(hk:aL v g b):nU w g b A c ts v:=by
 have h1:=h.ltg
 have hne:∀i,w.heap.size≤i→some i≠some g:=fun i hi e=>by injection e with e;omega
 exact⟨h.cat.grown hg (hne _ omA),h.res.grown hg (hne _ omA),h.tabs.grown h.up omA hg,h.up,h.bd.mono hg.size,h.ok,h.vW,h.cap,hk,au h.grown hg,h.ltg,h.ltb⟩
theorem Jr:aR []:=⟨by simp,fun i h=>by simp at h⟩
theorem Ih:aN []:=⟨by simp,fun t h=>by simp at h⟩
end
theorem dU.OZ{M w0:Nat}{u:World}{x:Col}(h:dU M w0 u x){p:Addr}(hp:p.block<w0)(z:Value):dU M w0 (u.setCell p z) x:=
 ⟨h.name,h.ns,h.refs,h.own,h.cap,by have:=h.list.far (p:=p) (fun a ha e=>by have:=h.up a ha;omega) z;simpa using this,h.up,fun a ha=>by simpa using h.lt a ha⟩
theorem aL.U9{w:World}{g b:Nat}(h:aL w g b):aL w.drew g b:=h.below (brf.drew)
theorem CE(g b n:Nat)(w:World)(hk:aL w g b)(hn:n≤3)(hn1:1≤n):
 Calls Tryz.prog 25 #[.pointer (some ⟨g,0,none⟩),.int .i64 n] w fun e w' =>
  ∃(A:Option Addr) (c:Nat) (ts:List Tab),e=.returned (.agg #[.slice A ts.length c,.slice none 0 0,.slice none 0 0,.slice none 0 0,.slice none 0 0,.slice none 0 0,.slice none 0 0,.slice none 0 0])∧aF w' w'.heap.size A ts∧gu w.heap.size A ts∧lu w'.heap.size A ts∧aN ts∧aR ts ∧ 0<ts.length∧ts.length≤n∧aL w' g b∧w.grownBy w' (some g):=by
 have HK:=qh hk
 have hgl:=hk.ltg
 have hbl:=hk.lt
 obtain⟨ic,hic,qZ,qY,qX⟩:=info_parts Oh
 obtain⟨it,hit,II,IG,IE⟩:=info_parts Oe
 clear hk
 go_enter Tryz.func25,Tryz.ntmps25
 go_upto_region 2 with (fail)
 refine aj (P:=fun u=>Code.wp _ _ _ _ u) (R:=fun u=>nU w g b none 0 ([]:List Tab) u) ?_ ?_
 ·refine⟨Blk.new' spA,(Blk.new' rfl).alloc _,⟨ag.nil,fun t h=>by simp at h⟩,⟨fun a ha=>(by cases ha),fun t h=>by simp at h⟩,⟨fun a ha=>(by cases ha),fun t h=>by simp at h⟩,Jr,Ih,Nat.le_refl _,(HK.out.alloc _).alloc _,aI ak _,hgl,hbl⟩
 rintro W hinv
 have gY:=qh hinv
 clear hinv HK
 go_upto_block 0 with (fail)
 go_cut [] (fun wc =>∃(A:Option Addr) (c:Nat) (ts:List Tab),ts.length≤n∧nU w g b A c ts wc)
 case first =>
  go_wp2_with fail
  go_loopw [6] (fun vi wr =>∃(i:Nat) (A:Option Addr) (c:Nat) (ts:List Tab),i≤n∧vi=.int .i64 i∧ts.length≤i∧nU w g b A c ts wr) (fun vi _=>n-(intOf vi).toNat)
  case atStart=>exact⟨0,none,0,[],Nat.zero_le _,rfl,Nat.le_refl _,gY.out⟩
  case round =>
   clear gY
   obtain⟨i,A,c,ts,hin,rfl,htl,hinv⟩:=hrel
   have gY:=qh hinv
   have hwz:=hinv.cat.lt
   have hU:=hinv.tape
   clear hinv
   by_cases hlt:i<n
   ·have hlt':decide (i<n)=true:=by simpa using hlt
    have tC:(i:Int)<(n:Int):=by omega
    have HT0:=qh hU
    clear hU
    go_wp2_with fail
    (with_reducible refine(Ap ⟨#[116]⟩ i omA (by decide) _).mono ?_)
    rintro e w1 ⟨rfl,hb1⟩
    obtain⟨nx,hnx⟩:∃nx:ByteArray,(⟨#[116]⟩++⟨#[yQ i]⟩:ByteArray)=nx:=⟨_,rfl⟩
    have WB:nx.size≤2:=by rw[←hnx,ByteArray.size_append];exact Nat.le_refl 2
    rw[hnx]
    have hg1:wr.grownBy w1 (some g):=aI hb1 _
    have HT1:=qh (HT0.out.below hb1)
    clear HT0 hnx hb1
    go_wp2_with fail
    (with_reducible refine(aG g b 2 _ HT1.out omA omA).mono ?_)
    rintro e w2 ⟨r2,rfl,hr2,hk2,hg2⟩
    have BU:=au hg1 hg2
    have HT2:=qh hk2
    clear HT1 hk2 hg1 hg2
    go_wp2_with fail
    (with_reducible refine(aG g b 4 _ (HT2.out.alloc _) omA omA).mono ?_)
    rintro e w3 ⟨r3,rfl,hr3,hk3,hg3⟩
    have BN:r3<4:=by rcases hr3 with h|h<;>omega
    have hL:Blk w3 w2.heap.size 3 #[.int .i64 0,.int .i64 0,.int .i64 25,.int .i64 40]:=Blk.grown (Blk.new' rfl) hg3 (fun e=>by injection e with e;have:=BU.size;omega)
    obtain⟨z3,hz3⟩:∃z:Int,w3.cell? ⟨w2.heap.size,r3,none⟩=some (.int .i64 z):=by
     rw[hL.cell]
     rcases(show r3=0∨r3=1∨r3=2∨r3=3 by omega) with rfl|rfl|rfl|rfl
     all_goals exact⟨_,rfl⟩
    have Rs:=au (bM BU _) hg3
    have HT3:=qh hk3
    clear HT2 hk3 BU hg3 hL hr2 hr3
    go_upto_region 6 with (fail)
    obtain⟨T,hT⟩:∃T,w3.heap.size=T:=⟨_,rfl⟩
    rw[hT]
    refine aj (P:=fun u=>Code.wp _ _ _ _ u) (R:=fun u=>Blk u T 61 #[.string nx,.slice none 0 0,.int .i64 r2,.int .i64 z3]∧aL u g b∧wr.grownBy u (some g)) ⟨?_,?_,?_⟩ ?_
    ·exact Blk.new' hT
    ·exact HT3.out.alloc _
    ·exact bM Rs _
    have hTz:wr.heap.size≤T:=by have:=Rs.size;omega
    clear HT3 Rs hT hz3
    rintro U ⟨hBU,hKU,hGU⟩
    have HBU:=qh hBU
    have HKU:=qh hKU
    have hUz:=hBU.lt
    clear hBU hKU
    go_wp2_with fail
    (with_reducible refine(aG g b 3 _ HKU.out omA omA).mono ?_)
    rintro e w4 ⟨r4,rfl,hr4,hk4,hg4⟩
    have TN:r4<3:=by rcases hr4 with h|h<;>omega
    have hG4:=au hGU hg4
    have HT4:=qh hk4
    have HB4:=qh (HBU.out.grown hg4 inA)
    have hz4:=hG4.size
    have Xx:=HB4.out.lt
    clear HKU HBU hGU hk4 hg4 hr4
    go_wp2_with fail
    obtain⟨wo,rfl⟩:∃wo:World,wo=wr:=⟨_,rfl⟩
    go_loopw [8] (fun vm wi =>∃(mm:Nat) (A9:Option Addr) (c9:Nat) (ae:List Col),vm=.int .i64 mm∧ae.length+mm=2+r4∧Blk wi T 61 #[.string nx,.slice A9 ae.length c9,.int .i64 r2,.int .i64 z3]∧ah wi (T+1) 109 Col.cells 7 (.slice A9 ae.length c9) ae∧(∀x∈ae,GK x)∧aL wi g b∧wo.grownBy wi (some g)) (fun vm _=>(intOf vm).toNat)
    case atStart=>exact⟨2+r4,none,0,[],by go_num,by simp,HB4.out,ah.nil,fun x h=>absurd h spA,HT4.out,hG4⟩
    case round =>
     clear HB4 HT4 hG4 hz4 Xx hUz
     obtain⟨mm,A9,c9,ae,rfl,hmm,hB5,hO5,hN5,hK5,hG5⟩:=hrel
     have hI5:=gY.out.next hG5 hK5
     have HI5:=qh hI5
     have HB5:=qh hB5
     have HO5:=qh hO5
     have HN5:=qh hN5
     have HK5:=qh hK5
     have hrow:=hO5.row
     have Xw:=hB5.lt
     have je:=hI5.cat
     obtain⟨p0,p1,p2,p3⟩:=Tab.blk hB5
     have hz5:=hG5.size
     by_cases hm0:0<mm
     ·have Za:(0:Int)<(mm:Int):=by omega
      have Zz:ae.length≤4:=by omega
      clear hI5 hO5 hN5 hK5
      go_upto_region 9 with (fail)
      clear p0 p1 p2 p3
      have zU:=qh je
      refine aO (S:=(fun w'=>Blk w' (w.heap.size+1) 33 #[.slice A ts.length c,.slice none 0 0,.slice none 0 0,.slice none 0 0,.slice none 0 0,.slice none 0 0,.slice none 0 0,.slice none 0 0]∧Blk w' T 61 #[.string nx,.slice A9 ae.length c9,.int .i64 r2,.int .i64 z3])) [12] krA ⟨je.drew,hB5.drew⟩ (fun hHeld =>?_)
      clear je hB5
      refine tkT 0 hHeld ?_ (hy:=by intro w' hSw;obtain⟨sw1,sw2⟩:=hSw;obtain⟨sa0,sa1,sa2,sa3,sa4,sa5,sa6,sa7⟩:=Cat.blk sw1;obtain⟨sb0,sb1,sb2,sb3⟩:=Tab.blk sw2;clear sw1 sw2;go_simp;first|done|with_reducible rfl)
      refine tkT 1 hHeld ?_ (hy:=by intro w' hSw;obtain⟨sw1,sw2⟩:=hSw;obtain⟨sa0,sa1,sa2,sa3,sa4,sa5,sa6,sa7⟩:=Cat.blk sw1;obtain⟨sb0,sb1,sb2,sb3⟩:=Tab.blk sw2;clear sw1 sw2;go_simp;first|done|with_reducible rfl)
      refine tkT 2 hHeld ?_ (hy:=by intro w' hSw;obtain⟨sw1,sw2⟩:=hSw;obtain⟨sa0,sa1,sa2,sa3,sa4,sa5,sa6,sa7⟩:=Cat.blk sw1;obtain⟨sb0,sb1,sb2,sb3⟩:=Tab.blk sw2;clear sw1 sw2;go_simp;first|done|with_reducible rfl)
      refine tkT 3 hHeld ?_ (hy:=by intro w' hSw;obtain⟨sw1,sw2⟩:=hSw;obtain⟨sa0,sa1,sa2,sa3,sa4,sa5,sa6,sa7⟩:=Cat.blk sw1;obtain⟨sb0,sb1,sb2,sb3⟩:=Tab.blk sw2;clear sw1 sw2;go_simp;first|done|with_reducible rfl)
      refine tkT 4 hHeld ?_ (hy:=by intro w' hSw;obtain⟨sw1,sw2⟩:=hSw;obtain⟨sa0,sa1,sa2,sa3,sa4,sa5,sa6,sa7⟩:=Cat.blk sw1;obtain⟨sb0,sb1,sb2,sb3⟩:=Tab.blk sw2;clear sw1 sw2;go_simp;first|done|with_reducible rfl)
      refine tkT 5 hHeld ?_ (hy:=by intro w' hSw;obtain⟨sw1,sw2⟩:=hSw;obtain⟨sa0,sa1,sa2,sa3,sa4,sa5,sa6,sa7⟩:=Cat.blk sw1;obtain⟨sb0,sb1,sb2,sb3⟩:=Tab.blk sw2;clear sw1 sw2;go_simp;first|done|with_reducible rfl)
      refine tkT 6 hHeld ?_ (hy:=by intro w' hSw;obtain⟨sw1,sw2⟩:=hSw;obtain⟨sa0,sa1,sa2,sa3,sa4,sa5,sa6,sa7⟩:=Cat.blk sw1;obtain⟨sb0,sb1,sb2,sb3⟩:=Tab.blk sw2;clear sw1 sw2;go_simp;first|done|with_reducible rfl)
      refine tkT 7 hHeld ?_ (hy:=by intro w' hSw;obtain⟨sw1,sw2⟩:=hSw;obtain⟨sa0,sa1,sa2,sa3,sa4,sa5,sa6,sa7⟩:=Cat.blk sw1;obtain⟨sb0,sb1,sb2,sb3⟩:=Tab.blk sw2;clear sw1 sw2;go_simp;first|done|with_reducible rfl)
      refine r1T 8 (fun K hK =>?_)
      go_simp
      (with_reducible refine(CB g b (w.heap.size+2) A c ts.length ts _ ae.length _ HK5.out.U9 (HI5.out.tabs.next ak) rfl HI5.out.up omA omA (fun t ht=>by obtain⟨k,hk,rfl⟩:=List.getElem_of_mem ht;exact(HI5.out.ok.ae hk).1) HI5.out.vW omA ⟨nx,.slice A9 ae.length c9,r2,z3,rfl,rfl⟩).mono ?_)
      rintro e w5 ⟨⟨xn,xt,xs,xr,xA,xc,xo,xj,xd⟩,rfl,hxn,hk6,hg6⟩
      have WE:some T≠some g:=fun e=>by injection e with e;omega
      have WG:some (w.heap.size+1)≠some g:=fun e=>by injection e with e;omega
      have HK6:=qh hk6
      have hG6:wo.grownBy w5 (some g):=au (rz hG5) hg6
      have HO6:=qh (HO5.out.drew.grown hg6 omA)
      have hz6:=hG6.size
      have HXN:=qh hxn
      have ZM:T<w5.heap.size:=by have:=hg6.size;simp at this;omega
      clear hk6 hxn
      go_wp2_with fail
      refine hK.out _ _ _ ⟨(hHeld.1.grown hg6 WG),(hHeld.2.grown hg6 WE)⟩ (fun hHeld =>?_)
      clear hK K
      clear hg6
      refine r1T 9 (fun K hK =>?_)
      dsimp only[Col.cells]
      go_simp
      refine hK.out _ _ _ ⟨(hHeld.1.alloc _),(hHeld.2.alloc _)⟩ (fun hHeld =>?_)
      clear hK K
      refine r1T 10 (fun K hK =>?_)
      (refine av _ rfl (.tmp 33) (.tmp 41) 59 rfl 109 ic _ Col.cells 7 96 Tryz.underlying59 hic qZ qY qX rfl omA fF O7 (T+1) (.slice A9 ae.length c9) ae rfl (HO6.out.alloc _) _ _ _ [⟨xn,xt,xs,xr,xA,xc,xo,xj,xd⟩] rfl rfl (Blk.one (enc:=Col.cells) (x:=⟨xn,xt,xs,xr,xA,xc,xo,xj,xd⟩) (Blk.new' rfl) spA) smA mxA smA ?_;intro v' w6 hown6 hg7 OO)
      obtain⟨A10,c10,rfl,FN,zM⟩:=hown6.form
      have BL:∀k,k<T+1→some k≠(Value.slice A9 ae.length c9).ownBlock:=fun k hk e=>by have:=hrow _ e.symm;omega
      have HK7:=qh ((HK6.out.alloc _).FQ hg7 (BL g omA) (BL b omA))
      have hG7:wo.grownBy w6 (some g):=gV (bM hG6 _) hg7 (fun q e=>by have:=hrow q e;omega)
      refine hK.out _ _ _ ⟨(hHeld.1.grown hg7 (BL _ omA)),(hHeld.2.grown hg7 (BL _ omA))⟩ (fun hHeld =>?_)
      clear hK K
      have HB7:=qh hHeld.2
      have HO7:=qh hown6
      have ZK:=hHeld.2.lt
      obtain⟨_,s1,_,_⟩:=Tab.blk hHeld.2
      have sf:=hHeld.2.frozen 1
      clear hown6 hg7 OO FN zM
      refine tkT 11 hHeld ?_ (hy:=by intro w' hSw;obtain⟨sw1,sw2⟩:=hSw;obtain⟨sa0,sa1,sa2,sa3,sa4,sa5,sa6,sa7⟩:=Cat.blk sw1;obtain⟨sb0,sb1,sb2,sb3⟩:=Tab.blk sw2;clear sw1 sw2;go_simp;first|done|with_reducible rfl)
      refine rzT 12 (fun K hK =>?_)
      clear hHeld
      go_simp
      refine hK.out _ _ _ ?_
      clear hK K
      refine aM krA ?_ _
      clear s1 sf
      go_wp2_with fail
      go_roundw
      case rel =>
       refine⟨mm-1,A10,c10,ae ++ [⟨xn,xt,xs,xr,xA,xc,xo,xj,xd⟩],by go_num,by simp;omega,?_,HO7.out.far (fun k hk e =>?_) _,fun y hy =>?_,HK7.out.far smA smA _,ai hG7 (.inr smA) _⟩
       ·have:=HB7.out.aH 1 (.slice A10 (ae ++ [(⟨xn,xt,xs,xr,xA,xc,xo,xj,xd⟩:Col)]).length c10)
        simpa using this
       ·have h1:=HO7.out.row k hk
        have e:k=T:=e
        omega
       ·rcases List.mem_append.1 hy with h|h
        ·exact HN5.out y h
        ·rw[List.mem_singleton.1 h]
         exact HXN.out
      case measure=>exact meA
     ·obtain rfl:mm=0:=by omega
      have hpos:0<ae.length:=by omega
      have Xf:ae.length≤8:=by omega
      obtain⟨q,cap,hq,hTq⟩:=hO5.oF hpos
      injection hq with hq1 hq2 hq3
      subst hq1 hq3
      clear hq2 hI5 hO5 hN5 hK5
      obtain⟨a0,a1,a2,a3,a4,a5,a6,a7⟩:=Cat.blk je
      clear je
      go_wp2_with fail
      (with_reducible refine(KH g b (w.heap.size+2) (T+1) q ae.length c9 A c ts.length ts nx ae r2 z3 _ HK5.out HI5.out.tabs rfl HI5.out.up omA (gY.out.bd.ne omA) omA (fun t ht=>by obtain⟨k,hk,rfl⟩:=List.getElem_of_mem ht;exact(HI5.out.ok.ae hk).1) HI5.out.vW HO5.out rfl Xf HN5.out omA omA).mono ?_)
      rintro e w7 ⟨jq,er7,rfl,hO7,hl7,hf7,hk7,BQ⟩
      have hz7:=BQ.size
      have UT:T≠q:=by omega
      have hB7:Blk w7 T 61 #[.string nx,.slice (some ⟨q,0,none⟩) ae.length c9,.int .i64 r2,.int .i64 z3]:=(BQ.block T Xw omA UT).trans hB5
      have hG7:wo.grownBy w7 (some g):=BQ.up hG5 omA
      have HB7:=qh hB7
      have HO7:=qh hO7
      have HF7:=qh hf7
      have HK7:=qh hk7
      have HL7:=qh hl7
      obtain⟨p0,p1,p2,p3⟩:=Tab.blk hB7
      have f0:=hB7.frozen 0
      have f1:=hB7.frozen 1
      have f2:=hB7.frozen 2
      have f3:=hB7.frozen 3
      clear hB7 hO7 hf7 hk7 hl7 BQ hB5 a0 a1 a2 a3 a4 a5 a6 a7 HI5 HO5 HN5 HK5 HB5
      go_upto_region 11 with (fail)
      refine aj (P:=fun u=>Code.wp _ _ _ _ u) (R:=fun u=>Blk u T 61 #[.string nx,.slice (some ⟨q,0,none⟩) ae.length c9,.int .i64 er7,.int .i64 z3]∧ah u (T+1) 109 Col.cells 7 (.slice (some ⟨q,0,none⟩) ae.length c9) jq∧(∀x∈jq,dU 100 (T+1) u x)∧aL u g b∧wo.grownBy u (some g)) ⟨?_,?_,?_,?_,?_⟩ ?_
      ·with_reducible refine Blk.eq ((((HB7.out.aH 0 _).aH 1 _).aH 2 _).aH 3 _) ?_
       simp
      ·have iw:∀k,(Value.slice (some ⟨q,0,none⟩) ae.length c9).ownBlock=some k→k≠T:=fun k hk=>by have:=HO7.out.row k hk;omega
       exact(((HO7.out.far iw _).far iw _).far iw _).far iw _
      ·intro x hx
       have f:=HF7.out x hx
       have f':dU 100 (T+1) w7 x:=⟨f.name,f.ns,f.refs,f.own,f.cap,f.list,fun a ha=>by have:=f.up a ha;omega,f.lt⟩
       exact(((f'.OZ (Nat.lt_succ_self T) _).OZ (Nat.lt_succ_self T) _).OZ (Nat.lt_succ_self T) _).OZ (Nat.lt_succ_self T) _
      ·have n1:g≠T:=by omega
       have n2:b≠T:=by omega
       exact(((HK7.out.far n1 n2 _).far n1 n2 _).far n1 n2 _).far n1 n2 _
      ·exact ai (ai (ai (ai hG7 (.inr hTz) _) (.inr hTz) _) (.inr hTz) _) (.inr hTz) _
      clear HB7 HO7 HF7 HK7 hG7 p0 p1 p2 p3 f0 f1 f2 f3 UT
      rintro V ⟨hB8,hO8,hF8,hK8,hG8⟩
      have hI8:=gY.out.next hG8 hK8
      have HI8:=qh hI8
      have HB8:=qh hB8
      have HO8:=qh hO8
      have HF8:=qh hF8
      have Xv:=hB8.lt
      have Y3:=hO8.lt q rfl
      have Zv:=hI8.cat.lt
      obtain⟨a0,a1,a2,a3,a4,a5,a6,a7⟩:=Cat.blk hI8.cat
      clear hB8 hO8 hF8 hK8 hI8
      go_upto_region 12 with (fail)
      obtain⟨D,hD⟩:∃D,V.heap.size=D:=⟨_,rfl⟩
      rw[hD]
      refine aj (P:=fun u=>Code.wp _ _ _ _ u) (R:=fun u=>Blk u D 33 #[.slice A ts.length c,.slice none 0 0,.slice none 0 0,.slice none 0 0,.slice none 0 0,.slice none 0 0,.slice none 0 0,.slice none 0 0]∧Below V.heap.size V u) ⟨?_,?_⟩ ?_
      ·exact Blk.new' hD
      ·exact ak
      clear a0 a1 a2 a3 a4 a5 a6 a7
      rintro X ⟨hBD,hbX⟩
      rw[←hD]at hBD ⊢
      have hzX:=hBD.lt
      have hGX:wo.grownBy X (some g):=lU hG8 hbX
      have HIX:=qh (HI8.out.next (aI hbX _) (HI8.out.tape.below hbX))
      have HBX:=qh (HB8.out.below hbX Xv)
      have HOX:=qh (HO8.out.below hbX nlr)
      have HFX:Hid (∀x∈jq,dU 100 (T+1) X x):=qh (fun x hx=>(HF8.out x hx).keep (aI hbX none) (fun i e=>by cases e))
      have HBD:=qh hBD
      have hcX:=HIX.out.cat
      have hbT:=HBX.out
      have YQ:ts.length≤3:=by omega
      have Ui:∀x∈jq,∀a,x.A=some a→a.block<V.heap.size:=fun x hx=>(HF8.out x hx).lt
      have HLV:=qh Ui
      clear HB8 HO8 HF8 HI8 hG8 hbX hD Ui
      have hcells:(Tab.cells ⟨nx,some ⟨q,0,none⟩,c9,jq,er7,z3⟩).toArray=#[.string nx,.slice (some ⟨q,0,none⟩) ae.length c9,.int .i64 er7,.int .i64 z3]:=by simp[Tab.cells,HL7.out]
      have HCE:=qh hcells
      have hzc:w.heap.size+1<X.heap.size:=HIX.out.cat.lt
      have hzT:T<X.heap.size:=HBX.out.lt
      clear hcells
      go_cut [] (fun wc =>∃(A10:Option Addr) (c10:Nat),ts.length+1≤c10∧Blk wc V.heap.size 33 #[.slice A10 (ts.length+1) c10,.slice none 0 0,.slice none 0 0,.slice none 0 0,.slice none 0 0,.slice none 0 0,.slice none 0 0,.slice none 0 0]∧ag wc wc.heap.size Tab.cells 4 A10 (ts ++ [⟨nx,some ⟨q,0,none⟩,c9,jq,er7,z3⟩])∧(∀a,A10=some a→X.heap.size≤a.block∧a.block<wc.heap.size)∧X.grownBy wc (some V.heap.size))
      case first =>
       refine aO (S:=(fun w'=>Blk w' (w.heap.size+1) 33 #[.slice A ts.length c,.slice none 0 0,.slice none 0 0,.slice none 0 0,.slice none 0 0,.slice none 0 0,.slice none 0 0,.slice none 0 0]∧Blk w' T 61 #[.string nx,.slice (some ⟨q,0,none⟩) ae.length c9,.int .i64 er7,.int .i64 z3])) [8] krA ⟨hcX.drew,hbT.drew⟩ (fun hHeld =>?_)
       clear hcX hbT hBD
       refine tkT 1 hHeld ?_ (hy:=by intro w' hSw;obtain⟨sw1,sw2⟩:=hSw;obtain⟨sa0,sa1,sa2,sa3,sa4,sa5,sa6,sa7⟩:=Cat.blk sw1;obtain⟨sb0,sb1,sb2,sb3⟩:=Tab.blk sw2;clear sw1 sw2;go_simp;first|done|with_reducible rfl)
       refine tkT 2 hHeld ?_ (hy:=by intro w' hSw;obtain⟨sw1,sw2⟩:=hSw;obtain⟨sa0,sa1,sa2,sa3,sa4,sa5,sa6,sa7⟩:=Cat.blk sw1;obtain⟨sb0,sb1,sb2,sb3⟩:=Tab.blk sw2;clear sw1 sw2;go_simp;first|done|with_reducible rfl)
       refine tkT 4 hHeld ?_ (hy:=by intro w' hSw;obtain⟨sw1,sw2⟩:=hSw;obtain⟨sa0,sa1,sa2,sa3,sa4,sa5,sa6,sa7⟩:=Cat.blk sw1;obtain⟨sb0,sb1,sb2,sb3⟩:=Tab.blk sw2;clear sw1 sw2;go_simp;first|done|with_reducible rfl)
       refine r2T 0 5 (fun K hK =>?_) (fun K hK =>?_)
       ·go_simp
        refine hK.out _ _ _ ⟨(hHeld.1.alloc _),(hHeld.2.alloc _)⟩ (fun hHeld =>?_)
        clear hK K
        refine r2T 3 5 (fun K hK =>?_) (fun K hK =>?_)
        ·(refine av _ rfl (.tmp 49) (.tmp 51) 24 rfl 61 it _ Tab.cells 4 56 Tryz.underlying24 hit II IG IE rfl omA jL pQ X.heap.size (.slice (some ⟨X.heap.size,0,none⟩) 0 0) [] rfl (ah.empty nbA leA) _ _ _ ts rfl rfl (HIX.out.tabs.1.next ak) smA mxA leA ?_;intro v1 w9 oU hg9 UM;have hb9:Below X.heap.size X w9:=Below.grown ak hg9 leA (cu leA);rw[List.nil_append]at oU;have hz9:=hb9.size)
         refine hK.out _ _ _ ⟨(HIX.out.cat.below hb9 hzc),(HBX.out.below hb9 hzT)⟩ (fun hHeld =>?_)
         clear hK K
         refine r1T 5 (fun K hK =>?_)
         go_simp
         refine hK.out _ _ _ ⟨(hHeld.1.alloc _),(hHeld.2.alloc _)⟩ (fun hHeld =>?_)
         clear hK K
         refine r1T 6 (fun K hK =>?_)
         (refine av _ rfl (.tmp 52) (.tmp 54) 24 rfl 61 it _ Tab.cells 4 56 Tryz.underlying24 hit II IG IE rfl omA jL pQ X.heap.size v1 ts rfl (oU.alloc _) _ _ _ [⟨nx,some ⟨q,0,none⟩,c9,jq,er7,z3⟩] rfl rfl (Blk.one (enc:=Tab.cells) (x:=⟨nx,some ⟨q,0,none⟩,c9,jq,er7,z3⟩) (by rw[HCE.out];exact(Blk.new' rfl)) spA) smA mxA leA ?_;intro v2 w10 yz BV P6;have Cb:Below X.heap.size X w10:=Below.grown ak BV leA oU.row;have S9:=Cb.size;obtain⟨A10,c10,rfl,FN,IK,zM⟩:=yz.slice jL)
         exact Fe
        ·go_simp
         refine hK.out _ _ _ ⟨(hHeld.1.alloc _),(hHeld.2.alloc _)⟩ (fun hHeld =>?_)
         clear hK K
         refine r1T 3 (fun K hK =>?_)
         (refine av _ rfl (.tmp 49) (.tmp 51) 24 rfl 61 it _ Tab.cells 4 56 Tryz.underlying24 hit II IG IE rfl omA jL pQ X.heap.size (.slice (some ⟨X.heap.size,0,none⟩) 0 0) [] rfl (ah.empty nbA leA) _ _ _ ts rfl rfl (HIX.out.tabs.1.next ak) smA mxA leA ?_;intro v1 w9 oU hg9 UM;have hb9:Below X.heap.size X w9:=Below.grown ak hg9 leA (cu leA);rw[List.nil_append]at oU;have hz9:=hb9.size)
         have hbt:=Blk.grown (g:=X.heap.size+1) (t:= 61) (cs:= #[.string nx,.slice (some ⟨q,0,none⟩) ae.length c9,.int .i64 er7,.int .i64 z3]) (by first|exact Blk.new' sdA|exact(Blk.new' sdA).drew) hg9 (jB omA)
         refine hK.out _ _ _ ⟨(HIX.out.cat.below hb9 hzc),(HBX.out.below hb9 hzT)⟩ (fun hHeld =>?_)
         clear hK K
         refine r1T 6 (fun K hK =>?_)
         (refine av _ rfl (.tmp 52) (.tmp 54) 24 rfl 61 it _ Tab.cells 4 56 Tryz.underlying24 hit II IG IE rfl omA jL pQ X.heap.size v1 ts rfl oU _ _ _ [⟨nx,some ⟨q,0,none⟩,c9,jq,er7,z3⟩] rfl rfl (Blk.one (enc:=Tab.cells) (x:=⟨nx,some ⟨q,0,none⟩,c9,jq,er7,z3⟩) (by rw[HCE.out];exact hbt) hbt.lt) smA mxA leA ?_;intro v2 w10 yz BV P6;have Cb:Below X.heap.size X w10:=Below.grown ak BV leA oU.row;have S9:=Cb.size;obtain⟨A10,c10,rfl,FN,IK,zM⟩:=yz.slice jL)
         exact Fe
       ·go_simp
        refine hK.out _ _ _ ⟨(hHeld.1.alloc _),(hHeld.2.alloc _)⟩ (fun hHeld =>?_)
        clear hK K
        refine r1T 0 (fun K hK =>?_)
        go_simp
        refine hK.out _ _ _ ⟨(hHeld.1.alloc _),(hHeld.2.alloc _)⟩ (fun hHeld =>?_)
        clear hK K
        refine r1T 3 (fun K hK =>?_)
        (refine av _ rfl (.tmp 49) (.tmp 51) 24 rfl 61 it _ Tab.cells 4 56 Tryz.underlying24 hit II IG IE rfl omA jL pQ X.heap.size (.slice (some ⟨(X.heap.size+1),0,none⟩) 0 0) [] rfl (ah.empty nbA leA) _ _ _ ts rfl rfl (HIX.out.tabs.1.next ak) smA mxA leA ?_;intro v1 w9 oU hg9 UM;have hb9:Below X.heap.size X w9:=Below.grown ak hg9 leA (cu leA);rw[List.nil_append]at oU;have hz9:=hb9.size)
        have hbt:=Blk.grown (g:=X.heap.size) (t:= 61) (cs:= #[.string nx,.slice (some ⟨q,0,none⟩) ae.length c9,.int .i64 er7,.int .i64 z3]) (by first|exact(Blk.new' sdA).alloc _|exact((Blk.new' sdA).alloc _).drew|exact((Blk.new' sdA).drew).alloc _) hg9 (jB omA)
        refine hK.out _ _ _ ⟨(HIX.out.cat.below hb9 hzc),(HBX.out.below hb9 hzT)⟩ (fun hHeld =>?_)
        clear hK K
        refine r1T 6 (fun K hK =>?_)
        (refine av _ rfl (.tmp 52) (.tmp 54) 24 rfl 61 it _ Tab.cells 4 56 Tryz.underlying24 hit II IG IE rfl omA jL pQ X.heap.size v1 ts rfl oU _ _ _ [⟨nx,some ⟨q,0,none⟩,c9,jq,er7,z3⟩] rfl rfl (Blk.one (enc:=Tab.cells) (x:=⟨nx,some ⟨q,0,none⟩,c9,jq,er7,z3⟩) (by rw[HCE.out];exact hbt) hbt.lt) smA mxA leA ?_;intro v2 w10 yz BV P6;have Cb:Below X.heap.size X w10:=Below.grown ak BV leA oU.row;have S9:=Cb.size;obtain⟨A10,c10,rfl,FN,IK,zM⟩:=yz.slice jL)
        exact Fe
      case rest =>
       obtain⟨A10,c10,FN,MP,IK,zM,hgc⟩:=hcut
       clear hcX hbT hBD
       have YD:V.heap.size<X.heap.size:=hzX
       have V5:wo.heap.size≤V.heap.size:=by omega
       have Zr:=hgc.size
       have htc:=HIX.out.tabs.wJ hgc (gY.out.bd.ne V5)
       have hkc:aL wc g b:=HIX.out.tape.grown hgc omA omA
       have hGc:wo.grownBy wc (some g):=gV hGX hgc inB
       have HIC:=qh (gY.out.next hGc hkc)
       have UE:gy wc wc.heap.size (some ⟨q,0,none⟩) jq:=by
        obtain⟨A0,c0,he0,_,hsl0,_⟩:=HOX.out.slice fF
        injection he0 with he1 _ _
        subst he1
        exact⟨hsl0.grown hgc (fun a ha e=>by injection ha with ha;subst ha;injection e with e;have e:q=V.heap.size:=e;omega),fun x hx=>(HFX.out x hx).list.grown hgc (fun a ha e=>by have:=HLV.out x hx a ha;injection e with e;omega)⟩
       have hti:=htc.app IK UE
       have hup:gu (w.heap.size+2) A10 (ts ++ [⟨nx,some ⟨q,0,none⟩,c9,jq,er7,z3⟩]):=gY.out.up.app (fun a ha=>by have:=(zM a ha).1;omega) (fun a ha=>by injection ha with ha;subst ha;show w.heap.size+2≤q;omega) (fun x hx a ha=>by have:=(HFX.out x hx).up a ha;omega)
       have hbd:lu wc.heap.size A10 (ts ++ [⟨nx,some ⟨q,0,none⟩,c9,jq,er7,z3⟩]):=(HIC.out.bd).app (fun a ha=>(zM a ha).2) (fun a ha=>by injection ha with ha;subst ha;show q<wc.heap.size;omega) (fun x hx a ha=>by have:=HLV.out x hx a ha;omega)
       have hsn:aN (ts ++ [⟨nx,some ⟨q,0,none⟩,c9,jq,er7,z3⟩]):=gY.out.vW.app omA ⟨show nx.size≤1000000 by omega,by have:=HL7.out;show jq.length≤1000000;omega,by(obtain⟨_,_,he0,hcap,_,_⟩:=HOX.out.slice fF;injection he0 with _ _ he;rw[←he]at hcap;exact hcap),fun x hx=>by have f:=HFX.out x hx;exact⟨f.name,f.ns,f.refs,by have:=f.own;omega⟩⟩
       obtain⟨ts',Q8⟩:∃l,ts ++ [⟨nx,some ⟨q,0,none⟩,c9,jq,er7,z3⟩]=l:=⟨_,rfl⟩
       have Q9:ts'.length=ts.length+1:=by rw[←Q8];simp
       rw[Q8]at hti hup hbd hsn
       have HTI:=qh hti
       have HUP:=qh hup
       have SB:=qh hbd
       have HSN:=qh hsn
       have HTL:=qh Q9
       rw[←Q9]at MP FN
       have SC:=qh MP
       obtain⟨a0,a1,a2,a3,a4,a5,a6,a7⟩:=Cat.blk MP
       have V9:=MP.lt
       have Wq:ts'.length≤i+1:=by omega
       clear hti hup hbd hsn Q9 MP IK zM hgc htc hkc UE hGc Q8 HBX HOX HFX HLV HL7 HCE HIX hGX HBD
       cases hok:pb (aR ts')
       ·have HOK:=qh hok
        clear hok
        go_wp2_with fail
        (with_reducible refine(lK A10 c10 ts'.length ts' _ HTI.out rfl HSN.out HOK.out).mono ?_)
        rintro e w11 ⟨rfl,yG⟩
        have EB:=qh (HIC.out.next (aI yG _) (HIC.out.tape.below yG))
        clear yG a0 a1 a2 a3 a4 a5 a6 a7
        go_upto_if 58 with (fail)
        go_cut [] (fun wd =>∃(A:Option Addr) (c:Nat) (ts:List Tab),ts.length≤i+1∧nU w g b A c ts wd)
        case first =>
         go_wp2_with fail
         go_meet
         exact⟨A,c,ts,by omega,EB.out⟩
        case rest =>
         (
         clear HIC HTI HUP SB HSN HTL SC EB HOK
         obtain⟨A,c,ts,hle,hinv⟩:=hcut
         have HID:=qh hinv
         obtain⟨a0,_⟩:=Cat.blk hinv.cat
         have hkd:=hinv.tape
         clear hinv
         by_cases ht0:ts.length=0
         ·have ht0':decide (0<ts.length)=false:=by rw[ht0];rfl
          clear hkd
          go_wp2_with fail
          go_roundw
          case rel=>exact⟨i+1,A,c,ts,by omega,by go_num,hle,HID.out⟩
          case measure=>exact meA
         ·have ht0':decide (0<ts.length)=true:=by simp;omega
          have HKD:=qh hkd
          clear hkd ht0
          go_wp2_with fail
          (with_reducible refine(aG g b 4 _ HKD.out omA omA).mono ?_)
          rintro e w12 ⟨r6,rfl,hr6,zJ,BU⟩
          have HIE:=qh (HID.out.next BU zJ)
          clear hr6 zJ BU a0 HID HKD
          by_cases hr0:r6=0
          ·subst hr0
           go_wp2_with fail
           go_meet
           exact⟨A,c,ts,by omega,HIE.out⟩
          ·have mR:((r6:Int) == 0)=false:=by simp;omega
           clear hr0
           go_wp2_with fail
           go_roundw
           case rel=>exact⟨i+1,A,c,ts,by omega,by go_num,hle,HIE.out⟩
           case measure=>exact meA)
       ·have HOK:=qh hok
        clear hok
        go_wp2_with fail
        (with_reducible refine(lK A10 c10 ts'.length ts' _ HTI.out rfl HSN.out HOK.out).mono ?_)
        rintro e w11 ⟨rfl,yG⟩
        have EB:=qh (HIC.out.next (aI yG _) (HIC.out.tape.below yG))
        have P7:=SC.out.below yG V9
        have PV:=HTI.out.next yG
        have VR:=qh (SB.out.mono yG.size)
        have YI:=yG.size
        clear yG a0 a1 a2 a3 a4 a5 a6 a7
        obtain⟨a0,a1,a2,a3,a4,a5,a6,a7⟩:=Cat.blk P7
        have Vm:=qh PV
        have je:=EB.out.cat
        obtain⟨b0,b1,b2,b3,b4,b5,b6,b7⟩:=Cat.blk je
        have f0:=je.frozen 0
        have f1:=je.frozen 1
        have f2:=je.frozen 2
        have f3:=je.frozen 3
        have f4:=je.frozen 4
        have f5:=je.frozen 5
        have f6:=je.frozen 6
        have f7:=je.frozen 7
        have zU:=qh je
        clear PV P7 je
        go_upto_if 58 with (fail)
        go_cut [] (fun wd =>∃(A:Option Addr) (c:Nat) (ts:List Tab),ts.length≤i+1∧nU w g b A c ts wd)
        case first =>
         go_wp2_with fail
         go_meet
         refine⟨A10,c10,ts',Wq,?_⟩
         have hg:=ai (ai (ai (ai (ai (ai (ai (ai (gp w11 (some (w.heap.size+1))) (p:=⟨w.heap.size+1,0,none⟩) (.inl rfl) (.slice A10 ts'.length c10)) (p:=⟨w.heap.size+1,1,none⟩) (.inl rfl) (.slice none 0 0)) (p:=⟨w.heap.size+1,2,none⟩) (.inl rfl) (.slice none 0 0)) (p:=⟨w.heap.size+1,3,none⟩) (.inl rfl) (.slice none 0 0)) (p:=⟨w.heap.size+1,4,none⟩) (.inl rfl) (.slice none 0 0)) (p:=⟨w.heap.size+1,5,none⟩) (.inl rfl) (.slice none 0 0)) (p:=⟨w.heap.size+1,6,none⟩) (.inl rfl) (.slice none 0 0)) (p:=⟨w.heap.size+1,7,none⟩) (.inl rfl) (.slice none 0 0)
         have hc8:=(((((((zU.out.aH 0 (.slice A10 ts'.length c10)).aH 1 (.slice none 0 0)).aH 2 (.slice none 0 0)).aH 3 (.slice none 0 0)).aH 4 (.slice none 0 0)).aH 5 (.slice none 0 0)).aH 6 (.slice none 0 0)).aH 7 (.slice none 0 0)
         refine⟨hc8.eq spA,EB.out.res.grown hg inA,Vm.out.wJ hg (HUP.out.ne omA),HUP.out,VR.out.mono hg.size,mi.1 HOK.out,HSN.out,by omega,EB.out.tape.grown hg omA omA,gV EB.out.grown hg inB,hgl,hbl⟩
        case rest =>
         (
         clear HIC HTI HUP SB HSN HTL SC EB HOK
         obtain⟨A,c,ts,hle,hinv⟩:=hcut
         have HID:=qh hinv
         obtain⟨a0,_⟩:=Cat.blk hinv.cat
         have hkd:=hinv.tape
         clear hinv
         by_cases ht0:ts.length=0
         ·have ht0':decide (0<ts.length)=false:=by rw[ht0];rfl
          clear hkd
          go_wp2_with fail
          go_roundw
          case rel=>exact⟨i+1,A,c,ts,by omega,by go_num,hle,HID.out⟩
          case measure=>exact meA
         ·have ht0':decide (0<ts.length)=true:=by simp;omega
          have HKD:=qh hkd
          clear hkd ht0
          go_wp2_with fail
          (with_reducible refine(aG g b 4 _ HKD.out omA omA).mono ?_)
          rintro e w12 ⟨r6,rfl,hr6,zJ,BU⟩
          have HIE:=qh (HID.out.next BU zJ)
          clear hr6 zJ BU a0 HID HKD
          by_cases hr0:r6=0
          ·subst hr0
           go_wp2_with fail
           go_meet
           exact⟨A,c,ts,by omega,HIE.out⟩
          ·have mR:((r6:Int) == 0)=false:=by simp;omega
           clear hr0
           go_wp2_with fail
           go_roundw
           case rel=>exact⟨i+1,A,c,ts,by omega,by go_num,hle,HIE.out⟩
           case measure=>exact meA)
   ·have hlt':decide ((i:Int)<(n:Int))=false:=by simp;omega
    have hlt2:decide (i<n)=false:=by simp;omega
    have hle:ts.length≤n:=by omega
    go_wp2_with fail
    go_meet
    exact⟨A,c,ts,hle,gY.out⟩
 case rest =>
  clear gY
  obtain⟨A,c,ts,hle,hinv⟩:=hcut
  have HI:=qh hinv
  obtain⟨a0,a1,a2,a3,a4,a5,a6,a7⟩:=Cat.blk hinv.cat
  have hcz:=hinv.cat.lt
  have fa:=hinv.cat.frozen 0
  clear hinv
  by_cases ht0:ts.length=0
  ·have ht0':((ts.length:Int) == 0)=true:=by rw[ht0];rfl
   have hn0:¬ (0<ts.length):=by omega
   clear ht0
   obtain⟨C,hC⟩:∃C,w.heap.size+1=C:=⟨_,rfl⟩
   rw[hC]at a0 fa hcz ⊢
   clear a1 a2 a3 a4 a5 a6 a7
   have HCE:=qh hC
   clear hC
   have UA:C<wc.heap.size+1:=by omega
   have hcz2:C<wc.heap.size+1+1:=by omega
   have Uz:C<wc.heap.size+2:=by omega
   have DF:C≠wc.heap.size:=by omega
   have UC:C≠wc.heap.size+1:=by omega
   have UB:C≠wc.heap.size+1+1:=by omega
   go_upto_region 18 with (fail)
   refine aj (P:=fun u=>Code.wp _ _ _ _ u) (R:=fun u=>nU w g b (some ⟨wc.heap.size+2,0,none⟩) 1 [qo wc.heap.size (wc.heap.size+1)] u) ?_ ?_
   ·clear a0 fa UA hcz2 Uz DF UC UB
    obtain rfl:=HCE.out
    have hI:=HI.out
    have hU:=bM (bM (bM (ai (gp wc (some (w.heap.size+1))) (p:=⟨w.heap.size+1,0,none⟩) (.inl rfl) (.slice (some ⟨wc.heap.size+1+1,0,none⟩) 1 1)) (.cells #[.int .i64 0] 3)) (.cells ([eH,dR wc.heap.size].flatMap Col.cells).toArray 109)) (.cells (Tab.cells (qo wc.heap.size (wc.heap.size+1))).toArray 61)
    have hb0:=(((Blk.new' (w:=wc.setCell ⟨w.heap.size+1,0,none⟩ (.slice (some ⟨wc.heap.size+1+1,0,none⟩) 1 1)) (g:=wc.heap.size) (t:= 3) (cs:= #[.int .i64 0]) spA).alloc (.cells ([eH,dR wc.heap.size].flatMap Col.cells).toArray 109)).alloc (.cells (Tab.cells (qo wc.heap.size (wc.heap.size+1))).toArray 61))
    have hb1:=((Blk.new' (w:=(wc.setCell ⟨w.heap.size+1,0,none⟩ (.slice (some ⟨wc.heap.size+1+1,0,none⟩) 1 1)).alloc (.cells #[.int .i64 0] 3)) (g:=wc.heap.size+1) (t:= 109) (cs:=([eH,dR wc.heap.size].flatMap Col.cells).toArray) spA).alloc (.cells (Tab.cells (qo wc.heap.size (wc.heap.size+1))).toArray 61))
    have hb2:=(Blk.new' (w:=((wc.setCell ⟨w.heap.size+1,0,none⟩ (.slice (some ⟨wc.heap.size+1+1,0,none⟩) 1 1)).alloc (.cells #[.int .i64 0] 3)).alloc (.cells ([eH,dR wc.heap.size].flatMap Col.cells).toArray 109)) (g:=wc.heap.size+2) (t:= 61) (cs:=(Tab.cells (qo wc.heap.size (wc.heap.size+1))).toArray) spA)
    have hc0:=(((hI.cat.aH 0 (.slice (some ⟨wc.heap.size+1+1,0,none⟩) 1 1)).alloc (.cells #[.int .i64 0] 3)).alloc (.cells ([eH,dR wc.heap.size].flatMap Col.cells).toArray 109)).alloc (.cells (Tab.cells (qo wc.heap.size (wc.heap.size+1))).toArray 61)
    refine⟨hc0.eq spA,hI.res.grown hU inA,⟨Blk.one (enc:=Tab.cells) hb2 hb2.lt,fun t ht =>?_⟩,⟨fun a ha =>?_,fun t ht =>?_⟩,⟨fun a ha =>?_,fun t ht =>?_⟩,Ph _ _,Js _ _,Nat.le_refl _,hI.tape.grown hU omA omA,gV hI.grown hU inB,hgl,hbl⟩
    ·rw[List.mem_singleton.1 ht]
     refine⟨Blk.list fF (l:= [eH,dR wc.heap.size]) hb1 hb1.lt,fun x hx =>?_⟩
     have hx:x=eH∨x=dR wc.heap.size:=by simpa[qo]using hx
     rcases hx with rfl|rfl
     ·exact ag.nil
     ·exact Blk.one (enc:=intCells) (x:=(0:Int)) hb0 hb0.lt
    ·injection ha with ha
     subst ha
     show w.heap.size+2≤wc.heap.size+2
     omega
    ·rw[List.mem_singleton.1 ht]
     refine⟨fun a ha =>?_,fun x hx a ha =>?_⟩
     ·injection ha with ha
      subst ha
      show w.heap.size+2≤wc.heap.size+1
      omega
     ·have hx:x=eH∨x=dR wc.heap.size:=by simpa[qo]using hx
      rcases hx with rfl|rfl
      ·cases ha
      ·injection ha with ha
       subst ha
       show w.heap.size+2≤wc.heap.size
       omega
    ·injection ha with ha
     subst ha
     exact hb2.lt
    ·rw[List.mem_singleton.1 ht]
     refine⟨fun a ha =>?_,fun x hx a ha =>?_⟩
     ·injection ha with ha
      subst ha
      exact hb1.lt
     ·have hx:x=eH∨x=dR wc.heap.size:=by simpa[qo]using hx
      rcases hx with rfl|rfl
      ·cases ha
      ·injection ha with ha
       subst ha
       exact hb0.lt
   ·rintro U hU
    clear a0 fa UA hcz2 Uz DF UC UB HI hn0 hle
    obtain rfl:=HCE.out
    obtain⟨td,htd⟩:∃td,qo wc.heap.size (wc.heap.size+1)=td:=⟨_,rfl⟩
    rw[htd]at hU
    have HI:=qh hU
    have hn0:0<[td].length:=by simp
    have hle:[td].length≤n:=by simpa using hn1
    clear hU htd
    have hinv:=HI.out
    obtain⟨a0,a1,a2,a3,a4,a5,a6,a7⟩:=Cat.blk hinv.cat
    obtain⟨b0,b1,b2,b3,b4,b5,b6,b7⟩:=Cat.blk hinv.res
    have f0:=hinv.res.frozen 0
    have f1:=hinv.res.frozen 1
    have f2:=hinv.res.frozen 2
    have f3:=hinv.res.frozen 3
    have f4:=hinv.res.frozen 4
    have f5:=hinv.res.frozen 5
    have f6:=hinv.res.frozen 6
    have f7:=hinv.res.frozen 7
    have hrz:=hinv.res.lt
    clear hinv
    go_wp2_with fail
    have hg:=ai (ai (ai (ai (ai (ai (ai (ai (gp U (some w.heap.size)) (p:=⟨w.heap.size,0,none⟩) (.inl rfl) (.slice (some ⟨wc.heap.size+2,0,none⟩) [td].length 1)) (p:=⟨w.heap.size,1,none⟩) (.inl rfl) (.slice none 0 0)) (p:=⟨w.heap.size,2,none⟩) (.inl rfl) (.slice none 0 0)) (p:=⟨w.heap.size,3,none⟩) (.inl rfl) (.slice none 0 0)) (p:=⟨w.heap.size,4,none⟩) (.inl rfl) (.slice none 0 0)) (p:=⟨w.heap.size,5,none⟩) (.inl rfl) (.slice none 0 0)) (p:=⟨w.heap.size,6,none⟩) (.inl rfl) (.slice none 0 0)) (p:=⟨w.heap.size,7,none⟩) (.inl rfl) (.slice none 0 0)
    have HG:=qh hg
    clear hg
    refine bodyPost_ret (v:= .agg #[.slice (some ⟨wc.heap.size+2,0,none⟩) [td].length 1,.slice none 0 0,.slice none 0 0,.slice none 0 0,.slice none 0 0,.slice none 0 0,.slice none 0 0,.slice none 0 0]) aE rfl ⟨(some ⟨wc.heap.size+2,0,none⟩),1,[td],rfl,HI.out.tabs.wJ HG.out (HI.out.up.ne omA),⟨fun a ha=>by have:=HI.out.up.1 a ha;omega,fun t ht=>⟨fun a ha=>by have:=(HI.out.up.2 t ht).1 a ha;omega,fun x hx a ha=>by have:=(HI.out.up.2 t ht).2 x hx a ha;omega⟩⟩,HI.out.bd.mono HG.out.size,HI.out.vW,HI.out.ok,hn0,hle,HI.out.tape.grown HG.out omA omA,gV HI.out.grown HG.out inB⟩
  ·have ht0':((ts.length:Int) == 0)=false:=by rw[beq_eq_false_iff_ne];omega
   have hn0:0<ts.length:=by omega
   clear ht0 fa
   go_upto_region 18 with (fail)
   clear a0 a1 a2 a3 a4 a5 a6 a7
   have hinv:=HI.out
   obtain⟨a0,a1,a2,a3,a4,a5,a6,a7⟩:=Cat.blk hinv.cat
   obtain⟨b0,b1,b2,b3,b4,b5,b6,b7⟩:=Cat.blk hinv.res
   have f0:=hinv.res.frozen 0
   have f1:=hinv.res.frozen 1
   have f2:=hinv.res.frozen 2
   have f3:=hinv.res.frozen 3
   have f4:=hinv.res.frozen 4
   have f5:=hinv.res.frozen 5
   have f6:=hinv.res.frozen 6
   have f7:=hinv.res.frozen 7
   have hrz:=hinv.res.lt
   clear hinv
   go_wp2_with fail
   have hg:=ai (ai (ai (ai (ai (ai (ai (ai (gp wc (some w.heap.size)) (p:=⟨w.heap.size,0,none⟩) (.inl rfl) (.slice A ts.length c)) (p:=⟨w.heap.size,1,none⟩) (.inl rfl) (.slice none 0 0)) (p:=⟨w.heap.size,2,none⟩) (.inl rfl) (.slice none 0 0)) (p:=⟨w.heap.size,3,none⟩) (.inl rfl) (.slice none 0 0)) (p:=⟨w.heap.size,4,none⟩) (.inl rfl) (.slice none 0 0)) (p:=⟨w.heap.size,5,none⟩) (.inl rfl) (.slice none 0 0)) (p:=⟨w.heap.size,6,none⟩) (.inl rfl) (.slice none 0 0)) (p:=⟨w.heap.size,7,none⟩) (.inl rfl) (.slice none 0 0)
   have HG:=qh hg
   clear hg
   refine bodyPost_ret (v:= .agg #[.slice A ts.length c,.slice none 0 0,.slice none 0 0,.slice none 0 0,.slice none 0 0,.slice none 0 0,.slice none 0 0,.slice none 0 0]) aE rfl ⟨A,c,ts,rfl,HI.out.tabs.wJ HG.out (HI.out.up.ne omA),⟨fun a ha=>by have:=HI.out.up.1 a ha;omega,fun t ht=>⟨fun a ha=>by have:=(HI.out.up.2 t ht).1 a ha;omega,fun x hx a ha=>by have:=(HI.out.up.2 t ht).2 x hx a ha;omega⟩⟩,HI.out.bd.mono HG.out.size,HI.out.vW,HI.out.ok,hn0,hle,HI.out.tape.grown HG.out omA omA,gV HI.out.grown HG.out inB⟩
end Go.Proofs.YtjidligipoldeaaGreat
