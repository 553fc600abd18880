/-
  Contracts and plain laws of this seat, part 16.
-/
import Derived.Test.YtjidligipoldeaaGreatT15
import Derived.Deep.CutBlock
import Derived.Test.YtjidligipoldeaaGreatT14
set_option linter.unusedVariables false
set_option linter.unusedSimpArgs false
set_option maxRecDepth 100000
set_option maxHeartbeats 16000000
namespace Go.Proofs.YtjidligipoldeaaGreat
open Go.RowKit
theorem aE{P:Prop}(h:P:=by simp[results,Tryz.results25,go_sem,b0,b1,b2,b3,b4,b5,b6,b7,hrz]):P:=h
theorem ba{P:Prop}(h:P:=by injection e):P:=h
theorem bb{P:Prop}(h:P:=by rw[HX.out];rfl):P:=h
structure jo (g q:Nat) (w w':World):Prop where
 os:w'.os=w.os
 tape:w'.tape=w.tape
 output:w'.output=w.output
 size:w.heap.size≤w'.heap.size
 block:∀k,k<w.heap.size→k≠g→k≠q→w'.heap[k]?=w.heap[k]?
section
variable {g q:Nat}{w u v:World}
theorem jo.refl(g q:Nat)(w:World):jo g q w w:=⟨rfl,rfl,rfl,Nat.le_refl _,fun _ _ _ _=>rfl⟩
theorem jo.grown(h:jo g q w u){row:Option Nat}(k:u.grownBy v row)(hr:∀i,row=some i→i=g∨i=q∨w.heap.size≤i):jo g q w v:=
 ⟨k.os.trans h.os,k.tape.trans h.tape,k.output.trans h.output,Nat.le_trans h.size k.size,fun i hi h1 h2=>(k.block i (Nat.lt_of_lt_of_le hi h.size) (fun e=>by rcases hr i e.symm with h|h|h<;>omega)).trans (h.block i hi h1 h2)⟩
theorem jo.below(h:jo g q w u)(k:Below u.heap.size u v):jo g q w v:=h.grown (aL k none) (fun i e=>by cases e)
theorem jo.set(h:jo g q w u){p:Addr}(hp:p.block=g∨p.block=q∨w.heap.size≤p.block)(x:Value):jo g q w (u.setCell p x):=
 ⟨h.os,h.tape,h.output,by simpa using h.size,fun i hi h1 h2=>(Below.heap_setCell u p x i (by intro e;rcases hp with h'|h'|h'<;>omega)).trans (h.block i hi h1 h2)⟩
theorem jo.up{w0:World}(h:w0.grownBy w (some g))(k:jo g q w u)(hq:w0.heap.size≤q):w0.grownBy u (some g):=
 ⟨k.os.trans h.os,k.tape.trans h.tape,k.output.trans h.output,Nat.le_trans h.size k.size,fun i hi hne=>(k.block i (Nat.lt_of_lt_of_le hi h.size) (fun e=>hne (by rw[e])) omA).trans (h.block i hi hne)⟩
theorem ag.CZ{α:Type}{enc:α→List Value}{k:Nat}{A:Option Addr}{l:List α}(h:ag w w.heap.size enc k A l)(hk:jo g q w u)(hA:∀a,A=some a→a.block≠g∧a.block≠q):ag u u.heap.size enc k A l:=by
 intro hl
 obtain⟨b,o,rfl,hB,hc⟩:=h hl
 obtain⟨h1,h2⟩:=hA _ rfl
 exact⟨b,o,rfl,Nat.lt_of_lt_of_le hB hk.size,fun i hi j v hv=>(World.cell?_of_block (hk.block b hB h1 h2)).trans (hc i hi j v hv)⟩
end
def ze(q:Nat)(A:Option Addr)(ts:List Tab):Prop:=(∀a,A=some a→a.block≠q) ∧ ∀t∈ts,(∀a,t.A=some a→a.block≠q) ∧ ∀x∈t.ae,∀a,x.A=some a→a.block≠q
theorem aF.CZ{g q B:Nat}{w u:World}{A:Option Addr}{ts:List Tab}(h:aF w w.heap.size A ts)(hk:jo g q w u)(hu:gN B A ts)(hg:g<B)(hq:ze q A ts):aF u u.heap.size A ts:=
 ⟨h.1.CZ hk fun a ha=>⟨by have:=hu.1 a ha;omega,hq.1 a ha⟩,fun t ht=>⟨(h.2 t ht).1.CZ hk fun a ha=>⟨by have:=(hu.2 t ht).1 a ha;omega,(hq.2 t ht).1 a ha⟩,fun x hx=>((h.2 t ht).2 x hx).CZ hk fun a ha=>⟨by have:=(hu.2 t ht).2 x hx a ha;omega,(hq.2 t ht).2 x hx a ha⟩⟩⟩
structure eD (M w0:Nat) (w:World) (x:Col):Prop where
 name:x.name.size≤1000000
 ns:x.ns.size≤1000000
 refs:x.refs.size≤1000000
 own:x.own.length≤M
 cap:x.own.length≤x.cap
 list:ag w w.heap.size intCells 1 x.A x.own
 up:∀a,x.A=some a→w0≤a.block
 lt:∀a,x.A=some a→a.block<w.heap.size
theorem eD.keep{M w0:Nat}{w u:World}{x:Col}(h:eD M w0 w x){row:Option Nat}(hg:w.grownBy u row)(hr:∀i,row=some i→i<w0):eD M w0 u x:=
 ⟨h.name,h.ns,h.refs,h.own,h.cap,h.list.grown hg fun a ha e=>by have:=h.up a ha;have:=hr _ e.symm;omega,h.up,fun a ha=>Nat.lt_of_lt_of_le (h.lt a ha) hg.size⟩
structure dh (M:Nat) (w:World) (g b q B n cap:Nat) (cv nm:Value) (rt:Int) (LA:Option Addr) (l:List Int) (ae:List Col) (er:Int) (u:World):Prop where
 own:aj u B 109 Col.cells 7 (.slice (some ⟨q,0,none⟩) n cap) ae
 len:ae.length=n
 fine:∀x∈ae,eD M (w.heap.size+3) u x
 AB:Blk u (w.heap.size+1) 61 #[nm,.slice (some ⟨q,0,none⟩) n cap,.int .i64 er,.int .i64 rt]
 Jm:Blk u w.heap.size 33 #[cv,.slice none 0 0,.slice none 0 0,.slice none 0 0,.slice none 0 0,.slice none 0 0,.slice none 0 0,.slice none 0 0]
 res:Blk u (w.heap.size+2) 61 #[.string ⟨#[]⟩,.slice none 0 0,.int .i64 0,.int .i64 0]
 list:ag u u.heap.size intCells 1 LA l
 up:∀a,LA=some a→w.heap.size+3≤a.block
 tape:aP u g b
 kept:jo g q w u
 ltg:g<w.heap.size
 ltb:b<w.heap.size
 ltq:q<w.heap.size
 neg:g<B
 neb:b<B
 hq:B≤q
section
variable {M:Nat}{w u v:World}{g b q B n cap:Nat}{cv nm:Value}{rt:Int}{LA:Option Addr}{l:List Int}{ae:List Col}{er:Int}
theorem dh.next(h:dh M w g b q B n cap cv nm rt LA l ae er u)(hg:u.grownBy v (some g))(hk:aP v g b):dh M w g b q B n cap cv nm rt LA l ae er v:=by
 have h1:=h.ltg
 have hne:∀i,w.heap.size≤i→some i≠some g:=fun i hi e=>by injection e with e;omega
 exact⟨h.own.grown hg h.neg,h.len,fun x hx=>(h.fine x hx).keep hg inB,h.AB.grown hg (hne _ omA),h.Jm.grown hg (hne _ omA),h.res.grown hg (hne _ omA),h.list.grown hg (fun a ha=>hne _ (by have:=h.up a ha;omega)),h.up,hk,h.kept.grown hg (fun i e=>by injection e with e;exact .inl e.symm),h.ltg,h.ltb,h.ltq,h.neg,h.neb,h.hq⟩
theorem dh.wide{M':Nat}(h:dh M w g b q B n cap cv nm rt LA l ae er u)(hM:M≤M'):dh M' w g b q B n cap cv nm rt LA l ae er u:=
 ⟨h.own,h.len,fun x hx=>by have f:=h.fine x hx;exact⟨f.name,f.ns,f.refs,Nat.le_trans f.own hM,f.cap,f.list,f.up,f.lt⟩,h.AB,h.Jm,h.res,h.list,h.up,h.tape,h.kept,h.ltg,h.ltb,h.ltq,h.neg,h.neb,h.hq⟩
theorem dh.below(h:dh M w g b q B n cap cv nm rt LA l ae er u)(hb:Below u.heap.size u v):dh M w g b q B n cap cv nm rt LA l ae er v:=
 h.next (aL hb _) (h.tape.below hb)
theorem dh.alloc(h:dh M w g b q B n cap cv nm rt LA l ae er u)(o:Obj):dh M w g b q B n cap cv nm rt LA l ae er (u.alloc o):=
 h.below (brf.alloc nlr o)
theorem dh.set(h:dh M w g b q B n cap cv nm rt LA l ae er u){i:Nat}(hi:i<ae.length)(x:Col){j o:Nat}{z:Value}(hj:j<7)(ho:o=i*7+j)(hx:x.cells=(ae[i]).cells.set j z)(hf:eD M (w.heap.size+3) u x):dh M w g b q B n cap cv nm rt LA l (ae.set i x) er (u.setCell ⟨q,o,none⟩ z):=by
 have h1:=h.ltg
 have h2:=h.ltb
 have h3:=h.ltq
 have hqg:q≠g:=by have:=h.neg;have:=h.hq;omega
 have hqb:q≠b:=by have:=h.neb;have:=h.hq;omega
 have iK:∀y,eD M (w.heap.size+3) u y→eD M (w.heap.size+3) (u.setCell ⟨q,o,none⟩ z) y:=fun y hy=>⟨hy.name,hy.ns,hy.refs,hy.own,hy.cap,by have:=hy.list.far (p:=⟨q,o,none⟩) (fun a ha e=>by have:=hy.up a ha;have e:a.block=q:=e;omega) z;simpa using this,hy.up,fun a ha=>by simpa using hy.lt a ha⟩
 refine⟨h.own.gV fQ h.len.symm hi x hj ho hx,by simpa using h.len,fun y hy =>?_,h.AB.far (show _≠q by omega) z,h.Jm.far (show _≠q by omega) z,h.res.far (show _≠q by omega) z,?_,h.up,h.tape.far (show g≠q by omega) (show b≠q by omega) z,h.kept.set (.inr (.inl rfl)) z,h.ltg,h.ltb,h.ltq,h.neg,h.neb,h.hq⟩
 ·rcases List.mem_or_eq_of_mem_set hy with h|rfl
  ·exact iK y (dh.fine ‹_› y h)
  ·exact iK _ hf
 ·have:=h.list.far (p:=⟨q,o,none⟩) (fun a ha e=>by have:=h.up a ha;have e:a.block=q:=e;omega) z
  simpa using this
theorem dh.app(h:dh M w g b q B n cap cv nm rt LA l ae er u){nb i o:Nat}{x:Col}{z:Value}(hg:u.grownBy v (some nb))(hnb:w.heap.size+3≤nb)(hi:i<ae.length)(ho:o=i*7+4)(hx:x.cells=(ae[i]).cells.set 4 z)(hf:eD M (w.heap.size+3) v x)(hoth:∀k (hk:k<ae.length),k≠i→∀a,ae[k].A=some a→a.block≠nb)(hL:∀a,LA=some a→a.block≠nb):
 dh M w g b q B n cap cv nm rt LA l (ae.set i x) er (v.setCell ⟨q,o,none⟩ z):=by
 have h1:=h.ltg
 have h2:=h.ltb
 have h3:=h.ltq
 have hqg:q≠g:=by have:=h.neg;have:=h.hq;omega
 have hqb:q≠b:=by have:=h.neb;have:=h.hq;omega
 have hne:∀i,i<w.heap.size+3→some i≠some nb:=fun i hi e=>by injection e with e;omega
 have iK:∀y,eD M (w.heap.size+3) v y→eD M (w.heap.size+3) (v.setCell ⟨q,o,none⟩ z) y:=fun y hy=>⟨hy.name,hy.ns,hy.refs,hy.own,hy.cap,by have:=hy.list.far (p:=⟨q,o,none⟩) (fun a ha e=>by have:=hy.up a ha;have e:a.block=q:=e;omega) z;simpa using this,hy.up,fun a ha=>by simpa using hy.lt a ha⟩
 have hown := h.own.kept hg (fun k hk => by have : q = k := by simpa [Value.ownBlock] using hk
                                            exact hne k omA)
 refine⟨hown.gV fQ h.len.symm hi x (j:= 4) omA ho hx,by simpa using h.len,fun y hy =>?_,(h.AB.grown hg (hne _ omA)).far (show _≠q by omega) z,(h.Jm.grown hg (hne _ omA)).far (show _≠q by omega) z,(h.res.grown hg (hne _ omA)).far (show _≠q by omega) z,?_,h.up,(h.tape.grown hg (show nb≠g by omega) (show nb≠b by omega)).far (show g≠q by omega) (show b≠q by omega) z,(h.kept.grown hg (fun i e=>by injection e with e;exact .inr (.inr omA))).set (.inr (.inl rfl)) z,h.ltg,h.ltb,h.ltq,h.neg,h.neb,h.hq⟩
 ·obtain⟨k,hk,rfl⟩:=List.getElem_of_mem hy
  rw[List.getElem_set]
  split
  ·exact iK _ hf
  ·rename_i hki
   have hk':k<ae.length:=by simpa using hk
   have hy:=h.fine ae[k] (lgm hk')
   exact iK _ ⟨hy.name,hy.ns,hy.refs,hy.own,hy.cap,hy.list.grown hg (fun a ha e=>hoth k hk' (fun e'=>hki e'.symm) a ha ba),hy.up,fun a ha=>Nat.lt_of_lt_of_le (hy.lt a ha) hg.size⟩
 ·have:=(h.list.grown hg (fun a ha e=>hL a ha ba)).far (p:=⟨q,o,none⟩) (fun a ha e=>by have:=h.up a ha;have e:a.block=q:=e;omega) z
  simpa using this
theorem dh.KT(h:dh M w g b q B n cap cv nm rt LA l ae er u)(z:Int):dh M w g b q B n cap cv nm rt LA l ae z (u.setCell ⟨w.heap.size+1,2,none⟩ (.int .i64 z)):=by
 have h1:=h.ltg
 have h2:=h.ltb
 have h3:=h.ltq
 refine⟨h.own.far (fun k hk =>?_) _,h.len,fun y hy =>?_,?_,h.Jm.far (show _≠w.heap.size+1 by omega) _,h.res.far (show _≠w.heap.size+1 by omega) _,?_,h.up,h.tape.far (show g≠w.heap.size+1 by omega) (show b≠w.heap.size+1 by omega) _,h.kept.set (.inr (.inr (show _≤w.heap.size+1 by omega))) _,h.ltg,h.ltb,h.ltq,h.neg,h.neb,h.hq⟩
 ·have:q=k:=by simpa[Value.ownBlock]using hk
  show k≠w.heap.size+1
  omega
 ·have hf:=h.fine y hy
  exact⟨hf.name,hf.ns,hf.refs,hf.own,hf.cap,by have:=hf.list.far (p:=⟨w.heap.size+1,2,none⟩) (fun a ha e=>by have:=hf.up a ha;have e:a.block=w.heap.size+1:=e;omega) (.int .i64 z);simpa using this,hf.up,fun a ha=>by simpa using hf.lt a ha⟩
 ·have:=h.AB.aH 2 (.int .i64 z)
  simpa using this
 ·have:=h.list.far (p:=⟨w.heap.size+1,2,none⟩) (fun a ha e=>by have:=h.up a ha;have e:a.block=w.heap.size+1:=e;omega) (.int .i64 z)
  simpa using this
structure vQ (M:Nat) (w:World) (g b q B n cap:Nat) (ae:List Col) (u:World):Prop where
 own:aj u B 109 Col.cells 7 (.slice (some ⟨q,0,none⟩) n cap) ae
 len:ae.length=n
 fine:∀x∈ae,eD M (w.heap.size+3) u x
 tape:aP u g b
 kept:jo g q w u
 ltg:g<w.heap.size
 ltb:b<w.heap.size
 ltq:q<w.heap.size
theorem dh.toEnd(h:dh M w g b q B n cap cv nm rt LA l ae er u):vQ M w g b q B n cap ae u:=⟨h.own,h.len,h.fine,h.tape,h.kept,h.ltg,h.ltb,h.ltq⟩
theorem vQ.set(h:vQ M w g b q B n cap ae u)(j:Nat)(z:Value):vQ M w g b q B n cap ae (u.setCell ⟨w.heap.size+2,j,none⟩ z):=by
 have h1:=h.ltg
 have h2:=h.ltb
 have h3:=h.ltq
 refine⟨h.own.far (fun k hk =>?_) _,h.len,fun y hy =>?_,h.tape.far (show g≠w.heap.size+2 by omega) (show b≠w.heap.size+2 by omega) _,h.kept.set (.inr (.inr (show _≤w.heap.size+2 by omega))) _,h1,h2,h3⟩
 ·have:q=k:=by simpa[Value.ownBlock]using hk
  show k≠w.heap.size+2
  omega
 ·have hf:=h.fine y hy
  exact⟨hf.name,hf.ns,hf.refs,hf.own,hf.cap,by have:=hf.list.far (p:=⟨w.heap.size+2,j,none⟩) (fun a ha e=>by have:=hf.up a ha;have e:a.block=w.heap.size+2:=e;omega) z;simpa using this,hf.up,fun a ha=>by simpa using hf.lt a ha⟩
theorem vQ.low(h:vQ M w g b q B n cap ae u):∀x∈ae,eD M w.heap.size u x:=fun x hx=>by
 have f:=h.fine x hx
 exact⟨f.name,f.ns,f.refs,f.own,f.cap,f.list,fun a ha=>by have:=f.up a ha;omega,f.lt⟩
end
theorem LH{P:Prop}(h:P:=by
 go_wp2_with fail
 (with_reducible refine(aK g b (l.length:Int) _ HI2.out.tape omA omA).mono ?_)
 rintro e w3 ⟨r3,rfl,hr3,hk3,hg3⟩
 have Bt:r3<l.length:=by rcases hr3 with h|h<;>omega
 have HI3:=qh (HI2.out.next hg3 hk3)
 clear HI2 hk3 hg3 hr3
 obtain⟨lb,lo,rfl,hlb,UE⟩:=HI3.out.list.get Bt
 have y0:=UE 0 _ rfl
 simp only[Nat.mul_one,Nat.add_zero]at y0
 obtain⟨z3,hz3⟩:∃z,l[r3]=z:=⟨_,rfl⟩
 rw[hz3]at y0
 have s0:=HI3.out.own.gq fQ HI3.out.len.symm hil (j:= 4) rfl
 have sf:=HI3.out.own.kH HI3.out.len.symm (i*7+4)
 have hqz:=HI3.out.own.lt q rfl
 have hw3:=HI3.out.res.lt
 obtain⟨⟨xn,xt,xs,xr,xA,xc,xo,xj,xd⟩,hx⟩:∃x:Col,ae[i]=x:=⟨_,rfl⟩
 have hf0:=HI3.out.fine ae[i] (lgm hil)
 rw[hx]at s0 hf0
 have HX:=qh hx
 clear UE hz3 hx
 go_upto_region 9 with (fail)
 obtain⟨nb,hnb⟩:∃nb,w3.heap.size=nb:=⟨_,rfl⟩
 refine ah (P:=fun u=>Code.wp _ _ _ _ u) (R:=fun u =>∃(uK:List Col) (hi:i<uK.length),uK[i]=⟨xn,xt,xs,xr,some ⟨w3.heap.size,0,none⟩,1,[z3],xj,xd⟩∧(∀k (hk:k<uK.length),k≠i→∀a,uK[k].A=some a→a.block≠w3.heap.size)∧Blk u w3.heap.size 3 #[.int .i64 z3]∧(dh 20 w g b q B n cap (.slice A ts.length c) (.string nm) rt (some ⟨lb,lo,none⟩) l uK er2 u)) ⟨ae.set i ⟨xn,xt,xs,xr,some ⟨w3.heap.size,0,none⟩,1,[z3],xj,xd⟩,by simpa using hil,by simp,fun k hk hki a ha =>?_,?_,?_⟩ ?_
 ·rw[List.getElem_set_ne (fun e=>hki e.symm)]at ha
  have:=(HI3.out.fine _ (lgm (by simpa using hk))).lt a ha
  omega
 ·exact Blk.new' spA
 ·rw[←World.setCell_alloc_past _ q _ _ hqz]
  exact(HI3.out.alloc _).set hil ⟨xn,xt,xs,xr,some ⟨w3.heap.size,0,none⟩,1,[z3],xj,xd⟩ (j:= 4) omA rfl bb ⟨hf0.name,hf0.ns,hf0.refs,by simp,by simp,Blk.one (enc:=intCells) (x:=z3) (Blk.new' rfl) spA,fun a ha=>by injection ha with ha;subst ha;exact hw3,fun a ha=>by injection ha with ha;subst ha;simp⟩
 rw[hnb]
 rw[hnb]at hw3
 rintro U ⟨uK,hi1,hx1,ho1,hB1,hI1⟩
 have HO1:=qh ho1
 have Xm:lb≠nb:=by omega
 have HI4:=qh hI1
 have HB4:=qh hB1
 have HX1:=qh hx1
 clear ho1 hI1 hB1 hx1 HI3 HX hnb s0 sf y0 hil hqz hlb hf0
 go_wp2_with fail
 (with_reducible refine(aK g b (l.length:Int) _ HI4.out.tape omA omA).mono ?_)
 rintro e w4 ⟨r4,rfl,hr4,hk4,hg4⟩
 have Ue:r4<l.length:=by rcases hr4 with h|h<;>omega
 have HI5:=qh (HI4.out.next hg4 hk4)
 have HB5:=qh (HB4.out.grown hg4 inA)
 clear HI4 HB4 hk4 hg4 hr4
 obtain⟨lb5,lo5,he5,hlb,UD⟩:=HI5.out.list.get Ue
 injection he5 with he5
 injection he5 with he6 he7
 subst he6 he7
 have y0:=UD 0 _ rfl
 simp only[Nat.mul_one,Nat.add_zero]at y0
 obtain⟨z4,hz4⟩:∃z,l[r4]=z:=⟨_,rfl⟩
 rw[hz4]at y0
 have s0:=HI5.out.own.gq fQ HI5.out.len.symm hi1 (j:= 4) (by rw[HX1.out];rfl)
 have sf:=HI5.out.own.kH HI5.out.len.symm (i*7+4)
 have hqz:=HI5.out.own.lt q rfl
 have hw4:=HI5.out.res.lt
 have n0:=HB5.out.cell 0
 have hnz:=HB5.out.lt
 simp only[gE3,List.length_cons,List.length_nil,Nat.zero_add]at n0 s0
 clear UD hz4
 cases h34:decide (z3<z4)
 ·go_upto_if 76 with (fail)
  go_cut [] (fun wc =>∃(rP:List Col) (hi:i<rP.length),(∃A' c' o',rP[i]=⟨xn,xt,xs,xr,A',c',o',xj,xd⟩)∧(dh 20 w g b q B n cap (.slice A ts.length c) (.string nm) rt (some ⟨lb,lo,none⟩) l rP er2 wc))
  case first =>
   go_wp2_with fail
   go_meet
   exact⟨uK,hi1,⟨_,_,_,HX1.out⟩,HI5.out⟩
  case rest=>exact LG
 ·go_upto_if 76 with (fail)
  go_cut [] (fun wc =>∃(rP:List Col) (hi:i<rP.length),(∃A' c' o',rP[i]=⟨xn,xt,xs,xr,A',c',o',xj,xd⟩)∧(dh 20 w g b q B n cap (.slice A ts.length c) (.string nm) rt (some ⟨lb,lo,none⟩) l rP er2 wc))
  case first =>
   have Vo:aj w4 (w.heap.size+3) 3 intCells 1 (.slice (some ⟨nb,0,none⟩) 1 1) [z3]:=aj.one (enc:=intCells) (x:=z3) HB5.out hw3 bE
   have YG:=qh Vo
   clear Vo
   go_wp2_with (at_builtin;go_must (refine aO _ rfl (.tmp 81) (.tmp 83) 22 rfl 3 i0 _ intCells 1 8 Tryz.underlying22 hi0 hz0 hz1 hz2 rfl omA bE dZ (w.heap.size+3) (.slice (some ⟨nb,0,none⟩) 1 1) [z3] rfl (YG.out.alloc _) _ _ _ [z4] rfl rfl (Blk.one (enc:=intCells) (x:=z4) (Blk.new' rfl) spA) spA (by simp[maxLen]) smA ?_);intro v' w5 hown5 hg5 aak;obtain⟨A5,c5,rfl,hc5,hs5,hA5⟩:=hown5.slice bE;have hO6:=(HI5.out.alloc _).own.kept hg5 (fun k hk e=>by(have e1:q=k:=by simpa[Value.ownBlock]using hk);(have e2:k=nb:=by simpa[Value.ownBlock]using e);have:=HI5.out.ltq;omega);have s6:=hO6.gq fQ HI5.out.len.symm hi1 (j:= 4) (by rw[HX1.out];rfl);have sf6:=hO6.kH HI5.out.len.symm (i*7+4);have HG5:=qh hg5)
   go_meet
   have hf1:=HI5.out.fine uK[i] (lgm hi1)
   rw[HX1.out]at hf1
   exact⟨uK.set i ⟨xn,xt,xs,xr,A5,c5,[z3,z4],xj,xd⟩,by simpa using hi1,⟨A5,c5,[z3,z4],by simp⟩,(HI5.out.alloc _).app HG5.out hw3 hi1 rfl (by rw[HX1.out];rfl) ⟨hf1.name,hf1.ns,hf1.refs,by simp,by simpa using hc5,by simpa using hs5,fun a ha=>(hA5 a ha).1,fun a ha=>(hA5 a ha).2⟩ HO1.out (fun a ha=>by injection ha with ha;subst ha;exact Xm)⟩
  case rest=>exact LG):P:=h
theorem LG{P:Prop}(h:P:=by
 (
 obtain⟨rP,hi2,⟨A2,c2,o2,hx2⟩,hI2⟩:=hcut
 have HI6:=qh hI2
 have HX2:=qh hx2
 clear hI2 hx2 HI5 HB5 HX1 s0 sf n0 y0 h34 hi1
 go_wp2_with fail
 (with_reducible refine(aK g b 2 _ HI6.out.tape omA omA).mono ?_)
 rintro e w6 ⟨r5,rfl,hr5,hk6,hg6⟩
 have HI7:=qh (HI6.out.next hg6 hk6)
 clear HI6 hk6 hg6 hr5
 have s5:=HI7.out.own.gq fQ HI7.out.len.symm hi2 (j:= 5) (by rw[HX2.out];rfl)
 have sf5:=HI7.out.own.kH HI7.out.len.symm (i*7+5)
 have hf2:=HI7.out.fine rP[i] (lgm hi2)
 rw[HX2.out]at hf2
 have hw6:=HI7.out.res.lt
 have hq6:=HI7.out.own.lt q rfl
 go_upto_region 13 with (fail)
 refine ah (P:=fun u=>Code.wp _ _ _ _ u) (R:=fun u =>∃(Ap:List Col) (hi:i<Ap.length),Ap[i]=⟨xn,xt,xs,xr,A2,c2,o2,r5,xd⟩∧(dh 20 w g b q B n cap (.slice A ts.length c) (.string nm) rt (some ⟨lb,lo,none⟩) l Ap er2 u)) ⟨rP.set i ⟨xn,xt,xs,xr,A2,c2,o2,r5,xd⟩,by simpa using hi2,by simp,HI7.out.set hi2 ⟨xn,xt,xs,xr,A2,c2,o2,r5,xd⟩ (j:= 5) omA rfl (by rw[HX2.out];rfl) ⟨hf2.name,hf2.ns,hf2.refs,hf2.own,hf2.cap,hf2.list,hf2.up,hf2.lt⟩⟩ ?_
 rintro V ⟨Ap,hi3,hx3,hI3⟩
 have HI8:=qh hI3
 have HX3:=qh hx3
 clear HI7 HX2 hi2 hI3 hx3 s5 sf5 hf2
 have hw8:=HI8.out.res.lt
 go_wp2_with fail
 (with_reducible refine(aK g b 5 _ (HI8.out.tape.alloc _) omA omA).mono ?_)
 rintro e w8 ⟨r6,rfl,hr6,hk8,hg8⟩
 have Mk:r6<5:=by rcases hr6 with h|h<;>omega
 have HI9:=qh ((HI8.out.alloc _).next hg8 hk8)
 have hL:Blk w8 V.heap.size 3 #[.int .i64 0,.int .i64 0,.int .i64 0,.int .i64 5,.int .i64 20]:=Blk.grown (Blk.new' rfl) hg8 inA
 obtain⟨z6,hz6⟩:∃z:Int,w8.cell? ⟨V.heap.size,r6,none⟩=some (.int .i64 z):=by
  rw[hL.cell]
  rcases(show r6=0∨r6=1∨r6=2∨r6=3∨r6=4 by omega) with rfl|rfl|rfl|rfl|rfl
  all_goals exact⟨_,rfl⟩
 clear HI8 hk8 hg8 hr6 hL
 have s6:=HI9.out.own.gq fQ HI9.out.len.symm hi3 (j:= 6) (by rw[HX3.out];rfl)
 have sf6:=HI9.out.own.kH HI9.out.len.symm (i*7+6)
 have hf3:=HI9.out.fine Ap[i] (lgm hi3)
 rw[HX3.out]at hf3
 go_upto_region 14 with (fail)
 refine ah (P:=fun u=>Code.wp _ _ _ _ u) (R:=fun u =>∃(Nf:List Col),(dh 20 w g b q B n cap (.slice A ts.length c) (.string nm) rt (some ⟨lb,lo,none⟩) l Nf er2 u)) ⟨Ap.set i ⟨xn,xt,xs,xr,A2,c2,o2,r5,z6⟩,HI9.out.set hi3 ⟨xn,xt,xs,xr,A2,c2,o2,r5,z6⟩ (j:= 6) omA rfl (by rw[HX3.out];rfl) ⟨hf3.name,hf3.ns,hf3.refs,hf3.own,hf3.cap,hf3.list,hf3.up,hf3.lt⟩⟩ ?_
 rintro X ⟨Nf,hI4⟩
 have Wh:=qh hI4
 have e2:=hI4.AB.cell 2
 have ef:=hI4.AB.frozen 2
 have hwX:=hI4.res.lt
 simp only[gE3]at e2
 clear HI9 HX3 hi3 hI4 s6 sf6 hz6 hf3
 go_wp2_with fail
 go_roundw
 case rel=>exact⟨i+1,Nf,_,by omega,by go_num,by first|exact Wh.out|exact Wh.out.KT 1⟩
 case measure=>exact meA)):P:=h
theorem KH(g b B0 B q n cap:Nat)(A:Option Addr)(c m:Nat)(ts:List Tab)(nm:ByteArray)(Aq:List Col)(er rt:Int)(w:World)(hk:aP w g b)(ht:aF w w.heap.size A ts)(hm:ts.length=m)(hup:gN B0 A ts)(hg0:g<B0)(hne:ze q A ts)(hl:m≤10)(eP:∀t∈ts,0<t.ae.length)(hsn:aM ts)
 (hown:aj w B 109 Col.cells 7 (.slice (some ⟨q,0,none⟩) n cap) Aq) (hn:Aq.length=n) (h8:n≤8) (hnew:∀x∈Aq,Gq x) (hgB:g<B) (hbB:b<B):
 Calls Tryz.prog 65 #[.pointer (some ⟨g,0,none⟩),.agg #[.slice A m c,.slice none 0 0,.slice none 0 0,.slice none 0 0,.slice none 0 0,.slice none 0 0,.slice none 0 0,.slice none 0 0],.agg #[.string nm,.slice (some ⟨q,0,none⟩) n cap,.int .i64 er,.int .i64 rt]] w fun e w' =>
  ∃(ae:List Col) (er':Int),e=.returned (.agg #[.string nm,.slice (some ⟨q,0,none⟩) n cap,.int .i64 er',.int .i64 rt])∧aj w' B 109 Col.cells 7 (.slice (some ⟨q,0,none⟩) n cap) ae∧ae.length=n∧(∀x∈ae,eD 100 w.heap.size w' x)∧aP w' g b∧jo g q w w':=by
 subst hm
 have HK:=qh hk
 have HT:=qh ht
 have HU:=qh hup
 have HNE:=qh hne
 have HC:=qh eP
 have HS:=qh hsn
 have HOW:=qh hown
 have HN:=qh hn
 have JY:=qh hnew
 have hgl:=hk.ltg
 have hbl:=hk.lt
 have hql:=(hown.lt q rfl)
 have hBq:=hown.row q rfl
 obtain⟨i0,hi0,hz0,hz1,hz2⟩:=info_parts kY
 clear hk ht hup hne eP hsn hown hn hnew
 go_enter Tryz.func65,Tryz.ntmps65
 go_upto_region 1 with (fail)
 refine ah (P:=fun u=>Code.wp _ _ _ _ u) (R:=fun u=>Blk u w.heap.size 33 #[.slice A ts.length c,.slice none 0 0,.slice none 0 0,.slice none 0 0,.slice none 0 0,.slice none 0 0,.slice none 0 0,.slice none 0 0]∧Blk u (w.heap.size+1) 61 #[.string nm,.slice (some ⟨q,0,none⟩) n cap,.int .i64 er,.int .i64 rt]∧Blk u (w.heap.size+2) 61 #[.string ⟨#[]⟩,.slice none 0 0,.int .i64 0,.int .i64 0]∧Below w.heap.size w u) ⟨?_,?_,?_,?_⟩ ?_
 ·exact((Blk.new _ _ _).alloc _).alloc _
 ·exact(Blk.new' spA).alloc _
 ·exact Blk.new' spA
 ·exact ai
 rintro W ⟨hC,hB,hR,hbW⟩
 have hzW:=hR.lt
 obtain⟨q0,q1,q2,q3⟩:=Tab.blk hB
 have HCB:=qh hC
 have HTB:=qh hB
 have HRB:=qh hR
 have hOW:=HOW.out.below hbW nlr
 obtain⟨A0,c0,he0,hcap0,hsl0,_⟩:=hOW.slice fQ
 injection he0 with he1 he2 he3
 subst he1
 have VN:=qh hsl0
 have VX:=qh hOW
 clear hC hB hR hOW hsl0 he2 he3
 go_wp2_with fail
 (with_reducible refine(LM nm (some ⟨q,0,none⟩) cap n Aq er rt _ VN.out HN.out omA).mono ?_)
 rintro e w1 ⟨⟨LA,lc,l,rfl,hlc,hln,hls,hlA⟩,hb1⟩
 have MO:Below w.heap.size w w1:=aa hbW hb1 hbW.size
 have hinv:dh 20 w g b q B n cap (.slice A ts.length c) (.string nm) rt LA l Aq er w1:=by
  refine⟨VX.out.below hb1 nlr,HN.out,fun x hx =>?_,HTB.out.below hb1 omA,HCB.out.below hb1 omA,HRB.out.below hb1 hzW,hls,fun a ha=>by have:=hlA a ha;omega,HK.out.below MO,(jo.refl g q w).below MO,hgl,hbl,hql,hgB,hbB,hBq⟩
  have hx:=JY.out x hx
  exact⟨hx.name,hx.ns,hx.refs,by rw[hx.own];simp,by rw[hx.own];simp,by rw[hx.own];exact ag.nil,fun a ha=>(by rw[hx.A]at ha;cases ha),fun a ha=>(by rw[hx.A]at ha;cases ha)⟩
 have iC:=qh hinv
 clear hinv HOW VX VN HK HTB HCB HRB JY HN hb1 MO hlA hls q0 q1 q2 q3
 go_upto_block 0 with (fail)
 go_cut [] (fun wc =>∃(ae:List Col) (er:Int),dh 20 w g b q B n cap (.slice A ts.length c) (.string nm) rt LA l ae er wc)
 case first =>
  go_wp2_with fail
  go_loopw [8] (fun vi wr =>∃(i:Nat) (ae:List Col) (er:Int),i≤n∧vi=.int .i64 i∧dh 20 w g b q B n cap (.slice A ts.length c) (.string nm) rt LA l ae er wr) (fun vi _=>n-(intOf vi).toNat)
  case atStart=>exact⟨0,Aq,er,Nat.zero_le _,rfl,iC.out⟩
  case round =>
   clear iC
   obtain⟨i,ae,er2,hin,rfl,hinv⟩:=hrel
   have iC:=qh hinv
   obtain⟨q0,q1,q2,q3⟩:=Tab.blk hinv.AB
   have hwz:=hinv.res.lt
   have hci:i<n→i<ae.length:=fun h=>by rw[hinv.len];exact h
   clear hinv
   by_cases hlt:i<n
   ·have hil:=hci hlt
    have hlt':decide (i<n)=true:=by simpa using hlt
    by_cases hl0:0<l.length
    ·have hl0':decide (0<l.length)=true:=by simpa using hl0
     clear hci
     go_wp2_with fail
     (with_reducible refine(aK g b 3 _ iC.out.tape omA omA).mono ?_)
     rintro e w2 ⟨r1,rfl,hr1,hk2,hg2⟩
     have HI2:=qh (iC.out.next hg2 hk2)
     clear iC hk2 hg2 q0 q1 q2 q3 hr1
     by_cases hi0:i=0
     ·have OM:((i:Int) == 0)=true:=by simp;omega
      have UK:decide (0<(i:Int))=false:=by simp;omega
      have UJ:decide (0<i)=false:=by simp;omega
      clear hi0
      by_cases hr0:r1=0
      ·subst hr0
       exact LH
      ·have mM:((r1:Int) == 0)=false:=by simp;omega
       go_wp2_with fail
       go_roundw
       case rel=>exact⟨i+1,ae,er2,by omega,by go_num,HI2.out⟩
       case measure=>exact meA
     ·have OM:((i:Int) == 0)=false:=by simp;omega
      have UK:decide (0<(i:Int))=true:=by simp;omega
      have UJ:decide (0<i)=true:=by simp;omega
      clear hi0
      go_wp2_with fail
      (with_reducible refine(aK g b 4 _ HI2.out.tape omA omA).mono ?_)
      rintro e w2' ⟨r2,rfl,hr2,hk2,hg2⟩
      have We:=qh (HI2.out.next hg2 hk2)
      clear HI2 hk2 hg2 hr2
      have HI2:=We
      clear We
      by_cases hr0:r2=0
      ·subst hr0
       go_wp2_with fail
       go_roundw
       case rel=>exact⟨i+1,ae,er2,by omega,by go_num,HI2.out⟩
       case measure=>exact meA
      ·have mM:((r2:Int) == 0)=false:=by simp;omega
       clear hr0
       exact LH
    ·have hl0':decide (0<l.length)=false:=by simpa using hl0
     go_wp2_with fail
     go_meet
     exact⟨ae,er2,iC.out⟩
   ·have hlt':decide (i<n)=false:=by simpa using hlt
    go_wp2_with fail
    go_meet
    exact⟨ae,er2,iC.out⟩
 case rest =>
  clear iC
  obtain⟨ae,er3,hinv⟩:=hcut
  have h20:∀k (hk:k<ae.length),0≤k→ae[k].own.length≤20:=fun k hk _=>(hinv.fine _ (lgm hk)).own
  have iC:=qh (hinv.wide (show 20≤100 by omega))
  have H20:=qh h20
  clear hinv h20
  go_wp2_with fail
  go_loopw [12] (fun vi wr =>∃(i:Nat) (ae:List Col),i≤n∧vi=.int .i64 i∧dh 100 w g b q B n cap (.slice A ts.length c) (.string nm) rt LA l ae er3 wr∧(∀k (hk:k<ae.length),i≤k→ae[k].own.length≤20)) (fun vi _=>n-(intOf vi).toNat)
  case atStart=>exact⟨0,ae,Nat.zero_le _,rfl,iC.out,H20.out⟩
  case round =>
   clear iC H20
   obtain⟨i,ae,hin,rfl,hinv,h20⟩:=hrel
   have iC:=qh hinv
   have H20:=qh h20
   obtain⟨q0,q1,q2,q3⟩:=Tab.blk hinv.AB
   have hwz:=hinv.res.lt
   have hci:i<n→i<ae.length:=fun h=>by rw[hinv.len];exact h
   clear hinv h20
   by_cases hlt:i<n
   ·have hil:=hci hlt
    have hlt':decide (i<n)=true:=by simpa using hlt
    clear hci
    go_wp2_with fail
    clear q0 q1 q2 q3
    obtain⟨wo,rfl⟩:∃wo:World,wo=wr:=⟨_,rfl⟩
    go_loopw [14] (fun vn wi =>∃(m:Nat) (ae:List Col),m≤ts.length∧vn=.int .i64 m∧dh 100 w g b q B n cap (.slice A ts.length c) (.string nm) rt LA l ae er3 wi∧(∀k (hk:k<ae.length),i+1≤k→ae[k].own.length≤20)∧(∀hk:i<ae.length,ae[i].own.length≤20+m)) (fun vn _=>ts.length-(intOf vn).toNat)
    case atStart=>exact⟨0,ae,Nat.zero_le _,rfl,iC.out,fun k hk h=>H20.out k hk omA,fun hk=>by have:=H20.out i hk nlr;omega⟩
    case round =>
     clear iC H20 hil
     obtain⟨m,ae,hm,rfl,hinv,h20,Vt⟩:=hrel
     have iC:=qh hinv
     have H20:=qh h20
     have hil:i<ae.length:=by rw[hinv.len];exact hlt
     have p0:=hinv.Jm.cell 0
     simp only[gE3]at p0
     have hwz:=hinv.res.lt
     by_cases hmt:m<ts.length
     ·have htab:=HT.out.CZ hinv.kept HU.out hg0 HNE.out
      obtain⟨tb,tbo,rfl,htb,htc⟩:=htab.1.get hmt
      obtain⟨t0,t1,_,_⟩:=Tab.fV htc
      have hcl:=HC.out ts[m] (lgm hmt)
      obtain⟨cb,co,hce,hcb,hcc⟩:=(htab.2 ts[m] (lgm hmt)).1.get hcl
      have z4:=hcc 4 _ rfl
      have s3:=hinv.own.gq fQ hinv.len.symm hil (j:= 3) rfl
      have s4:=hinv.own.gq fQ hinv.len.symm hil (j:= 4) rfl
      have s4f:=hinv.own.kH hinv.len.symm (i*7+4)
      have hqz:=hinv.own.lt q rfl
      simp only[Nat.zero_mul,Nat.add_zero]at z4
      have hf:=hinv.fine ae[i] (lgm hil)
      have hol:=Vt hil
      obtain⟨⟨xn,xt,xs,xr,xA,xc,xo,xj,xd⟩,hx⟩:∃x:Col,ae[i]=x:=⟨_,rfl⟩
      rw[hx]at s3 s4 hf hol
      rw[hce]at t1
      obtain⟨tn,htn⟩:∃s,ts[m].name=s:=⟨_,rfl⟩
      rw[htn]at t0
      obtain⟨ol,Ur⟩:∃k:Nat,ts[m].ae[0].own.length=k:=⟨_,rfl⟩
      rw[Ur]at z4
      obtain⟨cl,ML⟩:∃k:Nat,ts[m].ae.length=k:=⟨_,rfl⟩
      rw[ML]at t1 hcl
      have hcl':decide (0<cl)=true:=by simpa using hcl
      have hk0:=az (w:=wr) tb htb
      have hk1:=az (w:=wr) cb hcb
      have hk2:=az (w:=wr) q hqz
      have hk3:=az (w:=wr) w.heap.size omA
      have HX:=qh hx
      have HF:=qh hf
      clear hinv h20 Vt htab htc hce hcc hx htn Ur ML hf
      by_cases hnm:tn=xr
      ·have hs:=KQ hnm
       clear hnm
       by_cases ho0:0<ol
       ·have Xd:decide (0<ol)=true:=by simpa using ho0
        go_upto_region 23 with (fail)
        refine af krA krA ?_;(repeat(go_big_quiet_step (fail)));refine wpQuiet_nil ?_;intro wq hq
        have HIQ:=qh (iC.out.below hq)
        clear hk0 hk1 hk2 hk3 p0 t0 t1 z4 s3 s4 s4f hs
        have s4:=HIQ.out.own.gq fQ HIQ.out.len.symm hil (j:= 4) bb
        have hfq:=HIQ.out.fine ae[i] (lgm hil)
        rw[HX.out]at hfq
        have HFQ:=qh hfq
        have Ql:=qh hfq.cap
        have HXL:=qh hfq.list
        have hwq:=HIQ.out.res.lt
        simp only at s4
        clear hfq
        go_wp2_with fail
        (with_reducible refine(Ff xA xc xo.length xo (i:Int) _ HXL.out rfl omA Ql.out).mono ?_)
        rintro e w8 ⟨⟨A8,c8,rfl,hc8,hs8,hA8⟩,hb8⟩
        have ZU:(jG xo (i:Int)).length≤xo.length+1:=Db (fun a b:Int=>a<b) xo (i:Int)
        have hpos:0<(jG xo (i:Int)).length:=List.length_pos_of_mem ((Da (fun a b:Int=>a<b) xo (i:Int) (i:Int)).2 (.inr rfl))
        have HI8:=qh (HIQ.out.below hb8)
        have s4':=HI8.out.own.gq fQ HI8.out.len.symm hil (j:= 4) bb
        have s4f:=HI8.out.own.kH HI8.out.len.symm (i*7+4)
        have hw8:=hb8.size
        have hcf:eD 100 (w.heap.size+3) w8 ⟨xn,xt,xs,xr,A8,c8,jG xo (i:Int),xj,xd⟩:=by
         have hf8:=HI8.out.fine ae[i] (lgm hil)
         rw[HX.out]at hf8
         refine⟨hf8.name,hf8.ns,hf8.refs,show (jG xo (i:Int)).length≤100 by omega,hc8,hs8,fun a ha =>?_,fun a ha =>?_⟩
         ·rcases hA8 with h|h
          ·exact hf8.up a (h▸ha)
          ·have:=h a ha
           omega
         ·obtain⟨b9,o9,he9,hb9,_⟩:=hs8 hpos
          have ha:A8=some a:=ha
          rw[he9]at ha
          injection ha with ha
          subst ha
          exact hb9
        have HCF:=qh hcf
        clear hcf hs8 hA8 hc8 hb8 HIQ HFQ Ql HXL s4
        go_wp2_with fail
        go_roundw
        case rel=>exact⟨m+1,ae.set i ⟨xn,xt,xs,xr,A8,c8,jG xo (i:Int),xj,xd⟩,by omega,by go_num,HI8.out.set hil ⟨xn,xt,xs,xr,A8,c8,jG xo (i:Int),xj,xd⟩ (j:= 4) omA rfl bb HCF.out,fun k hk hki=>by rw[List.getElem_set_ne omA];exact H20.out k (by simpa using hk) hki,fun hk=>by rw[List.getElem_set_self];show (jG xo (i:Int)).length≤20+(m+1);omega⟩
        case measure=>exact meA
       ·have Xd:decide (0<ol)=false:=by simpa using ho0
        go_upto_region 23 with (fail)
        refine af krA krA ?_;(repeat(go_big_quiet_step (fail)));refine wpQuiet_nil ?_;intro wq hq
        clear hk0 hk1 hk2 hk3 p0 t0 t1 z4 s3 s4 s4f hs
        have HIQ:=qh (iC.out.below hq)
        go_wp2_with fail
        go_roundw
        case rel=>exact⟨m+1,ae,by omega,by go_num,HIQ.out,H20.out,fun hk=>by rw[HX.out];exact Nat.le_succ_of_le hol⟩
        case measure=>exact meA
      ·have hs:=Hr hnm
       clear hnm
       go_upto_region 23 with (fail)
       refine af krA krA ?_;(repeat(go_big_quiet_step (fail)));refine wpQuiet_nil ?_;intro wq hq
       clear hk0 hk1 hk2 hk3 p0 t0 t1 z4 s3 s4 s4f hs
       have HIQ:=qh (iC.out.below hq)
       go_wp2_with fail
       go_roundw
       case rel=>exact⟨m+1,ae,by omega,by go_num,HIQ.out,H20.out,fun hk=>by rw[HX.out];exact Nat.le_succ_of_le hol⟩
       case measure=>exact meA
     ·have hmt':decide (m<ts.length)=false:=by simpa using hmt
      clear hinv h20
      have hme:m=ts.length:=by omega
      go_wp2_with fail
      go_roundw
      case rel=>exact⟨i+1,ae,by omega,by go_num,iC.out,H20.out⟩
      case measure=>exact meA
   ·have hlt':decide (i<n)=false:=by simpa using hlt
    clear hci
    have hinv:=iC.out
    obtain⟨r0,r1,r2,r3⟩:=Tab.blk hinv.res
    have f0:=hinv.res.frozen 0
    have f1:=hinv.res.frozen 1
    have f2:=hinv.res.frozen 2
    have f3:=hinv.res.frozen 3
    have HE:=qh hinv.toEnd
    clear hinv iC
    go_wp2_with fail
    refine bodyPost_ret (v:= .agg #[.string nm,.slice (some ⟨q,0,none⟩) n cap,.int .i64 er3,.int .i64 rt]) (by simp[results,Tryz.results65,go_sem,r0,r1,r2,r3]) rfl ?_
    have hE:=(((HE.out.set 0 (.string nm)).set 1 (.slice (some ⟨q,0,none⟩) n cap)).set 2 (.int .i64 er3)).set 3 (.int .i64 rt)
    exact⟨ae,er3,rfl,hE.own,hE.len,hE.low,hE.tape,hE.kept⟩
def eZ:Col:=⟨⟨#[99,48]⟩,1,⟨#[112,101,114,115,111,110]⟩,⟨#[]⟩,none,0,[],0,0⟩
def ed(b:Nat):Col:=⟨⟨#[99,49]⟩,2,⟨#[]⟩,⟨#[]⟩,some ⟨b,0,none⟩,1,[0],0,0⟩
def qM(b q:Nat):Tab:=⟨⟨#[116,48]⟩,some ⟨q,0,none⟩,2,[eZ,ed b],0,0⟩
theorem Nl(ts:List Tab)(b q:Nat):df ts [eZ,ed b] 0 0 0 0 eZ=0:=by
 have h1:cE1 eZ=false:=by decide +kernel
 have h2:cE2 [eZ,ed b] 0 eZ=false:=bg (fun⟨k,h,hk,_⟩=>by omega)
 have hr:(!eZ.refs.toList.isEmpty)=false:=by decide +kernel
 have h3:∀tg,cE3 eZ tg=false:=fun tg=>by rw[cE3,hr];rfl
 have h4:∀tg,cE4 ts eZ tg=false:=fun tg=>by rw[cE4,hr,Bool.and_false,Bool.false_and,Bool.or_false];rfl
 have h5:cE5 [eZ,ed b] eZ=false:=by
  have:pb (gB [eZ,ed b] eZ.own)=true:=bV (fun i h=>by simp[eZ]at h)
  rw[cE5,hr,this]
  simp[eZ,ed,aB]
 have h6:cE6 0 0 0 eZ=false:=by rfl
 have h7:∀tg,cE7 ts 0 eZ tg=false:=fun tg=>by rw[cE7,hr];rfl
 unfold df
 simp only[h1,h2,h3,h4,h5,h6,h7]
 rfl
theorem Nk(ts:List Tab)(b q:Nat):df ts [eZ,ed b] 0 0 0 1 (ed b)=0:=by
 have h1:cE1 (ed b)=false:=by
  have e1:eY (ed b).name=true:=by show eY ⟨#[99,49]⟩=true;decide +kernel
  have e2:(!(ed b).ns.toList.isEmpty)=false:=by show (!(⟨#[]⟩:ByteArray).toList.isEmpty)=false;decide +kernel
  rw[cE1,e1,e2]
  rfl
 have h2:cE2 [eZ,ed b] 1 (ed b)=false:=bg (fun⟨k,h,hk,he⟩=>by
  obtain rfl:k=0:=by omega
  have he:(⟨#[99,48]⟩:ByteArray)=⟨#[99,49]⟩:=he
  exact absurd he (by decide +kernel))
 have hr:(!(ed b).refs.toList.isEmpty)=false:=by show (!(⟨#[]⟩:ByteArray).toList.isEmpty)=false;decide +kernel
 have hn:(!(ed b).ns.toList.isEmpty)=false:=hr
 have h3:∀tg,cE3 (ed b) tg=false:=fun tg=>by rw[cE3,hr];rfl
 have h4:∀tg,cE4 ts (ed b) tg=false:=fun tg=>by rw[cE4,hr,Bool.and_false,Bool.false_and,Bool.or_false];rfl
 have h5:cE5 [eZ,ed b] (ed b)=false:=by
  have:pb (gB [eZ,ed b] (ed b).own)=true:=bV (fun i h=>by
   have h':i<1:=h
   obtain rfl:i=0:=by omega
   refine⟨show (0:Int)≤0 by omega,show (0:Int).toNat<2 by decide,fun h0=>absurd h0 omA,?_⟩
   rintro⟨e,_⟩
   have e:(⟨#[112,101,114,115,111,110]⟩:ByteArray)=⟨#[]⟩:=e
   exact absurd e (by decide +kernel))
  rw[cE5,hr,this]
  simp[eZ,ed,aB]
 have h6:cE6 0 0 1 (ed b)=false:=by rfl
 have h7:∀tg,cE7 ts 1 (ed b) tg=false:=fun tg=>by rw[cE7,hr];rfl
 unfold df
 simp only[h1,h2,h3,h4,h5,h6,h7]
 rfl
theorem Pt(b q:Nat):aN [qM b q]:=by
 refine⟨by simp,fun i h =>?_⟩
 have h':i<1:=by simpa using h
 obtain rfl:i=0:=by omega
 refine⟨?_,fun k hk=>by omega,?_⟩
 ·show eY ⟨#[116,48]⟩=true
  decide +kernel
 ·show jC [qM b q] 0 (qM b q)=0
  have hs:kC (qM b q)=true:=rfl
  rw[jC,if_pos hs]
  refine iR fun i hi =>?_
  have hi':i<2:=hi
  rcases(show i=0∨i=1 by omega) with rfl|rfl
  ·exact Nl _ b q
  ·exact Nk _ b q
theorem Jr(b q:Nat):aM [qM b q]:=by
 refine⟨by simp,fun t ht =>?_⟩
 rw[List.mem_singleton.1 ht]
 refine⟨show 2≤1000000 by omega,show 2≤1000000 by omega,Nat.le_refl 2,fun x hx =>?_⟩
 have hx:x=eZ∨x=ed b:=by simpa[qM]using hx
 rcases hx with rfl|rfl
 ·exact⟨show 2≤1000000 by omega,show 6≤1000000 by omega,show 0≤1000000 by omega,show 0≤1000000 by omega⟩
 ·exact⟨show 2≤1000000 by omega,show 0≤1000000 by omega,show 0≤1000000 by omega,show 1≤1000000 by omega⟩
theorem EY{P:Prop}(h:P:=by
 refine hK.out _ _ _ ⟨(HIX.out.cat.below qa hzc),(HBX.out.below qa hzT)⟩ (fun hHeld =>?_)
 clear hK K
 refine tkT 7 hHeld ?_ (hy:=by intro w' hSw;obtain⟨sw1,sw2⟩:=hSw;obtain⟨sa0,sa1,sa2,sa3,sa4,sa5,sa6,sa7⟩:=Cat.blk sw1;obtain⟨sb0,sb1,sb2,sb3⟩:=Tab.blk sw2;clear sw1 sw2;go_simp;first|done|with_reducible rfl)
 refine rzT 8 (fun K hK =>?_)
 clear hHeld
 have M0:=HBD.out.below qa hzX
 have s0:=M0.cell 0
 have sf:=M0.frozen 0
 simp only[gE3]at s0
 go_simp
 refine hK.out _ _ _ ?_
 clear hK K
 refine aI krA ?_ _
 go_wp2_with fail
 go_meet
 refine⟨A10,c10,by simpa using FC,?_,?_,fun a ha =>?_,ak (aL qa _) (.inl rfl) _⟩
 ·have:=M0.aH 0 (.slice A10 (ts.length+1) c10)
  simpa using this
 ·have:=IA.far (p:=⟨V.heap.size,0,none⟩) (fun a ha e=>by have:=(zJ a ha).1;have e:a.block=V.heap.size:=e;omega) (.slice A10 (ts.length+1) c10)
  simpa using this
 ·have:=zJ a ha
  simpa using this):P:=h
def lG(B:Nat)(A:Option Addr)(ts:List Tab):Prop:=(∀a,A=some a→a.block<B) ∧ ∀t∈ts,(∀a,t.A=some a→a.block<B) ∧ ∀x∈t.ae,∀a,x.A=some a→a.block<B
theorem lG.mono{B B':Nat}{A:Option Addr}{ts:List Tab}(h:lG B A ts)(hB:B≤B'):lG B' A ts:=
 ⟨fun a ha=>Nat.lt_of_lt_of_le (h.1 a ha) hB,fun t ht=>⟨fun a ha=>Nat.lt_of_lt_of_le ((h.2 t ht).1 a ha) hB,fun x hx a ha=>Nat.lt_of_lt_of_le ((h.2 t ht).2 x hx a ha) hB⟩⟩
theorem lG.ne{B q:Nat}{A:Option Addr}{ts:List Tab}(h:lG B A ts)(hq:B≤q):ze q A ts:=
 ⟨fun a ha e=>by have:=h.1 a ha;omega,fun t ht=>⟨fun a ha e=>by have:=(h.2 t ht).1 a ha;omega,fun x hx a ha e=>by have:=(h.2 t ht).2 x hx a ha;omega⟩⟩
theorem aF.wW{w w':World}{A:Option Addr}{ts:List Tab}{d:Nat}(h:aF w w.heap.size A ts)(hg:w.grownBy w' (some d))(hne:ze d A ts):aF w' w'.heap.size A ts:=
 ⟨h.1.grown hg (fun a ha e=>hne.1 a ha ba),fun t ht=>⟨(h.2 t ht).1.grown hg (fun a ha e=>(hne.2 t ht).1 a ha ba),fun x hx=>((h.2 t ht).2 x hx).grown hg (fun a ha e=>(hne.2 t ht).2 x hx a ha ba)⟩⟩
theorem gN.ne{B q:Nat}{A:Option Addr}{ts:List Tab}(h:gN B A ts)(hq:q<B):ze q A ts:=
 ⟨fun a ha e=>by have:=h.1 a ha;omega,fun t ht=>⟨fun a ha e=>by have:=(h.2 t ht).1 a ha;omega,fun x hx a ha e=>by have:=(h.2 t ht).2 x hx a ha;omega⟩⟩
theorem gN.app{B:Nat}{A A':Option Addr}{ts:List Tab}{t:Tab}(h:gN B A ts)(h1:∀a,A'=some a→B≤a.block)(h2:∀a,t.A=some a→B≤a.block)(h3:∀x∈t.ae,∀a,x.A=some a→B≤a.block):gN B A' (ts ++ [t]):=
 ⟨h1,fun y hy=>by
  rcases List.mem_append.1 hy with hy|hy
  ·exact h.2 y hy
  ·rw[List.mem_singleton.1 hy];exact⟨h2,h3⟩⟩
theorem lG.app{B:Nat}{A A':Option Addr}{ts:List Tab}{t:Tab}(h:lG B A ts)(h1:∀a,A'=some a→a.block<B)(h2:∀a,t.A=some a→a.block<B)(h3:∀x∈t.ae,∀a,x.A=some a→a.block<B):lG B A' (ts ++ [t]):=
 ⟨h1,fun y hy=>by
  rcases List.mem_append.1 hy with hy|hy
  ·exact h.2 y hy
  ·rw[List.mem_singleton.1 hy];exact⟨h2,h3⟩⟩
theorem aM.app{ts:List Tab}{t:Tab}(h:aM ts)(hl:ts.length≤100)(ht:G9 t):aM (ts ++ [t]):=
 ⟨by simp;omega,fun y hy=>by
  rcases List.mem_append.1 hy with hy|hy
  ·exact h.tabs y hy
  ·rw[List.mem_singleton.1 hy];exact ht⟩
theorem aF.app{w:World}{A A':Option Addr}{ts:List Tab}{t:Tab}(h:aF w w.heap.size A ts)(hs:ag w w.heap.size Tab.cells 4 A' (ts ++ [t]))(ht:iM w w.heap.size t.A t.ae):aF w w.heap.size A' (ts ++ [t]):=
 ⟨hs,fun y hy=>by
  rcases List.mem_append.1 hy with hy|hy
  ·exact h.2 y hy
  ·rw[List.mem_singleton.1 hy];exact ht⟩
structure oI (w:World) (g b:Nat) (A:Option Addr) (c:Nat) (ts:List Tab) (u:World):Prop where
 cat:Blk u (w.heap.size+1) 33 #[.slice A ts.length c,.slice none 0 0,.slice none 0 0,.slice none 0 0,.slice none 0 0,.slice none 0 0,.slice none 0 0,.slice none 0 0]
 res:Blk u w.heap.size 33 #[.slice none 0 0,.slice none 0 0,.slice none 0 0,.slice none 0 0,.slice none 0 0,.slice none 0 0,.slice none 0 0,.slice none 0 0]
 tabs:aF u u.heap.size A ts
 up:gN (w.heap.size+2) A ts
 bd:lG u.heap.size A ts
 ok:aN ts
 wJ:aM ts
 cap:ts.length≤c
 tape:aP u g b
 grown:w.grownBy u (some g)
 ltg:g<w.heap.size
 ltb:b<w.heap.size
section
variable {w u v:World}{g b:Nat}{A:Option Addr}{c:Nat}{ts:List Tab}
theorem oI.next(h:oI w g b A c ts u)(hg:u.grownBy v (some g))(hk:aP v g b):oI w g b A c ts v:=by
 have h1:=h.ltg
 have hne:∀i,w.heap.size≤i→some i≠some g:=fun i hi e=>by injection e with e;omega
 exact⟨h.cat.grown hg (hne _ omA),h.res.grown hg (hne _ omA),h.tabs.grown h.up omA hg,h.up,h.bd.mono hg.size,h.ok,h.wJ,h.cap,hk,au h.grown hg,h.ltg,h.ltb⟩
theorem Jq:aN []:=⟨by simp,fun i h=>by simp at h⟩
theorem Ht:aM []:=⟨by simp,fun t h=>by simp at h⟩
end
theorem eD.Pf{M w0:Nat}{u:World}{x:Col}(h:eD M w0 u x){p:Addr}(hp:p.block<w0)(z:Value):eD M w0 (u.setCell p z) x:=
 ⟨h.name,h.ns,h.refs,h.own,h.cap,by have:=h.list.far (p:=p) (fun a ha e=>by have:=h.up a ha;omega) z;simpa using this,h.up,fun a ha=>by simpa using h.lt a ha⟩
theorem aP.Vw{w:World}{g b:Nat}(h:aP w g b):aP w.drew g b:=h.below (brf.drew)
theorem Cq(g b n:Nat)(w:World)(hk:aP w g b)(hn:n≤3)(hn1:1≤n):
 Calls Tryz.prog 25 #[.pointer (some ⟨g,0,none⟩),.int .i64 n] w fun e w' =>
  ∃(A:Option Addr) (c:Nat) (ts:List Tab),e=.returned (.agg #[.slice A ts.length c,.slice none 0 0,.slice none 0 0,.slice none 0 0,.slice none 0 0,.slice none 0 0,.slice none 0 0,.slice none 0 0])∧aF w' w'.heap.size A ts∧gN w.heap.size A ts∧lG w'.heap.size A ts∧aM ts∧aN ts ∧ 0<ts.length∧ts.length≤n∧aP w' g b∧w.grownBy w' (some g):=by
 have HK:=qh hk
 have hgl:=hk.ltg
 have hbl:=hk.lt
 obtain⟨ic,hic,lL,lK,lJ⟩:=info_parts Ov
 obtain⟨it,hit,Iy,Iw,Iu⟩:=info_parts Ot
 clear hk
 go_enter Tryz.func25,Tryz.ntmps25
 go_upto_region 2 with (fail)
 refine ah (P:=fun u=>Code.wp _ _ _ _ u) (R:=fun u=>oI w g b none 0 ([]:List Tab) u) ?_ ?_
 ·refine⟨Blk.new' spA,(Blk.new' rfl).alloc _,⟨ag.nil,fun t h=>by simp at h⟩,⟨fun a ha=>(by cases ha),fun t h=>by simp at h⟩,⟨fun a ha=>(by cases ha),fun t h=>by simp at h⟩,Jq,Ht,Nat.le_refl _,(HK.out.alloc _).alloc _,aL ai _,hgl,hbl⟩
 rintro W hinv
 have iC:=qh hinv
 clear hinv HK
 go_upto_block 0 with (fail)
 go_cut [] (fun wc =>∃(A:Option Addr) (c:Nat) (ts:List Tab),ts.length≤n∧oI w g b A c ts wc)
 case first =>
  go_wp2_with fail
  go_loopw [6] (fun vi wr =>∃(i:Nat) (A:Option Addr) (c:Nat) (ts:List Tab),i≤n∧vi=.int .i64 i∧ts.length≤i∧oI w g b A c ts wr) (fun vi _=>n-(intOf vi).toNat)
  case atStart=>exact⟨0,none,0,[],Nat.zero_le _,rfl,Nat.le_refl _,iC.out⟩
  case round =>
   clear iC
   obtain⟨i,A,c,ts,hin,rfl,htl,hinv⟩:=hrel
   have iC:=qh hinv
   have hwz:=hinv.cat.lt
   have hU:=hinv.tape
   clear hinv
   by_cases hlt:i<n
   ·have hlt':decide (i<n)=true:=by simpa using hlt
    have kG:(i:Int)<(n:Int):=by omega
    have HT0:=qh hU
    clear hU
    go_wp2_with fail
    (with_reducible refine(Ah ⟨#[116]⟩ i omA (by decide) _).mono ?_)
    rintro e w1 ⟨rfl,hb1⟩
    obtain⟨nx,hnx⟩:∃nx:ByteArray,(⟨#[116]⟩++⟨#[yO i]⟩:ByteArray)=nx:=⟨_,rfl⟩
    have Xe:nx.size≤2:=by rw[←hnx,ByteArray.size_append];exact Nat.le_refl 2
    rw[hnx]
    have hg1:wr.grownBy w1 (some g):=aL hb1 _
    have HT1:=qh (HT0.out.below hb1)
    clear HT0 hnx hb1
    go_wp2_with fail
    (with_reducible refine(aK g b 2 _ HT1.out omA omA).mono ?_)
    rintro e w2 ⟨r2,rfl,hr2,hk2,hg2⟩
    have BC:=au hg1 hg2
    have HT2:=qh hk2
    clear HT1 hk2 hg1 hg2
    go_wp2_with fail
    (with_reducible refine(aK g b 4 _ (HT2.out.alloc _) omA omA).mono ?_)
    rintro e w3 ⟨r3,rfl,hr3,hk3,hg3⟩
    have Bt:r3<4:=by rcases hr3 with h|h<;>omega
    have hL:Blk w3 w2.heap.size 3 #[.int .i64 0,.int .i64 0,.int .i64 25,.int .i64 40]:=Blk.grown (Blk.new' rfl) hg3 (fun e=>by injection e with e;have:=BC.size;omega)
    obtain⟨z3,hz3⟩:∃z:Int,w3.cell? ⟨w2.heap.size,r3,none⟩=some (.int .i64 z):=by
     rw[hL.cell]
     rcases(show r3=0∨r3=1∨r3=2∨r3=3 by omega) with rfl|rfl|rfl|rfl
     all_goals exact⟨_,rfl⟩
    have RD:=au (bP BC _) hg3
    have HT3:=qh hk3
    clear HT2 hk3 BC hg3 hL hr2 hr3
    go_upto_region 6 with (fail)
    obtain⟨T,hT⟩:∃T,w3.heap.size=T:=⟨_,rfl⟩
    rw[hT]
    refine ah (P:=fun u=>Code.wp _ _ _ _ u) (R:=fun u=>Blk u T 61 #[.string nx,.slice none 0 0,.int .i64 r2,.int .i64 z3]∧aP u g b∧wr.grownBy u (some g)) ⟨?_,?_,?_⟩ ?_
    ·exact Blk.new' hT
    ·exact HT3.out.alloc _
    ·exact bP RD _
    have hTz:wr.heap.size≤T:=by have:=RD.size;omega
    clear HT3 RD hT hz3
    rintro U ⟨hBU,hKU,hGU⟩
    have HBU:=qh hBU
    have HKU:=qh hKU
    have hUz:=hBU.lt
    clear hBU hKU
    go_wp2_with fail
    (with_reducible refine(aK g b 3 _ HKU.out omA omA).mono ?_)
    rintro e w4 ⟨r4,rfl,hr4,hk4,hg4⟩
    have Ue:r4<3:=by rcases hr4 with h|h<;>omega
    have hG4:=au hGU hg4
    have HT4:=qh hk4
    have HB4:=qh (HBU.out.grown hg4 inA)
    have hz4:=hG4.size
    have X6:=HB4.out.lt
    clear HKU HBU hGU hk4 hg4 hr4
    go_wp2_with fail
    obtain⟨wo,rfl⟩:∃wo:World,wo=wr:=⟨_,rfl⟩
    go_loopw [8] (fun vm wi =>∃(mm:Nat) (A9:Option Addr) (c9:Nat) (ae:List Col),vm=.int .i64 mm∧ae.length+mm=2+r4∧Blk wi T 61 #[.string nx,.slice A9 ae.length c9,.int .i64 r2,.int .i64 z3]∧aj wi (T+1) 109 Col.cells 7 (.slice A9 ae.length c9) ae∧(∀x∈ae,Gq x)∧aP wi g b∧wo.grownBy wi (some g)) (fun vm _=>(intOf vm).toNat)
    case atStart=>exact⟨2+r4,none,0,[],by go_num,by simp,HB4.out,aj.nil,fun x h=>absurd h spA,HT4.out,hG4⟩
    case round =>
     clear HB4 HT4 hG4 hz4 X6 hUz
     obtain⟨mm,A9,c9,ae,rfl,hmm,hB5,hO5,hN5,hK5,hG5⟩:=hrel
     have hI5:=iC.out.next hG5 hK5
     have HI5:=qh hI5
     have HB5:=qh hB5
     have HO5:=qh hO5
     have HN5:=qh hN5
     have HK5:=qh hK5
     have hrow:=hO5.row
     have X5:=hB5.lt
     have il:=hI5.cat
     obtain⟨p0,p1,p2,p3⟩:=Tab.blk hB5
     have hz5:=hG5.size
     by_cases hm0:0<mm
     ·have ZI:(0:Int)<(mm:Int):=by omega
      have OQ:ae.length≤4:=by omega
      clear hI5 hO5 hN5 hK5
      go_upto_region 9 with (fail)
      clear p0 p1 p2 p3
      have vS:=qh il
      refine aJ (S:=(fun w'=>Blk w' (w.heap.size+1) 33 #[.slice A ts.length c,.slice none 0 0,.slice none 0 0,.slice none 0 0,.slice none 0 0,.slice none 0 0,.slice none 0 0,.slice none 0 0]∧Blk w' T 61 #[.string nx,.slice A9 ae.length c9,.int .i64 r2,.int .i64 z3])) [12] krA ⟨il.drew,hB5.drew⟩ (fun hHeld =>?_)
      clear il hB5
      refine tkT 0 hHeld ?_ (hy:=by intro w' hSw;obtain⟨sw1,sw2⟩:=hSw;obtain⟨sa0,sa1,sa2,sa3,sa4,sa5,sa6,sa7⟩:=Cat.blk sw1;obtain⟨sb0,sb1,sb2,sb3⟩:=Tab.blk sw2;clear sw1 sw2;go_simp;first|done|with_reducible rfl)
      refine tkT 1 hHeld ?_ (hy:=by intro w' hSw;obtain⟨sw1,sw2⟩:=hSw;obtain⟨sa0,sa1,sa2,sa3,sa4,sa5,sa6,sa7⟩:=Cat.blk sw1;obtain⟨sb0,sb1,sb2,sb3⟩:=Tab.blk sw2;clear sw1 sw2;go_simp;first|done|with_reducible rfl)
      refine tkT 2 hHeld ?_ (hy:=by intro w' hSw;obtain⟨sw1,sw2⟩:=hSw;obtain⟨sa0,sa1,sa2,sa3,sa4,sa5,sa6,sa7⟩:=Cat.blk sw1;obtain⟨sb0,sb1,sb2,sb3⟩:=Tab.blk sw2;clear sw1 sw2;go_simp;first|done|with_reducible rfl)
      refine tkT 3 hHeld ?_ (hy:=by intro w' hSw;obtain⟨sw1,sw2⟩:=hSw;obtain⟨sa0,sa1,sa2,sa3,sa4,sa5,sa6,sa7⟩:=Cat.blk sw1;obtain⟨sb0,sb1,sb2,sb3⟩:=Tab.blk sw2;clear sw1 sw2;go_simp;first|done|with_reducible rfl)
      refine tkT 4 hHeld ?_ (hy:=by intro w' hSw;obtain⟨sw1,sw2⟩:=hSw;obtain⟨sa0,sa1,sa2,sa3,sa4,sa5,sa6,sa7⟩:=Cat.blk sw1;obtain⟨sb0,sb1,sb2,sb3⟩:=Tab.blk sw2;clear sw1 sw2;go_simp;first|done|with_reducible rfl)
      refine tkT 5 hHeld ?_ (hy:=by intro w' hSw;obtain⟨sw1,sw2⟩:=hSw;obtain⟨sa0,sa1,sa2,sa3,sa4,sa5,sa6,sa7⟩:=Cat.blk sw1;obtain⟨sb0,sb1,sb2,sb3⟩:=Tab.blk sw2;clear sw1 sw2;go_simp;first|done|with_reducible rfl)
      refine tkT 6 hHeld ?_ (hy:=by intro w' hSw;obtain⟨sw1,sw2⟩:=hSw;obtain⟨sa0,sa1,sa2,sa3,sa4,sa5,sa6,sa7⟩:=Cat.blk sw1;obtain⟨sb0,sb1,sb2,sb3⟩:=Tab.blk sw2;clear sw1 sw2;go_simp;first|done|with_reducible rfl)
      refine tkT 7 hHeld ?_ (hy:=by intro w' hSw;obtain⟨sw1,sw2⟩:=hSw;obtain⟨sa0,sa1,sa2,sa3,sa4,sa5,sa6,sa7⟩:=Cat.blk sw1;obtain⟨sb0,sb1,sb2,sb3⟩:=Tab.blk sw2;clear sw1 sw2;go_simp;first|done|with_reducible rfl)
      refine r1T 8 (fun K hK =>?_)
      go_simp
      (with_reducible refine(Co g b (w.heap.size+2) A c ts.length ts _ ae.length _ HK5.out.Vw (HI5.out.tabs.next ai) rfl HI5.out.up omA omA (fun t ht=>by obtain⟨k,hk,rfl⟩:=List.getElem_of_mem ht;exact(HI5.out.ok.ae hk).1) HI5.out.wJ omA ⟨nx,.slice A9 ae.length c9,r2,z3,rfl,rfl⟩).mono ?_)
      rintro e w5 ⟨⟨xn,xt,xs,xr,xA,xc,xo,xj,xd⟩,rfl,hxn,hk6,hg6⟩
      have Xg:some T≠some g:=fun e=>by injection e with e;omega
      have Xh:some (w.heap.size+1)≠some g:=fun e=>by injection e with e;omega
      have HK6:=qh hk6
      have hG6:wo.grownBy w5 (some g):=au (sK hG5) hg6
      have HO6:=qh (HO5.out.drew.grown hg6 omA)
      have hz6:=hG6.size
      have HXN:=qh hxn
      have aan:T<w5.heap.size:=by have:=hg6.size;simp at this;omega
      clear hk6 hxn
      go_wp2_with fail
      refine hK.out _ _ _ ⟨(hHeld.1.grown hg6 Xh),(hHeld.2.grown hg6 Xg)⟩ (fun hHeld =>?_)
      clear hK K
      clear hg6
      refine r1T 9 (fun K hK =>?_)
      dsimp only[Col.cells]
      go_simp
      refine hK.out _ _ _ ⟨(hHeld.1.alloc _),(hHeld.2.alloc _)⟩ (fun hHeld =>?_)
      clear hK K
      refine r1T 10 (fun K hK =>?_)
      (refine av _ rfl (.tmp 33) (.tmp 41) 59 rfl 109 ic _ Col.cells 7 96 Tryz.underlying59 hic lL lK lJ rfl omA fQ Pm (T+1) (.slice A9 ae.length c9) ae rfl (HO6.out.alloc _) _ _ _ [⟨xn,xt,xs,xr,xA,xc,xo,xj,xd⟩] rfl rfl (Blk.one (enc:=Col.cells) (x:=⟨xn,xt,xs,xr,xA,xc,xo,xj,xd⟩) (Blk.new' rfl) spA) smA mxA smA ?_;intro v' w6 hown6 hg7 IW)
      obtain⟨A10,c10,rfl,FC,zJ⟩:=hown6.form
      have Bp:∀k,k<T+1→some k≠(Value.slice A9 ae.length c9).ownBlock:=fun k hk e=>by have:=hrow _ e.symm;omega
      have HK7:=qh ((HK6.out.alloc _).FI hg7 (Bp g omA) (Bp b omA))
      have hG7:wo.grownBy w6 (some g):=iq (bP hG6 _) hg7 (fun q e=>by have:=hrow q e;omega)
      refine hK.out _ _ _ ⟨(hHeld.1.grown hg7 (Bp _ omA)),(hHeld.2.grown hg7 (Bp _ omA))⟩ (fun hHeld =>?_)
      clear hK K
      have HB7:=qh hHeld.2
      have HO7:=qh hown6
      have aam:=hHeld.2.lt
      obtain⟨_,s1,_,_⟩:=Tab.blk hHeld.2
      have sf:=hHeld.2.frozen 1
      clear hown6 hg7 IW FC zJ
      refine tkT 11 hHeld ?_ (hy:=by intro w' hSw;obtain⟨sw1,sw2⟩:=hSw;obtain⟨sa0,sa1,sa2,sa3,sa4,sa5,sa6,sa7⟩:=Cat.blk sw1;obtain⟨sb0,sb1,sb2,sb3⟩:=Tab.blk sw2;clear sw1 sw2;go_simp;first|done|with_reducible rfl)
      refine rzT 12 (fun K hK =>?_)
      clear hHeld
      go_simp
      refine hK.out _ _ _ ?_
      clear hK K
      refine aI krA ?_ _
      clear s1 sf
      go_wp2_with fail
      go_roundw
      case rel =>
       refine⟨mm-1,A10,c10,ae ++ [⟨xn,xt,xs,xr,xA,xc,xo,xj,xd⟩],by go_num,by simp;omega,?_,HO7.out.far (fun k hk e =>?_) _,fun y hy =>?_,HK7.out.far smA smA _,ak hG7 (.inr smA) _⟩
       ·have:=HB7.out.aH 1 (.slice A10 (ae ++ [(⟨xn,xt,xs,xr,xA,xc,xo,xj,xd⟩:Col)]).length c10)
        simpa using this
       ·have h1:=HO7.out.row k hk
        have e:k=T:=e
        omega
       ·rcases List.mem_append.1 hy with h|h
        ·exact HN5.out y h
        ·rw[List.mem_singleton.1 h]
         exact HXN.out
      case measure=>exact meA
     ·obtain rfl:mm=0:=by omega
      have hpos:0<ae.length:=by omega
      have XL:ae.length≤8:=by omega
      obtain⟨q,cap,hq,hTq⟩:=hO5.pE hpos
      injection hq with hq1 hq2 hq3
      subst hq1 hq3
      clear hq2 hI5 hO5 hN5 hK5
      obtain⟨a0,a1,a2,a3,a4,a5,a6,a7⟩:=Cat.blk il
      clear il
      go_wp2_with fail
      (with_reducible refine(KH g b (w.heap.size+2) (T+1) q ae.length c9 A c ts.length ts nx ae r2 z3 _ HK5.out HI5.out.tabs rfl HI5.out.up omA (iC.out.bd.ne omA) omA (fun t ht=>by obtain⟨k,hk,rfl⟩:=List.getElem_of_mem ht;exact(HI5.out.ok.ae hk).1) HI5.out.wJ HO5.out rfl XL HN5.out omA omA).mono ?_)
      rintro e w7 ⟨jA,er7,rfl,hO7,hl7,hf7,hk7,Bw⟩
      have hz7:=Bw.size
      have Vj:T≠q:=by omega
      have hB7:Blk w7 T 61 #[.string nx,.slice (some ⟨q,0,none⟩) ae.length c9,.int .i64 r2,.int .i64 z3]:=(Bw.block T X5 omA Vj).trans hB5
      have hG7:wo.grownBy w7 (some g):=Bw.up hG5 omA
      have HB7:=qh hB7
      have HO7:=qh hO7
      have HF7:=qh hf7
      have HK7:=qh hk7
      have HL7:=qh hl7
      obtain⟨p0,p1,p2,p3⟩:=Tab.blk hB7
      have f0:=hB7.frozen 0
      have f1:=hB7.frozen 1
      have f2:=hB7.frozen 2
      have f3:=hB7.frozen 3
      clear hB7 hO7 hf7 hk7 hl7 Bw hB5 a0 a1 a2 a3 a4 a5 a6 a7 HI5 HO5 HN5 HK5 HB5
      go_upto_region 11 with (fail)
      refine ah (P:=fun u=>Code.wp _ _ _ _ u) (R:=fun u=>Blk u T 61 #[.string nx,.slice (some ⟨q,0,none⟩) ae.length c9,.int .i64 er7,.int .i64 z3]∧aj u (T+1) 109 Col.cells 7 (.slice (some ⟨q,0,none⟩) ae.length c9) jA∧(∀x∈jA,eD 100 (T+1) u x)∧aP u g b∧wo.grownBy u (some g)) ⟨?_,?_,?_,?_,?_⟩ ?_
      ·with_reducible refine Blk.eq ((((HB7.out.aH 0 _).aH 1 _).aH 2 _).aH 3 _) ?_
       simp
      ·have iK:∀k,(Value.slice (some ⟨q,0,none⟩) ae.length c9).ownBlock=some k→k≠T:=fun k hk=>by have:=HO7.out.row k hk;omega
       exact(((HO7.out.far iK _).far iK _).far iK _).far iK _
      ·intro x hx
       have f:=HF7.out x hx
       have f':eD 100 (T+1) w7 x:=⟨f.name,f.ns,f.refs,f.own,f.cap,f.list,fun a ha=>by have:=f.up a ha;omega,f.lt⟩
       exact(((f'.Pf (Nat.lt_succ_self T) _).Pf (Nat.lt_succ_self T) _).Pf (Nat.lt_succ_self T) _).Pf (Nat.lt_succ_self T) _
      ·have n1:g≠T:=by omega
       have n2:b≠T:=by omega
       exact(((HK7.out.far n1 n2 _).far n1 n2 _).far n1 n2 _).far n1 n2 _
      ·exact ak (ak (ak (ak hG7 (.inr hTz) _) (.inr hTz) _) (.inr hTz) _) (.inr hTz) _
      clear HB7 HO7 HF7 HK7 hG7 p0 p1 p2 p3 f0 f1 f2 f3 Vj
      rintro V ⟨hB8,hO8,hF8,hK8,hG8⟩
      have hI8:=iC.out.next hG8 hK8
      have HI8:=qh hI8
      have HB8:=qh hB8
      have HO8:=qh hO8
      have HF8:=qh hF8
      have X4:=hB8.lt
      have Zz:=hO8.lt q rfl
      have Z9:=hI8.cat.lt
      obtain⟨a0,a1,a2,a3,a4,a5,a6,a7⟩:=Cat.blk hI8.cat
      clear hB8 hO8 hF8 hK8 hI8
      go_upto_region 12 with (fail)
      obtain⟨D,hD⟩:∃D,V.heap.size=D:=⟨_,rfl⟩
      rw[hD]
      refine ah (P:=fun u=>Code.wp _ _ _ _ u) (R:=fun u=>Blk u D 33 #[.slice A ts.length c,.slice none 0 0,.slice none 0 0,.slice none 0 0,.slice none 0 0,.slice none 0 0,.slice none 0 0,.slice none 0 0]∧Below V.heap.size V u) ⟨?_,?_⟩ ?_
      ·exact Blk.new' hD
      ·exact ai
      clear a0 a1 a2 a3 a4 a5 a6 a7
      rintro X ⟨hBD,hbX⟩
      rw[←hD]at hBD ⊢
      have hzX:=hBD.lt
      have hGX:wo.grownBy X (some g):=l8 hG8 hbX
      have HIX:=qh (HI8.out.next (aL hbX _) (HI8.out.tape.below hbX))
      have HBX:=qh (HB8.out.below hbX X4)
      have HOX:=qh (HO8.out.below hbX nlr)
      have HFX:Hid (∀x∈jA,eD 100 (T+1) X x):=qh (fun x hx=>(HF8.out x hx).keep (aL hbX none) (fun i e=>by cases e))
      have HBD:=qh hBD
      have hcX:=HIX.out.cat
      have hbT:=HBX.out
      have Zm:ts.length≤3:=by omega
      have Uz:∀x∈jA,∀a,x.A=some a→a.block<V.heap.size:=fun x hx=>(HF8.out x hx).lt
      have HLV:=qh Uz
      clear HB8 HO8 HF8 HI8 hG8 hbX hD Uz
      have hcells:(Tab.cells ⟨nx,some ⟨q,0,none⟩,c9,jA,er7,z3⟩).toArray=#[.string nx,.slice (some ⟨q,0,none⟩) ae.length c9,.int .i64 er7,.int .i64 z3]:=by simp[Tab.cells,HL7.out]
      have HCE:=qh hcells
      have hzc:w.heap.size+1<X.heap.size:=HIX.out.cat.lt
      have hzT:T<X.heap.size:=HBX.out.lt
      clear hcells
      go_cut [] (fun wc =>∃(A10:Option Addr) (c10:Nat),ts.length+1≤c10∧Blk wc V.heap.size 33 #[.slice A10 (ts.length+1) c10,.slice none 0 0,.slice none 0 0,.slice none 0 0,.slice none 0 0,.slice none 0 0,.slice none 0 0,.slice none 0 0]∧ag wc wc.heap.size Tab.cells 4 A10 (ts ++ [⟨nx,some ⟨q,0,none⟩,c9,jA,er7,z3⟩])∧(∀a,A10=some a→X.heap.size≤a.block∧a.block<wc.heap.size)∧X.grownBy wc (some V.heap.size))
      case first =>
       refine aJ (S:=(fun w'=>Blk w' (w.heap.size+1) 33 #[.slice A ts.length c,.slice none 0 0,.slice none 0 0,.slice none 0 0,.slice none 0 0,.slice none 0 0,.slice none 0 0,.slice none 0 0]∧Blk w' T 61 #[.string nx,.slice (some ⟨q,0,none⟩) ae.length c9,.int .i64 er7,.int .i64 z3])) [8] krA ⟨hcX.drew,hbT.drew⟩ (fun hHeld =>?_)
       clear hcX hbT hBD
       refine tkT 1 hHeld ?_ (hy:=by intro w' hSw;obtain⟨sw1,sw2⟩:=hSw;obtain⟨sa0,sa1,sa2,sa3,sa4,sa5,sa6,sa7⟩:=Cat.blk sw1;obtain⟨sb0,sb1,sb2,sb3⟩:=Tab.blk sw2;clear sw1 sw2;go_simp;first|done|with_reducible rfl)
       refine tkT 2 hHeld ?_ (hy:=by intro w' hSw;obtain⟨sw1,sw2⟩:=hSw;obtain⟨sa0,sa1,sa2,sa3,sa4,sa5,sa6,sa7⟩:=Cat.blk sw1;obtain⟨sb0,sb1,sb2,sb3⟩:=Tab.blk sw2;clear sw1 sw2;go_simp;first|done|with_reducible rfl)
       refine tkT 4 hHeld ?_ (hy:=by intro w' hSw;obtain⟨sw1,sw2⟩:=hSw;obtain⟨sa0,sa1,sa2,sa3,sa4,sa5,sa6,sa7⟩:=Cat.blk sw1;obtain⟨sb0,sb1,sb2,sb3⟩:=Tab.blk sw2;clear sw1 sw2;go_simp;first|done|with_reducible rfl)
       refine r2T 0 5 (fun K hK =>?_) (fun K hK =>?_)
       ·go_simp
        refine hK.out _ _ _ ⟨(hHeld.1.alloc _),(hHeld.2.alloc _)⟩ (fun hHeld =>?_)
        clear hK K
        refine r2T 3 5 (fun K hK =>?_) (fun K hK =>?_)
        ·(refine av _ rfl (.tmp 49) (.tmp 51) 24 rfl 61 it _ Tab.cells 4 56 Tryz.underlying24 hit Iy Iw Iu rfl omA jQ ql X.heap.size (.slice (some ⟨X.heap.size,0,none⟩) 0 0) [] rfl (aj.empty nbA leA) _ _ _ ts rfl rfl (HIX.out.tabs.1.next ai) smA mxA leA ?_;intro v1 w9 gH hg9 Dt;have hb9:Below X.heap.size X w9:=Below.grown ai hg9 leA (bX leA);rw[List.nil_append]at gH;have hz9:=hb9.size)
         refine hK.out _ _ _ ⟨(HIX.out.cat.below hb9 hzc),(HBX.out.below hb9 hzT)⟩ (fun hHeld =>?_)
         clear hK K
         refine r1T 5 (fun K hK =>?_)
         go_simp
         refine hK.out _ _ _ ⟨(hHeld.1.alloc _),(hHeld.2.alloc _)⟩ (fun hHeld =>?_)
         clear hK K
         refine r1T 6 (fun K hK =>?_)
         (refine av _ rfl (.tmp 52) (.tmp 54) 24 rfl 61 it _ Tab.cells 4 56 Tryz.underlying24 hit Iy Iw Iu rfl omA jQ ql X.heap.size v1 ts rfl (gH.alloc _) _ _ _ [⟨nx,some ⟨q,0,none⟩,c9,jA,er7,z3⟩] rfl rfl (Blk.one (enc:=Tab.cells) (x:=⟨nx,some ⟨q,0,none⟩,c9,jA,er7,z3⟩) (by rw[HCE.out];exact(Blk.new' rfl)) spA) smA mxA leA ?_;intro v2 w10 yC BD Qh;have qa:Below X.heap.size X w10:=Below.grown ai BD leA gH.row;have Tn:=qa.size;obtain⟨A10,c10,rfl,FC,IA,zJ⟩:=yC.slice jQ)
         exact EY
        ·go_simp
         refine hK.out _ _ _ ⟨(hHeld.1.alloc _),(hHeld.2.alloc _)⟩ (fun hHeld =>?_)
         clear hK K
         refine r1T 3 (fun K hK =>?_)
         (refine av _ rfl (.tmp 49) (.tmp 51) 24 rfl 61 it _ Tab.cells 4 56 Tryz.underlying24 hit Iy Iw Iu rfl omA jQ ql X.heap.size (.slice (some ⟨X.heap.size,0,none⟩) 0 0) [] rfl (aj.empty nbA leA) _ _ _ ts rfl rfl (HIX.out.tabs.1.next ai) smA mxA leA ?_;intro v1 w9 gH hg9 Dt;have hb9:Below X.heap.size X w9:=Below.grown ai hg9 leA (bX leA);rw[List.nil_append]at gH;have hz9:=hb9.size)
         have hbt:=Blk.grown (g:=X.heap.size+1) (t:= 61) (cs:= #[.string nx,.slice (some ⟨q,0,none⟩) ae.length c9,.int .i64 er7,.int .i64 z3]) (by first|exact Blk.new' sdA|exact(Blk.new' sdA).drew) hg9 (jF omA)
         refine hK.out _ _ _ ⟨(HIX.out.cat.below hb9 hzc),(HBX.out.below hb9 hzT)⟩ (fun hHeld =>?_)
         clear hK K
         refine r1T 6 (fun K hK =>?_)
         (refine av _ rfl (.tmp 52) (.tmp 54) 24 rfl 61 it _ Tab.cells 4 56 Tryz.underlying24 hit Iy Iw Iu rfl omA jQ ql X.heap.size v1 ts rfl gH _ _ _ [⟨nx,some ⟨q,0,none⟩,c9,jA,er7,z3⟩] rfl rfl (Blk.one (enc:=Tab.cells) (x:=⟨nx,some ⟨q,0,none⟩,c9,jA,er7,z3⟩) (by rw[HCE.out];exact hbt) hbt.lt) smA mxA leA ?_;intro v2 w10 yC BD Qh;have qa:Below X.heap.size X w10:=Below.grown ai BD leA gH.row;have Tn:=qa.size;obtain⟨A10,c10,rfl,FC,IA,zJ⟩:=yC.slice jQ)
         exact EY
       ·go_simp
        refine hK.out _ _ _ ⟨(hHeld.1.alloc _),(hHeld.2.alloc _)⟩ (fun hHeld =>?_)
        clear hK K
        refine r1T 0 (fun K hK =>?_)
        go_simp
        refine hK.out _ _ _ ⟨(hHeld.1.alloc _),(hHeld.2.alloc _)⟩ (fun hHeld =>?_)
        clear hK K
        refine r1T 3 (fun K hK =>?_)
        (refine av _ rfl (.tmp 49) (.tmp 51) 24 rfl 61 it _ Tab.cells 4 56 Tryz.underlying24 hit Iy Iw Iu rfl omA jQ ql X.heap.size (.slice (some ⟨(X.heap.size+1),0,none⟩) 0 0) [] rfl (aj.empty nbA leA) _ _ _ ts rfl rfl (HIX.out.tabs.1.next ai) smA mxA leA ?_;intro v1 w9 gH hg9 Dt;have hb9:Below X.heap.size X w9:=Below.grown ai hg9 leA (bX leA);rw[List.nil_append]at gH;have hz9:=hb9.size)
        have hbt:=Blk.grown (g:=X.heap.size) (t:= 61) (cs:= #[.string nx,.slice (some ⟨q,0,none⟩) ae.length c9,.int .i64 er7,.int .i64 z3]) (by first|exact(Blk.new' sdA).alloc _|exact((Blk.new' sdA).alloc _).drew|exact((Blk.new' sdA).drew).alloc _) hg9 (jF omA)
        refine hK.out _ _ _ ⟨(HIX.out.cat.below hb9 hzc),(HBX.out.below hb9 hzT)⟩ (fun hHeld =>?_)
        clear hK K
        refine r1T 6 (fun K hK =>?_)
        (refine av _ rfl (.tmp 52) (.tmp 54) 24 rfl 61 it _ Tab.cells 4 56 Tryz.underlying24 hit Iy Iw Iu rfl omA jQ ql X.heap.size v1 ts rfl gH _ _ _ [⟨nx,some ⟨q,0,none⟩,c9,jA,er7,z3⟩] rfl rfl (Blk.one (enc:=Tab.cells) (x:=⟨nx,some ⟨q,0,none⟩,c9,jA,er7,z3⟩) (by rw[HCE.out];exact hbt) hbt.lt) smA mxA leA ?_;intro v2 w10 yC BD Qh;have qa:Below X.heap.size X w10:=Below.grown ai BD leA gH.row;have Tn:=qa.size;obtain⟨A10,c10,rfl,FC,IA,zJ⟩:=yC.slice jQ)
        exact EY
      case rest =>
       obtain⟨A10,c10,FC,MZ,IA,zJ,hgc⟩:=hcut
       clear hcX hbT hBD
       have Y9:V.heap.size<X.heap.size:=hzX
       have WB:wo.heap.size≤V.heap.size:=by omega
       have Z0:=hgc.size
       have htc:=HIX.out.tabs.wW hgc (iC.out.bd.ne WB)
       have hkc:aP wc g b:=HIX.out.tape.grown hgc omA omA
       have hGc:wo.grownBy wc (some g):=iq hGX hgc inB
       have HIC:=qh (iC.out.next hGc hkc)
       have U4:iM wc wc.heap.size (some ⟨q,0,none⟩) jA:=by
        obtain⟨A0,c0,he0,_,hsl0,_⟩:=HOX.out.slice fQ
        injection he0 with he1 _ _
        subst he1
        exact⟨hsl0.grown hgc (fun a ha e=>by injection ha with ha;subst ha;injection e with e;have e:q=V.heap.size:=e;omega),fun x hx=>(HFX.out x hx).list.grown hgc (fun a ha e=>by have:=HLV.out x hx a ha;injection e with e;omega)⟩
       have hti:=htc.app IA U4
       have hup:gN (w.heap.size+2) A10 (ts ++ [⟨nx,some ⟨q,0,none⟩,c9,jA,er7,z3⟩]):=iC.out.up.app (fun a ha=>by have:=(zJ a ha).1;omega) (fun a ha=>by injection ha with ha;subst ha;show w.heap.size+2≤q;omega) (fun x hx a ha=>by have:=(HFX.out x hx).up a ha;omega)
       have hbd:lG wc.heap.size A10 (ts ++ [⟨nx,some ⟨q,0,none⟩,c9,jA,er7,z3⟩]):=(HIC.out.bd).app (fun a ha=>(zJ a ha).2) (fun a ha=>by injection ha with ha;subst ha;show q<wc.heap.size;omega) (fun x hx a ha=>by have:=HLV.out x hx a ha;omega)
       have hsn:aM (ts ++ [⟨nx,some ⟨q,0,none⟩,c9,jA,er7,z3⟩]):=iC.out.wJ.app omA ⟨show nx.size≤1000000 by omega,by have:=HL7.out;show jA.length≤1000000;omega,by(obtain⟨_,_,he0,hcap,_,_⟩:=HOX.out.slice fQ;injection he0 with _ _ he;rw[←he]at hcap;exact hcap),fun x hx=>by have f:=HFX.out x hx;exact⟨f.name,f.ns,f.refs,by have:=f.own;omega⟩⟩
       obtain⟨ts',Rj⟩:∃l,ts ++ [⟨nx,some ⟨q,0,none⟩,c9,jA,er7,z3⟩]=l:=⟨_,rfl⟩
       have Rk:ts'.length=ts.length+1:=by rw[←Rj];simp
       rw[Rj]at hti hup hbd hsn
       have HTI:=qh hti
       have HUP:=qh hup
       have SX:=qh hbd
       have HSN:=qh hsn
       have HTL:=qh Rk
       rw[←Rk]at MZ FC
       have SY:=qh MZ
       obtain⟨a0,a1,a2,a3,a4,a5,a6,a7⟩:=Cat.blk MZ
       have WH:=MZ.lt
       have WT:ts'.length≤i+1:=by omega
       clear hti hup hbd hsn Rk MZ IA zJ hgc htc hkc U4 hGc Rj HBX HOX HFX HLV HL7 HCE HIX hGX HBD
       cases hok:pb (aN ts')
       ·have HOK:=qh hok
        clear hok
        go_wp2_with fail
        (with_reducible refine(jX A10 c10 ts'.length ts' _ HTI.out rfl HSN.out HOK.out).mono ?_)
        rintro e w11 ⟨rfl,oq⟩
        have Et:=qh (HIC.out.next (aL oq _) (HIC.out.tape.below oq))
        clear oq a0 a1 a2 a3 a4 a5 a6 a7
        go_upto_if 58 with (fail)
        go_cut [] (fun wd =>∃(A:Option Addr) (c:Nat) (ts:List Tab),ts.length≤i+1∧oI w g b A c ts wd)
        case first =>
         go_wp2_with fail
         go_meet
         exact⟨A,c,ts,by omega,Et.out⟩
        case rest =>
         (
         clear HIC HTI HUP SX HSN HTL SY Et HOK
         obtain⟨A,c,ts,hle,hinv⟩:=hcut
         have HID:=qh hinv
         obtain⟨a0,_⟩:=Cat.blk hinv.cat
         have hkd:=hinv.tape
         clear hinv
         by_cases ht0:ts.length=0
         ·have ht0':decide (0<ts.length)=false:=by rw[ht0];rfl
          clear hkd
          go_wp2_with fail
          go_roundw
          case rel=>exact⟨i+1,A,c,ts,by omega,by go_num,hle,HID.out⟩
          case measure=>exact meA
         ·have ht0':decide (0<ts.length)=true:=by simp;omega
          have HKD:=qh hkd
          clear hkd ht0
          go_wp2_with fail
          (with_reducible refine(aK g b 4 _ HKD.out omA omA).mono ?_)
          rintro e w12 ⟨r6,rfl,hr6,zG,BC⟩
          have HIE:=qh (HID.out.next BC zG)
          clear hr6 zG BC a0 HID HKD
          by_cases hr0:r6=0
          ·subst hr0
           go_wp2_with fail
           go_meet
           exact⟨A,c,ts,by omega,HIE.out⟩
          ·have mM:((r6:Int) == 0)=false:=by simp;omega
           clear hr0
           go_wp2_with fail
           go_roundw
           case rel=>exact⟨i+1,A,c,ts,by omega,by go_num,hle,HIE.out⟩
           case measure=>exact meA)
       ·have HOK:=qh hok
        clear hok
        go_wp2_with fail
        (with_reducible refine(jX A10 c10 ts'.length ts' _ HTI.out rfl HSN.out HOK.out).mono ?_)
        rintro e w11 ⟨rfl,oq⟩
        have Et:=qh (HIC.out.next (aL oq _) (HIC.out.tape.below oq))
        have Qi:=SY.out.below oq WH
        have P9:=HTI.out.next oq
        have Wu:=qh (SX.out.mono oq.size)
        have Ze:=oq.size
        clear oq a0 a1 a2 a3 a4 a5 a6 a7
        obtain⟨a0,a1,a2,a3,a4,a5,a6,a7⟩:=Cat.blk Qi
        have VH:=qh P9
        have il:=Et.out.cat
        obtain⟨b0,b1,b2,b3,b4,b5,b6,b7⟩:=Cat.blk il
        have f0:=il.frozen 0
        have f1:=il.frozen 1
        have f2:=il.frozen 2
        have f3:=il.frozen 3
        have f4:=il.frozen 4
        have f5:=il.frozen 5
        have f6:=il.frozen 6
        have f7:=il.frozen 7
        have vS:=qh il
        clear P9 Qi il
        go_upto_if 58 with (fail)
        go_cut [] (fun wd =>∃(A:Option Addr) (c:Nat) (ts:List Tab),ts.length≤i+1∧oI w g b A c ts wd)
        case first =>
         go_wp2_with fail
         go_meet
         refine⟨A10,c10,ts',WT,?_⟩
         have hg:=ak (ak (ak (ak (ak (ak (ak (ak (gL w11 (some (w.heap.size+1))) (p:=⟨w.heap.size+1,0,none⟩) (.inl rfl) (.slice A10 ts'.length c10)) (p:=⟨w.heap.size+1,1,none⟩) (.inl rfl) (.slice none 0 0)) (p:=⟨w.heap.size+1,2,none⟩) (.inl rfl) (.slice none 0 0)) (p:=⟨w.heap.size+1,3,none⟩) (.inl rfl) (.slice none 0 0)) (p:=⟨w.heap.size+1,4,none⟩) (.inl rfl) (.slice none 0 0)) (p:=⟨w.heap.size+1,5,none⟩) (.inl rfl) (.slice none 0 0)) (p:=⟨w.heap.size+1,6,none⟩) (.inl rfl) (.slice none 0 0)) (p:=⟨w.heap.size+1,7,none⟩) (.inl rfl) (.slice none 0 0)
         have hc8:=(((((((vS.out.aH 0 (.slice A10 ts'.length c10)).aH 1 (.slice none 0 0)).aH 2 (.slice none 0 0)).aH 3 (.slice none 0 0)).aH 4 (.slice none 0 0)).aH 5 (.slice none 0 0)).aH 6 (.slice none 0 0)).aH 7 (.slice none 0 0)
         refine⟨hc8.eq spA,Et.out.res.grown hg inA,VH.out.wW hg (HUP.out.ne omA),HUP.out,Wu.out.mono hg.size,nY.1 HOK.out,HSN.out,by omega,Et.out.tape.grown hg omA omA,iq Et.out.grown hg inB,hgl,hbl⟩
        case rest =>
         (
         clear HIC HTI HUP SX HSN HTL SY Et HOK
         obtain⟨A,c,ts,hle,hinv⟩:=hcut
         have HID:=qh hinv
         obtain⟨a0,_⟩:=Cat.blk hinv.cat
         have hkd:=hinv.tape
         clear hinv
         by_cases ht0:ts.length=0
         ·have ht0':decide (0<ts.length)=false:=by rw[ht0];rfl
          clear hkd
          go_wp2_with fail
          go_roundw
          case rel=>exact⟨i+1,A,c,ts,by omega,by go_num,hle,HID.out⟩
          case measure=>exact meA
         ·have ht0':decide (0<ts.length)=true:=by simp;omega
          have HKD:=qh hkd
          clear hkd ht0
          go_wp2_with fail
          (with_reducible refine(aK g b 4 _ HKD.out omA omA).mono ?_)
          rintro e w12 ⟨r6,rfl,hr6,zG,BC⟩
          have HIE:=qh (HID.out.next BC zG)
          clear hr6 zG BC a0 HID HKD
          by_cases hr0:r6=0
          ·subst hr0
           go_wp2_with fail
           go_meet
           exact⟨A,c,ts,by omega,HIE.out⟩
          ·have mM:((r6:Int) == 0)=false:=by simp;omega
           clear hr0
           go_wp2_with fail
           go_roundw
           case rel=>exact⟨i+1,A,c,ts,by omega,by go_num,hle,HIE.out⟩
           case measure=>exact meA)
   ·have hlt':decide ((i:Int)<(n:Int))=false:=by simp;omega
    have hlt2:decide (i<n)=false:=by simp;omega
    have hle:ts.length≤n:=by omega
    go_wp2_with fail
    go_meet
    exact⟨A,c,ts,hle,iC.out⟩
 case rest =>
  clear iC
  obtain⟨A,c,ts,hle,hinv⟩:=hcut
  have HI:=qh hinv
  obtain⟨a0,a1,a2,a3,a4,a5,a6,a7⟩:=Cat.blk hinv.cat
  have hcz:=hinv.cat.lt
  have fa:=hinv.cat.frozen 0
  clear hinv
  by_cases ht0:ts.length=0
  ·have ht0':((ts.length:Int) == 0)=true:=by rw[ht0];rfl
   have hn0:¬ (0<ts.length):=by omega
   clear ht0
   obtain⟨C,hC⟩:∃C,w.heap.size+1=C:=⟨_,rfl⟩
   rw[hC]at a0 fa hcz ⊢
   clear a1 a2 a3 a4 a5 a6 a7
   have HCE:=qh hC
   clear hC
   have UZ:C<wc.heap.size+1:=by omega
   have hcz2:C<wc.heap.size+1+1:=by omega
   have UY:C<wc.heap.size+2:=by omega
   have Dn:C≠wc.heap.size:=by omega
   have U2:C≠wc.heap.size+1:=by omega
   have U0:C≠wc.heap.size+1+1:=by omega
   go_upto_region 18 with (fail)
   refine ah (P:=fun u=>Code.wp _ _ _ _ u) (R:=fun u=>oI w g b (some ⟨wc.heap.size+2,0,none⟩) 1 [qM wc.heap.size (wc.heap.size+1)] u) ?_ ?_
   ·clear a0 fa UZ hcz2 UY Dn U2 U0
    obtain rfl:=HCE.out
    have hI:=HI.out
    have hU:=bP (bP (bP (ak (gL wc (some (w.heap.size+1))) (p:=⟨w.heap.size+1,0,none⟩) (.inl rfl) (.slice (some ⟨wc.heap.size+1+1,0,none⟩) 1 1)) (.cells #[.int .i64 0] 3)) (.cells ([eZ,ed wc.heap.size].flatMap Col.cells).toArray 109)) (.cells (Tab.cells (qM wc.heap.size (wc.heap.size+1))).toArray 61)
    have hb0:=(((Blk.new' (w:=wc.setCell ⟨w.heap.size+1,0,none⟩ (.slice (some ⟨wc.heap.size+1+1,0,none⟩) 1 1)) (g:=wc.heap.size) (t:= 3) (cs:= #[.int .i64 0]) spA).alloc (.cells ([eZ,ed wc.heap.size].flatMap Col.cells).toArray 109)).alloc (.cells (Tab.cells (qM wc.heap.size (wc.heap.size+1))).toArray 61))
    have hb1:=((Blk.new' (w:=(wc.setCell ⟨w.heap.size+1,0,none⟩ (.slice (some ⟨wc.heap.size+1+1,0,none⟩) 1 1)).alloc (.cells #[.int .i64 0] 3)) (g:=wc.heap.size+1) (t:= 109) (cs:=([eZ,ed wc.heap.size].flatMap Col.cells).toArray) spA).alloc (.cells (Tab.cells (qM wc.heap.size (wc.heap.size+1))).toArray 61))
    have hb2:=(Blk.new' (w:=((wc.setCell ⟨w.heap.size+1,0,none⟩ (.slice (some ⟨wc.heap.size+1+1,0,none⟩) 1 1)).alloc (.cells #[.int .i64 0] 3)).alloc (.cells ([eZ,ed wc.heap.size].flatMap Col.cells).toArray 109)) (g:=wc.heap.size+2) (t:= 61) (cs:=(Tab.cells (qM wc.heap.size (wc.heap.size+1))).toArray) spA)
    have hc0:=(((hI.cat.aH 0 (.slice (some ⟨wc.heap.size+1+1,0,none⟩) 1 1)).alloc (.cells #[.int .i64 0] 3)).alloc (.cells ([eZ,ed wc.heap.size].flatMap Col.cells).toArray 109)).alloc (.cells (Tab.cells (qM wc.heap.size (wc.heap.size+1))).toArray 61)
    refine⟨hc0.eq spA,hI.res.grown hU inA,⟨Blk.one (enc:=Tab.cells) hb2 hb2.lt,fun t ht =>?_⟩,⟨fun a ha =>?_,fun t ht =>?_⟩,⟨fun a ha =>?_,fun t ht =>?_⟩,Pt _ _,Jr _ _,Nat.le_refl _,hI.tape.grown hU omA omA,iq hI.grown hU inB,hgl,hbl⟩
    ·rw[List.mem_singleton.1 ht]
     refine⟨Blk.list fQ (l:= [eZ,ed wc.heap.size]) hb1 hb1.lt,fun x hx =>?_⟩
     have hx:x=eZ∨x=ed wc.heap.size:=by simpa[qM]using hx
     rcases hx with rfl|rfl
     ·exact ag.nil
     ·exact Blk.one (enc:=intCells) (x:=(0:Int)) hb0 hb0.lt
    ·injection ha with ha
     subst ha
     show w.heap.size+2≤wc.heap.size+2
     omega
    ·rw[List.mem_singleton.1 ht]
     refine⟨fun a ha =>?_,fun x hx a ha =>?_⟩
     ·injection ha with ha
      subst ha
      show w.heap.size+2≤wc.heap.size+1
      omega
     ·have hx:x=eZ∨x=ed wc.heap.size:=by simpa[qM]using hx
      rcases hx with rfl|rfl
      ·cases ha
      ·injection ha with ha
       subst ha
       show w.heap.size+2≤wc.heap.size
       omega
    ·injection ha with ha
     subst ha
     exact hb2.lt
    ·rw[List.mem_singleton.1 ht]
     refine⟨fun a ha =>?_,fun x hx a ha =>?_⟩
     ·injection ha with ha
      subst ha
      exact hb1.lt
     ·have hx:x=eZ∨x=ed wc.heap.size:=by simpa[qM]using hx
      rcases hx with rfl|rfl
      ·cases ha
      ·injection ha with ha
       subst ha
       exact hb0.lt
   ·rintro U hU
    clear a0 fa UZ hcz2 UY Dn U2 U0 HI hn0 hle
    obtain rfl:=HCE.out
    obtain⟨td,htd⟩:∃td,qM wc.heap.size (wc.heap.size+1)=td:=⟨_,rfl⟩
    rw[htd]at hU
    have HI:=qh hU
    have hn0:0<[td].length:=by simp
    have hle:[td].length≤n:=by simpa using hn1
    clear hU htd
    have hinv:=HI.out
    obtain⟨a0,a1,a2,a3,a4,a5,a6,a7⟩:=Cat.blk hinv.cat
    obtain⟨b0,b1,b2,b3,b4,b5,b6,b7⟩:=Cat.blk hinv.res
    have f0:=hinv.res.frozen 0
    have f1:=hinv.res.frozen 1
    have f2:=hinv.res.frozen 2
    have f3:=hinv.res.frozen 3
    have f4:=hinv.res.frozen 4
    have f5:=hinv.res.frozen 5
    have f6:=hinv.res.frozen 6
    have f7:=hinv.res.frozen 7
    have hrz:=hinv.res.lt
    clear hinv
    go_wp2_with fail
    have hg:=ak (ak (ak (ak (ak (ak (ak (ak (gL U (some w.heap.size)) (p:=⟨w.heap.size,0,none⟩) (.inl rfl) (.slice (some ⟨wc.heap.size+2,0,none⟩) [td].length 1)) (p:=⟨w.heap.size,1,none⟩) (.inl rfl) (.slice none 0 0)) (p:=⟨w.heap.size,2,none⟩) (.inl rfl) (.slice none 0 0)) (p:=⟨w.heap.size,3,none⟩) (.inl rfl) (.slice none 0 0)) (p:=⟨w.heap.size,4,none⟩) (.inl rfl) (.slice none 0 0)) (p:=⟨w.heap.size,5,none⟩) (.inl rfl) (.slice none 0 0)) (p:=⟨w.heap.size,6,none⟩) (.inl rfl) (.slice none 0 0)) (p:=⟨w.heap.size,7,none⟩) (.inl rfl) (.slice none 0 0)
    have HG:=qh hg
    clear hg
    refine bodyPost_ret (v:= .agg #[.slice (some ⟨wc.heap.size+2,0,none⟩) [td].length 1,.slice none 0 0,.slice none 0 0,.slice none 0 0,.slice none 0 0,.slice none 0 0,.slice none 0 0,.slice none 0 0]) aE rfl ⟨(some ⟨wc.heap.size+2,0,none⟩),1,[td],rfl,HI.out.tabs.wW HG.out (HI.out.up.ne omA),⟨fun a ha=>by have:=HI.out.up.1 a ha;omega,fun t ht=>⟨fun a ha=>by have:=(HI.out.up.2 t ht).1 a ha;omega,fun x hx a ha=>by have:=(HI.out.up.2 t ht).2 x hx a ha;omega⟩⟩,HI.out.bd.mono HG.out.size,HI.out.wJ,HI.out.ok,hn0,hle,HI.out.tape.grown HG.out omA omA,iq HI.out.grown HG.out inB⟩
  ·have ht0':((ts.length:Int) == 0)=false:=by rw[beq_eq_false_iff_ne];omega
   have hn0:0<ts.length:=by omega
   clear ht0 fa
   go_upto_region 18 with (fail)
   clear a0 a1 a2 a3 a4 a5 a6 a7
   have hinv:=HI.out
   obtain⟨a0,a1,a2,a3,a4,a5,a6,a7⟩:=Cat.blk hinv.cat
   obtain⟨b0,b1,b2,b3,b4,b5,b6,b7⟩:=Cat.blk hinv.res
   have f0:=hinv.res.frozen 0
   have f1:=hinv.res.frozen 1
   have f2:=hinv.res.frozen 2
   have f3:=hinv.res.frozen 3
   have f4:=hinv.res.frozen 4
   have f5:=hinv.res.frozen 5
   have f6:=hinv.res.frozen 6
   have f7:=hinv.res.frozen 7
   have hrz:=hinv.res.lt
   clear hinv
   go_wp2_with fail
   have hg:=ak (ak (ak (ak (ak (ak (ak (ak (gL wc (some w.heap.size)) (p:=⟨w.heap.size,0,none⟩) (.inl rfl) (.slice A ts.length c)) (p:=⟨w.heap.size,1,none⟩) (.inl rfl) (.slice none 0 0)) (p:=⟨w.heap.size,2,none⟩) (.inl rfl) (.slice none 0 0)) (p:=⟨w.heap.size,3,none⟩) (.inl rfl) (.slice none 0 0)) (p:=⟨w.heap.size,4,none⟩) (.inl rfl) (.slice none 0 0)) (p:=⟨w.heap.size,5,none⟩) (.inl rfl) (.slice none 0 0)) (p:=⟨w.heap.size,6,none⟩) (.inl rfl) (.slice none 0 0)) (p:=⟨w.heap.size,7,none⟩) (.inl rfl) (.slice none 0 0)
   have HG:=qh hg
   clear hg
   refine bodyPost_ret (v:= .agg #[.slice A ts.length c,.slice none 0 0,.slice none 0 0,.slice none 0 0,.slice none 0 0,.slice none 0 0,.slice none 0 0,.slice none 0 0]) aE rfl ⟨A,c,ts,rfl,HI.out.tabs.wW HG.out (HI.out.up.ne omA),⟨fun a ha=>by have:=HI.out.up.1 a ha;omega,fun t ht=>⟨fun a ha=>by have:=(HI.out.up.2 t ht).1 a ha;omega,fun x hx a ha=>by have:=(HI.out.up.2 t ht).2 x hx a ha;omega⟩⟩,HI.out.bd.mono HG.out.size,HI.out.wJ,HI.out.ok,hn0,hle,HI.out.tape.grown HG.out omA omA,iq HI.out.grown HG.out inB⟩
end Go.Proofs.YtjidligipoldeaaGreat
