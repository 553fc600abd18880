/-
  Contracts and plain laws of this seat, part 16.
-/
import Derived.Test.YtebippoohpnjkaaGreatE15
import Derived.Deep.CutBlock
import Derived.Test.YtebippoohpnjkaaGreatE14
set_option linter.unusedVariables false
set_option linter.unusedSimpArgs false
set_option maxRecDepth 100000
set_option maxHeartbeats 16000000
namespace Go.Proofs.YtebippoohpnjkaaGreat
open Go.RowKit
structure iV (g q:Nat) (w w':World):Prop where
 os:w'.os=w.os
 tape:w'.tape=w.tape
 output:w'.output=w.output
 size:w.heap.size≤w'.heap.size
 block:∀k,k<w.heap.size→k≠g→k≠q→w'.heap[k]?=w.heap[k]?
section
variable {g q:Nat}{w u v:World}
theorem iV.refl(g q:Nat)(w:World):iV g q w w:=⟨rfl,rfl,rfl,Nat.le_refl _,fun _ _ _ _=>rfl⟩
theorem iV.grown(h:iV g q w u){row:Option Nat}(k:u.grownBy v row)(hr:∀i,row=some i→i=g∨i=q∨w.heap.size≤i):iV g q w v:=
 ⟨k.os.trans h.os,k.tape.trans h.tape,k.output.trans h.output,Nat.le_trans h.size k.size,fun i hi h1 h2=>(k.block i (Nat.lt_of_lt_of_le hi h.size) (fun e=>by rcases hr i e.symm with h|h|h<;>omega)).trans (h.block i hi h1 h2)⟩
theorem iV.below(h:iV g q w u)(k:Below u.heap.size u v):iV g q w v:=h.grown (aP k none) (fun i e=>by cases e)
theorem iV.set(h:iV g q w u){p:Addr}(hp:p.block=g∨p.block=q∨w.heap.size≤p.block)(x:Value):iV g q w (u.setCell p x):=
 ⟨h.os,h.tape,h.output,by simpa using h.size,fun i hi h1 h2=>(Below.heap_setCell u p x i (by intro e;rcases hp with h'|h'|h'<;>omega)).trans (h.block i hi h1 h2)⟩
theorem iV.up{w0:World}(h:w0.grownBy w (some g))(k:iV g q w u)(hq:w0.heap.size≤q):w0.grownBy u (some g):=
 ⟨k.os.trans h.os,k.tape.trans h.tape,k.output.trans h.output,Nat.le_trans h.size k.size,fun i hi hne=>(k.block i (Nat.lt_of_lt_of_le hi h.size) (fun e=>hne (by rw[e])) omA).trans (h.block i hi hne)⟩
theorem ai.Bv{α:Type}{enc:α→List Value}{k:Nat}{A:Option Addr}{l:List α}(h:ai w w.heap.size enc k A l)(hk:iV g q w u)(hA:∀a,A=some a→a.block≠g∧a.block≠q):ai u u.heap.size enc k A l:=by
 intro hl
 obtain⟨b,o,rfl,hB,hc⟩:=h hl
 obtain⟨h1,h2⟩:=hA _ rfl
 exact⟨b,o,rfl,Nat.lt_of_lt_of_le hB hk.size,fun i hi j v hv=>(World.cell?_of_block (hk.block b hB h1 h2)).trans (hc i hi j v hv)⟩
end
def nY(q:Nat)(A:Option Addr)(ts:List Tab):Prop:=(∀a,A=some a→a.block≠q) ∧ ∀t∈ts,(∀a,t.A=some a→a.block≠q) ∧ ∀x∈t.af,∀a,x.A=some a→a.block≠q
theorem aM.Bv{g q B:Nat}{w u:World}{A:Option Addr}{ts:List Tab}(h:aM w w.heap.size A ts)(hk:iV g q w u)(hu:gM B A ts)(hg:g<B)(hq:nY q A ts):aM u u.heap.size A ts:=
 ⟨h.1.Bv hk fun a ha=>⟨by have:=hu.1 a ha;omega,hq.1 a ha⟩,fun t ht=>⟨(h.2 t ht).1.Bv hk fun a ha=>⟨by have:=(hu.2 t ht).1 a ha;omega,(hq.2 t ht).1 a ha⟩,fun x hx=>((h.2 t ht).2 x hx).Bv hk fun a ha=>⟨by have:=(hu.2 t ht).2 x hx a ha;omega,(hq.2 t ht).2 x hx a ha⟩⟩⟩
structure eD (M w0:Nat) (w:World) (x:Col):Prop where
 name:x.name.size≤1000000
 ns:x.ns.size≤1000000
 refs:x.refs.size≤1000000
 own:x.own.length≤M
 cap:x.own.length≤x.cap
 list:ai w w.heap.size intCells 1 x.A x.own
 up:∀a,x.A=some a→w0≤a.block
 lt:∀a,x.A=some a→a.block<w.heap.size
theorem eD.keep{M w0:Nat}{w u:World}{x:Col}(h:eD M w0 w x){row:Option Nat}(hg:w.grownBy u row)(hr:∀i,row=some i→i<w0):eD M w0 u x:=
 ⟨h.name,h.ns,h.refs,h.own,h.cap,h.list.grown hg fun a ha e=>by have:=h.up a ha;have:=hr _ e.symm;omega,h.up,fun a ha=>Nat.lt_of_lt_of_le (h.lt a ha) hg.size⟩
structure cZ (M:Nat) (w:World) (g b q B n cap:Nat) (cv nm:Value) (rt:Int) (LA:Option Addr) (l:List Int) (af:List Col) (er:Int) (u:World):Prop where
 own:ay u B 79 Col.cells 7 (.slice (some ⟨q,0,none⟩) n cap) af
 len:af.length=n
 fine:∀x∈af,eD M (w.heap.size+3) u x
 zn:Blk u (w.heap.size+1) 77 #[nm,.slice (some ⟨q,0,none⟩) n cap,.int .i64 er,.int .i64 rt]
 GR:Blk u w.heap.size 39 #[cv,.slice none 0 0,.slice none 0 0,.slice none 0 0,.slice none 0 0,.slice none 0 0,.slice none 0 0,.slice none 0 0]
 res:Blk u (w.heap.size+2) 77 #[.string ⟨#[]⟩,.slice none 0 0,.int .i64 0,.int .i64 0]
 list:ai u u.heap.size intCells 1 LA l
 up:∀a,LA=some a→w.heap.size+3≤a.block
 tape:aO u g b
 kept:iV g q w u
 ltg:g<w.heap.size
 ltb:b<w.heap.size
 ltq:q<w.heap.size
 neg:g<B
 neb:b<B
 hq:B≤q
section
variable {M:Nat}{w u v:World}{g b q B n cap:Nat}{cv nm:Value}{rt:Int}{LA:Option Addr}{l:List Int}{af:List Col}{er:Int}
theorem cZ.next(h:cZ M w g b q B n cap cv nm rt LA l af er u)(hg:u.grownBy v (some g))(hk:aO v g b):cZ M w g b q B n cap cv nm rt LA l af er v:=by
 have h1:=h.ltg
 have hne:∀i,w.heap.size≤i→some i≠some g:=fun i hi e=>by injection e with e;omega
 exact⟨h.own.grown hg h.neg,h.len,fun x hx=>(h.fine x hx).keep hg inB,h.zn.grown hg (hne _ omA),h.GR.grown hg (hne _ omA),h.res.grown hg (hne _ omA),h.list.grown hg (fun a ha=>hne _ (by have:=h.up a ha;omega)),h.up,hk,h.kept.grown hg (fun i e=>by injection e with e;exact .inl e.symm),h.ltg,h.ltb,h.ltq,h.neg,h.neb,h.hq⟩
theorem cZ.wide{M':Nat}(h:cZ M w g b q B n cap cv nm rt LA l af er u)(hM:M≤M'):cZ M' w g b q B n cap cv nm rt LA l af er u:=
 ⟨h.own,h.len,fun x hx=>by have f:=h.fine x hx;exact⟨f.name,f.ns,f.refs,Nat.le_trans f.own hM,f.cap,f.list,f.up,f.lt⟩,h.zn,h.GR,h.res,h.list,h.up,h.tape,h.kept,h.ltg,h.ltb,h.ltq,h.neg,h.neb,h.hq⟩
theorem cZ.below(h:cZ M w g b q B n cap cv nm rt LA l af er u)(hb:Below u.heap.size u v):cZ M w g b q B n cap cv nm rt LA l af er v:=
 h.next (aP hb _) (h.tape.below hb)
theorem cZ.alloc(h:cZ M w g b q B n cap cv nm rt LA l af er u)(o:Obj):cZ M w g b q B n cap cv nm rt LA l af er (u.alloc o):=
 h.below (brf.alloc nlr o)
theorem cZ.set(h:cZ M w g b q B n cap cv nm rt LA l af er u){i:Nat}(hi:i<af.length)(x:Col){j o:Nat}{z:Value}(hj:j<7)(ho:o=i*7+j)(hx:x.cells=(af[i]).cells.set j z)(hf:eD M (w.heap.size+3) u x):cZ M w g b q B n cap cv nm rt LA l (af.set i x) er (u.setCell ⟨q,o,none⟩ z):=by
 have h1:=h.ltg
 have h2:=h.ltb
 have h3:=h.ltq
 have hqg:q≠g:=by have:=h.neg;have:=h.hq;omega
 have hqb:q≠b:=by have:=h.neb;have:=h.hq;omega
 have jH:∀y,eD M (w.heap.size+3) u y→eD M (w.heap.size+3) (u.setCell ⟨q,o,none⟩ z) y:=fun y hy=>⟨hy.name,hy.ns,hy.refs,hy.own,hy.cap,by have:=hy.list.far (p:=⟨q,o,none⟩) (fun a ha e=>by have:=hy.up a ha;have e:a.block=q:=e;omega) z;simpa using this,hy.up,fun a ha=>by simpa using hy.lt a ha⟩
 refine⟨h.own.gp dP h.len.symm hi x hj ho hx,by simpa using h.len,fun y hy =>?_,h.zn.far (show _≠q by omega) z,h.GR.far (show _≠q by omega) z,h.res.far (show _≠q by omega) z,?_,h.up,h.tape.far (show g≠q by omega) (show b≠q by omega) z,h.kept.set (.inr (.inl rfl)) z,h.ltg,h.ltb,h.ltq,h.neg,h.neb,h.hq⟩
 ·rcases List.mem_or_eq_of_mem_set hy with h|rfl
  ·exact jH y (cZ.fine ‹_› y h)
  ·exact jH _ hf
 ·have:=h.list.far (p:=⟨q,o,none⟩) (fun a ha e=>by have:=h.up a ha;have e:a.block=q:=e;omega) z
  simpa using this
theorem cZ.app(h:cZ M w g b q B n cap cv nm rt LA l af er u){nb i o:Nat}{x:Col}{z:Value}(hg:u.grownBy v (some nb))(hnb:w.heap.size+3≤nb)(hi:i<af.length)(ho:o=i*7+4)(hx:x.cells=(af[i]).cells.set 4 z)(hf:eD M (w.heap.size+3) v x)(hoth:∀k (hk:k<af.length),k≠i→∀a,af[k].A=some a→a.block≠nb)(hL:∀a,LA=some a→a.block≠nb):
 cZ M w g b q B n cap cv nm rt LA l (af.set i x) er (v.setCell ⟨q,o,none⟩ z):=by
 have h1:=h.ltg
 have h2:=h.ltb
 have h3:=h.ltq
 have hqg:q≠g:=by have:=h.neg;have:=h.hq;omega
 have hqb:q≠b:=by have:=h.neb;have:=h.hq;omega
 have hne:∀i,i<w.heap.size+3→some i≠some nb:=fun i hi e=>by injection e with e;omega
 have jH:∀y,eD M (w.heap.size+3) v y→eD M (w.heap.size+3) (v.setCell ⟨q,o,none⟩ z) y:=fun y hy=>⟨hy.name,hy.ns,hy.refs,hy.own,hy.cap,by have:=hy.list.far (p:=⟨q,o,none⟩) (fun a ha e=>by have:=hy.up a ha;have e:a.block=q:=e;omega) z;simpa using this,hy.up,fun a ha=>by simpa using hy.lt a ha⟩
 have hown := h.own.kept hg (fun k hk => by have : q = k := by simpa [Value.ownBlock] using hk
                                            exact hne k omA)
 refine⟨hown.gp dP h.len.symm hi x (j:= 4) omA ho hx,by simpa using h.len,fun y hy =>?_,(h.zn.grown hg (hne _ omA)).far (show _≠q by omega) z,(h.GR.grown hg (hne _ omA)).far (show _≠q by omega) z,(h.res.grown hg (hne _ omA)).far (show _≠q by omega) z,?_,h.up,(h.tape.grown hg (show nb≠g by omega) (show nb≠b by omega)).far (show g≠q by omega) (show b≠q by omega) z,(h.kept.grown hg (fun i e=>by injection e with e;exact .inr (.inr omA))).set (.inr (.inl rfl)) z,h.ltg,h.ltb,h.ltq,h.neg,h.neb,h.hq⟩
 ·obtain⟨k,hk,rfl⟩:=List.getElem_of_mem hy
  rw[List.getElem_set]
  split
  ·exact jH _ hf
  ·rename_i hki
   have hk':k<af.length:=by simpa using hk
   have hy:=h.fine af[k] (lgm hk')
   exact jH _ ⟨hy.name,hy.ns,hy.refs,hy.own,hy.cap,hy.list.grown hg (fun a ha e=>hoth k hk' (fun e'=>hki e'.symm) a ha (by injection e)),hy.up,fun a ha=>Nat.lt_of_lt_of_le (hy.lt a ha) hg.size⟩
 ·have:=(h.list.grown hg (fun a ha e=>hL a ha (by injection e))).far (p:=⟨q,o,none⟩) (fun a ha e=>by have:=h.up a ha;have e:a.block=q:=e;omega) z
  simpa using this
theorem cZ.I8(h:cZ M w g b q B n cap cv nm rt LA l af er u)(z:Int):cZ M w g b q B n cap cv nm rt LA l af z (u.setCell ⟨w.heap.size+1,2,none⟩ (.int .i64 z)):=by
 have h1:=h.ltg
 have h2:=h.ltb
 have h3:=h.ltq
 refine⟨h.own.far (fun k hk =>?_) _,h.len,fun y hy =>?_,?_,h.GR.far (show _≠w.heap.size+1 by omega) _,h.res.far (show _≠w.heap.size+1 by omega) _,?_,h.up,h.tape.far (show g≠w.heap.size+1 by omega) (show b≠w.heap.size+1 by omega) _,h.kept.set (.inr (.inr (show _≤w.heap.size+1 by omega))) _,h.ltg,h.ltb,h.ltq,h.neg,h.neb,h.hq⟩
 ·have:q=k:=by simpa[Value.ownBlock]using hk
  show k≠w.heap.size+1
  omega
 ·have hf:=h.fine y hy
  exact⟨hf.name,hf.ns,hf.refs,hf.own,hf.cap,by have:=hf.list.far (p:=⟨w.heap.size+1,2,none⟩) (fun a ha e=>by have:=hf.up a ha;have e:a.block=w.heap.size+1:=e;omega) (.int .i64 z);simpa using this,hf.up,fun a ha=>by simpa using hf.lt a ha⟩
 ·have:=h.zn.bU 2 (.int .i64 z)
  simpa using this
 ·have:=h.list.far (p:=⟨w.heap.size+1,2,none⟩) (fun a ha e=>by have:=h.up a ha;have e:a.block=w.heap.size+1:=e;omega) (.int .i64 z)
  simpa using this
structure tL (M:Nat) (w:World) (g b q B n cap:Nat) (af:List Col) (u:World):Prop where
 own:ay u B 79 Col.cells 7 (.slice (some ⟨q,0,none⟩) n cap) af
 len:af.length=n
 fine:∀x∈af,eD M (w.heap.size+3) u x
 tape:aO u g b
 kept:iV g q w u
 ltg:g<w.heap.size
 ltb:b<w.heap.size
 ltq:q<w.heap.size
theorem cZ.toEnd(h:cZ M w g b q B n cap cv nm rt LA l af er u):tL M w g b q B n cap af u:=⟨h.own,h.len,h.fine,h.tape,h.kept,h.ltg,h.ltb,h.ltq⟩
theorem tL.set(h:tL M w g b q B n cap af u)(j:Nat)(z:Value):tL M w g b q B n cap af (u.setCell ⟨w.heap.size+2,j,none⟩ z):=by
 have h1:=h.ltg
 have h2:=h.ltb
 have h3:=h.ltq
 refine⟨h.own.far (fun k hk =>?_) _,h.len,fun y hy =>?_,h.tape.far (show g≠w.heap.size+2 by omega) (show b≠w.heap.size+2 by omega) _,h.kept.set (.inr (.inr (show _≤w.heap.size+2 by omega))) _,h1,h2,h3⟩
 ·have:q=k:=by simpa[Value.ownBlock]using hk
  show k≠w.heap.size+2
  omega
 ·have hf:=h.fine y hy
  exact⟨hf.name,hf.ns,hf.refs,hf.own,hf.cap,by have:=hf.list.far (p:=⟨w.heap.size+2,j,none⟩) (fun a ha e=>by have:=hf.up a ha;have e:a.block=w.heap.size+2:=e;omega) z;simpa using this,hf.up,fun a ha=>by simpa using hf.lt a ha⟩
theorem tL.low(h:tL M w g b q B n cap af u):∀x∈af,eD M w.heap.size u x:=fun x hx=>by
 have f:=h.fine x hx
 exact⟨f.name,f.ns,f.refs,f.own,f.cap,f.list,fun a ha=>by have:=f.up a ha;omega,f.lt⟩
end
theorem Jy{P:Prop}(h:P:=by
 go_wp2_with fail
 (with_reducible refine(az g b (l.length:Int) _ HI2.out.tape omA omA).mono ?_)
 rintro e w3 ⟨r3,rfl,hr3,hk3,hg3⟩
 have zY:r3<l.length:=by rcases hr3 with h|h<;>omega
 have HI3:=qh (HI2.out.next hg3 hk3)
 clear HI2 hk3 hg3 hr3
 obtain⟨lb,lo,rfl,hlb,Ra⟩:=HI3.out.list.get zY
 have y0:=Ra 0 _ rfl
 simp only[Nat.mul_one,Nat.add_zero]at y0
 obtain⟨z3,hz3⟩:∃z,l[r3]=z:=⟨_,rfl⟩
 rw[hz3]at y0
 have s0:=HI3.out.own.eY dP HI3.out.len.symm hil (j:= 4) rfl
 have sf:=HI3.out.own.iN HI3.out.len.symm (i*7+4)
 have hqz:=HI3.out.own.lt q rfl
 have hw3:=HI3.out.res.lt
 obtain⟨⟨xn,xt,xs,xr,xA,xc,xo,xj,xd⟩,hx⟩:∃x:Col,af[i]=x:=⟨_,rfl⟩
 have hf0:=HI3.out.fine af[i] (lgm hil)
 rw[hx]at s0 hf0
 have HX:=qh hx
 clear Ra hz3 hx
 go_upto_region 9 with (fail)
 obtain⟨nb,hnb⟩:∃nb,w3.heap.size=nb:=⟨_,rfl⟩
 refine aj (P:=fun u=>Code.wp _ _ _ _ u) (R:=fun u =>∃(rF:List Col) (hi:i<rF.length),rF[i]=⟨xn,xt,xs,xr,some ⟨w3.heap.size,0,none⟩,1,[z3],xj,xd⟩∧(∀k (hk:k<rF.length),k≠i→∀a,rF[k].A=some a→a.block≠w3.heap.size)∧Blk u w3.heap.size 3 #[.int .i64 z3]∧(cZ 20 w g b q B n cap (.slice A ts.length c) (.string nm) rt (some ⟨lb,lo,none⟩) l rF er2 u)) ⟨af.set i ⟨xn,xt,xs,xr,some ⟨w3.heap.size,0,none⟩,1,[z3],xj,xd⟩,by simpa using hil,by simp,fun k hk hki a ha =>?_,?_,?_⟩ ?_
 ·rw[List.getElem_set_ne (fun e=>hki e.symm)]at ha
  have:=(HI3.out.fine _ (lgm (by simpa using hk))).lt a ha
  omega
 ·exact Blk.new' spA
 ·rw[←World.setCell_alloc_past _ q _ _ hqz]
  exact(HI3.out.alloc _).set hil ⟨xn,xt,xs,xr,some ⟨w3.heap.size,0,none⟩,1,[z3],xj,xd⟩ (j:= 4) omA rfl (by rw[HX.out];rfl) ⟨hf0.name,hf0.ns,hf0.refs,by simp,by simp,Blk.one (enc:=intCells) (x:=z3) (Blk.new' rfl) spA,fun a ha=>by injection ha with ha;subst ha;exact hw3,fun a ha=>by injection ha with ha;subst ha;simp⟩
 rw[hnb]
 rw[hnb]at hw3
 rintro U ⟨rF,hi1,hx1,ho1,hB1,hI1⟩
 have HO1:=qh ho1
 have Ua:lb≠nb:=by omega
 have HI4:=qh hI1
 have HB4:=qh hB1
 have HX1:=qh hx1
 clear ho1 hI1 hB1 hx1 HI3 HX hnb s0 sf y0 hil hqz hlb hf0
 go_wp2_with fail
 (with_reducible refine(az g b (l.length:Int) _ HI4.out.tape omA omA).mono ?_)
 rintro e w4 ⟨r4,rfl,hr4,hk4,hg4⟩
 have QR:r4<l.length:=by rcases hr4 with h|h<;>omega
 have HI5:=qh (HI4.out.next hg4 hk4)
 have HB5:=qh (HB4.out.grown hg4 inA)
 clear HI4 HB4 hk4 hg4 hr4
 obtain⟨lb5,lo5,he5,hlb,Q9⟩:=HI5.out.list.get QR
 injection he5 with he5
 injection he5 with he6 he7
 subst he6 he7
 have y0:=Q9 0 _ rfl
 simp only[Nat.mul_one,Nat.add_zero]at y0
 obtain⟨z4,hz4⟩:∃z,l[r4]=z:=⟨_,rfl⟩
 rw[hz4]at y0
 have s0:=HI5.out.own.eY dP HI5.out.len.symm hi1 (j:= 4) (by rw[HX1.out];rfl)
 have sf:=HI5.out.own.iN HI5.out.len.symm (i*7+4)
 have hqz:=HI5.out.own.lt q rfl
 have hw4:=HI5.out.res.lt
 have n0:=HB5.out.cell 0
 have hnz:=HB5.out.lt
 simp only[gE3,List.length_cons,List.length_nil,Nat.zero_add]at n0 s0
 clear Q9 hz4
 cases h34:decide (z3<z4)
 ·go_upto_if 76 with (fail)
  go_cut [] (fun wc =>∃(pO:List Col) (hi:i<pO.length),(∃A' c' o',pO[i]=⟨xn,xt,xs,xr,A',c',o',xj,xd⟩)∧(cZ 20 w g b q B n cap (.slice A ts.length c) (.string nm) rt (some ⟨lb,lo,none⟩) l pO er2 wc))
  case first =>
   go_wp2_with fail
   go_meet
   exact⟨rF,hi1,⟨_,_,_,HX1.out⟩,HI5.out⟩
  case rest=>exact Jw
 ·go_upto_if 76 with (fail)
  go_cut [] (fun wc =>∃(pO:List Col) (hi:i<pO.length),(∃A' c' o',pO[i]=⟨xn,xt,xs,xr,A',c',o',xj,xd⟩)∧(cZ 20 w g b q B n cap (.slice A ts.length c) (.string nm) rt (some ⟨lb,lo,none⟩) l pO er2 wc))
  case first =>
   have RU:ay w4 (w.heap.size+3) 3 intCells 1 (.slice (some ⟨nb,0,none⟩) 1 1) [z3]:=ay.one (enc:=intCells) (x:=z3) HB5.out hw3 aV
   have M5:=qh RU
   clear RU
   go_wp2_with (at_builtin;go_must (refine aH _ rfl (.tmp 81) (.tmp 83) 22 rfl 3 i0 _ intCells 1 8 Tryz.underlying22 hi0 hz0 hz1 hz2 rfl omA aV dG (w.heap.size+3) (.slice (some ⟨nb,0,none⟩) 1 1) [z3] rfl (M5.out.alloc _) _ _ _ [z4] rfl rfl (Blk.one (enc:=intCells) (x:=z4) (Blk.new' rfl) spA) spA (by simp[maxLen]) smA ?_);intro v' w5 hown5 hg5 Wy;obtain⟨A5,c5,rfl,hc5,hs5,hA5⟩:=hown5.slice aV;have hO6:=(HI5.out.alloc _).own.kept hg5 (fun k hk e=>by(have e1:q=k:=by simpa[Value.ownBlock]using hk);(have e2:k=nb:=by simpa[Value.ownBlock]using e);have:=HI5.out.ltq;omega);have s6:=hO6.eY dP HI5.out.len.symm hi1 (j:= 4) (by rw[HX1.out];rfl);have sf6:=hO6.iN HI5.out.len.symm (i*7+4);have HG5:=qh hg5)
   go_meet
   have hf1:=HI5.out.fine rF[i] (lgm hi1)
   rw[HX1.out]at hf1
   exact⟨rF.set i ⟨xn,xt,xs,xr,A5,c5,[z3,z4],xj,xd⟩,by simpa using hi1,⟨A5,c5,[z3,z4],by simp⟩,(HI5.out.alloc _).app HG5.out hw3 hi1 rfl (by rw[HX1.out];rfl) ⟨hf1.name,hf1.ns,hf1.refs,by simp,by simpa using hc5,by simpa using hs5,fun a ha=>(hA5 a ha).1,fun a ha=>(hA5 a ha).2⟩ HO1.out (fun a ha=>by injection ha with ha;subst ha;exact Ua)⟩
  case rest=>exact Jw):P:=h
theorem Jw{P:Prop}(h:P:=by
 (
 obtain⟨pO,hi2,⟨A2,c2,o2,hx2⟩,hI2⟩:=hcut
 have HI6:=qh hI2
 have HX2:=qh hx2
 clear hI2 hx2 HI5 HB5 HX1 s0 sf n0 y0 h34 hi1
 go_wp2_with fail
 (with_reducible refine(az g b 2 _ HI6.out.tape omA omA).mono ?_)
 rintro e w6 ⟨r5,rfl,hr5,hk6,hg6⟩
 have HI7:=qh (HI6.out.next hg6 hk6)
 clear HI6 hk6 hg6 hr5
 have s5:=HI7.out.own.eY dP HI7.out.len.symm hi2 (j:= 5) (by rw[HX2.out];rfl)
 have sf5:=HI7.out.own.iN HI7.out.len.symm (i*7+5)
 have hf2:=HI7.out.fine pO[i] (lgm hi2)
 rw[HX2.out]at hf2
 have hw6:=HI7.out.res.lt
 have hq6:=HI7.out.own.lt q rfl
 go_upto_region 13 with (fail)
 refine aj (P:=fun u=>Code.wp _ _ _ _ u) (R:=fun u =>∃(yX:List Col) (hi:i<yX.length),yX[i]=⟨xn,xt,xs,xr,A2,c2,o2,r5,xd⟩∧(cZ 20 w g b q B n cap (.slice A ts.length c) (.string nm) rt (some ⟨lb,lo,none⟩) l yX er2 u)) ⟨pO.set i ⟨xn,xt,xs,xr,A2,c2,o2,r5,xd⟩,by simpa using hi2,by simp,HI7.out.set hi2 ⟨xn,xt,xs,xr,A2,c2,o2,r5,xd⟩ (j:= 5) omA rfl (by rw[HX2.out];rfl) ⟨hf2.name,hf2.ns,hf2.refs,hf2.own,hf2.cap,hf2.list,hf2.up,hf2.lt⟩⟩ ?_
 rintro V ⟨yX,hi3,hx3,hI3⟩
 have HI8:=qh hI3
 have HX3:=qh hx3
 clear HI7 HX2 hi2 hI3 hx3 s5 sf5 hf2
 have hw8:=HI8.out.res.lt
 go_wp2_with fail
 (with_reducible refine(az g b 5 _ (HI8.out.tape.alloc _) omA omA).mono ?_)
 rintro e w8 ⟨r6,rfl,hr6,hk8,hg8⟩
 have JV:r6<5:=by rcases hr6 with h|h<;>omega
 have HI9:=qh ((HI8.out.alloc _).next hg8 hk8)
 have hL:Blk w8 V.heap.size 3 #[.int .i64 0,.int .i64 0,.int .i64 0,.int .i64 5,.int .i64 20]:=Blk.grown (Blk.new' rfl) hg8 inA
 obtain⟨z6,hz6⟩:∃z:Int,w8.cell? ⟨V.heap.size,r6,none⟩=some (.int .i64 z):=by
  rw[hL.cell]
  rcases(show r6=0∨r6=1∨r6=2∨r6=3∨r6=4 by omega) with rfl|rfl|rfl|rfl|rfl
  all_goals exact⟨_,rfl⟩
 clear HI8 hk8 hg8 hr6 hL
 have s6:=HI9.out.own.eY dP HI9.out.len.symm hi3 (j:= 6) (by rw[HX3.out];rfl)
 have sf6:=HI9.out.own.iN HI9.out.len.symm (i*7+6)
 have hf3:=HI9.out.fine yX[i] (lgm hi3)
 rw[HX3.out]at hf3
 go_upto_region 14 with (fail)
 refine aj (P:=fun u=>Code.wp _ _ _ _ u) (R:=fun u =>∃(KC:List Col),(cZ 20 w g b q B n cap (.slice A ts.length c) (.string nm) rt (some ⟨lb,lo,none⟩) l KC er2 u)) ⟨yX.set i ⟨xn,xt,xs,xr,A2,c2,o2,r5,z6⟩,HI9.out.set hi3 ⟨xn,xt,xs,xr,A2,c2,o2,r5,z6⟩ (j:= 6) omA rfl (by rw[HX3.out];rfl) ⟨hf3.name,hf3.ns,hf3.refs,hf3.own,hf3.cap,hf3.list,hf3.up,hf3.lt⟩⟩ ?_
 rintro X ⟨KC,hI4⟩
 have SX:=qh hI4
 have e2:=hI4.zn.cell 2
 have ef:=hI4.zn.frozen 2
 have hwX:=hI4.res.lt
 simp only[gE3]at e2
 clear HI9 HX3 hi3 hI4 s6 sf6 hz6 hf3
 go_wp2_with fail
 go_roundw
 case rel=>exact⟨i+1,KC,_,by omega,by go_num,by first|exact SX.out|exact SX.out.I8 1⟩
 case measure=>exact meA)):P:=h
theorem IZ(g b B0 B q n cap:Nat)(A:Option Addr)(c m:Nat)(ts:List Tab)(nm:ByteArray)(yY:List Col)(er rt:Int)(w:World)(hk:aO w g b)(ht:aM w w.heap.size A ts)(hm:ts.length=m)(hup:gM B0 A ts)(hg0:g<B0)(hne:nY q A ts)(hl:m≤10)(dJ:∀t∈ts,0<t.af.length)(hsn:aK ts)
 (hown:ay w B 79 Col.cells 7 (.slice (some ⟨q,0,none⟩) n cap) yY) (hn:yY.length=n) (h8:n≤8) (hnew:∀x∈yY,ER x) (hgB:g<B) (hbB:b<B):
 Calls Tryz.prog 36 #[.pointer (some ⟨g,0,none⟩),.agg #[.slice A m c,.slice none 0 0,.slice none 0 0,.slice none 0 0,.slice none 0 0,.slice none 0 0,.slice none 0 0,.slice none 0 0],.agg #[.string nm,.slice (some ⟨q,0,none⟩) n cap,.int .i64 er,.int .i64 rt]] w fun e w' =>
  ∃(af:List Col) (er':Int),e=.returned (.agg #[.string nm,.slice (some ⟨q,0,none⟩) n cap,.int .i64 er',.int .i64 rt])∧ay w' B 79 Col.cells 7 (.slice (some ⟨q,0,none⟩) n cap) af∧af.length=n∧(∀x∈af,eD 100 w.heap.size w' x)∧aO w' g b∧iV g q w w':=by
 subst hm
 have HK:=qh hk
 have HT:=qh ht
 have HU:=qh hup
 have HNE:=qh hne
 have HC:=qh dJ
 have HS:=qh hsn
 have HOW:=qh hown
 have HN:=qh hn
 have CL:=qh hnew
 have hgl:=hk.ltg
 have hbl:=hk.lt
 have hql:=(hown.lt q rfl)
 have hBq:=hown.row q rfl
 obtain⟨i0,hi0,hz0,hz1,hz2⟩:=info_parts iL
 clear hk ht hup hne dJ hsn hown hn hnew
 go_enter Tryz.func36,Tryz.ntmps36
 go_upto_region 1 with (fail)
 refine aj (P:=fun u=>Code.wp _ _ _ _ u) (R:=fun u=>Blk u w.heap.size 39 #[.slice A ts.length c,.slice none 0 0,.slice none 0 0,.slice none 0 0,.slice none 0 0,.slice none 0 0,.slice none 0 0,.slice none 0 0]∧Blk u (w.heap.size+1) 77 #[.string nm,.slice (some ⟨q,0,none⟩) n cap,.int .i64 er,.int .i64 rt]∧Blk u (w.heap.size+2) 77 #[.string ⟨#[]⟩,.slice none 0 0,.int .i64 0,.int .i64 0]∧Below w.heap.size w u) ⟨?_,?_,?_,?_⟩ ?_
 ·exact((Blk.new _ _ _).alloc _).alloc _
 ·exact(Blk.new' spA).alloc _
 ·exact Blk.new' spA
 ·exact ak
 rintro W ⟨hC,hB,hR,hbW⟩
 have hzW:=hR.lt
 obtain⟨q0,q1,q2,q3⟩:=Tab.blk hB
 have HCB:=qh hC
 have HTB:=qh hB
 have HRB:=qh hR
 have hOW:=HOW.out.below hbW nlr
 obtain⟨A0,c0,he0,hcap0,hsl0,_⟩:=hOW.slice dP
 injection he0 with he1 he2 he3
 subst he1
 have Sl:=qh hsl0
 have SE:=qh hOW
 clear hC hB hR hOW hsl0 he2 he3
 go_wp2_with fail
 (with_reducible refine(JC nm (some ⟨q,0,none⟩) cap n yY er rt _ Sl.out HN.out omA).mono ?_)
 rintro e w1 ⟨⟨LA,lc,l,rfl,hlc,hln,hls,hlA⟩,hb1⟩
 have Kh:Below w.heap.size w w1:=ae hbW hb1 hbW.size
 have hinv:cZ 20 w g b q B n cap (.slice A ts.length c) (.string nm) rt LA l yY er w1:=by
  refine⟨SE.out.below hb1 nlr,HN.out,fun x hx =>?_,HTB.out.below hb1 omA,HCB.out.below hb1 omA,HRB.out.below hb1 hzW,hls,fun a ha=>by have:=hlA a ha;omega,HK.out.below Kh,(iV.refl g q w).below Kh,hgl,hbl,hql,hgB,hbB,hBq⟩
  have hx:=CL.out x hx
  exact⟨hx.name,hx.ns,hx.refs,by rw[hx.own];simp,by rw[hx.own];simp,by rw[hx.own];exact ai.nil,fun a ha=>(by rw[hx.A]at ha;cases ha),fun a ha=>(by rw[hx.A]at ha;cases ha)⟩
 have gW:=qh hinv
 clear hinv HOW SE Sl HK HTB HCB HRB CL HN hb1 Kh hlA hls q0 q1 q2 q3
 go_upto_block 0 with (fail)
 go_cut [] (fun wc =>∃(af:List Col) (er:Int),cZ 20 w g b q B n cap (.slice A ts.length c) (.string nm) rt LA l af er wc)
 case first =>
  go_wp2_with fail
  go_loopw [8] (fun vi wr =>∃(i:Nat) (af:List Col) (er:Int),i≤n∧vi=.int .i64 i∧cZ 20 w g b q B n cap (.slice A ts.length c) (.string nm) rt LA l af er wr) (fun vi _=>n-(intOf vi).toNat)
  case atStart=>exact⟨0,yY,er,Nat.zero_le _,rfl,gW.out⟩
  case round =>
   clear gW
   obtain⟨i,af,er2,hin,rfl,hinv⟩:=hrel
   have gW:=qh hinv
   obtain⟨q0,q1,q2,q3⟩:=Tab.blk hinv.zn
   have hwz:=hinv.res.lt
   have hci:i<n→i<af.length:=fun h=>by rw[hinv.len];exact h
   clear hinv
   by_cases hlt:i<n
   ·have hil:=hci hlt
    have hlt':decide (i<n)=true:=by simpa using hlt
    by_cases hl0:0<l.length
    ·have hl0':decide (0<l.length)=true:=by simpa using hl0
     clear hci
     go_wp2_with fail
     (with_reducible refine(az g b 3 _ gW.out.tape omA omA).mono ?_)
     rintro e w2 ⟨r1,rfl,hr1,hk2,hg2⟩
     have HI2:=qh (gW.out.next hg2 hk2)
     clear gW hk2 hg2 q0 q1 q2 q3 hr1
     by_cases hi0:i=0
     ·have Ms:((i:Int) == 0)=true:=by simp;omega
      have Ri:decide (0<(i:Int))=false:=by simp;omega
      have Rh:decide (0<i)=false:=by simp;omega
      clear hi0
      by_cases hr0:r1=0
      ·subst hr0
       exact Jy
      ·have oP:((r1:Int) == 0)=false:=by simp;omega
       go_wp2_with fail
       go_roundw
       case rel=>exact⟨i+1,af,er2,by omega,by go_num,HI2.out⟩
       case measure=>exact meA
     ·have Ms:((i:Int) == 0)=false:=by simp;omega
      have Ri:decide (0<(i:Int))=true:=by simp;omega
      have Rh:decide (0<i)=true:=by simp;omega
      clear hi0
      go_wp2_with fail
      (with_reducible refine(az g b 4 _ HI2.out.tape omA omA).mono ?_)
      rintro e w2' ⟨r2,rfl,hr2,hk2,hg2⟩
      have SV:=qh (HI2.out.next hg2 hk2)
      clear HI2 hk2 hg2 hr2
      have HI2:=SV
      clear SV
      by_cases hr0:r2=0
      ·subst hr0
       go_wp2_with fail
       go_roundw
       case rel=>exact⟨i+1,af,er2,by omega,by go_num,HI2.out⟩
       case measure=>exact meA
      ·have oP:((r2:Int) == 0)=false:=by simp;omega
       clear hr0
       exact Jy
    ·have hl0':decide (0<l.length)=false:=by simpa using hl0
     go_wp2_with fail
     go_meet
     exact⟨af,er2,gW.out⟩
   ·have hlt':decide (i<n)=false:=by simpa using hlt
    go_wp2_with fail
    go_meet
    exact⟨af,er2,gW.out⟩
 case rest =>
  clear gW
  obtain⟨af,er3,hinv⟩:=hcut
  have h20:∀k (hk:k<af.length),0≤k→af[k].own.length≤20:=fun k hk _=>(hinv.fine _ (lgm hk)).own
  have gW:=qh (hinv.wide (show 20≤100 by omega))
  have H20:=qh h20
  clear hinv h20
  go_wp2_with fail
  go_loopw [12] (fun vi wr =>∃(i:Nat) (af:List Col),i≤n∧vi=.int .i64 i∧cZ 100 w g b q B n cap (.slice A ts.length c) (.string nm) rt LA l af er3 wr∧(∀k (hk:k<af.length),i≤k→af[k].own.length≤20)) (fun vi _=>n-(intOf vi).toNat)
  case atStart=>exact⟨0,af,Nat.zero_le _,rfl,gW.out,H20.out⟩
  case round =>
   clear gW H20
   obtain⟨i,af,hin,rfl,hinv,h20⟩:=hrel
   have gW:=qh hinv
   have H20:=qh h20
   obtain⟨q0,q1,q2,q3⟩:=Tab.blk hinv.zn
   have hwz:=hinv.res.lt
   have hci:i<n→i<af.length:=fun h=>by rw[hinv.len];exact h
   clear hinv h20
   by_cases hlt:i<n
   ·have hil:=hci hlt
    have hlt':decide (i<n)=true:=by simpa using hlt
    clear hci
    go_wp2_with fail
    clear q0 q1 q2 q3
    obtain⟨wo,rfl⟩:∃wo:World,wo=wr:=⟨_,rfl⟩
    go_loopw [14] (fun vn wi =>∃(m:Nat) (af:List Col),m≤ts.length∧vn=.int .i64 m∧cZ 100 w g b q B n cap (.slice A ts.length c) (.string nm) rt LA l af er3 wi∧(∀k (hk:k<af.length),i+1≤k→af[k].own.length≤20)∧(∀hk:i<af.length,af[i].own.length≤20+m)) (fun vn _=>ts.length-(intOf vn).toNat)
    case atStart=>exact⟨0,af,Nat.zero_le _,rfl,gW.out,fun k hk h=>H20.out k hk omA,fun hk=>by have:=H20.out i hk nlr;omega⟩
    case round =>
     clear gW H20 hil
     obtain⟨m,af,hm,rfl,hinv,h20,RZ⟩:=hrel
     have gW:=qh hinv
     have H20:=qh h20
     have hil:i<af.length:=by rw[hinv.len];exact hlt
     have p0:=hinv.GR.cell 0
     simp only[gE3]at p0
     have hwz:=hinv.res.lt
     by_cases hmt:m<ts.length
     ·have htab:=HT.out.Bv hinv.kept HU.out hg0 HNE.out
      obtain⟨tb,tbo,rfl,htb,htc⟩:=htab.1.get hmt
      obtain⟨t0,t1,_,_⟩:=Tab.eP htc
      have hcl:=HC.out ts[m] (lgm hmt)
      obtain⟨cb,co,hce,hcb,hcc⟩:=(htab.2 ts[m] (lgm hmt)).1.get hcl
      have z4:=hcc 4 _ rfl
      have s3:=hinv.own.eY dP hinv.len.symm hil (j:= 3) rfl
      have s4:=hinv.own.eY dP hinv.len.symm hil (j:= 4) rfl
      have s4f:=hinv.own.iN hinv.len.symm (i*7+4)
      have hqz:=hinv.own.lt q rfl
      simp only[Nat.zero_mul,Nat.add_zero]at z4
      have hf:=hinv.fine af[i] (lgm hil)
      have hol:=RZ hil
      obtain⟨⟨xn,xt,xs,xr,xA,xc,xo,xj,xd⟩,hx⟩:∃x:Col,af[i]=x:=⟨_,rfl⟩
      rw[hx]at s3 s4 hf hol
      rw[hce]at t1
      obtain⟨tn,htn⟩:∃s,ts[m].name=s:=⟨_,rfl⟩
      rw[htn]at t0
      obtain⟨ol,Q0⟩:∃k:Nat,ts[m].af[0].own.length=k:=⟨_,rfl⟩
      rw[Q0]at z4
      obtain⟨cl,Ke⟩:∃k:Nat,ts[m].af.length=k:=⟨_,rfl⟩
      rw[Ke]at t1 hcl
      have hcl':decide (0<cl)=true:=by simpa using hcl
      have hk0:=aI (w:=wr) tb htb
      have hk1:=aI (w:=wr) cb hcb
      have hk2:=aI (w:=wr) q hqz
      have hk3:=aI (w:=wr) w.heap.size omA
      have HX:=qh hx
      have HF:=qh hf
      clear hinv h20 RZ htab htc hce hcc hx htn Q0 Ke hf
      by_cases hnm:tn=xr
      ·have hs:=FO hnm
       clear hnm
       by_cases ho0:0<ol
       ·have TQ:decide (0<ol)=true:=by simpa using ho0
        go_upto_region 23 with (fail)
        refine ag krA krA ?_;(repeat(go_big_quiet_step (fail)));refine wpQuiet_nil ?_;intro wq hq
        have HIQ:=qh (gW.out.below hq)
        clear hk0 hk1 hk2 hk3 p0 t0 t1 z4 s3 s4 s4f hs
        have s4:=HIQ.out.own.eY dP HIQ.out.len.symm hil (j:= 4) (by rw[HX.out];rfl)
        have hfq:=HIQ.out.fine af[i] (lgm hil)
        rw[HX.out]at hfq
        have HFQ:=qh hfq
        have NL:=qh hfq.cap
        have HXL:=qh hfq.list
        have hwq:=HIQ.out.res.lt
        simp only at s4
        clear hfq
        go_wp2_with fail
        (with_reducible refine(DW xA xc xo.length xo (i:Int) _ HXL.out rfl omA NL.out).mono ?_)
        rintro e w8 ⟨⟨A8,c8,rfl,hc8,hs8,hA8⟩,hb8⟩
        have V5:(jg xo (i:Int)).length≤xo.length+1:=BB (fun a b:Int=>a<b) xo (i:Int)
        have hpos:0<(jg xo (i:Int)).length:=List.length_pos_of_mem ((BA (fun a b:Int=>a<b) xo (i:Int) (i:Int)).2 (.inr rfl))
        have HI8:=qh (HIQ.out.below hb8)
        have s4':=HI8.out.own.eY dP HI8.out.len.symm hil (j:= 4) (by rw[HX.out];rfl)
        have s4f:=HI8.out.own.iN HI8.out.len.symm (i*7+4)
        have hw8:=hb8.size
        have hcf:eD 100 (w.heap.size+3) w8 ⟨xn,xt,xs,xr,A8,c8,jg xo (i:Int),xj,xd⟩:=by
         have hf8:=HI8.out.fine af[i] (lgm hil)
         rw[HX.out]at hf8
         refine⟨hf8.name,hf8.ns,hf8.refs,show (jg xo (i:Int)).length≤100 by omega,hc8,hs8,fun a ha =>?_,fun a ha =>?_⟩
         ·rcases hA8 with h|h
          ·exact hf8.up a (h▸ha)
          ·have:=h a ha
           omega
         ·obtain⟨b9,o9,he9,hb9,_⟩:=hs8 hpos
          have ha:A8=some a:=ha
          rw[he9]at ha
          injection ha with ha
          subst ha
          exact hb9
        have HCF:=qh hcf
        clear hcf hs8 hA8 hc8 hb8 HIQ HFQ NL HXL s4
        go_wp2_with fail
        go_roundw
        case rel=>exact⟨m+1,af.set i ⟨xn,xt,xs,xr,A8,c8,jg xo (i:Int),xj,xd⟩,by omega,by go_num,HI8.out.set hil ⟨xn,xt,xs,xr,A8,c8,jg xo (i:Int),xj,xd⟩ (j:= 4) omA rfl (by rw[HX.out];rfl) HCF.out,fun k hk hki=>by rw[List.getElem_set_ne omA];exact H20.out k (by simpa using hk) hki,fun hk=>by rw[List.getElem_set_self];show (jg xo (i:Int)).length≤20+(m+1);omega⟩
        case measure=>exact meA
       ·have TQ:decide (0<ol)=false:=by simpa using ho0
        go_upto_region 23 with (fail)
        refine ag krA krA ?_;(repeat(go_big_quiet_step (fail)));refine wpQuiet_nil ?_;intro wq hq
        clear hk0 hk1 hk2 hk3 p0 t0 t1 z4 s3 s4 s4f hs
        have HIQ:=qh (gW.out.below hq)
        go_wp2_with fail
        go_roundw
        case rel=>exact⟨m+1,af,by omega,by go_num,HIQ.out,H20.out,fun hk=>by rw[HX.out];exact Nat.le_succ_of_le hol⟩
        case measure=>exact meA
      ·have hs:=FP hnm
       clear hnm
       go_upto_region 23 with (fail)
       refine ag krA krA ?_;(repeat(go_big_quiet_step (fail)));refine wpQuiet_nil ?_;intro wq hq
       clear hk0 hk1 hk2 hk3 p0 t0 t1 z4 s3 s4 s4f hs
       have HIQ:=qh (gW.out.below hq)
       go_wp2_with fail
       go_roundw
       case rel=>exact⟨m+1,af,by omega,by go_num,HIQ.out,H20.out,fun hk=>by rw[HX.out];exact Nat.le_succ_of_le hol⟩
       case measure=>exact meA
     ·have hmt':decide (m<ts.length)=false:=by simpa using hmt
      clear hinv h20
      have hme:m=ts.length:=by omega
      go_wp2_with fail
      go_roundw
      case rel=>exact⟨i+1,af,by omega,by go_num,gW.out,H20.out⟩
      case measure=>exact meA
   ·have hlt':decide (i<n)=false:=by simpa using hlt
    clear hci
    have hinv:=gW.out
    obtain⟨r0,r1,r2,r3⟩:=Tab.blk hinv.res
    have f0:=hinv.res.frozen 0
    have f1:=hinv.res.frozen 1
    have f2:=hinv.res.frozen 2
    have f3:=hinv.res.frozen 3
    have HE:=qh hinv.toEnd
    clear hinv gW
    go_wp2_with fail
    refine bodyPost_ret (v:= .agg #[.string nm,.slice (some ⟨q,0,none⟩) n cap,.int .i64 er3,.int .i64 rt]) (by simp[results,Tryz.results36,go_sem,r0,r1,r2,r3]) rfl ?_
    have hE:=(((HE.out.set 0 (.string nm)).set 1 (.slice (some ⟨q,0,none⟩) n cap)).set 2 (.int .i64 er3)).set 3 (.int .i64 rt)
    exact⟨af,er3,rfl,hE.own,hE.len,hE.low,hE.tape,hE.kept⟩
def eX:Col:=⟨⟨#[99,48]⟩,1,⟨#[112,101,114,115,111,110]⟩,⟨#[]⟩,none,0,[],0,0⟩
def eB(b:Nat):Col:=⟨⟨#[99,49]⟩,2,⟨#[]⟩,⟨#[]⟩,some ⟨b,0,none⟩,1,[0],0,0⟩
def oN(b q:Nat):Tab:=⟨⟨#[116,48]⟩,some ⟨q,0,none⟩,2,[eX,eB b],0,0⟩
theorem KG(ts:List Tab)(b q:Nat):cz ts [eX,eB b] 0 0 0 0 eX=0:=by
 have h1:cE1 eX=false:=by decide +kernel
 have h2:cE2 [eX,eB b] 0 eX=false:=aQ (fun⟨k,h,hk,_⟩=>by omega)
 have hr:(!eX.refs.toList.isEmpty)=false:=by decide +kernel
 have h3:∀tg,cE3 eX tg=false:=fun tg=>by rw[cE3,hr];rfl
 have h4:∀tg,cE4 ts eX tg=false:=fun tg=>by rw[cE4,hr,Bool.and_false,Bool.false_and,Bool.or_false];rfl
 have h5:cE5 [eX,eB b] eX=false:=by
  have:pb (fM [eX,eB b] eX.own)=true:=aS (fun i h=>by simp[eX]at h)
  rw[cE5,hr,this]
  simp[eX,eB,aC]
 have h6:cE6 0 0 0 eX=false:=by rfl
 have h7:∀tg,cE7 ts 0 eX tg=false:=fun tg=>by rw[cE7,hr];rfl
 unfold cz
 simp only[h1,h2,h3,h4,h5,h6,h7]
 rfl
theorem KF(ts:List Tab)(b q:Nat):cz ts [eX,eB b] 0 0 0 1 (eB b)=0:=by
 have h1:cE1 (eB b)=false:=by
  have e1:dI (eB b).name=true:=by show dI ⟨#[99,49]⟩=true;decide +kernel
  have e2:(!(eB b).ns.toList.isEmpty)=false:=by show (!(⟨#[]⟩:ByteArray).toList.isEmpty)=false;decide +kernel
  rw[cE1,e1,e2]
  rfl
 have h2:cE2 [eX,eB b] 1 (eB b)=false:=aQ (fun⟨k,h,hk,he⟩=>by
  obtain rfl:k=0:=by omega
  have he:(⟨#[99,48]⟩:ByteArray)=⟨#[99,49]⟩:=he
  exact absurd he (by decide +kernel))
 have hr:(!(eB b).refs.toList.isEmpty)=false:=by show (!(⟨#[]⟩:ByteArray).toList.isEmpty)=false;decide +kernel
 have hn:(!(eB b).ns.toList.isEmpty)=false:=hr
 have h3:∀tg,cE3 (eB b) tg=false:=fun tg=>by rw[cE3,hr];rfl
 have h4:∀tg,cE4 ts (eB b) tg=false:=fun tg=>by rw[cE4,hr,Bool.and_false,Bool.false_and,Bool.or_false];rfl
 have h5:cE5 [eX,eB b] (eB b)=false:=by
  have:pb (fM [eX,eB b] (eB b).own)=true:=aS (fun i h=>by
   have h':i<1:=h
   obtain rfl:i=0:=by omega
   refine⟨show (0:Int)≤0 by omega,show (0:Int).toNat<2 by decide,fun h0=>absurd h0 omA,?_⟩
   rintro⟨e,_⟩
   have e:(⟨#[112,101,114,115,111,110]⟩:ByteArray)=⟨#[]⟩:=e
   exact absurd e (by decide +kernel))
  rw[cE5,hr,this]
  simp[eX,eB,aC]
 have h6:cE6 0 0 1 (eB b)=false:=by rfl
 have h7:∀tg,cE7 ts 1 (eB b) tg=false:=fun tg=>by rw[cE7,hr];rfl
 unfold cz
 simp only[h1,h2,h3,h4,h5,h6,h7]
 rfl
theorem MS(b q:Nat):aX [oN b q]:=by
 refine⟨by simp,fun i h =>?_⟩
 have h':i<1:=by simpa using h
 obtain rfl:i=0:=by omega
 refine⟨?_,fun k hk=>by omega,?_⟩
 ·show dI ⟨#[116,48]⟩=true
  decide +kernel
 ·show gQ [oN b q] 0 (oN b q)=0
  have hs:gB (oN b q)=true:=rfl
  rw[gQ,if_pos hs]
  refine gK fun i hi =>?_
  have hi':i<2:=hi
  rcases(show i=0∨i=1 by omega) with rfl|rfl
  ·exact KG _ b q
  ·exact KF _ b q
theorem GX(b q:Nat):aK [oN b q]:=by
 refine⟨by simp,fun t ht =>?_⟩
 rw[List.mem_singleton.1 ht]
 refine⟨show 2≤1000000 by omega,show 2≤1000000 by omega,Nat.le_refl 2,fun x hx =>?_⟩
 have hx:x=eX∨x=eB b:=by simpa[oN]using hx
 rcases hx with rfl|rfl
 ·exact⟨show 2≤1000000 by omega,show 6≤1000000 by omega,show 0≤1000000 by omega,show 0≤1000000 by omega⟩
 ·exact⟨show 2≤1000000 by omega,show 0≤1000000 by omega,show 0≤1000000 by omega,show 1≤1000000 by omega⟩
theorem DJ{P:Prop}(h:P:=by
 refine hK.out _ _ _ ⟨(HIX.out.cat.below Af hzc),(HBX.out.below Af hzT)⟩ (fun hHeld =>?_)
 clear hK K
 refine tkT 7 hHeld ?_ (hy:=by intro w' hSw;obtain⟨sw1,sw2⟩:=hSw;obtain⟨sa0,sa1,sa2,sa3,sa4,sa5,sa6,sa7⟩:=Cat.blk sw1;obtain⟨sb0,sb1,sb2,sb3⟩:=Tab.blk sw2;clear sw1 sw2;go_simp;first|done|with_reducible rfl)
 refine rzT 8 (fun K hK =>?_)
 clear hHeld
 have Kr:=HBD.out.below Af hzX
 have s0:=Kr.cell 0
 have sf:=Kr.frozen 0
 simp only[gE3]at s0
 go_simp
 refine hK.out _ _ _ ?_
 clear hK K
 refine bC krA ?_ _
 go_wp2_with fail
 go_meet
 refine⟨A10,c10,by simpa using Ei,?_,?_,fun a ha =>?_,ah (aP Af _) (.inl rfl) _⟩
 ·have:=Kr.bU 0 (.slice A10 (ts.length+1) c10)
  simpa using this
 ·have:=Gl.far (p:=⟨V.heap.size,0,none⟩) (fun a ha e=>by have:=(yg a ha).1;have e:a.block=V.heap.size:=e;omega) (.slice A10 (ts.length+1) c10)
  simpa using this
 ·have:=yg a ha
  simpa using this):P:=h
def kM(B:Nat)(A:Option Addr)(ts:List Tab):Prop:=(∀a,A=some a→a.block<B) ∧ ∀t∈ts,(∀a,t.A=some a→a.block<B) ∧ ∀x∈t.af,∀a,x.A=some a→a.block<B
theorem kM.mono{B B':Nat}{A:Option Addr}{ts:List Tab}(h:kM B A ts)(hB:B≤B'):kM B' A ts:=
 ⟨fun a ha=>Nat.lt_of_lt_of_le (h.1 a ha) hB,fun t ht=>⟨fun a ha=>Nat.lt_of_lt_of_le ((h.2 t ht).1 a ha) hB,fun x hx a ha=>Nat.lt_of_lt_of_le ((h.2 t ht).2 x hx a ha) hB⟩⟩
theorem kM.ne{B q:Nat}{A:Option Addr}{ts:List Tab}(h:kM B A ts)(hq:B≤q):nY q A ts:=
 ⟨fun a ha e=>by have:=h.1 a ha;omega,fun t ht=>⟨fun a ha e=>by have:=(h.2 t ht).1 a ha;omega,fun x hx a ha e=>by have:=(h.2 t ht).2 x hx a ha;omega⟩⟩
theorem aM.iM{w w':World}{A:Option Addr}{ts:List Tab}{d:Nat}(h:aM w w.heap.size A ts)(hg:w.grownBy w' (some d))(hne:nY d A ts):aM w' w'.heap.size A ts:=
 ⟨h.1.grown hg (fun a ha e=>hne.1 a ha (by injection e)),fun t ht=>⟨(h.2 t ht).1.grown hg (fun a ha e=>(hne.2 t ht).1 a ha (by injection e)),fun x hx=>((h.2 t ht).2 x hx).grown hg (fun a ha e=>(hne.2 t ht).2 x hx a ha (by injection e))⟩⟩
theorem gM.ne{B q:Nat}{A:Option Addr}{ts:List Tab}(h:gM B A ts)(hq:q<B):nY q A ts:=
 ⟨fun a ha e=>by have:=h.1 a ha;omega,fun t ht=>⟨fun a ha e=>by have:=(h.2 t ht).1 a ha;omega,fun x hx a ha e=>by have:=(h.2 t ht).2 x hx a ha;omega⟩⟩
theorem gM.app{B:Nat}{A A':Option Addr}{ts:List Tab}{t:Tab}(h:gM B A ts)(h1:∀a,A'=some a→B≤a.block)(h2:∀a,t.A=some a→B≤a.block)(h3:∀x∈t.af,∀a,x.A=some a→B≤a.block):gM B A' (ts ++ [t]):=
 ⟨h1,fun y hy=>by
  rcases List.mem_append.1 hy with hy|hy
  ·exact h.2 y hy
  ·rw[List.mem_singleton.1 hy];exact⟨h2,h3⟩⟩
theorem kM.app{B:Nat}{A A':Option Addr}{ts:List Tab}{t:Tab}(h:kM B A ts)(h1:∀a,A'=some a→a.block<B)(h2:∀a,t.A=some a→a.block<B)(h3:∀x∈t.af,∀a,x.A=some a→a.block<B):kM B A' (ts ++ [t]):=
 ⟨h1,fun y hy=>by
  rcases List.mem_append.1 hy with hy|hy
  ·exact h.2 y hy
  ·rw[List.mem_singleton.1 hy];exact⟨h2,h3⟩⟩
theorem aK.app{ts:List Tab}{t:Tab}(h:aK ts)(hl:ts.length≤100)(ht:Fz t):aK (ts ++ [t]):=
 ⟨by simp;omega,fun y hy=>by
  rcases List.mem_append.1 hy with hy|hy
  ·exact h.tabs y hy
  ·rw[List.mem_singleton.1 hy];exact ht⟩
theorem aM.app{w:World}{A A':Option Addr}{ts:List Tab}{t:Tab}(h:aM w w.heap.size A ts)(hs:ai w w.heap.size Tab.cells 4 A' (ts ++ [t]))(ht:ig w w.heap.size t.A t.af):aM w w.heap.size A' (ts ++ [t]):=
 ⟨hs,fun y hy=>by
  rcases List.mem_append.1 hy with hy|hy
  ·exact h.2 y hy
  ·rw[List.mem_singleton.1 hy];exact ht⟩
structure mX (w:World) (g b:Nat) (A:Option Addr) (c:Nat) (ts:List Tab) (u:World):Prop where
 cat:Blk u (w.heap.size+1) 39 #[.slice A ts.length c,.slice none 0 0,.slice none 0 0,.slice none 0 0,.slice none 0 0,.slice none 0 0,.slice none 0 0,.slice none 0 0]
 res:Blk u w.heap.size 39 #[.slice none 0 0,.slice none 0 0,.slice none 0 0,.slice none 0 0,.slice none 0 0,.slice none 0 0,.slice none 0 0,.slice none 0 0]
 tabs:aM u u.heap.size A ts
 up:gM (w.heap.size+2) A ts
 bd:kM u.heap.size A ts
 ok:aX ts
 bH:aK ts
 cap:ts.length≤c
 tape:aO u g b
 grown:w.grownBy u (some g)
 ltg:g<w.heap.size
 ltb:b<w.heap.size
section
variable {w u v:World}{g b:Nat}{A:Option Addr}{c:Nat}{ts:List Tab}
theorem mX.next(h:mX w g b A c ts u)(hg:u.grownBy v (some g))(hk:aO v g b):mX w g b A c ts v:=by
 have h1:=h.ltg
 have hne:∀i,w.heap.size≤i→some i≠some g:=fun i hi e=>by injection e with e;omega
 exact⟨h.cat.grown hg (hne _ omA),h.res.grown hg (hne _ omA),h.tabs.grown h.up omA hg,h.up,h.bd.mono hg.size,h.ok,h.bH,h.cap,hk,au h.grown hg,h.ltg,h.ltb⟩
theorem GV:aX []:=⟨by simp,fun i h=>by simp at h⟩
theorem FY:aK []:=⟨by simp,fun t h=>by simp at h⟩
end
theorem eD.ML{M w0:Nat}{u:World}{x:Col}(h:eD M w0 u x){p:Addr}(hp:p.block<w0)(z:Value):eD M w0 (u.setCell p z) x:=
 ⟨h.name,h.ns,h.refs,h.own,h.cap,by have:=h.list.far (p:=p) (fun a ha e=>by have:=h.up a ha;omega) z;simpa using this,h.up,fun a ha=>by simpa using h.lt a ha⟩
theorem aO.R5{w:World}{g b:Nat}(h:aO w g b):aO w.drew g b:=h.below (brf.drew)
theorem AQ(g b n:Nat)(w:World)(hk:aO w g b)(hn:n≤3)(hn1:1≤n):
 Calls Tryz.prog 9 #[.pointer (some ⟨g,0,none⟩),.int .i64 n] w fun e w' =>
  ∃(A:Option Addr) (c:Nat) (ts:List Tab),e=.returned (.agg #[.slice A ts.length c,.slice none 0 0,.slice none 0 0,.slice none 0 0,.slice none 0 0,.slice none 0 0,.slice none 0 0,.slice none 0 0])∧aM w' w'.heap.size A ts∧gM w.heap.size A ts∧kM w'.heap.size A ts∧aK ts∧aX ts ∧ 0<ts.length∧ts.length≤n∧aO w' g b∧w.grownBy w' (some g):=by
 have HK:=qh hk
 have hgl:=hk.ltg
 have hbl:=hk.lt
 obtain⟨ic,hic,Eb,Ea,D9⟩:=info_parts zT
 obtain⟨it,hit,xV,xU,xR⟩:=info_parts Fb
 clear hk
 go_enter Tryz.func9,Tryz.ntmps9
 go_upto_region 2 with (fail)
 refine aj (P:=fun u=>Code.wp _ _ _ _ u) (R:=fun u=>mX w g b none 0 ([]:List Tab) u) ?_ ?_
 ·refine⟨Blk.new' spA,(Blk.new' rfl).alloc _,⟨ai.nil,fun t h=>by simp at h⟩,⟨fun a ha=>(by cases ha),fun t h=>by simp at h⟩,⟨fun a ha=>(by cases ha),fun t h=>by simp at h⟩,GV,FY,Nat.le_refl _,(HK.out.alloc _).alloc _,aP ak _,hgl,hbl⟩
 rintro W hinv
 have gW:=qh hinv
 clear hinv HK
 go_upto_block 0 with (fail)
 go_cut [] (fun wc =>∃(A:Option Addr) (c:Nat) (ts:List Tab),ts.length≤n∧mX w g b A c ts wc)
 case first =>
  go_wp2_with fail
  go_loopw [6] (fun vi wr =>∃(i:Nat) (A:Option Addr) (c:Nat) (ts:List Tab),i≤n∧vi=.int .i64 i∧ts.length≤i∧mX w g b A c ts wr) (fun vi _=>n-(intOf vi).toNat)
  case atStart=>exact⟨0,none,0,[],Nat.zero_le _,rfl,Nat.le_refl _,gW.out⟩
  case round =>
   clear gW
   obtain⟨i,A,c,ts,hin,rfl,htl,hinv⟩:=hrel
   have gW:=qh hinv
   have hwz:=hinv.cat.lt
   have hU:=hinv.tape
   clear hinv
   by_cases hlt:i<n
   ·have hlt':decide (i<n)=true:=by simpa using hlt
    have VV:(i:Int)<(n:Int):=by omega
    have HT0:=qh hU
    clear hU
    go_wp2_with fail
    (with_reducible refine(oF ⟨#[116]⟩ i omA (by decide) _).mono ?_)
    rintro e w1 ⟨rfl,hb1⟩
    obtain⟨nx,hnx⟩:∃nx:ByteArray,(⟨#[116]⟩++⟨#[ql i]⟩:ByteArray)=nx:=⟨_,rfl⟩
    have TS:nx.size≤2:=by rw[←hnx,ByteArray.size_append];exact Nat.le_refl 2
    rw[hnx]
    have hg1:wr.grownBy w1 (some g):=aP hb1 _
    have HT1:=qh (HT0.out.below hb1)
    clear HT0 hnx hb1
    go_wp2_with fail
    (with_reducible refine(az g b 2 _ HT1.out omA omA).mono ?_)
    rintro e w2 ⟨r2,rfl,hr2,hk2,hg2⟩
    have Ac:=au hg1 hg2
    have HT2:=qh hk2
    clear HT1 hk2 hg1 hg2
    go_wp2_with fail
    (with_reducible refine(az g b 4 _ (HT2.out.alloc _) omA omA).mono ?_)
    rintro e w3 ⟨r3,rfl,hr3,hk3,hg3⟩
    have zY:r3<4:=by rcases hr3 with h|h<;>omega
    have hL:Blk w3 w2.heap.size 3 #[.int .i64 0,.int .i64 0,.int .i64 25,.int .i64 40]:=Blk.grown (Blk.new' rfl) hg3 (fun e=>by injection e with e;have:=Ac.size;omega)
    obtain⟨z3,hz3⟩:∃z:Int,w3.cell? ⟨w2.heap.size,r3,none⟩=some (.int .i64 z):=by
     rw[hL.cell]
     rcases(show r3=0∨r3=1∨r3=2∨r3=3 by omega) with rfl|rfl|rfl|rfl
     all_goals exact⟨_,rfl⟩
    have Pk:=au (bq Ac _) hg3
    have HT3:=qh hk3
    clear HT2 hk3 Ac hg3 hL hr2 hr3
    go_upto_region 6 with (fail)
    obtain⟨T,hT⟩:∃T,w3.heap.size=T:=⟨_,rfl⟩
    rw[hT]
    refine aj (P:=fun u=>Code.wp _ _ _ _ u) (R:=fun u=>Blk u T 77 #[.string nx,.slice none 0 0,.int .i64 r2,.int .i64 z3]∧aO u g b∧wr.grownBy u (some g)) ⟨?_,?_,?_⟩ ?_
    ·exact Blk.new' hT
    ·exact HT3.out.alloc _
    ·exact bq Pk _
    have hTz:wr.heap.size≤T:=by have:=Pk.size;omega
    clear HT3 Pk hT hz3
    rintro U ⟨hBU,hKU,hGU⟩
    have HBU:=qh hBU
    have HKU:=qh hKU
    have hUz:=hBU.lt
    clear hBU hKU
    go_wp2_with fail
    (with_reducible refine(az g b 3 _ HKU.out omA omA).mono ?_)
    rintro e w4 ⟨r4,rfl,hr4,hk4,hg4⟩
    have QR:r4<3:=by rcases hr4 with h|h<;>omega
    have hG4:=au hGU hg4
    have HT4:=qh hk4
    have HB4:=qh (HBU.out.grown hg4 inA)
    have hz4:=hG4.size
    have UA:=HB4.out.lt
    clear HKU HBU hGU hk4 hg4 hr4
    go_wp2_with fail
    obtain⟨wo,rfl⟩:∃wo:World,wo=wr:=⟨_,rfl⟩
    go_loopw [8] (fun vm wi =>∃(mm:Nat) (A9:Option Addr) (c9:Nat) (af:List Col),vm=.int .i64 mm∧af.length+mm=2+r4∧Blk wi T 77 #[.string nx,.slice A9 af.length c9,.int .i64 r2,.int .i64 z3]∧ay wi (T+1) 79 Col.cells 7 (.slice A9 af.length c9) af∧(∀x∈af,ER x)∧aO wi g b∧wo.grownBy wi (some g)) (fun vm _=>(intOf vm).toNat)
    case atStart=>exact⟨2+r4,none,0,[],by go_num,by simp,HB4.out,ay.nil,fun x h=>absurd h spA,HT4.out,hG4⟩
    case round =>
     clear HB4 HT4 hG4 hz4 UA hUz
     obtain⟨mm,A9,c9,af,rfl,hmm,hB5,hO5,hN5,hK5,hG5⟩:=hrel
     have hI5:=gW.out.next hG5 hK5
     have HI5:=qh hI5
     have HB5:=qh hB5
     have HO5:=qh hO5
     have HN5:=qh hN5
     have HK5:=qh hK5
     have hrow:=hO5.row
     have Uz:=hB5.lt
     have iw:=hI5.cat
     obtain⟨p0,p1,p2,p3⟩:=Tab.blk hB5
     have hz5:=hG5.size
     by_cases hm0:0<mm
     ·have Q7:(0:Int)<(mm:Int):=by omega
      have Wn:af.length≤4:=by omega
      clear hI5 hO5 hN5 hK5
      go_upto_region 9 with (fail)
      clear p0 p1 p2 p3
      have uN:=qh iw
      refine aW (S:=(fun w'=>Blk w' (w.heap.size+1) 39 #[.slice A ts.length c,.slice none 0 0,.slice none 0 0,.slice none 0 0,.slice none 0 0,.slice none 0 0,.slice none 0 0,.slice none 0 0]∧Blk w' T 77 #[.string nx,.slice A9 af.length c9,.int .i64 r2,.int .i64 z3])) [12] krA ⟨iw.drew,hB5.drew⟩ (fun hHeld =>?_)
      clear iw hB5
      refine tkT 0 hHeld ?_ (hy:=by intro w' hSw;obtain⟨sw1,sw2⟩:=hSw;obtain⟨sa0,sa1,sa2,sa3,sa4,sa5,sa6,sa7⟩:=Cat.blk sw1;obtain⟨sb0,sb1,sb2,sb3⟩:=Tab.blk sw2;clear sw1 sw2;go_simp;first|done|with_reducible rfl)
      refine tkT 1 hHeld ?_ (hy:=by intro w' hSw;obtain⟨sw1,sw2⟩:=hSw;obtain⟨sa0,sa1,sa2,sa3,sa4,sa5,sa6,sa7⟩:=Cat.blk sw1;obtain⟨sb0,sb1,sb2,sb3⟩:=Tab.blk sw2;clear sw1 sw2;go_simp;first|done|with_reducible rfl)
      refine tkT 2 hHeld ?_ (hy:=by intro w' hSw;obtain⟨sw1,sw2⟩:=hSw;obtain⟨sa0,sa1,sa2,sa3,sa4,sa5,sa6,sa7⟩:=Cat.blk sw1;obtain⟨sb0,sb1,sb2,sb3⟩:=Tab.blk sw2;clear sw1 sw2;go_simp;first|done|with_reducible rfl)
      refine tkT 3 hHeld ?_ (hy:=by intro w' hSw;obtain⟨sw1,sw2⟩:=hSw;obtain⟨sa0,sa1,sa2,sa3,sa4,sa5,sa6,sa7⟩:=Cat.blk sw1;obtain⟨sb0,sb1,sb2,sb3⟩:=Tab.blk sw2;clear sw1 sw2;go_simp;first|done|with_reducible rfl)
      refine tkT 4 hHeld ?_ (hy:=by intro w' hSw;obtain⟨sw1,sw2⟩:=hSw;obtain⟨sa0,sa1,sa2,sa3,sa4,sa5,sa6,sa7⟩:=Cat.blk sw1;obtain⟨sb0,sb1,sb2,sb3⟩:=Tab.blk sw2;clear sw1 sw2;go_simp;first|done|with_reducible rfl)
      refine tkT 5 hHeld ?_ (hy:=by intro w' hSw;obtain⟨sw1,sw2⟩:=hSw;obtain⟨sa0,sa1,sa2,sa3,sa4,sa5,sa6,sa7⟩:=Cat.blk sw1;obtain⟨sb0,sb1,sb2,sb3⟩:=Tab.blk sw2;clear sw1 sw2;go_simp;first|done|with_reducible rfl)
      refine tkT 6 hHeld ?_ (hy:=by intro w' hSw;obtain⟨sw1,sw2⟩:=hSw;obtain⟨sa0,sa1,sa2,sa3,sa4,sa5,sa6,sa7⟩:=Cat.blk sw1;obtain⟨sb0,sb1,sb2,sb3⟩:=Tab.blk sw2;clear sw1 sw2;go_simp;first|done|with_reducible rfl)
      refine tkT 7 hHeld ?_ (hy:=by intro w' hSw;obtain⟨sw1,sw2⟩:=hSw;obtain⟨sa0,sa1,sa2,sa3,sa4,sa5,sa6,sa7⟩:=Cat.blk sw1;obtain⟨sb0,sb1,sb2,sb3⟩:=Tab.blk sw2;clear sw1 sw2;go_simp;first|done|with_reducible rfl)
      refine r1T 8 (fun K hK =>?_)
      go_simp
      (with_reducible refine(AP g b (w.heap.size+2) A c ts.length ts _ af.length _ HK5.out.R5 (HI5.out.tabs.next ak) rfl HI5.out.up omA omA (fun t ht=>by obtain⟨k,hk,rfl⟩:=List.getElem_of_mem ht;exact(HI5.out.ok.af hk).1) HI5.out.bH omA ⟨nx,.slice A9 af.length c9,r2,z3,rfl,rfl⟩).mono ?_)
      rintro e w5 ⟨⟨xn,xt,xs,xr,xA,xc,xo,xj,xd⟩,rfl,hxn,hk6,hg6⟩
      have TT:some T≠some g:=fun e=>by injection e with e;omega
      have TU:some (w.heap.size+1)≠some g:=fun e=>by injection e with e;omega
      have HK6:=qh hk6
      have hG6:wo.grownBy w5 (some g):=au (kI hG5) hg6
      have HO6:=qh (HO5.out.drew.grown hg6 omA)
      have hz6:=hG6.size
      have HXN:=qh hxn
      have WC:T<w5.heap.size:=by have:=hg6.size;simp at this;omega
      clear hk6 hxn
      go_wp2_with fail
      refine hK.out _ _ _ ⟨(hHeld.1.grown hg6 TU),(hHeld.2.grown hg6 TT)⟩ (fun hHeld =>?_)
      clear hK K
      clear hg6
      refine r1T 9 (fun K hK =>?_)
      dsimp only[Col.cells]
      go_simp
      refine hK.out _ _ _ ⟨(hHeld.1.alloc _),(hHeld.2.alloc _)⟩ (fun hHeld =>?_)
      clear hK K
      refine r1T 10 (fun K hK =>?_)
      (refine aB _ rfl (.tmp 33) (.tmp 41) 75 rfl 79 ic _ Col.cells 7 96 Tryz.underlying75 hic Eb Ea D9 rfl omA dP Am (T+1) (.slice A9 af.length c9) af rfl (HO6.out.alloc _) _ _ _ [⟨xn,xt,xs,xr,xA,xc,xo,xj,xd⟩] rfl rfl (Blk.one (enc:=Col.cells) (x:=⟨xn,xt,xs,xr,xA,xc,xo,xj,xd⟩) (Blk.new' rfl) spA) smA mxA smA ?_;intro v' w6 hown6 hg7 MF)
      obtain⟨A10,c10,rfl,Ei,yg⟩:=hown6.form
      have zW:∀k,k<T+1→some k≠(Value.slice A9 af.length c9).ownBlock:=fun k hk e=>by have:=hrow _ e.symm;omega
      have HK7:=qh ((HK6.out.alloc _).sV hg7 (zW g omA) (zW b omA))
      have hG7:wo.grownBy w6 (some g):=fP (bq hG6 _) hg7 (fun q e=>by have:=hrow q e;omega)
      refine hK.out _ _ _ ⟨(hHeld.1.grown hg7 (zW _ omA)),(hHeld.2.grown hg7 (zW _ omA))⟩ (fun hHeld =>?_)
      clear hK K
      have HB7:=qh hHeld.2
      have HO7:=qh hown6
      have WB:=hHeld.2.lt
      obtain⟨_,s1,_,_⟩:=Tab.blk hHeld.2
      have sf:=hHeld.2.frozen 1
      clear hown6 hg7 MF Ei yg
      refine tkT 11 hHeld ?_ (hy:=by intro w' hSw;obtain⟨sw1,sw2⟩:=hSw;obtain⟨sa0,sa1,sa2,sa3,sa4,sa5,sa6,sa7⟩:=Cat.blk sw1;obtain⟨sb0,sb1,sb2,sb3⟩:=Tab.blk sw2;clear sw1 sw2;go_simp;first|done|with_reducible rfl)
      refine rzT 12 (fun K hK =>?_)
      clear hHeld
      go_simp
      refine hK.out _ _ _ ?_
      clear hK K
      refine bC krA ?_ _
      clear s1 sf
      go_wp2_with fail
      go_roundw
      case rel =>
       refine⟨mm-1,A10,c10,af ++ [⟨xn,xt,xs,xr,xA,xc,xo,xj,xd⟩],by go_num,by simp;omega,?_,HO7.out.far (fun k hk e =>?_) _,fun y hy =>?_,HK7.out.far smA smA _,ah hG7 (.inr smA) _⟩
       ·have:=HB7.out.bU 1 (.slice A10 (af ++ [(⟨xn,xt,xs,xr,xA,xc,xo,xj,xd⟩:Col)]).length c10)
        simpa using this
       ·have h1:=HO7.out.row k hk
        have e:k=T:=e
        omega
       ·rcases List.mem_append.1 hy with h|h
        ·exact HN5.out y h
        ·rw[List.mem_singleton.1 h]
         exact HXN.out
      case measure=>exact meA
     ·obtain rfl:mm=0:=by omega
      have hpos:0<af.length:=by omega
      have Un:af.length≤8:=by omega
      obtain⟨q,cap,hq,hTq⟩:=hO5.nC hpos
      injection hq with hq1 hq2 hq3
      subst hq1 hq3
      clear hq2 hI5 hO5 hN5 hK5
      obtain⟨a0,a1,a2,a3,a4,a5,a6,a7⟩:=Cat.blk iw
      clear iw
      go_wp2_with fail
      (with_reducible refine(IZ g b (w.heap.size+2) (T+1) q af.length c9 A c ts.length ts nx af r2 z3 _ HK5.out HI5.out.tabs rfl HI5.out.up omA (gW.out.bd.ne omA) omA (fun t ht=>by obtain⟨k,hk,rfl⟩:=List.getElem_of_mem ht;exact(HI5.out.ok.af hk).1) HI5.out.bH HO5.out rfl Un HN5.out omA omA).mono ?_)
      rintro e w7 ⟨iZ,er7,rfl,hO7,hl7,hf7,hk7,z8⟩
      have hz7:=z8.size
      have RJ:T≠q:=by omega
      have hB7:Blk w7 T 77 #[.string nx,.slice (some ⟨q,0,none⟩) af.length c9,.int .i64 r2,.int .i64 z3]:=(z8.block T Uz omA RJ).trans hB5
      have hG7:wo.grownBy w7 (some g):=z8.up hG5 omA
      have HB7:=qh hB7
      have HO7:=qh hO7
      have HF7:=qh hf7
      have HK7:=qh hk7
      have HL7:=qh hl7
      obtain⟨p0,p1,p2,p3⟩:=Tab.blk hB7
      have f0:=hB7.frozen 0
      have f1:=hB7.frozen 1
      have f2:=hB7.frozen 2
      have f3:=hB7.frozen 3
      clear hB7 hO7 hf7 hk7 hl7 z8 hB5 a0 a1 a2 a3 a4 a5 a6 a7 HI5 HO5 HN5 HK5 HB5
      go_upto_region 11 with (fail)
      refine aj (P:=fun u=>Code.wp _ _ _ _ u) (R:=fun u=>Blk u T 77 #[.string nx,.slice (some ⟨q,0,none⟩) af.length c9,.int .i64 er7,.int .i64 z3]∧ay u (T+1) 79 Col.cells 7 (.slice (some ⟨q,0,none⟩) af.length c9) iZ∧(∀x∈iZ,eD 100 (T+1) u x)∧aO u g b∧wo.grownBy u (some g)) ⟨?_,?_,?_,?_,?_⟩ ?_
      ·with_reducible refine Blk.eq ((((HB7.out.bU 0 _).bU 1 _).bU 2 _).bU 3 _) ?_
       simp
      ·have jH:∀k,(Value.slice (some ⟨q,0,none⟩) af.length c9).ownBlock=some k→k≠T:=fun k hk=>by have:=HO7.out.row k hk;omega
       exact(((HO7.out.far jH _).far jH _).far jH _).far jH _
      ·intro x hx
       have f:=HF7.out x hx
       have f':eD 100 (T+1) w7 x:=⟨f.name,f.ns,f.refs,f.own,f.cap,f.list,fun a ha=>by have:=f.up a ha;omega,f.lt⟩
       exact(((f'.ML (Nat.lt_succ_self T) _).ML (Nat.lt_succ_self T) _).ML (Nat.lt_succ_self T) _).ML (Nat.lt_succ_self T) _
      ·have n1:g≠T:=by omega
       have n2:b≠T:=by omega
       exact(((HK7.out.far n1 n2 _).far n1 n2 _).far n1 n2 _).far n1 n2 _
      ·exact ah (ah (ah (ah hG7 (.inr hTz) _) (.inr hTz) _) (.inr hTz) _) (.inr hTz) _
      clear HB7 HO7 HF7 HK7 hG7 p0 p1 p2 p3 f0 f1 f2 f3 RJ
      rintro V ⟨hB8,hO8,hF8,hK8,hG8⟩
      have hI8:=gW.out.next hG8 hK8
      have HI8:=qh hI8
      have HB8:=qh hB8
      have HO8:=qh hO8
      have HF8:=qh hF8
      have Uy:=hB8.lt
      have TL:=hO8.lt q rfl
      have Wi:=hI8.cat.lt
      obtain⟨a0,a1,a2,a3,a4,a5,a6,a7⟩:=Cat.blk hI8.cat
      clear hB8 hO8 hF8 hK8 hI8
      go_upto_region 12 with (fail)
      obtain⟨D,hD⟩:∃D,V.heap.size=D:=⟨_,rfl⟩
      rw[hD]
      refine aj (P:=fun u=>Code.wp _ _ _ _ u) (R:=fun u=>Blk u D 39 #[.slice A ts.length c,.slice none 0 0,.slice none 0 0,.slice none 0 0,.slice none 0 0,.slice none 0 0,.slice none 0 0,.slice none 0 0]∧Below V.heap.size V u) ⟨?_,?_⟩ ?_
      ·exact Blk.new' hD
      ·exact ak
      clear a0 a1 a2 a3 a4 a5 a6 a7
      rintro X ⟨hBD,hbX⟩
      rw[←hD]at hBD ⊢
      have hzX:=hBD.lt
      have hGX:wo.grownBy X (some g):=BN hG8 hbX
      have HIX:=qh (HI8.out.next (aP hbX _) (HI8.out.tape.below hbX))
      have HBX:=qh (HB8.out.below hbX Uy)
      have HOX:=qh (HO8.out.below hbX nlr)
      have HFX:Hid (∀x∈iZ,eD 100 (T+1) X x):=qh (fun x hx=>(HF8.out x hx).keep (aP hbX none) (fun i e=>by cases e))
      have HBD:=qh hBD
      have hcX:=HIX.out.cat
      have hbT:=HBX.out
      have VF:ts.length≤3:=by omega
      have Q8:∀x∈iZ,∀a,x.A=some a→a.block<V.heap.size:=fun x hx=>(HF8.out x hx).lt
      have HLV:=qh Q8
      clear HB8 HO8 HF8 HI8 hG8 hbX hD Q8
      have hcells:(Tab.cells ⟨nx,some ⟨q,0,none⟩,c9,iZ,er7,z3⟩).toArray=#[.string nx,.slice (some ⟨q,0,none⟩) af.length c9,.int .i64 er7,.int .i64 z3]:=by simp[Tab.cells,HL7.out]
      have HCE:=qh hcells
      have hzc:w.heap.size+1<X.heap.size:=HIX.out.cat.lt
      have hzT:T<X.heap.size:=HBX.out.lt
      clear hcells
      go_cut [] (fun wc =>∃(A10:Option Addr) (c10:Nat),ts.length+1≤c10∧Blk wc V.heap.size 39 #[.slice A10 (ts.length+1) c10,.slice none 0 0,.slice none 0 0,.slice none 0 0,.slice none 0 0,.slice none 0 0,.slice none 0 0,.slice none 0 0]∧ai wc wc.heap.size Tab.cells 4 A10 (ts ++ [⟨nx,some ⟨q,0,none⟩,c9,iZ,er7,z3⟩])∧(∀a,A10=some a→X.heap.size≤a.block∧a.block<wc.heap.size)∧X.grownBy wc (some V.heap.size))
      case first =>
       refine aW (S:=(fun w'=>Blk w' (w.heap.size+1) 39 #[.slice A ts.length c,.slice none 0 0,.slice none 0 0,.slice none 0 0,.slice none 0 0,.slice none 0 0,.slice none 0 0,.slice none 0 0]∧Blk w' T 77 #[.string nx,.slice (some ⟨q,0,none⟩) af.length c9,.int .i64 er7,.int .i64 z3])) [8] krA ⟨hcX.drew,hbT.drew⟩ (fun hHeld =>?_)
       clear hcX hbT hBD
       refine tkT 1 hHeld ?_ (hy:=by intro w' hSw;obtain⟨sw1,sw2⟩:=hSw;obtain⟨sa0,sa1,sa2,sa3,sa4,sa5,sa6,sa7⟩:=Cat.blk sw1;obtain⟨sb0,sb1,sb2,sb3⟩:=Tab.blk sw2;clear sw1 sw2;go_simp;first|done|with_reducible rfl)
       refine tkT 2 hHeld ?_ (hy:=by intro w' hSw;obtain⟨sw1,sw2⟩:=hSw;obtain⟨sa0,sa1,sa2,sa3,sa4,sa5,sa6,sa7⟩:=Cat.blk sw1;obtain⟨sb0,sb1,sb2,sb3⟩:=Tab.blk sw2;clear sw1 sw2;go_simp;first|done|with_reducible rfl)
       refine tkT 4 hHeld ?_ (hy:=by intro w' hSw;obtain⟨sw1,sw2⟩:=hSw;obtain⟨sa0,sa1,sa2,sa3,sa4,sa5,sa6,sa7⟩:=Cat.blk sw1;obtain⟨sb0,sb1,sb2,sb3⟩:=Tab.blk sw2;clear sw1 sw2;go_simp;first|done|with_reducible rfl)
       refine r2T 0 5 (fun K hK =>?_) (fun K hK =>?_)
       ·go_simp
        refine hK.out _ _ _ ⟨(hHeld.1.alloc _),(hHeld.2.alloc _)⟩ (fun hHeld =>?_)
        clear hK K
        refine r2T 3 5 (fun K hK =>?_) (fun K hK =>?_)
        ·(refine aB _ rfl (.tmp 49) (.tmp 51) 30 rfl 77 it _ Tab.cells 4 56 Tryz.underlying30 hit xV xU xR rfl omA fV mh X.heap.size (.slice (some ⟨X.heap.size,0,none⟩) 0 0) [] rfl (ay.empty nbA leA) _ _ _ ts rfl rfl (HIX.out.tabs.1.next ak) smA mxA leA ?_;intro v1 w9 nM hg9 RF;have hb9:Below X.heap.size X w9:=Below.grown ak hg9 leA (bS leA);rw[List.nil_append]at nM;have hz9:=hb9.size)
         refine hK.out _ _ _ ⟨(HIX.out.cat.below hb9 hzc),(HBX.out.below hb9 hzT)⟩ (fun hHeld =>?_)
         clear hK K
         refine r1T 5 (fun K hK =>?_)
         go_simp
         refine hK.out _ _ _ ⟨(hHeld.1.alloc _),(hHeld.2.alloc _)⟩ (fun hHeld =>?_)
         clear hK K
         refine r1T 6 (fun K hK =>?_)
         (refine aB _ rfl (.tmp 52) (.tmp 54) 30 rfl 77 it _ Tab.cells 4 56 Tryz.underlying30 hit xV xU xR rfl omA fV mh X.heap.size v1 ts rfl (nM.alloc _) _ _ _ [⟨nx,some ⟨q,0,none⟩,c9,iZ,er7,z3⟩] rfl rfl (Blk.one (enc:=Tab.cells) (x:=⟨nx,some ⟨q,0,none⟩,c9,iZ,er7,z3⟩) (by rw[HCE.out];exact(Blk.new' rfl)) spA) smA mxA leA ?_;intro v2 w10 wI nN NG;have Af:Below X.heap.size X w10:=Below.grown ak nN leA nM.row;have Me:=Af.size;obtain⟨A10,c10,rfl,Ei,Gl,yg⟩:=wI.slice fV)
         exact DJ
        ·go_simp
         refine hK.out _ _ _ ⟨(hHeld.1.alloc _),(hHeld.2.alloc _)⟩ (fun hHeld =>?_)
         clear hK K
         refine r1T 3 (fun K hK =>?_)
         (refine aB _ rfl (.tmp 49) (.tmp 51) 30 rfl 77 it _ Tab.cells 4 56 Tryz.underlying30 hit xV xU xR rfl omA fV mh X.heap.size (.slice (some ⟨X.heap.size,0,none⟩) 0 0) [] rfl (ay.empty nbA leA) _ _ _ ts rfl rfl (HIX.out.tabs.1.next ak) smA mxA leA ?_;intro v1 w9 nM hg9 RF;have hb9:Below X.heap.size X w9:=Below.grown ak hg9 leA (bS leA);rw[List.nil_append]at nM;have hz9:=hb9.size)
         have hbt:=Blk.grown (g:=X.heap.size+1) (t:= 77) (cs:= #[.string nx,.slice (some ⟨q,0,none⟩) af.length c9,.int .i64 er7,.int .i64 z3]) (by first|exact Blk.new' sdA|exact(Blk.new' sdA).drew) hg9 (gT omA)
         refine hK.out _ _ _ ⟨(HIX.out.cat.below hb9 hzc),(HBX.out.below hb9 hzT)⟩ (fun hHeld =>?_)
         clear hK K
         refine r1T 6 (fun K hK =>?_)
         (refine aB _ rfl (.tmp 52) (.tmp 54) 30 rfl 77 it _ Tab.cells 4 56 Tryz.underlying30 hit xV xU xR rfl omA fV mh X.heap.size v1 ts rfl nM _ _ _ [⟨nx,some ⟨q,0,none⟩,c9,iZ,er7,z3⟩] rfl rfl (Blk.one (enc:=Tab.cells) (x:=⟨nx,some ⟨q,0,none⟩,c9,iZ,er7,z3⟩) (by rw[HCE.out];exact hbt) hbt.lt) smA mxA leA ?_;intro v2 w10 wI nN NG;have Af:Below X.heap.size X w10:=Below.grown ak nN leA nM.row;have Me:=Af.size;obtain⟨A10,c10,rfl,Ei,Gl,yg⟩:=wI.slice fV)
         exact DJ
       ·go_simp
        refine hK.out _ _ _ ⟨(hHeld.1.alloc _),(hHeld.2.alloc _)⟩ (fun hHeld =>?_)
        clear hK K
        refine r1T 0 (fun K hK =>?_)
        go_simp
        refine hK.out _ _ _ ⟨(hHeld.1.alloc _),(hHeld.2.alloc _)⟩ (fun hHeld =>?_)
        clear hK K
        refine r1T 3 (fun K hK =>?_)
        (refine aB _ rfl (.tmp 49) (.tmp 51) 30 rfl 77 it _ Tab.cells 4 56 Tryz.underlying30 hit xV xU xR rfl omA fV mh X.heap.size (.slice (some ⟨(X.heap.size+1),0,none⟩) 0 0) [] rfl (ay.empty nbA leA) _ _ _ ts rfl rfl (HIX.out.tabs.1.next ak) smA mxA leA ?_;intro v1 w9 nM hg9 RF;have hb9:Below X.heap.size X w9:=Below.grown ak hg9 leA (bS leA);rw[List.nil_append]at nM;have hz9:=hb9.size)
        have hbt:=Blk.grown (g:=X.heap.size) (t:= 77) (cs:= #[.string nx,.slice (some ⟨q,0,none⟩) af.length c9,.int .i64 er7,.int .i64 z3]) (by first|exact(Blk.new' sdA).alloc _|exact((Blk.new' sdA).alloc _).drew|exact((Blk.new' sdA).drew).alloc _) hg9 (gT omA)
        refine hK.out _ _ _ ⟨(HIX.out.cat.below hb9 hzc),(HBX.out.below hb9 hzT)⟩ (fun hHeld =>?_)
        clear hK K
        refine r1T 6 (fun K hK =>?_)
        (refine aB _ rfl (.tmp 52) (.tmp 54) 30 rfl 77 it _ Tab.cells 4 56 Tryz.underlying30 hit xV xU xR rfl omA fV mh X.heap.size v1 ts rfl nM _ _ _ [⟨nx,some ⟨q,0,none⟩,c9,iZ,er7,z3⟩] rfl rfl (Blk.one (enc:=Tab.cells) (x:=⟨nx,some ⟨q,0,none⟩,c9,iZ,er7,z3⟩) (by rw[HCE.out];exact hbt) hbt.lt) smA mxA leA ?_;intro v2 w10 wI nN NG;have Af:Below X.heap.size X w10:=Below.grown ak nN leA nM.row;have Me:=Af.size;obtain⟨A10,c10,rfl,Ei,Gl,yg⟩:=wI.slice fV)
        exact DJ
      case rest =>
       obtain⟨A10,c10,Ei,Kq,Gl,yg,hgc⟩:=hcut
       clear hcX hbT hBD
       have Vq:V.heap.size<X.heap.size:=hzX
       have Tt:wo.heap.size≤V.heap.size:=by omega
       have V9:=hgc.size
       have htc:=HIX.out.tabs.iM hgc (gW.out.bd.ne Tt)
       have hkc:aO wc g b:=HIX.out.tape.grown hgc omA omA
       have hGc:wo.grownBy wc (some g):=fP hGX hgc inB
       have HIC:=qh (gW.out.next hGc hkc)
       have Rq:ig wc wc.heap.size (some ⟨q,0,none⟩) iZ:=by
        obtain⟨A0,c0,he0,_,hsl0,_⟩:=HOX.out.slice dP
        injection he0 with he1 _ _
        subst he1
        exact⟨hsl0.grown hgc (fun a ha e=>by injection ha with ha;subst ha;injection e with e;have e:q=V.heap.size:=e;omega),fun x hx=>(HFX.out x hx).list.grown hgc (fun a ha e=>by have:=HLV.out x hx a ha;injection e with e;omega)⟩
       have hti:=htc.app Gl Rq
       have hup:gM (w.heap.size+2) A10 (ts ++ [⟨nx,some ⟨q,0,none⟩,c9,iZ,er7,z3⟩]):=gW.out.up.app (fun a ha=>by have:=(yg a ha).1;omega) (fun a ha=>by injection ha with ha;subst ha;show w.heap.size+2≤q;omega) (fun x hx a ha=>by have:=(HFX.out x hx).up a ha;omega)
       have hbd:kM wc.heap.size A10 (ts ++ [⟨nx,some ⟨q,0,none⟩,c9,iZ,er7,z3⟩]):=(HIC.out.bd).app (fun a ha=>(yg a ha).2) (fun a ha=>by injection ha with ha;subst ha;show q<wc.heap.size;omega) (fun x hx a ha=>by have:=HLV.out x hx a ha;omega)
       have hsn:aK (ts ++ [⟨nx,some ⟨q,0,none⟩,c9,iZ,er7,z3⟩]):=gW.out.bH.app omA ⟨show nx.size≤1000000 by omega,by have:=HL7.out;show iZ.length≤1000000;omega,by(obtain⟨_,_,he0,hcap,_,_⟩:=HOX.out.slice dP;injection he0 with _ _ he;rw[←he]at hcap;exact hcap),fun x hx=>by have f:=HFX.out x hx;exact⟨f.name,f.ns,f.refs,by have:=f.own;omega⟩⟩
       obtain⟨ts',OT⟩:∃l,ts ++ [⟨nx,some ⟨q,0,none⟩,c9,iZ,er7,z3⟩]=l:=⟨_,rfl⟩
       have OU:ts'.length=ts.length+1:=by rw[←OT];simp
       rw[OT]at hti hup hbd hsn
       have HTI:=qh hti
       have HUP:=qh hup
       have P8:=qh hbd
       have HSN:=qh hsn
       have HTL:=qh OU
       rw[←OU]at Kq Ei
       have P9:=qh Kq
       obtain⟨a0,a1,a2,a3,a4,a5,a6,a7⟩:=Cat.blk Kq
       have Tx:=Kq.lt
       have TE:ts'.length≤i+1:=by omega
       clear hti hup hbd hsn OU Kq Gl yg hgc htc hkc Rq hGc OT HBX HOX HFX HLV HL7 HCE HIX hGX HBD
       cases hok:pb (aX ts')
       ·have HOK:=qh hok
        clear hok
        go_wp2_with fail
        (with_reducible refine(uk A10 c10 ts'.length ts' _ HTI.out rfl HSN.out HOK.out).mono ?_)
        rintro e w11 ⟨rfl,qj⟩
        have CP:=qh (HIC.out.next (aP qj _) (HIC.out.tape.below qj))
        clear qj a0 a1 a2 a3 a4 a5 a6 a7
        go_upto_if 58 with (fail)
        go_cut [] (fun wd =>∃(A:Option Addr) (c:Nat) (ts:List Tab),ts.length≤i+1∧mX w g b A c ts wd)
        case first =>
         go_wp2_with fail
         go_meet
         exact⟨A,c,ts,by omega,CP.out⟩
        case rest =>
         (
         clear HIC HTI HUP P8 HSN HTL P9 CP HOK
         obtain⟨A,c,ts,hle,hinv⟩:=hcut
         have HID:=qh hinv
         obtain⟨a0,_⟩:=Cat.blk hinv.cat
         have hkd:=hinv.tape
         clear hinv
         by_cases ht0:ts.length=0
         ·have ht0':decide (0<ts.length)=false:=by rw[ht0];rfl
          clear hkd
          go_wp2_with fail
          go_roundw
          case rel=>exact⟨i+1,A,c,ts,by omega,by go_num,hle,HID.out⟩
          case measure=>exact meA
         ·have ht0':decide (0<ts.length)=true:=by simp;omega
          have HKD:=qh hkd
          clear hkd ht0
          go_wp2_with fail
          (with_reducible refine(az g b 4 _ HKD.out omA omA).mono ?_)
          rintro e w12 ⟨r6,rfl,hr6,xZ,Ac⟩
          have HIE:=qh (HID.out.next Ac xZ)
          clear hr6 xZ Ac a0 HID HKD
          by_cases hr0:r6=0
          ·subst hr0
           go_wp2_with fail
           go_meet
           exact⟨A,c,ts,by omega,HIE.out⟩
          ·have oP:((r6:Int) == 0)=false:=by simp;omega
           clear hr0
           go_wp2_with fail
           go_roundw
           case rel=>exact⟨i+1,A,c,ts,by omega,by go_num,hle,HIE.out⟩
           case measure=>exact meA)
       ·have HOK:=qh hok
        clear hok
        go_wp2_with fail
        (with_reducible refine(uk A10 c10 ts'.length ts' _ HTI.out rfl HSN.out HOK.out).mono ?_)
        rintro e w11 ⟨rfl,qj⟩
        have CP:=qh (HIC.out.next (aP qj _) (HIC.out.tape.below qj))
        have NH:=P9.out.below qj Tx
        have Nv:=HTI.out.next qj
        have Tg:=qh (P8.out.mono qj.size)
        have Vw:=qj.size
        clear qj a0 a1 a2 a3 a4 a5 a6 a7
        obtain⟨a0,a1,a2,a3,a4,a5,a6,a7⟩:=Cat.blk NH
        have Sd:=qh Nv
        have iw:=CP.out.cat
        obtain⟨b0,b1,b2,b3,b4,b5,b6,b7⟩:=Cat.blk iw
        have f0:=iw.frozen 0
        have f1:=iw.frozen 1
        have f2:=iw.frozen 2
        have f3:=iw.frozen 3
        have f4:=iw.frozen 4
        have f5:=iw.frozen 5
        have f6:=iw.frozen 6
        have f7:=iw.frozen 7
        have uN:=qh iw
        clear Nv NH iw
        go_upto_if 58 with (fail)
        go_cut [] (fun wd =>∃(A:Option Addr) (c:Nat) (ts:List Tab),ts.length≤i+1∧mX w g b A c ts wd)
        case first =>
         go_wp2_with fail
         go_meet
         refine⟨A10,c10,ts',TE,?_⟩
         have hg:=ah (ah (ah (ah (ah (ah (ah (ah (ji w11 (some (w.heap.size+1))) (p:=⟨w.heap.size+1,0,none⟩) (.inl rfl) (.slice A10 ts'.length c10)) (p:=⟨w.heap.size+1,1,none⟩) (.inl rfl) (.slice none 0 0)) (p:=⟨w.heap.size+1,2,none⟩) (.inl rfl) (.slice none 0 0)) (p:=⟨w.heap.size+1,3,none⟩) (.inl rfl) (.slice none 0 0)) (p:=⟨w.heap.size+1,4,none⟩) (.inl rfl) (.slice none 0 0)) (p:=⟨w.heap.size+1,5,none⟩) (.inl rfl) (.slice none 0 0)) (p:=⟨w.heap.size+1,6,none⟩) (.inl rfl) (.slice none 0 0)) (p:=⟨w.heap.size+1,7,none⟩) (.inl rfl) (.slice none 0 0)
         have hc8:=(((((((uN.out.bU 0 (.slice A10 ts'.length c10)).bU 1 (.slice none 0 0)).bU 2 (.slice none 0 0)).bU 3 (.slice none 0 0)).bU 4 (.slice none 0 0)).bU 5 (.slice none 0 0)).bU 6 (.slice none 0 0)).bU 7 (.slice none 0 0)
         refine⟨hc8.eq spA,CP.out.res.grown hg inA,Sd.out.iM hg (HUP.out.ne omA),HUP.out,Tg.out.mono hg.size,iC.1 HOK.out,HSN.out,by omega,CP.out.tape.grown hg omA omA,fP CP.out.grown hg inB,hgl,hbl⟩
        case rest =>
         (
         clear HIC HTI HUP P8 HSN HTL P9 CP HOK
         obtain⟨A,c,ts,hle,hinv⟩:=hcut
         have HID:=qh hinv
         obtain⟨a0,_⟩:=Cat.blk hinv.cat
         have hkd:=hinv.tape
         clear hinv
         by_cases ht0:ts.length=0
         ·have ht0':decide (0<ts.length)=false:=by rw[ht0];rfl
          clear hkd
          go_wp2_with fail
          go_roundw
          case rel=>exact⟨i+1,A,c,ts,by omega,by go_num,hle,HID.out⟩
          case measure=>exact meA
         ·have ht0':decide (0<ts.length)=true:=by simp;omega
          have HKD:=qh hkd
          clear hkd ht0
          go_wp2_with fail
          (with_reducible refine(az g b 4 _ HKD.out omA omA).mono ?_)
          rintro e w12 ⟨r6,rfl,hr6,xZ,Ac⟩
          have HIE:=qh (HID.out.next Ac xZ)
          clear hr6 xZ Ac a0 HID HKD
          by_cases hr0:r6=0
          ·subst hr0
           go_wp2_with fail
           go_meet
           exact⟨A,c,ts,by omega,HIE.out⟩
          ·have oP:((r6:Int) == 0)=false:=by simp;omega
           clear hr0
           go_wp2_with fail
           go_roundw
           case rel=>exact⟨i+1,A,c,ts,by omega,by go_num,hle,HIE.out⟩
           case measure=>exact meA)
   ·have hlt':decide ((i:Int)<(n:Int))=false:=by simp;omega
    have hlt2:decide (i<n)=false:=by simp;omega
    have hle:ts.length≤n:=by omega
    go_wp2_with fail
    go_meet
    exact⟨A,c,ts,hle,gW.out⟩
 case rest =>
  clear gW
  obtain⟨A,c,ts,hle,hinv⟩:=hcut
  have HI:=qh hinv
  obtain⟨a0,a1,a2,a3,a4,a5,a6,a7⟩:=Cat.blk hinv.cat
  have hcz:=hinv.cat.lt
  have fa:=hinv.cat.frozen 0
  clear hinv
  by_cases ht0:ts.length=0
  ·have ht0':((ts.length:Int) == 0)=true:=by rw[ht0];rfl
   have hn0:¬ (0<ts.length):=by omega
   clear ht0
   obtain⟨C,hC⟩:∃C,w.heap.size+1=C:=⟨_,rfl⟩
   rw[hC]at a0 fa hcz ⊢
   clear a1 a2 a3 a4 a5 a6 a7
   have HCE:=qh hC
   clear hC
   have Rm:C<wc.heap.size+1:=by omega
   have hcz2:C<wc.heap.size+1+1:=by omega
   have Rl:C<wc.heap.size+2:=by omega
   have BL:C≠wc.heap.size:=by omega
   have Ro:C≠wc.heap.size+1:=by omega
   have Rn:C≠wc.heap.size+1+1:=by omega
   go_upto_region 18 with (fail)
   refine aj (P:=fun u=>Code.wp _ _ _ _ u) (R:=fun u=>mX w g b (some ⟨wc.heap.size+2,0,none⟩) 1 [oN wc.heap.size (wc.heap.size+1)] u) ?_ ?_
   ·clear a0 fa Rm hcz2 Rl BL Ro Rn
    obtain rfl:=HCE.out
    have hI:=HI.out
    have hU:=bq (bq (bq (ah (ji wc (some (w.heap.size+1))) (p:=⟨w.heap.size+1,0,none⟩) (.inl rfl) (.slice (some ⟨wc.heap.size+1+1,0,none⟩) 1 1)) (.cells #[.int .i64 0] 3)) (.cells ([eX,eB wc.heap.size].flatMap Col.cells).toArray 79)) (.cells (Tab.cells (oN wc.heap.size (wc.heap.size+1))).toArray 77)
    have hb0:=(((Blk.new' (w:=wc.setCell ⟨w.heap.size+1,0,none⟩ (.slice (some ⟨wc.heap.size+1+1,0,none⟩) 1 1)) (g:=wc.heap.size) (t:= 3) (cs:= #[.int .i64 0]) spA).alloc (.cells ([eX,eB wc.heap.size].flatMap Col.cells).toArray 79)).alloc (.cells (Tab.cells (oN wc.heap.size (wc.heap.size+1))).toArray 77))
    have hb1:=((Blk.new' (w:=(wc.setCell ⟨w.heap.size+1,0,none⟩ (.slice (some ⟨wc.heap.size+1+1,0,none⟩) 1 1)).alloc (.cells #[.int .i64 0] 3)) (g:=wc.heap.size+1) (t:= 79) (cs:=([eX,eB wc.heap.size].flatMap Col.cells).toArray) spA).alloc (.cells (Tab.cells (oN wc.heap.size (wc.heap.size+1))).toArray 77))
    have hb2:=(Blk.new' (w:=((wc.setCell ⟨w.heap.size+1,0,none⟩ (.slice (some ⟨wc.heap.size+1+1,0,none⟩) 1 1)).alloc (.cells #[.int .i64 0] 3)).alloc (.cells ([eX,eB wc.heap.size].flatMap Col.cells).toArray 79)) (g:=wc.heap.size+2) (t:= 77) (cs:=(Tab.cells (oN wc.heap.size (wc.heap.size+1))).toArray) spA)
    have hc0:=(((hI.cat.bU 0 (.slice (some ⟨wc.heap.size+1+1,0,none⟩) 1 1)).alloc (.cells #[.int .i64 0] 3)).alloc (.cells ([eX,eB wc.heap.size].flatMap Col.cells).toArray 79)).alloc (.cells (Tab.cells (oN wc.heap.size (wc.heap.size+1))).toArray 77)
    refine⟨hc0.eq spA,hI.res.grown hU inA,⟨Blk.one (enc:=Tab.cells) hb2 hb2.lt,fun t ht =>?_⟩,⟨fun a ha =>?_,fun t ht =>?_⟩,⟨fun a ha =>?_,fun t ht =>?_⟩,MS _ _,GX _ _,Nat.le_refl _,hI.tape.grown hU omA omA,fP hI.grown hU inB,hgl,hbl⟩
    ·rw[List.mem_singleton.1 ht]
     refine⟨Blk.list dP (l:= [eX,eB wc.heap.size]) hb1 hb1.lt,fun x hx =>?_⟩
     have hx:x=eX∨x=eB wc.heap.size:=by simpa[oN]using hx
     rcases hx with rfl|rfl
     ·exact ai.nil
     ·exact Blk.one (enc:=intCells) (x:=(0:Int)) hb0 hb0.lt
    ·injection ha with ha
     subst ha
     show w.heap.size+2≤wc.heap.size+2
     omega
    ·rw[List.mem_singleton.1 ht]
     refine⟨fun a ha =>?_,fun x hx a ha =>?_⟩
     ·injection ha with ha
      subst ha
      show w.heap.size+2≤wc.heap.size+1
      omega
     ·have hx:x=eX∨x=eB wc.heap.size:=by simpa[oN]using hx
      rcases hx with rfl|rfl
      ·cases ha
      ·injection ha with ha
       subst ha
       show w.heap.size+2≤wc.heap.size
       omega
    ·injection ha with ha
     subst ha
     exact hb2.lt
    ·rw[List.mem_singleton.1 ht]
     refine⟨fun a ha =>?_,fun x hx a ha =>?_⟩
     ·injection ha with ha
      subst ha
      exact hb1.lt
     ·have hx:x=eX∨x=eB wc.heap.size:=by simpa[oN]using hx
      rcases hx with rfl|rfl
      ·cases ha
      ·injection ha with ha
       subst ha
       exact hb0.lt
   ·rintro U hU
    clear a0 fa Rm hcz2 Rl BL Ro Rn HI hn0 hle
    obtain rfl:=HCE.out
    obtain⟨td,htd⟩:∃td,oN wc.heap.size (wc.heap.size+1)=td:=⟨_,rfl⟩
    rw[htd]at hU
    have HI:=qh hU
    have hn0:0<[td].length:=by simp
    have hle:[td].length≤n:=by simpa using hn1
    clear hU htd
    have hinv:=HI.out
    obtain⟨a0,a1,a2,a3,a4,a5,a6,a7⟩:=Cat.blk hinv.cat
    obtain⟨b0,b1,b2,b3,b4,b5,b6,b7⟩:=Cat.blk hinv.res
    have f0:=hinv.res.frozen 0
    have f1:=hinv.res.frozen 1
    have f2:=hinv.res.frozen 2
    have f3:=hinv.res.frozen 3
    have f4:=hinv.res.frozen 4
    have f5:=hinv.res.frozen 5
    have f6:=hinv.res.frozen 6
    have f7:=hinv.res.frozen 7
    have hrz:=hinv.res.lt
    clear hinv
    go_wp2_with fail
    have hg:=ah (ah (ah (ah (ah (ah (ah (ah (ji U (some w.heap.size)) (p:=⟨w.heap.size,0,none⟩) (.inl rfl) (.slice (some ⟨wc.heap.size+2,0,none⟩) [td].length 1)) (p:=⟨w.heap.size,1,none⟩) (.inl rfl) (.slice none 0 0)) (p:=⟨w.heap.size,2,none⟩) (.inl rfl) (.slice none 0 0)) (p:=⟨w.heap.size,3,none⟩) (.inl rfl) (.slice none 0 0)) (p:=⟨w.heap.size,4,none⟩) (.inl rfl) (.slice none 0 0)) (p:=⟨w.heap.size,5,none⟩) (.inl rfl) (.slice none 0 0)) (p:=⟨w.heap.size,6,none⟩) (.inl rfl) (.slice none 0 0)) (p:=⟨w.heap.size,7,none⟩) (.inl rfl) (.slice none 0 0)
    have HG:=qh hg
    clear hg
    refine bodyPost_ret (v:= .agg #[.slice (some ⟨wc.heap.size+2,0,none⟩) [td].length 1,.slice none 0 0,.slice none 0 0,.slice none 0 0,.slice none 0 0,.slice none 0 0,.slice none 0 0,.slice none 0 0]) (by simp[results,Tryz.results9,go_sem,b0,b1,b2,b3,b4,b5,b6,b7,hrz]) rfl ⟨(some ⟨wc.heap.size+2,0,none⟩),1,[td],rfl,HI.out.tabs.iM HG.out (HI.out.up.ne omA),⟨fun a ha=>by have:=HI.out.up.1 a ha;omega,fun t ht=>⟨fun a ha=>by have:=(HI.out.up.2 t ht).1 a ha;omega,fun x hx a ha=>by have:=(HI.out.up.2 t ht).2 x hx a ha;omega⟩⟩,HI.out.bd.mono HG.out.size,HI.out.bH,HI.out.ok,hn0,hle,HI.out.tape.grown HG.out omA omA,fP HI.out.grown HG.out inB⟩
  ·have ht0':((ts.length:Int) == 0)=false:=by rw[beq_eq_false_iff_ne];omega
   have hn0:0<ts.length:=by omega
   clear ht0 fa
   go_upto_region 18 with (fail)
   clear a0 a1 a2 a3 a4 a5 a6 a7
   have hinv:=HI.out
   obtain⟨a0,a1,a2,a3,a4,a5,a6,a7⟩:=Cat.blk hinv.cat
   obtain⟨b0,b1,b2,b3,b4,b5,b6,b7⟩:=Cat.blk hinv.res
   have f0:=hinv.res.frozen 0
   have f1:=hinv.res.frozen 1
   have f2:=hinv.res.frozen 2
   have f3:=hinv.res.frozen 3
   have f4:=hinv.res.frozen 4
   have f5:=hinv.res.frozen 5
   have f6:=hinv.res.frozen 6
   have f7:=hinv.res.frozen 7
   have hrz:=hinv.res.lt
   clear hinv
   go_wp2_with fail
   have hg:=ah (ah (ah (ah (ah (ah (ah (ah (ji wc (some w.heap.size)) (p:=⟨w.heap.size,0,none⟩) (.inl rfl) (.slice A ts.length c)) (p:=⟨w.heap.size,1,none⟩) (.inl rfl) (.slice none 0 0)) (p:=⟨w.heap.size,2,none⟩) (.inl rfl) (.slice none 0 0)) (p:=⟨w.heap.size,3,none⟩) (.inl rfl) (.slice none 0 0)) (p:=⟨w.heap.size,4,none⟩) (.inl rfl) (.slice none 0 0)) (p:=⟨w.heap.size,5,none⟩) (.inl rfl) (.slice none 0 0)) (p:=⟨w.heap.size,6,none⟩) (.inl rfl) (.slice none 0 0)) (p:=⟨w.heap.size,7,none⟩) (.inl rfl) (.slice none 0 0)
   have HG:=qh hg
   clear hg
   refine bodyPost_ret (v:= .agg #[.slice A ts.length c,.slice none 0 0,.slice none 0 0,.slice none 0 0,.slice none 0 0,.slice none 0 0,.slice none 0 0,.slice none 0 0]) (by simp[results,Tryz.results9,go_sem,b0,b1,b2,b3,b4,b5,b6,b7,hrz]) rfl ⟨A,c,ts,rfl,HI.out.tabs.iM HG.out (HI.out.up.ne omA),⟨fun a ha=>by have:=HI.out.up.1 a ha;omega,fun t ht=>⟨fun a ha=>by have:=(HI.out.up.2 t ht).1 a ha;omega,fun x hx a ha=>by have:=(HI.out.up.2 t ht).2 x hx a ha;omega⟩⟩,HI.out.bd.mono HG.out.size,HI.out.bH,HI.out.ok,hn0,hle,HI.out.tape.grown HG.out omA omA,fP HI.out.grown HG.out inB⟩
end Go.Proofs.YtebippoohpnjkaaGreat
