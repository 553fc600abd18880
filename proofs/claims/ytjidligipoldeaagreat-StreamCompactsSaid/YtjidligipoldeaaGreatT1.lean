/-
  Contracts and plain laws of this seat, part 1.
-/
import Derived.WalkSpells
import Derived.WalkLawsBesides
import Derived.BigQuiet
import Derived.Lib.Hide
import Derived.Sort.Grow
import Derived.OrdersHeld
import Derived.Test.YtjidligipoldeaaGreatShelf
import Derived.Deep.DeepCutAuto
import Derived.Deep.Light
import Derived.Deep.AppendLies
set_option linter.unusedVariables false
set_option linter.unusedSimpArgs false
set_option maxRecDepth 100000
set_option maxHeartbeats 16000000
namespace Go.Proofs.YtjidligipoldeaaGreat
open Go.RowKit
theorem ab{P:Prop}(h:P:=by simpa using h):P:=h
theorem ao{P:Prop}(h:P:=by simpa using hu):P:=h
theorem aq{P:Prop}(h:P:=by simp[results,Tryz.results167,go_sem,c1]):P:=h
theorem ar{P:Prop}(h:P:=by simp[results,Tryz.results131,go_sem,c1]):P:=h
theorem qh{p:Prop}(h:p):Hid p:=Lib.hid h
structure Val where
 kind:Int
 num:Int
 text:ByteArray
structure Ident where
 ns:ByteArray
 val:Val
structure Link where
 a:Ident
 b:Ident
 seq:Int
 rev:Bool
theorem sQ{a b:ByteArray}(h:a.toList=b.toList):a=b:=by
 rw[ByteArray.toList_eq,ByteArray.toList_eq]at h
 obtain⟨⟨x⟩⟩:=a
 obtain⟨⟨y⟩⟩:=b
 simp at h
 rw[h]
instance:DecidableEq ByteArray:=fun a b=>if h:a.toList=b.toList then isTrue (sQ h) else isFalse (fun e=>h (by rw[e]))
instance:DecidableEq Val:=fun a b =>
 if h:a.kind=b.kind∧a.num=b.num∧a.text=b.text then isTrue (by obtain⟨_,_,_⟩:=a;obtain⟨_,_,_⟩:=b;simp at h;simp[h])
 else isFalse (fun e=>h (by simp[e]))
instance:DecidableEq Ident:=fun a b =>
 if h:a.ns=b.ns∧a.val=b.val then isTrue (by obtain⟨_,_⟩:=a;obtain⟨_,_⟩:=b;simp at h;simp[h])
 else isFalse (fun e=>h (by simp[e]))
instance:DecidableEq Link:=fun a b =>
 if h:a.a=b.a∧a.b=b.b∧a.seq=b.seq∧a.rev=b.rev then isTrue (by obtain⟨_,_,_,_⟩:=a;obtain⟨_,_,_,_⟩:=b;simp at h;simp[h])
 else isFalse (fun e=>h (by simp[e]))
theorem JR{a b:ByteArray}:a.toList=b.toList↔a=b:=⟨sQ,fun h=>by rw[h]⟩
theorem below_drewN{B:Nat}{a w:World}(h:Below B a w)(n:Nat):Below B a (w.drewN n):=⟨h.os,h.tape,h.output,h.size,h.block⟩
theorem lF{w W w1:World}(h:Below w.heap.size w W)(hb:Below W.heap.size W w1):Below w.heap.size w w1:=h.trans (hb.mono h.size)
theorem aa{w W w1:World}{B:Nat}(h:Below B w W)(hb:Below W.heap.size W w1)(hB:B≤W.heap.size):Below B w w1:=h.trans (hb.mono hB)
theorem ai{B:Nat}{a w:World}(h:Below B a w:=by repeat(first|with_reducible exact Below.refl _ _|with_reducible assumption|(with_reducible refine Below.setCell ?_ ?_ _;rotate_left;focus (first|exact Nat.le_refl _|exact Nat.le_add_right _ _|(simp;done)|(simp;omega)|omega))|(with_reducible refine Below.alloc ?_ ?_ _;rotate_left;focus (first|exact Nat.le_refl _|exact Nat.le_add_right _ _|(simp;done)|(simp;omega)|omega))|with_reducible refine Below.drew ?_|with_reducible refine below_drewN ?_ _|(with_reducible refine aa ?_ (by with_reducible assumption) ?_;rotate_left;focus (first|exact Nat.le_refl _|exact Nat.le_add_right _ _|(simp;done)|(simp;omega)|omega)))):Below B a w:=h
theorem leA{p:Prop}(h:p:=by first|exact Nat.le_refl _|exact Nat.le_add_right _ _|assumption|(simp;done)|(simp;omega)|omega):p:=h
theorem ltA{p:Prop}(h:p:=by first|assumption|(simp;done)|(simp;omega)|omega):p:=h
theorem aS{k:IntKind}{a b:Int}(h:a=b):Ending.returned (.int k a)=.returned (.int k b):=by rw[h]
theorem ax{a b:Bool}(h:a=b):Ending.returned (.bool a)=.returned (.bool b):=by rw[h]
def Ext(w w':World):Prop:=Below w.heap.size w w'∧w.drawn≤w'.drawn
theorem Ext.refl(w:World):Ext w w:=⟨Below.refl _ _,Nat.le_refl _⟩
theorem Ext.trans{a b c:World}(h:Ext a b)(k:Ext b c):Ext a c:=⟨lF h.1 k.1,Nat.le_trans h.2 k.2⟩
theorem Ext.alloc{a w:World}(h:Ext a w)(o:Obj):Ext a (w.alloc o):=⟨h.1.alloc h.1.size o,h.2⟩
theorem Ext.drew{a w:World}(h:Ext a w):Ext a w.drew:=⟨h.1.drew,Nat.le_succ_of_le h.2⟩
theorem Ext.drewN{a w:World}(h:Ext a w)(n:Nat):Ext a (w.drewN n):=⟨below_drewN h.1 n,by
 have:(w.drewN n).drawn=w.drawn+n:=rfl
 have:=h.2
 omega⟩
theorem Ext.setCell{a w:World}(h:Ext a w){p:Addr}(hp:a.heap.size≤p.block)(u:Value):Ext a (w.setCell p u):=⟨h.1.setCell hp u,h.2⟩
theorem zK{a w:World}(h:Ext a w:=by repeat(first|with_reducible exact Ext.refl _|with_reducible assumption|(with_reducible refine Ext.setCell ?_ ?_ _;rotate_left;focus (first|exact Nat.le_refl _|exact Nat.le_add_right _ _|(simp;done)|(simp;omega)|omega))|with_reducible refine Ext.alloc ?_ _|with_reducible refine Ext.drew ?_|with_reducible refine Ext.drewN ?_ _|(with_reducible refine Ext.trans ?_ (by with_reducible assumption)))):Ext a w:=h
theorem ni{W w1:World}(he:Ext W w1)(g:Nat)(hg:g<W.heap.size):
 (∀o,w1.cell? ⟨g,o,none⟩=W.cell? ⟨g,o,none⟩)∧(∀o,w1.frozen? ⟨g,o,none⟩=W.frozen? ⟨g,o,none⟩)∧g<w1.heap.size:=
 ⟨fun o=>he.1.cell (p:=⟨g,o,none⟩) hg,fun o=>he.1.frozen (p:=⟨g,o,none⟩) hg,Nat.lt_of_lt_of_le hg he.1.size⟩
theorem bN{W w1:World}(hb:Below W.heap.size W w1)(g:Nat)(hg:g<W.heap.size):
 (∀o,w1.cell? ⟨g,o,none⟩=W.cell? ⟨g,o,none⟩)∧(∀o,w1.frozen? ⟨g,o,none⟩=W.frozen? ⟨g,o,none⟩)∧g<w1.heap.size:=
 ⟨fun o=>hb.cell (p:=⟨g,o,none⟩) hg,fun o=>hb.frozen (p:=⟨g,o,none⟩) hg,Nat.lt_of_lt_of_le hg hb.size⟩
/-! Ww that draw their order, whose operations read and whose callees only make new memory: one walk in the order of the text. -/
structure cZ (w:World) where
 u:World
 h:Below w.heap.size w u
instance (w:World):Inhabited (cZ w):=⟨⟨w,Below.refl _ _⟩⟩
theorem af{P:Program}{id:Nat}{Q:Exit→Act→World→Prop}{a:Act}{w:World}{l:List Oper}(hm:P.follows .mixedOrders=true)(hB:Region.lexB .any l.toArray=true)
 (h:wpQuiet P l.toArray (fun w' =>∃x:cZ w,w'=x.u) (fun a' =>∀w',Below w.heap.size w w'→Q .normal a' w') l a):(Code.region id l.toArray true).wp P Q a w:=by
 have e:(fun a' =>∀w',Below w.heap.size w w'→Q .normal a' w')=(fun a' =>∀w',(∃x:cZ w,w'=x.u)→Q .normal a' w'):=by
  funext a'
  apply propext
  exact⟨fun h w' ⟨x,hx⟩=>by subst hx;exact h _ x.h,fun h w' hb=>h w' ⟨⟨w',hb⟩,rfl⟩⟩
 rw[e]at h
 exact wp_region_quiet (C:=fun w' =>∃x:cZ w,w'=x.u) hm hB ⟨⟨w.drew,(Below.refl _ _).drew⟩,rfl⟩ ab
theorem dN{P:Program}{f:FuncId}{args:Array Value}{w:World}{x:cZ w}{v:Value}
 (h:Calls P f args x.u fun e w'=>e=.returned v∧Below x.u.heap.size x.u w'):Calls P f args x.u fun e w''=>e=.returned v ∧ ∃y:cZ w,w''=y.u:=
 h.mono fun _ w' ⟨he,hb⟩=>⟨he,⟨w',lF x.h hb⟩,rfl⟩
theorem bn{P:Program}{f:FuncId}{args:Array Value}{w:World}{x:cZ w}{v:Value}
 (h:Calls P f args x.u fun e w'=>e=.returned v∧Ext x.u w'):Calls P f args x.u fun e w''=>e=.returned v ∧ ∃y:cZ w,w''=y.u:=
 h.mono fun _ w' ⟨he,hb⟩=>⟨he,⟨w',lF x.h hb.1⟩,rfl⟩
theorem cK{P:Program}{f:FuncId}{args:Array Value}{w:World}{x:cZ w}{v:Value}
 (h:Calls P f args x.u fun e w'=>e=.returned v∧x.u=w'):Calls P f args x.u fun e w''=>e=.returned v ∧ ∃y:cZ w,w''=y.u:=
 h.mono fun _ _ ⟨he,hb⟩=>⟨he,x,hb.symm⟩
theorem az{w:World}(g:Nat)(hg:g<w.heap.size):∀(x:cZ w) (o:Nat),x.u.cell? ⟨g,o,none⟩=w.cell? ⟨g,o,none⟩:=
 fun x o=>x.h.cell (p:=⟨g,o,none⟩) hg
/-! A slice of structs, read as a list. -/
def ag{α:Type}(w:World)(B:Nat)(enc:α→List Value)(k:Nat)(A:Option Addr)(l:List α):Prop:=
 0<l.length→∃b o,A=some ⟨b,o,none⟩∧b<B ∧ ∀i (h:i<l.length) j u,(enc l[i])[j]?=some u→w.cell? ⟨b,o+(i*k+j),none⟩=some u
section
variable {α:Type}{w w':World}{B B':Nat}{enc:α→List Value}{k:Nat}{A:Option Addr}{l:List α}
theorem ag.nil:ag w B enc k A []:=fun h=>absurd h (by simp)
theorem ag.below(h:ag w B enc k A l)(hb:Below B w w'):ag w' B enc k A l:=by
 intro hl
 obtain⟨b,o,rfl,hB,hc⟩:=h hl
 exact⟨b,o,rfl,hB,fun i hi j u hu=>(hb.cell (by exact hB)).trans (hc i hi j u hu)⟩
theorem ag.mono(h:ag w B enc k A l)(hB:B≤B'):ag w B' enc k A l:=by
 intro hl
 obtain⟨b,o,rfl,hb,hc⟩:=h hl
 exact⟨b,o,rfl,by omega,hc⟩
theorem ag.next(h:ag w w.heap.size enc k A l)(hb:Below w.heap.size w w'):ag w' w'.heap.size enc k A l:=
 (h.below hb).mono hb.size
theorem ag.get(h:ag w B enc k A l){i:Nat}(hi:i<l.length):∃b o,A=some ⟨b,o,none⟩∧b<B ∧ ∀j u,(enc l[i])[j]?=some u→w.cell? ⟨b,o+i*k+j,none⟩=some u:=by
 obtain⟨b,o,rfl,hb,hc⟩:=h (by omega)
 exact⟨b,o,rfl,hb,fun j u hu=>by rw[Nat.add_assoc];exact hc i hi j u hu⟩
end
/-! The cells of the data. -/
def Val.cells(x:Val):List Value:= [.int .i64 x.kind,.int .i64 x.num,.string x.text]
theorem nbA{P:Prop}(h:P:=by first|exact Blk.new' (by simp;done)|exact(Blk.new' (by simp;done)).drew|exact(Blk.new' (by simp;done)).alloc _|exact((Blk.new' (by simp;done)).alloc _).drew):P:=h
theorem ncA{P:Prop}(h:P:=by first|exact((Blk.new' rfl).alloc _).drew|exact(Blk.new' rfl).alloc _):P:=h
theorem ndA{P:Prop}(h:P:=by first|exact(Blk.new' (by simp)).drew|exact Blk.new' (by simp)):P:=h
theorem neA{P:Prop}(h:P:=by first|exact(Blk.new' rfl).drew|exact Blk.new' rfl):P:=h
theorem nfA{P:Prop}(h:P:=by first|exact hown1|exact hown1.alloc _):P:=h
theorem ngA{P:Prop}(h:P:=by have:=hb1.size;simp;omega):P:=h
theorem mxA{P:Prop}(h:P:=by simp[maxLen];omega):P:=h
theorem krA{P:Prop}(h:P:=by kernel_rfl):P:=h
theorem smA{P:Prop}(h:P:=by simp;omega):P:=h
theorem sdA{P:Prop}(h:P:=by simp;done):P:=h
theorem inA{P:Prop}(h:P:=by intro e;injection e with e;omega):P:=h
theorem inB{P:Prop}(h:P:=by intro q e;injection e with e;omega):P:=h
theorem omA{P:Prop}(h:P:=by omega):P:=h
theorem spA{P:Prop}(h:P:=by simp):P:=h
theorem gE3{α:Type}:(∀(l:List α) (i:Nat),l.toArray[i]?=l[i]?)∧(∀(a:α) (l:List α),(a::l)[0]?=some a)∧(∀(a:α) (l:List α) (i:Nat),(a::l)[i+1]?=l[i]?):=⟨fun _ _=>List.getElem?_toArray,fun _ _=>List.getElem?_cons_zero,fun _ _ _=>List.getElem?_cons_succ⟩
theorem gP6{α:Type}:(∀(l:List α) (i:Nat) (h:i<l.toArray.size),l.toArray[i]=l[i]' ab)∧(∀(a:α) (l:List α) (h:0<(a::l).length),(a::l)[0]=a)∧(∀(a:α) (l:List α) (i:Nat) (h:i+1<(a::l).length),(a::l)[i+1]=l[i]' ab)∧(∀(l:List α) (i:Nat) (a:α),l.toArray.setIfInBounds i a=(l.set i a).toArray)∧(∀(a b:α) (l:List α),(a::l).set 0 b=b::l)∧(∀(a b:α) (l:List α) (i:Nat),(a::l).set (i+1) b=a::l.set i b):=⟨fun _ _ h=>List.getElem_toArray h,fun _ _ _=>rfl,fun _ _ _ _=>rfl,fun _ _ _=>List.setIfInBounds_toArray ..,fun _ _ _=>rfl,fun _ _ _ _=>rfl⟩
theorem lgm{α:Type}{l:List α}{i:Nat}(h:i<l.length):l[i]∈l:=List.getElem_mem h
theorem nlr{n:Nat}:n≤n:=Nat.le_refl n
theorem brf{B:Nat}{w:World}:Below B w w:=Below.refl _ _
theorem meA{p:Prop}(h:p:=by simp[intOf];omega):p:=h
open Go.RowKit Go
section
variable {P:Program}{ops:Array Oper}{Q:Exit→Act→World→Prop}{md:Region.Mode}{S:World→Prop}
theorem tkH(i:Nat){oi:Oper}{v:Value}{n:Nat}{listed:Array Bool}{a a':Act}{w:World}(hS:S w)(h:wpAnyH P md ops Q S n (listed.setIfInBounds i true) a' w)
 (hi:ops[i]?=some oi:=by exact rfl) (hs:Region.noSelect ops=true:=by kernel_rfl) (hf:Region.free md ops listed i=true:=by kernel_rfl) (hr:(Region.ready md ops listed).contains i=true:=by kernel_rfl)
 (hQ:∀c a w,Q (.panic c) (a.put oi.dst v) w→Q (.panic c) a w:=by exact fun _ _ _ h=>h) (hn:Region.wanted oi (yielded ops a.tmps)=true:=by kernel_rfl)
 (hy:∀w,S w→(execOp a.eval oi).run P w=.ok (.value v) w:=by(intro w hSw;(try dsimp only at hSw);go_simp;first|done|with_reducible rfl))
 (ha:a.put oi.dst v=a':=by((try simp only[Act.put,gP6]);exact rfl)):wpAnyH P md ops Q S (n+1) listed a w:=
 wpAnyH_take hi hs hf hr hQ (Or.inl ⟨hn,hy⟩) hS (ha▸h)
end
open Go.RowKit Go
theorem sD{P:Program}{fn:Func}{t t':Array Value}{R:Ending→World→Prop}(ht:results fn t=results fn t'):∀(ds:List Deferred) (u:FrameMode) (w:World),Leaves P fn t R ds u w→Leaves P fn t' R ds u w
 | [],.returning,w,h=>by obtain⟨v,h1,h2⟩:=h;exact⟨v,by rw[←ht];exact h1,h2⟩
 | [],.panicking _,w,h=>h
 | [],.run,w,h=>h
 | d::ds,u,w,h=>by
   obtain⟨h1,fv,cap,f,args,h2,h3,h4⟩:=h
   refine⟨h1,fv,cap,f,args,h2,h3,h4.mono fun e u' w' h5 =>?_⟩
   cases e with
   | returned _=>exact sD ht ds _ _ h5
   | panicked _=>exact sD ht ds _ _ h5
   | outgrown=>exact h5
theorem fJ{P:Program}{fn:Func}{R:Ending→World→Prop}{d:Nat}{v:Value}(hd:∀t:Array Value,results fn (t.setIfInBounds d v)=results fn t)(c:List PanicEntry)(a:Act)(w:World)(h:bodyPostD P fn R (.panic c) (a.put (some d) v) w):bodyPostD P fn R (.panic c) a w:=sD (hd a.tmps) _ _ _ h
def bT(x:Val):Bool:=
 if x.kind == 0 then x.num == 0&&x.text.toList.isEmpty
 else if x.kind == 1 then decide (-4294967296≤x.num)&&decide (x.num≤4294967296)&&x.text.toList.isEmpty
 else if x.kind == 2 then x.num == 0&&decide (x.text.size≤32) else false
def clean(x:Val):Val:=if bT x then x else ⟨0,0,⟨#[]⟩⟩
theorem qI{x:Val}(h:bT x=true):clean x=x:=by simp[clean,h]
theorem DY{x:Val}(h:bT x=false):clean x=⟨0,0,⟨#[]⟩⟩:=by simp[clean,h]
theorem vU(k n:Int)(t:ByteArray)(w:World):
 Calls Tryz.prog 126 #[.agg #[.int .i64 k,.int .i64 n,.string t]] w fun e w'=>e=.returned (.bool (bT ⟨k,n,t⟩))∧Ext w w':=by
 go_enter Tryz.func126,Tryz.ntmps126
 go_wp2
 all_goals go_ret
 all_goals refine⟨?_,(Ext.refl _).alloc _⟩
 all_goals refine ax ?_
 all_goals first
  | (simp[bT, *];done)
  | (simp only[bT, *];simp;omega)
theorem wu(k n:Int)(t:ByteArray)(w:World):
 Calls Tryz.prog 45 #[.agg #[.int .i64 k,.int .i64 n,.string t]] w fun e w'=>e=.returned (.bool (bT ⟨k,n,t⟩))∧Ext w w':=by
 go_enter Tryz.func45,Tryz.ntmps45
 go_wp2
 all_goals go_ret
 all_goals refine⟨?_,(Ext.refl _).alloc _⟩
 all_goals refine ax ?_
 all_goals first
  | (simp[bT, *];done)
  | (simp only[bT, *];simp;omega)
theorem Ck(k n:Int)(t:ByteArray)(w:World):
 Calls Tryz.prog 167 #[.agg #[.int .i64 k,.int .i64 n,.string t]] w fun e w' =>
  e=.returned (.agg #[.int .i64 (clean ⟨k,n,t⟩).kind,.int .i64 (clean ⟨k,n,t⟩).num,.string (clean ⟨k,n,t⟩).text])∧Ext w w':=by
 go_enter Tryz.func167,Tryz.ntmps167
 go_wp2_with (go_at_call 126;refine(vU _ _ _ _).mono ?_;rintro e w1 ⟨rfl,hb⟩;obtain⟨c0,f0,z0⟩:=ni hb w.heap.size ltA;obtain⟨c1,f1,z1⟩:=ni hb (w.heap.size+1) ltA)
 ·have h:bT ⟨k,n,t⟩=true:=by assumption
  refine bodyPost_ret (v:= .agg #[.int .i64 k,.int .i64 n,.string t]) aq rfl ⟨by rw[qI h],?_⟩
  exact zK
 ·have h:bT ⟨k,n,t⟩=false:=by assumption
  refine bodyPost_ret (v:= .agg #[.int .i64 0,.int .i64 0,.string ⟨#[]⟩]) aq rfl ⟨by rw[DY h],?_⟩
  exact zK
theorem pM(k n:Int)(t:ByteArray)(w:World):
 Calls Tryz.prog 131 #[.agg #[.int .i64 k,.int .i64 n,.string t]] w fun e w' =>
  e=.returned (.agg #[.int .i64 (clean ⟨k,n,t⟩).kind,.int .i64 (clean ⟨k,n,t⟩).num,.string (clean ⟨k,n,t⟩).text])∧Ext w w':=by
 go_enter Tryz.func131,Tryz.ntmps131
 go_wp2_with (go_at_call 45;refine(wu _ _ _ _).mono ?_;rintro e w1 ⟨rfl,hb⟩;obtain⟨c0,f0,z0⟩:=ni hb w.heap.size ltA;obtain⟨c1,f1,z1⟩:=ni hb (w.heap.size+1) ltA)
 ·have h:bT ⟨k,n,t⟩=true:=by assumption
  refine bodyPost_ret (v:= .agg #[.int .i64 k,.int .i64 n,.string t]) ar rfl ⟨by rw[qI h],?_⟩
  exact zK
 ·have h:bT ⟨k,n,t⟩=false:=by assumption
  refine bodyPost_ret (v:= .agg #[.int .i64 0,.int .i64 0,.string ⟨#[]⟩]) ar rfl ⟨by rw[DY h],?_⟩
  exact zK
def gM(a b:Int):Int:=if a<b then -1 else if b<a then 1 else 0
def jK(a b:ByteArray):Int:=if Op.bytesLess a.toList b.toList then -1 else if Op.bytesLess b.toList a.toList then 1 else 0
def aU(a b:Val):Int:=
 if (clean a).kind != (clean b).kind then gM (clean a).kind (clean b).kind
 else if (clean a).kind == 1 then gM (clean a).num (clean b).num
 else if (clean a).kind == 2 then jK (clean a).text (clean b).text else 0
theorem rR:∀(a b:List UInt8),(!(Op.bytesLess a b||a==b))=Op.bytesLess b a
 | [],[]=>rfl
 | [],_::_=>rfl
 | _::_,[]=>rfl
 | x::a,y::b=>by
   have ih:=rR a b
   simp only[Op.bytesLess]
   by_cases h:x=y
   ·subst h
    simp[UInt8.lt_irrefl]at ih ⊢
    exact ih
   ·by_cases h1:x<y
    ·have h2:¬ y<x:=UInt8.lt_asymm h1
     have h3:¬ y=x:=fun e=>h e.symm
     simp[h1,h2,h3]
    ·have h2:y<x:=UInt8.lt_of_le_of_ne (UInt8.not_lt.1 h1) (Ne.symm h)
     simp[h,h1,h2]
theorem wG:∀(a b:List UInt8),Lib.compareBytes a b=if Op.bytesLess a b then -1 else if Op.bytesLess b a then 1 else 0
 | [],[]=>rfl
 | [],_::_=>rfl
 | _::_,[]=>rfl
 | x::a,y::b=>by
   have ih:=wG a b
   simp only[Op.bytesLess,Lib.compareBytes,ih]
   by_cases h:x=y
   ·subst h;simp[UInt8.lt_irrefl]
   ·by_cases h1:x<y
    ·simp[h1]
    ·have h2:y<x:=UInt8.lt_of_le_of_ne (UInt8.not_lt.1 h1) (Ne.symm h)
     simp[h,h1,h2]
theorem qU(a b:ByteArray):Lib.compareBytes a.data.toList b.data.toList=jK a b:=by
 rw[wG,jK,ByteArray.toList_eq,ByteArray.toList_eq]
theorem Pp(a b:Int)(w:World):Calls Tryz.prog 156 #[.int .i64 a,.int .i64 b] w fun e w'=>e=.returned (.int .i64 (gM a b))∧w=w':=by
 go_enter Tryz.func156,Tryz.ntmps156
 go_wp2
 all_goals go_ret
 all_goals refine⟨aS ?_,rfl⟩
 all_goals unfold gM
 all_goals(repeat(first|omega|rfl|split))
theorem Jg(a b:Int)(w:World):Calls Tryz.prog 168 #[.int .i64 a,.int .i64 b] w fun e w'=>e=.returned (.int .i64 (gM a b))∧w=w':=by
 go_enter Tryz.func168,Tryz.ntmps168
 go_wp2
 all_goals go_ret
 all_goals refine⟨aS ?_,rfl⟩
 all_goals unfold gM
 all_goals(repeat(first|omega|rfl|split))
def wZ(B:Nat)(a b:Val)(w:World):Prop:=
 w.cell? ⟨B,0,none⟩=some (.int .i64 a.kind)∧w.cell? ⟨B,1,none⟩=some (.int .i64 a.num)∧w.cell? ⟨B,2,none⟩=some (.string a.text) ∧
 w.cell? ⟨B+1,0,none⟩=some (.int .i64 b.kind)∧w.cell? ⟨B+1,1,none⟩=some (.int .i64 b.num)∧w.cell? ⟨B+1,2,none⟩=some (.string b.text)
theorem zh(k n k' n':Int)(t t':ByteArray)(w:World):
 Calls Tryz.prog 135 #[.agg #[.int .i64 k,.int .i64 n,.string t],.agg #[.int .i64 k',.int .i64 n',.string t']] w fun e w' =>
  e=.returned (.int .i64 (aU ⟨k,n,t⟩ ⟨k',n',t'⟩))∧Ext w w':=by
 go_enter Tryz.func135,Tryz.ntmps135
 go_upto_region 1 with (fail)
 go_cut [] (fun wc=>Ext w wc∧wZ w.heap.size (clean ⟨k,n,t⟩) (clean ⟨k',n',t'⟩) wc)
 case first =>
  go_region_with (go_at_call 167;refine(Ck _ _ _ _).mono ?_;rintro e w1 ⟨rfl,hb⟩;obtain⟨c0,f0,z0⟩:=ni hb w.heap.size ltA;obtain⟨c1,f1,z1⟩:=ni hb (w.heap.size+1) ltA)
  all_goals(go_wp2_with fail;go_meet;refine⟨by exact zK,by unfold wZ;go_light;go_simp⟩)
 case rest =>
  obtain⟨hx,h1,h2,h3,h4,h5,h6⟩:=hcut
  go_wp2_with (first|(go_at_call 156;refine(Pp _ _ _).mono ?_;rintro e w1 ⟨rfl,rfl⟩)|(go_at_call 168;refine(Jg _ _ _).mono ?_;rintro e w1 ⟨rfl,rfl⟩)|(go_at_call 169;refine(Tryz.strings_Compare _ _ _).mono ?_;rintro e w1 ⟨rfl,rfl⟩))
  all_goals go_ret
  all_goals refine⟨aS ?_,hx⟩
  all_goals(try rw[qU])
  all_goals(simp[aU, *];done)
theorem M8(x y:Val)(w:World):(Op.equalIn 10000 50 (.agg #[.int .i64 x.kind,.int .i64 x.num,.string x.text]) (.agg #[.int .i64 y.kind,.int .i64 y.num,.string y.text])).run Tryz.prog w=.ok (decide (x=y)) w:=by
 have hS:Tryz.prog.underlying 50=some (.struct (Tryz.prog.fieldsOf 50)):=by kernel_rfl
 have hp:Tryz.prog.stoodInHeld 50=false:=by kernel_rfl
 have u2:=Tryz.underlying2
 have u3:=Tryz.underlying3
 have u9:=Tryz.underlying9
 rw[show (10000:Nat)=9999+1 from rfl,run_equalIn_agg w _ 50 _ _ hS hp]
 simp only[Program.fieldsOf,Tryz.underlying50]
 go_simp
 obtain⟨a,b,c⟩:=x
 obtain⟨a',b',c'⟩:=y
 simp only[Val.mk.injEq]
 by_cases h1:a=a'<;>by_cases h2:b=b'<;>by_cases h3:c=c'<;>simp[h1,h2,h3,JR]
def EJ(a b:Val):Int:=
 if a=b then 0 else if decide (a.kind<b.kind)||(a.kind==b.kind&&(decide (a.num<b.num)||Op.bytesLess a.text.toList b.text.toList)) then -1 else 1
theorem mf(a:Val):bT (clean a)=true:=by
 unfold clean
 split
 ·assumption
 ·simp[bT,ByteArray.toList_eq]
theorem yl{t:ByteArray}(h:t.toList.isEmpty=true):t=⟨#[]⟩:=by
 apply sQ
 simp at h
 rw[h,ByteArray.toList_eq]
theorem nN{x:Val}(h:bT x=true):x=⟨0,0,⟨#[]⟩⟩∨(∃n,x=⟨1,n,⟨#[]⟩⟩ ∧ -4294967296≤n∧n≤4294967296)∨(∃t,x=⟨2,0,t⟩∧t.size≤32):=by
 obtain⟨k,n,t⟩:=x
 unfold bT at h
 simp only at h
 split at h
 ·simp only[Bool.and_eq_true,beq_iff_eq]at *
  left
  obtain⟨h1,h2⟩:=h
  rw[yl h2]
  simp[*]
 ·split at h
  ·simp only[Bool.and_eq_true,beq_iff_eq,decide_eq_true_eq]at *
   right;left
   obtain⟨⟨h1,h2⟩,h3⟩:=h
   exact⟨n,by rw[yl h3];simp[*],h1,h2⟩
  ·split at h
   ·simp only[Bool.and_eq_true,beq_iff_eq,decide_eq_true_eq]at *
    right;right
    exact⟨t,by simp[*],h.2⟩
   ·cases h
theorem nH:∀a:List UInt8,Op.bytesLess a a=false
 | []=>rfl
 | x::a=>by simp[Op.bytesLess,UInt8.lt_irrefl,nH a]
theorem H7(a b:Val):EJ (clean a) (clean b)=aU a b:=by
 have ha:=nN (mf a)
 have hb:=nN (mf b)
 unfold aU
 generalize clean a=c at *
 generalize clean b=d at *
 unfold EJ gM jK
 rcases ha with rfl|⟨n,rfl,_,_⟩|⟨t,rfl,_⟩<;>rcases hb with rfl|⟨n',rfl,_,_⟩|⟨t',rfl,_⟩
 ·simp
 ·simp
 ·simp
 ·simp
 ·simp only[Val.mk.injEq]
  by_cases h1:n=n'
  ·simp[h1]
  ·by_cases h2:n<n'
   ·simp[h1,h2]
   ·have h3:n'<n:=by omega
    simp[h1,h2,h3,Op.bytesLess]
 ·simp
 ·simp
 ·simp
 ·simp only[Val.mk.injEq]
  by_cases h1:t=t'
  ·simp[h1,nH]
  ·have h2:=rR t.toList t'.toList
   have h3:¬ t.toList=t'.toList:=fun e=>h1 (sQ e)
   by_cases h4:Op.bytesLess t.toList t'.toList=true
   ·simp[h1,h4]
   ·have h5:(t.toList==t'.toList)=false:=by simpa using h3
    rw[h5]at h2
    have h6:Op.bytesLess t'.toList t.toList=true:=by
     rw[←h2];simpa using h4
    simp[h1,h4,h6]
theorem rD(k n k' n':Int)(t t':ByteArray)(w:World):
 Calls Tryz.prog 89 #[.agg #[.int .i64 k,.int .i64 n,.string t],.agg #[.int .i64 k',.int .i64 n',.string t']] w fun e w' =>
  e=.returned (.int .i64 (aU ⟨k,n,t⟩ ⟨k',n',t'⟩))∧Ext w w':=by
 have heq:=M8 (clean ⟨k,n,t⟩) (clean ⟨k',n',t'⟩)
 have hg:Tryz.prog.eqGuardType Tryz.prog.depth 50=false:=by kernel_rfl
 go_enter Tryz.func89,Tryz.ntmps89
 go_upto_region 1 with (fail)
 go_cut [] (fun wc=>Ext w wc∧wZ w.heap.size (clean ⟨k,n,t⟩) (clean ⟨k',n',t'⟩) wc)
 case first =>
  go_region_with (go_at_call 131;refine(pM _ _ _ _).mono ?_;rintro e w1 ⟨rfl,hb⟩;obtain⟨c0,f0,z0⟩:=ni hb w.heap.size ltA;obtain⟨c1,f1,z1⟩:=ni hb (w.heap.size+1) ltA)
  all_goals(go_wp2_with fail;go_meet;refine⟨by exact zK,by unfold wZ;go_light;go_simp⟩)
 case rest =>
  obtain⟨hx,h1,h2,h3,h4,h5,h6⟩:=hcut
  set_option maxRecDepth 100000 in
  go_wp2_with fail
  all_goals go_ret
  all_goals(refine⟨aS ?_,hx⟩;rw[←H7];clear heq hg h1 h2 h3 h4 h5 h6 hx;go_light;generalize clean ⟨k,n,t⟩=c at *;generalize clean ⟨k',n',t'⟩=d at *;unfold EJ)
  all_goals first
   | (simp_all;done)
   | (simp_all;omega)
theorem Ib(n:Int)(w:World):
 Calls Tryz.prog 221 #[.int .i64 n] w fun e w'=>e=.returned (.agg #[.int .i64 (clean ⟨1,n,⟨#[]⟩⟩).kind,.int .i64 (clean ⟨1,n,⟨#[]⟩⟩).num,.string (clean ⟨1,n,⟨#[]⟩⟩).text])∧Ext w w':=by
 go_enter Tryz.func221,Tryz.ntmps221
 go_wp2_with (go_at_call 131;refine(pM _ _ _ _).mono ?_;rintro e w1 ⟨rfl,hb⟩;obtain⟨c0,f0,z0⟩:=ni hb w.heap.size ltA)
 refine bodyPost_ret (v:= .agg #[.int .i64 (clean ⟨1,n,⟨#[]⟩⟩).kind,.int .i64 (clean ⟨1,n,⟨#[]⟩⟩).num,.string (clean ⟨1,n,⟨#[]⟩⟩).text]) (by simp[results,Tryz.results221,go_sem,c0]) rfl ⟨rfl,?_⟩
 exact zK
theorem EM(s:ByteArray)(w:World):
 Calls Tryz.prog 220 #[.string s] w fun e w'=>e=.returned (.agg #[.int .i64 (clean ⟨2,0,s⟩).kind,.int .i64 (clean ⟨2,0,s⟩).num,.string (clean ⟨2,0,s⟩).text])∧Ext w w':=by
 go_enter Tryz.func220,Tryz.ntmps220
 go_wp2_with (go_at_call 131;refine(pM _ _ _ _).mono ?_;rintro e w1 ⟨rfl,hb⟩;obtain⟨c0,f0,z0⟩:=ni hb w.heap.size ltA)
 refine bodyPost_ret (v:= .agg #[.int .i64 (clean ⟨2,0,s⟩).kind,.int .i64 (clean ⟨2,0,s⟩).num,.string (clean ⟨2,0,s⟩).text]) (by simp[results,Tryz.results220,go_sem,c0]) rfl ⟨rfl,?_⟩
 exact zK
def CV(c:Int):Bool:=decide (97≤c)&&decide (c≤122)
def I9(c:Int):Bool:=decide (48≤c)&&decide (c≤57)
def qB(c:Int):Bool:=CV c||I9 c||c == 95
def sP(s:ByteArray)(k:Nat):Int:=if h:k<s.size then (s[k].toNat:Int) else 0
def qQ(s:ByteArray)(k:Nat):Bool:=CV (sP s k)||(decide (0<k)&&(I9 (sP s k)||sP s k == 95))
def uM(s:ByteArray)(n:Nat):Bool:=(List.range n).all (qQ s)
def eY(s:ByteArray):Bool:=decide (s.size≠0)&&decide (s.size≤16)&&uM s s.size
theorem vO{s:ByteArray}{k:Nat}(h:k<s.size):sP s k=(s[k].toNat:Int):=dif_pos h
theorem za(s:ByteArray)(n:Nat):uM s (n+1)=(uM s n&&qQ s n):=by
 unfold uM;rw[List.range_succ,List.all_append];simp
theorem zb{s:ByteArray}{n k:Nat}(h:qQ s k=false)(hk:k<n):uM s n=false:=by
 unfold uM
 rw[List.all_eq_false]
 exact⟨k,by simpa using hk,by simp[h]⟩
theorem xY(c:Int)(w:World):Calls Tryz.prog 254 #[.int .u8 c] w fun e w'=>e=.returned (.bool (CV c))∧w=w':=by
 go_enter Tryz.func254,Tryz.ntmps254
 go_wp2
 all_goals go_ret
 all_goals refine⟨ax ?_,rfl⟩
 all_goals(unfold CV;simp;try omega)
theorem zz(c:Int)(w:World):Calls Tryz.prog 255 #[.int .u8 c] w fun e w'=>e=.returned (.bool (I9 c))∧w=w':=by
 go_enter Tryz.func255,Tryz.ntmps255
 go_wp2
 all_goals go_ret
 all_goals refine⟨ax ?_,rfl⟩
 all_goals(unfold I9;simp;try omega)
theorem nV(c:Int)(w:World):Calls Tryz.prog 170 #[.int .u8 c] w fun e w'=>e=.returned (.bool (CV c))∧w=w':=by
 go_enter Tryz.func170,Tryz.ntmps170
 go_wp2
 all_goals go_ret
 all_goals refine⟨ax ?_,rfl⟩
 all_goals(unfold CV;simp;try omega)
theorem zx(c:Int)(w:World):Calls Tryz.prog 215 #[.int .u8 c] w fun e w'=>e=.returned (.bool (I9 c))∧w=w':=by
 go_enter Tryz.func215,Tryz.ntmps215
 go_wp2
 all_goals go_ret
 all_goals refine⟨ax ?_,rfl⟩
 all_goals(unfold I9;simp;try omega)
theorem AY(c:Int)(w:World):Calls Tryz.prog 171 #[.int .u8 c] w fun e w'=>e=.returned (.bool (qB c))∧w=w':=by
 go_enter Tryz.func171,Tryz.ntmps171
 go_wp2_with (first|(go_at_call 170;refine(nV _ _).mono ?_;rintro e w1 ⟨rfl,rfl⟩)|(go_at_call 215;refine(zx _ _).mono ?_;rintro e w1 ⟨rfl,rfl⟩))
 all_goals go_ret
 all_goals refine⟨ax ?_,rfl⟩
 all_goals(simp_all[qB])
theorem vz(s:ByteArray)(w:World)(hs:s.size≤1000000):
 Calls Tryz.prog 244 #[.string s] w fun e w'=>(∃k:Nat,e=.returned (.int .i64 k)∧decide (k=s.size)=uM s s.size)∧w=w':=by
 go_enter Tryz.func244,Tryz.ntmps244
 go_wp2
 go_loop [3] (fun i =>∃k:Nat,k≤s.size∧i=.int .i64 k∧uM s k=true) (fun i=>s.size-(intOf i).toNat)
 case atStart=>exact⟨0,Nat.zero_le _,rfl,rfl⟩
 case round =>
  obtain⟨k,hk,rfl,hok⟩:=hrel
  have HOK:=qh hok
  clear hok
  by_cases hlt:k<s.size
  ·have hb:=vO hlt
   have HB:=qh hb
   clear hb
   have hr:0≤(s[k].toNat:Int)∧(s[k].toNat:Int)≤255:=by have:=s[k].toNat_lt;omega
   go_wp2_with (first|(go_at_call 254;refine(xY _ _).mono ?_;rintro e w1 ⟨rfl,rfl⟩)|(go_at_call 255;refine(zz _ _).mono ?_;rintro e w1 ⟨rfl,rfl⟩))
   all_goals first
    | (have Fu:qQ s k=true:=by(rw[qQ,HB.out];simp_all)
       go_round
       case rel=>exact⟨k+1,by omega,by go_num,by rw[za,HOK.out,Fu];rfl⟩
       case measure=>exact meA)
    | (have Fu:qQ s k=false:=by(rw[qQ,HB.out];simp_all)
       go_ret
       refine⟨⟨k,rfl,?_⟩,rfl⟩
       rw[zb Fu hlt]
       simp;omega)
  ·go_wp2
   go_ret
   obtain rfl:k=s.size:=by omega
   exact⟨⟨s.size,rfl,by simp[HOK.out]⟩,rfl⟩
theorem ui(s:ByteArray)(w:World)(hs:s.size≤1000000):
 Calls Tryz.prog 222 #[.string s] w fun e w'=>e=.returned (.bool (eY s))∧w=w':=by
 have hsz:s.toList.length=s.size:=by rw[ByteArray.toList_eq];rfl
 have HSZ:=qh hsz
 clear hsz
 by_cases h0:s.toList=[]
 ·have hz:s.size=0:=by rw[←HSZ.out,h0];rfl
  have h1:s.toList.isEmpty=true:=by simp[h0]
  have HZ:=qh hz
  clear hz
  go_enter Tryz.func222,Tryz.ntmps222
  go_wp2_with fail
  go_ret
  exact⟨ax (by simp[eY,HZ.out]),rfl⟩
 ·have h1:s.toList.isEmpty=false:=by simpa using h0
  have hz:s.size≠0:=fun e=>h0 (List.eq_nil_of_length_eq_zero (by rw[HSZ.out,e]))
  have h2:0<s.size:=by omega
  clear hz
  by_cases h16:(s.size:Int)≤16
  ·have hd:decide ((s.size:Int)≤16)=true:=by simpa using h16
   go_enter Tryz.func222,Tryz.ntmps222
   go_wp2_with (go_at_call 244;refine(vz _ _ hs).mono ?_;rintro e w1 ⟨⟨q,rfl,hq⟩,rfl⟩;have HQ:=qh hq;clear hq)
   go_ret
   refine⟨ax ?_,rfl⟩
   have e1:((q:Int)==(s.size:Int))=decide (q=s.size):=by
    rw[Bool.eq_iff_iff];simp;omega
   have e2:decide (s.size≠0)=true:=decide_eq_true omA
   have e3:decide (s.size≤16)=true:=by simp;omega
   rw[e1,HQ.out,eY,e2,e3]
   rfl
  ·have hd:decide ((s.size:Int)≤16)=false:=by simpa using h16
   go_enter Tryz.func222,Tryz.ntmps222
   go_wp2_with fail
   go_ret
   refine⟨ax ?_,rfl⟩
   have e3:decide (s.size≤16)=false:=by simp;omega
   rw[eY,e3]
   simp
theorem vv(s:ByteArray):qQ s 0=CV (sP s 0):=by simp[qQ]
theorem CQ{s:ByteArray}{k:Nat}(h:0<k):qQ s k=qB (sP s k):=by
 simp[qQ,qB,h,Bool.or_assoc]
theorem Oa(s:ByteArray)(k:Nat)(h:qQ s 0=true):qQ s k=qB (sP s k):=by
 rcases Nat.eq_zero_or_pos k with rfl|hk
 ·rw[h];rw[vv]at h;simp[qB,h]
 ·exact CQ hk
theorem AZ(s:ByteArray)(w:World)(hs:s.size≤1000000):
 Calls Tryz.prog 137 #[.string s] w fun e w'=>e=.returned (.bool (eY s))∧w=w':=by
 by_cases h0:s.size=0
 ·have h1:((s.size:Int) == 0)=true:=by simp[h0]
  have HZ:=qh h0
  clear h0
  go_enter Tryz.func137,Tryz.ntmps137
  go_wp2_with fail
  go_ret
  exact⟨ax (by simp[eY,HZ.out]),rfl⟩
 ·have h1:((s.size:Int) == 0)=false:=by simp[h0]
  have h2:0<s.size:=by omega
  have hb:=vO h2
  have HB:=qh hb
  clear hb
  by_cases h16:(s.size:Int)≤16
  ·cases hl:CV (s[0].toNat:Int)
   ·go_enter Tryz.func137,Tryz.ntmps137
    go_wp2_with (go_at_call 170;refine(nV _ _).mono ?_;rintro e w1 ⟨rfl,rfl⟩)
    go_ret
    refine⟨ax ?_,rfl⟩
    rw[eY,zb (k:= 0) (by rw[vv,HB.out,hl]) h2]
    simp
   ·have hok:qQ s 0=true:=by rw[vv,HB.out,hl]
    have HOK:=qh hok
    clear hok
    have HL:=qh hl
    go_enter Tryz.func137,Tryz.ntmps137
    go_wp2_with (go_at_call 170;refine(nV _ _).mono ?_;rintro e w1 ⟨rfl,rfl⟩)
    clear hl
    go_loop [3] (fun i =>∃k:Nat,k≤s.size∧i=.int .i64 k∧uM s k=true) (fun i=>s.size-(intOf i).toNat)
    case atStart=>exact⟨0,Nat.zero_le _,rfl,rfl⟩
    case round =>
     obtain⟨k,hk,rfl,hok⟩:=hrel
     have V3:=qh hok
     clear hok
     by_cases hlt:k<s.size
     ·have hb:=vO hlt
      have HB':=qh hb
      clear hb
      have hi:=Oa s k HOK.out
      have HI:=qh hi
      clear hi
      go_wp2_with (go_at_call 171;refine(AY _ _).mono ?_;rintro e w1 ⟨rfl,rfl⟩)
      all_goals first
       | (have Fu:qQ s k=true:=by(rw[HI.out,HB'.out];simp_all)
          go_round
          case rel=>exact⟨k+1,by omega,by go_num,by rw[za,V3.out,Fu];rfl⟩
          case measure=>exact meA)
       | (have Fu:qQ s k=false:=by(rw[HI.out,HB'.out];simp_all)
          go_ret
          refine⟨ax ?_,rfl⟩
          rw[eY,zb Fu hlt]
          simp)
     ·go_wp2
      go_ret
      obtain rfl:k=s.size:=by omega
      have e2:decide (s.size≠0)=true:=decide_eq_true omA
      have e3:decide (s.size≤16)=true:=by simp;omega
      exact⟨ax (by rw[eY,V3.out,e2,e3];rfl),rfl⟩
  ·have h17:16<(s.size:Int):=by omega
   go_enter Tryz.func137,Tryz.ntmps137
   go_wp2_with fail
   go_ret
   refine⟨ax ?_,rfl⟩
   have e3:decide (s.size≤16)=false:=by simp;omega
   rw[eY,e3]
   simp
def Vz(a b:Ident):Int:=if jK a.ns b.ns != 0 then jK a.ns b.ns else aU a.val b.val
theorem dx{α:Type}{enc:α→List Value}{k:Nat}(hk:∀x,(enc x).length=k):∀l:List α,(l.flatMap enc).length=l.length*k
 | []=>by simp
 | x::l=>by rw[List.flatMap_cons,List.length_append,hk,dx hk l,List.length_cons,Nat.add_mul,Nat.one_mul,Nat.add_comm]
theorem flat_get{α:Type}{enc:α→List Value}{k:Nat}(hk:∀x,(enc x).length=k):∀(l:List α) (i:Nat) (h:i<l.length) (j:Nat) (u:Value),(enc l[i])[j]?=some u→(l.flatMap enc)[i*k+j]?=some u
 | x::l,0,_,j,u,hu=>by
   have hj:j<(enc x).length:=(List.getElem?_eq_some_iff.1 hu).1
   rw[List.flatMap_cons,Nat.zero_mul,Nat.zero_add,List.getElem?_append_left hj]
   exact hu
 | x::l,i + 1,h,j,u,hu=>by
   rw[List.flatMap_cons,Nat.add_mul,Nat.one_mul,List.getElem?_append_right (by rw[hk];omega),hk]
   have:=flat_get hk l i ab j u ao
   rw[←this]
   congr 1
   omega
theorem GU{α:Type}{enc:α→List Value}{k:Nat}(hk:∀x,(enc x).length=k):∀(l:List α) (n:Nat) (u:Value),(l.flatMap enc)[n]?=some u→∃i,∃h:i<l.length,∃j,n=i*k+j∧(enc l[i])[j]?=some u
 | [],n,u,hu=>by simp at hu
 | x::l,n,u,hu=>by
   rw[List.flatMap_cons]at hu
   rcases Nat.lt_or_ge n (enc x).length with h|h
   ·rw[List.getElem?_append_left h]at hu
    exact⟨0,by simp,n,by simp,by simpa using hu⟩
   ·rw[List.getElem?_append_right h]at hu
    obtain⟨i,hi,j,e,hj⟩:=GU hk l _ u hu
    rw[hk]at e h
    exact⟨i+1,by simpa using hi,j,by rw[Nat.add_mul,Nat.one_mul];omega,by simpa using hj⟩
def aj{α:Type}(w:World)(base:Nat)(e:TypeId)(enc:α→List Value)(k:Nat)(v:Value)(l:List α):Prop:=
 w.ownsRow base e k v l.length (l.flatMap enc)
section
variable {α:Type}{w w':World}{base:Nat}{e:TypeId}{enc:α→List Value}{k:Nat}{v:Value}{l:List α}
theorem aj.nil:aj w base e enc k (.slice none 0 0) ([]:List α):=World.ownsRow_nil _ _ _ _
theorem aj.form(h:aj w base e enc k v l):∃A c,v=.slice A l.length c∧l.length≤c∧(∀a,A=some a→base≤a.block∧a.block<w.heap.size):=by
 rcases h.2 with ⟨rfl,h0⟩|⟨g,cap,cur,rfl,hb,hg,hn,_⟩
 ·exact⟨none,0,by rw[h0],by omega,fun a h=>by cases h⟩
 ·refine⟨_,cap,rfl,hn,fun a h =>?_⟩
  injection h with h
  subst h
  refine⟨hb,?_⟩
  rcases Nat.lt_or_ge g w.heap.size with hlt|hge
  ·exact hlt
  ·rw[Array.getElem?_eq_none hge]at hg;cases hg
theorem aj.slice(hk:∀x,(enc x).length=k)(h:aj w base e enc k v l):∃A c,v=.slice A l.length c∧l.length≤c∧ag w w.heap.size enc k A l∧(∀a,A=some a→base≤a.block∧a.block<w.heap.size):=by
 obtain⟨A,c,hv,hc,hA⟩:=h.form
 refine⟨A,c,hv,hc,fun hl =>?_,hA⟩
 subst hv
 rcases h.2 with ⟨h1,h0⟩|⟨g,cap,cur,hv,hb,hg,hn,hm,hs,ht⟩
 ·injection h1;omega
 ·injection hv with hv1 hv2 hv3
  subst hv1
  refine⟨g,0,rfl,(hA _ rfl).2,fun i hi j u hu =>?_⟩
  have h1:=flat_get hk l i hi j u hu
  rw[←ht]at h1
  rw[Nat.zero_add]
  have h2:cur.toList[i*k+j]?=some u:=by
   rw[List.getElem?_take]at h1
   split at h1
   ·exact h1
   ·cases h1
  rw[World.cell?,hg]
  simpa using h2
theorem aj.row(h:aj w base e enc k v l):∀g,v.ownBlock=some g→base≤g:=by
 intro g hg
 obtain⟨A,c,rfl,_,hA⟩:=h.form
 cases A with
 | none=>simp[Value.ownBlock]at hg
 | some a =>
   have:a.block=g:=by simpa[Value.ownBlock]using hg
   rw[←this]
   exact(hA a rfl).1
theorem aj.alloc(h:aj w base e enc k v l)(o:Obj):aj (w.alloc o) base e enc k v l:=World.ownsRow.alloc h o
theorem aj.drew(h:aj w base e enc k v l):aj w.drew base e enc k v l:=h
theorem aj.below(h:aj w base e enc k v l){B:Nat}(hb:Below B w w')(hB:w.heap.size≤B):aj w' base e enc k v l:=by
 refine⟨h.1,?_⟩
 rcases h.2 with h1|⟨g,cap,cur,hv,hbs,hg,hr⟩
 ·exact .inl h1
 ·refine .inr ⟨g,cap,cur,hv,hbs,?_,hr⟩
  have hlt:g<w.heap.size:=by
   rcases Nat.lt_or_ge g w.heap.size with hlt|hge
   ·exact hlt
   ·rw[Array.getElem?_eq_none hge]at hg;cases hg
  rw[hb.block g omA]
  exact hg
theorem aj.mono(h:aj w base e enc k v l){b':Nat}(hb:b'≤base):aj w b' e enc k v l:=by
 refine⟨h.1,?_⟩
 rcases h.2 with h1|⟨g,cap,cur,hv,hbs,hr⟩
 ·exact .inl h1
 ·exact .inr ⟨g,cap,cur,hv,by omega,hr⟩
end
theorem kD{P:Program}{α:Type}(w:World)(t ty e:TypeId)(i:TypeInfo)(z:Value)(enc:α→List Value)(k bytes:Nat)(ht:P.underlying t=some (.slice e))(hi:P.info? e=some i)(hz:i.zero=some z)
 (hsize:i.size=k) (hby:i.bytes=bytes) (hzs:z.cells.size=k) (hsz:0<k) (hk:∀x,(enc x).length=k) (h1:∀x,∀u∈enc x,u.oneCell'=true)
 (base:Nat) (v:Value) (l:List α) (hown:aj w base e enc k v l) (A:Option Addr) (m c:Nat) (l':List α) (hm:m=l'.length) (hr:ag w w.heap.size enc k A l')
 (hlen:(l.length+l'.length)*bytes≤140737488355328) (h63:l.length+l'.length≤maxLen) (hbase:base≤w.heap.size):
 ∃v' w',(Builtin.append_ #[t,t] ty #[v,.slice A m c]).run P w=.ok v' w'∧aj w' base e enc k v' (l++l')∧w.grownBy w' v.ownBlock∧(v'.ownBlock=v.ownBlock∨v'.ownBlock=some w.heap.size):=by
 subst hm
 rcases A with _|ad
 ·have h0:l'=[]:=by
   rcases Nat.eq_zero_or_pos l'.length with h0|h0
   ·exact List.eq_nil_of_length_eq_zero h0
   ·obtain⟨b,o,h,_⟩:=hr h0
    cases h
  subst h0
  refine⟨v,w,?_,by simpa[aj]using hown,World.grownBy.refl w _,.inl rfl⟩
  rcases hown.2 with ⟨rfl,h2⟩|⟨g,cap,cur,rfl,_,_,hnc,_⟩
  ·simp[Builtin.append_,run_underlying ht,sizeOf,typeInfo,hi,Builtin.lenOf,Builtin.firstCells]
  ·simp[Builtin.append_,run_underlying ht,sizeOf,typeInfo,hi,Builtin.lenOf,Builtin.firstCells,hnc,storeCells]
 ·obtain⟨v',w',hrun,h2,h3,_,h5⟩:=run_append_own_at (P:=P) w base t ty e i z k bytes ht hi hz hsize hby hzs hsz v l.length _ hown ad l'.length c (l'.flatMap enc) (dx hk l')
   (fun j u hu=>by
     obtain⟨i',hi',j',e',hj'⟩:=GU hk l' j u hu
     obtain⟨b,o,hA,hb,hc⟩:=hr omA
     injection hA with hA
     subst hA
     have:=hc i' hi' j' u hj'
     rw[←e']at this
     unfold Addr.add
     split
     ·rename_i hj0;rw[hj0]at this;exact this
     ·exact this)
   (fun u hu=>by rw[List.mem_flatMap]at hu;obtain⟨x,_,hx⟩:=hu;exact h1 x u hx) h63 hlen hbase
  exact⟨v',w',hrun,by simpa[aj]using h2,h3,h5⟩
theorem cu{P:Program}{α:Type}{o:Oper}{a:Act}{K:Act→World→Prop}{Q:Exit→Act→World→Prop}(w:World)(s x:Operand)(t:TypeId)(ho:o.op=.call { callee:= .builtin .append,args:= #[s,x],argTypes:= #[t,t] })
 (e:TypeId) (i:TypeInfo) (z:Value) (enc:α→List Value) (k bytes:Nat) (ht:P.underlying t=some (.slice e)) (hi:P.info? e=some i) (hz:i.zero=some z)
 (hsize:i.size=k) (hby:i.bytes=bytes) (hzs:z.cells.size=k) (hsz:0<k) (hk:∀x,(enc x).length=k) (h1:∀x,∀u∈enc x,u.oneCell'=true)
 (base:Nat) (v:Value) (l:List α) (hs:a.eval s=v) (hown:aj w base e enc k v l) (A:Option Addr) (m c:Nat) (l':List α) (hx:a.eval x=.slice A m c) (hm:m=l'.length) (hr:ag w w.heap.size enc k A l')
 (hlen:(l.length+l'.length)*bytes≤140737488355328) (h63:l.length+l'.length≤maxLen) (hbase:base≤w.heap.size)
 (h:∀v' w',aj w' base e enc k v' (l++l')→w.grownBy w' v.ownBlock→(v'.ownBlock=v.ownBlock∨v'.ownBlock=some w.heap.size)→K (a.put o.dst v') w'):o.wp P a w K Q:=by
 obtain⟨v',w',hrun,h2,h3,h4⟩:=kD (P:=P) w t o.type e i z enc k bytes ht hi hz hsize hby hzs hsz hk h1 base v l hown A m c l' hm hr hlen h63 hbase
 unfold Oper.wp execOp
 simp only[ho,resolve,invoke,builtin,Sem.run_bind,Sem.run_pure,Result.andThen_ok,List.map_toArray,List.map_cons,List.map_nil,hs,hx,hrun]
 exact h v' w' h2 h3 h4
theorem aO{P:Program}{α:Type}{ops:Array Oper}{rest:List Oper}{o:Oper}{a:Act}{Q:Exit→Act→World→Prop}(w:World)(hgd:o.guard=none)(s x:Operand)(t:TypeId)(ho:o.op=.call { callee:= .builtin .append,args:= #[s,x],argTypes:= #[t,t] })
 (e:TypeId) (i:TypeInfo) (z:Value) (enc:α→List Value) (k bytes:Nat) (ht:P.underlying t=some (.slice e)) (hi:P.info? e=some i) (hz:i.zero=some z)
 (hsize:i.size=k) (hby:i.bytes=bytes) (hzs:z.cells.size=k) (hsz:0<k) (hk:∀x,(enc x).length=k) (h1:∀x,∀u∈enc x,u.oneCell'=true)
 (base:Nat) (v:Value) (l:List α) (hs:a.eval s=v) (hown:aj w base e enc k v l) (A:Option Addr) (m c:Nat) (l':List α) (hx:a.eval x=.slice A m c) (hm:m=l'.length) (hr:ag w w.heap.size enc k A l')
 (hlen:(l.length+l'.length)*bytes≤140737488355328) (h63:l.length+l'.length≤maxLen) (hbase:base≤w.heap.size)
 (h:∀v' w',aj w' base e enc k v' (l++l')→w.grownBy w' v.ownBlock→(v'.ownBlock=v.ownBlock∨v'.ownBlock=some w.heap.size)→wpList P ops Q rest (a.put o.dst v') w'):wpList P ops Q (o::rest) a w:=
 wpList_plain hgd fun _ hK=>cu w s x t ho e i z enc k bytes ht hi hz hsize hby hzs hsz hk h1 base v l hs hown A m c l' hx hm hr hlen h63 hbase fun v' w' h2 h3 h4=>hK _ _ (h v' w' h2 h3 h4)
theorem av{P:Program}{α:Type}{ops:Array Oper}{o:Oper}{a:Act}{K:Act→World→Prop}{Q:Exit→Act→World→Prop}{E:Prop}(w:World)(hgd:o.guard=none)(s x:Operand)(t:TypeId)(ho:o.op=.call { callee:= .builtin .append,args:= #[s,x],argTypes:= #[t,t] })
 (e:TypeId) (i:TypeInfo) (z:Value) (enc:α→List Value) (k bytes:Nat) (ht:P.underlying t=some (.slice e)) (hi:P.info? e=some i) (hz:i.zero=some z)
 (hsize:i.size=k) (hby:i.bytes=bytes) (hzs:z.cells.size=k) (hsz:0<k) (hk:∀x,(enc x).length=k) (h1:∀x,∀u∈enc x,u.oneCell'=true)
 (base:Nat) (v:Value) (l:List α) (hs:a.eval s=v) (hown:aj w base e enc k v l) (A:Option Addr) (m c:Nat) (l':List α) (hx:a.eval x=.slice A m c) (hm:m=l'.length) (hr:ag w w.heap.size enc k A l')
 (hlen:(l.length+l'.length)*bytes≤140737488355328) (h63:l.length+l'.length≤maxLen) (hbase:base≤w.heap.size)
 (h:∀v' w',aj w' base e enc k v' (l++l')→w.grownBy w' v.ownBlock→(v'.ownBlock=v.ownBlock∨v'.ownBlock=some w.heap.size)→K (a.put o.dst v') w'):
 if Region.wanted o (yielded ops a.tmps)=true then Oper.wp P o a w K Q else E:=by
 have hw:Region.wanted o (yielded ops a.tmps)=true:=by simp[Region.wanted,hgd]
 rw[if_pos hw]
 exact cu w s x t ho e i z enc k bytes ht hi hz hsize hby hzs hsz hk h1 base v l hs hown A m c l' hx hm hr hlen h63 hbase h
section
variable {α:Type}{w w':World}{B:Nat}{enc:α→List Value}{k:Nat}{A:Option Addr}{l:List α}
theorem ag.take(h:ag w B enc k A l)(m:Nat):ag w B enc k A (l.take m):=by
 intro hl
 have hl':0<l.length:=by simp at hl;omega
 obtain⟨b,o,rfl,hb,hc⟩:=h hl'
 exact⟨b,o,rfl,hb,fun i hi j u hu=>hc i (by simp at hi;omega) j u ao⟩
theorem ag.cut{b o c:Nat}(h:ag w B enc k (some ⟨b,o,none⟩) l)(m:Nat)(hc:l.length≤c):
 ag w B enc k (if c=m then some ⟨b,o,none⟩ else some ⟨b,o+m*k,none⟩) (l.drop m):=by
 intro hl
 have hl':m<l.length:=by simp at hl;omega
 obtain⟨b',o',e,hb,hcell⟩:=h omA
 injection e with e
 injection e with e1 e2
 subst e1 e2
 rw[if_neg omA]
 refine⟨b,o+m*k,rfl,hb,fun i hi j u hu =>?_⟩
 have:=hcell (m+i) (by simp at hi;omega) j u ao
 rw[←this]
 congr 2
 rw[Nat.add_mul]
 omega
theorem ag.one{g:Nat}{x:α}(hB:g<B)(h:∀j u,(enc x)[j]?=some u→w.cell? ⟨g,j,none⟩=some u):ag w B enc k (some ⟨g,0,none⟩) [x]:=by
 intro _
 refine⟨g,0,rfl,hB,fun i hi j u hu =>?_⟩
 obtain rfl:i=0:=by simp at hi;omega
 simpa using h j u ao
end
theorem bX{g o n c B:Nat}(h:B≤g):∀k,(Value.slice (some ⟨g,o,none⟩) n c).ownBlock=some k→B≤k:=by
 intro k hk
 injection hk with hk
 rw[←hk]
 exact h
theorem jF{g g' o n c:Nat}(h:g≠g'):some g≠(Value.slice (some ⟨g',o,none⟩) n c).ownBlock:=fun e=>h (Option.some.inj e)
def Blk(w:World)(g:Nat)(t:TypeId)(cs:Array Value):Prop:=w.heap[g]?=some (.cells cs t (0,0))
section
variable {w w':World}{g:Nat}{t:TypeId}{cs:Array Value}
theorem Blk.lt(h:Blk w g t cs):g<w.heap.size:=by
 rcases Nat.lt_or_ge g w.heap.size with hlt|hge
 ·exact hlt
 ·unfold Blk at h;rw[Array.getElem?_eq_none hge]at h;cases h
theorem Blk.cell(h:Blk w g t cs)(i:Nat):w.cell? ⟨g,i,none⟩=cs[i]?:= by
 unfold Blk at h;simp[World.cell?,h]
theorem Blk.frozen(h:Blk w g t cs)(i:Nat):w.frozen? ⟨g,i,none⟩=false:=by
 unfold Blk at h;simp[World.frozen?,h]
theorem Blk.new(w:World)(t:TypeId)(cs:Array Value):Blk (w.alloc (.cells cs t)) w.heap.size t cs:=heap_alloc_new w _
theorem Blk.new'{w:World}{g:Nat}{t:TypeId}{cs:Array Value}(hg:w.heap.size=g):Blk (w.alloc (.cells cs t)) g t cs:=by
 subst hg
 exact Blk.new _ _ _
theorem Blk.drew(h:Blk w g t cs):Blk w.drew g t cs:=h
theorem Blk.alloc(h:Blk w g t cs)(o:Obj):Blk (w.alloc o) g t cs:=(Below.heap_alloc w o g h.lt).trans h
theorem Blk.aH(h:Blk w g t cs)(i:Nat)(u:Value):Blk (w.setCell ⟨g,i,none⟩ u) g t (cs.setIfInBounds i u):=by
 unfold Blk at h ⊢
 simp[World.setCell,Array.getElem?_modify,h]
theorem Blk.far(h:Blk w g t cs){p:Addr}(hp:g≠p.block)(u:Value):Blk (w.setCell p u) g t cs:=(Below.heap_setCell w p u g hp).trans h
theorem Blk.below{B:Nat}(h:Blk w g t cs)(hb:Below B w w')(hg:g<B):Blk w' g t cs:=(hb.block g hg).trans h
theorem Blk.grown{row:Option Nat}(h:Blk w g t cs)(hb:w.grownBy w' row)(hg:some g≠row):Blk w' g t cs:=(hb.block g h.lt hg).trans h
theorem Blk.one{α:Type}{enc:α→List Value}{k B:Nat}{x:α}(h:Blk w g t (enc x).toArray)(hB:g<B):ag w B enc k (some ⟨g,0,none⟩) [x]:=
 ag.one hB fun j u hu=>by rw[h.cell];simpa using hu
theorem aj.empty{α:Type}{enc:α→List Value}{k base:Nat}(h:Blk w g t #[])(hb:base≤g):aj w base t enc k (.slice (some ⟨g,0,none⟩) 0 0) ([]:List α):=
 ⟨by simp,.inr ⟨g,0,#[],rfl,hb,h,Nat.le_refl _,Nat.zero_le _,by simp,by simp⟩⟩
end
theorem mE{α:Type}(p:α→Bool):∀(l:List α) (m:Nat),m≤l.length→(∀j (h:j<l.length),j<m→p l[j]=true)→(∀h:m<l.length,p l[m]=false)→(l.takeWhile p).length=m
 | [],m,hm,_,_=>by simp at hm;simp[hm]
 | x::l,0,_,_,h2=>by
   have:=h2 spA
   rw[List.takeWhile_cons_of_neg (by simpa using this)];rfl
 | x::l,m + 1,hm,h1,h2=>by
   have:=h1 0 spA omA
   rw[List.takeWhile_cons_of_pos (by simpa using this),List.length_cons,mE p l m (by simpa using hm) (fun j h hj=>h1 (j+1) ab omA) (fun h=>h2 ab)]
structure kr {α:Type}(c:α→α→Int):Prop where
 oU:∀x y,c y x=- c x y
 trans:∀x y z,c x y≤0→c y z≤0→c x z≤0
section
variable {α β:Type}{c:α→α→Int}{d:β→β→Int}
theorem kr.refl(h:kr c)(x:α):c x x=0:=by have:=h.oU x x;omega
theorem kr.GG(h:kr c){x y z:α}(h1:c x y<0)(h2:c y z≤0):c x z<0:=by
 have h3:=h.trans x y z omA h2
 rcases Int.lt_or_le (c x z) 0 with h4|h4
 ·exact h4
 ·have h5:=h.oU x z
  have h6:=h.trans y z x h2 omA
  have h7:=h.oU x y
  omega
theorem kr.Ti(h:kr c){x y z:α}(h1:c x y≤0)(h2:c y z<0):c x z<0:=by
 have h3:=h.trans x y z h1 omA
 rcases Int.lt_or_le (c x z) 0 with h4|h4
 ·exact h4
 ·have h5:=h.oU x z
  have h6:=h.trans z x y omA h1
  have h7:=h.oU y z
  omega
theorem kr.pull(h:kr c)(f:β→α):kr (fun x y=>c (f x) (f y)):=⟨fun _ _=>h.oU _ _,fun _ _ _=>h.trans _ _ _⟩
theorem kr.lex{c c':α→α→Int}(h:kr c)(h':kr c'):kr (fun x y=>if c x y != 0 then c x y else c' x y):=by
 refine⟨fun x y =>?_,fun x y z h1 h2 =>?_⟩
 ·have e:=h.oU x y
  have e':=h'.oU x y
  by_cases h0:c x y=0
  ·have:c y x=0:=by omega
   simp[h0,this,e']
  ·have:¬ c y x=0:=by omega
   simp[h0,e]
 ·have hxy:c x y≤0:=by
   by_cases h0:c x y=0
   ·omega
   ·simpa[h0]using h1
  have hyz:c y z≤0:=by
   by_cases h0:c y z=0
   ·omega
   ·simpa[h0]using h2
  have hxz:=h.trans x y z hxy hyz
  by_cases h0:c x z=0
  ·have h3:c x y=0:=by
    rcases Int.lt_or_le (c x y) 0 with h4|h4
    ·have:=h.GG h4 hyz;omega
    ·omega
   have h4:c y z=0:=by
    rcases Int.lt_or_le (c y z) 0 with h4|h4
    ·have:=h.Ti hxy h4;omega
    ·omega
   simp[h3]at h1
   simp[h4]at h2
   simpa[h0]using h'.trans x y z h1 h2
  ·simpa[h0]using hxz
end
theorem Au:kr gM:=by
 refine⟨fun x y =>?_,fun x y z h1 h2 =>?_⟩
 ·unfold gM;split<;>split<;>omega
 ·unfold gM at *
  split at h1<;>split at h2<;>(try split at h1)<;>(try split at h2)<;>(try omega)<;>(split<;>(try split)<;>omega)
theorem kR:∀(x y:List UInt8),Op.bytesLess x y=decide (x<y)
 | _,[]=>by simp[Op.bytesLess]
 | [],_::_=>by simp[Op.bytesLess]
 | a::x,b::y=>by
   rw[Op.bytesLess,kR x y,Bool.eq_iff_iff]
   simp[List.cons_lt_cons_iff]
theorem Ar:kr jK:=by
 have total:∀x y:List UInt8,¬ x<y→¬ y<x→x=y:=fun x y h1 h2=>List.le_antisymm (List.not_lt.1 h2) (List.not_lt.1 h1)
 refine⟨fun x y =>?_,fun x y z h1 h2 =>?_⟩
 ·unfold jK
  simp only[kR,decide_eq_true_eq]
  by_cases h1:x.toList<y.toList
  ·have h2:¬ y.toList<x.toList:=fun h=>List.lt_asymm h1 h
   simp[h1,h2]
  ·by_cases h2:y.toList<x.toList<;>simp[h1,h2]
 ·unfold jK at *
  simp only[kR,decide_eq_true_eq]at *
  have le1:¬ y.toList<x.toList:=by
   intro h
   have h3:¬ x.toList<y.toList:=fun h'=>List.lt_asymm h h'
   simp[h,h3]at h1
  have le2:¬ z.toList<y.toList:=by
   intro h
   have h3:¬ y.toList<z.toList:=fun h'=>List.lt_asymm h h'
   simp[h,h3]at h2
  have le3:¬ z.toList<x.toList:=by
   have:=List.le_trans (List.not_lt.1 le1) (List.not_lt.1 le2)
   exact List.not_lt.2 this
  by_cases h4:x.toList<z.toList<;>simp[h4,le3]
theorem Jh{x y:ByteArray}(h:jK x y=0):x=y:=by
 unfold jK at h
 simp only[kR,decide_eq_true_eq]at h
 by_cases h1:x.toList<y.toList
 ·simp[h1]at h
 ·by_cases h2:y.toList<x.toList
  ·simp[h1,h2]at h
  ·exact sQ (List.le_antisymm (List.not_lt.1 h2) (List.not_lt.1 h1))
theorem DW(x:ByteArray):jK x x=0:=Ar.refl x
theorem Av{x y:Int}(h:gM x y=0):x=y:=by
 unfold gM at h
 split at h
 ·omega
 ·split at h<;>omega
def kV(a b:Val):Int:=if gM a.kind b.kind != 0 then gM a.kind b.kind else if gM a.num b.num != 0 then gM a.num b.num else jK a.text b.text
theorem BV:kr kV:=
 (Au.pull Val.kind).lex ((Au.pull Val.num).lex (Ar.pull Val.text))
theorem BX{a b:Val}(h:kV a b=0):a=b:=by
 unfold kV at h
 obtain⟨k,n,t⟩:=a
 obtain⟨k',n',t'⟩:=b
 simp only at h
 by_cases h1:gM k k'=0
 ·by_cases h2:gM n n'=0
  ·simp[h1,h2]at h
   rw[Av h1,Av h2,Jh h]
  ·simp[h1,h2]at h
 ·simp[h1]at h
theorem rQ(a b:Val):aU a b=kV (clean a) (clean b):=by
 have ha:=nN (mf a)
 have hb:=nN (mf b)
 unfold aU
 generalize clean a=c at *
 generalize clean b=d at *
 have hs:=DW
 rcases ha with rfl|⟨n,rfl,_,_⟩|⟨t,rfl,_⟩<;>rcases hb with rfl|⟨n',rfl,_,_⟩|⟨t',rfl,_⟩<;>simp[kV,hs,gM]
theorem bI:kr aU:=by
 have h:=BV.pull clean
 have e:aU=fun x y=>kV (clean x) (clean y):=by funext a b;exact rQ a b
 rw[e]
 exact h
inductive Ha (f:List Nat):Nat→Nat→Nat→Prop where
 | here {i:Nat}:f[i]?=some i→Ha f i i 0
 | up {i p r d:Nat}:f[i]?=some p→p≠i→Ha f p r d→Ha f i r (d+1)
def Root(f:List Nat)(i r:Nat):Prop:= ∃d,Ha f i r d
def qK(f f':List Nat):Prop:=f'.length=f.length ∧ ∀j r,Root f j r↔Root f' j r
theorem qK.refl(f:List Nat):qK f f:=⟨rfl,fun _ _=>Iff.rfl⟩
def Ns(w:World)(g:Nat)(f:List Nat):Prop:=Blk w g 3 (f.map (fun x:Nat=>Value.int .i64 (x:Int))).toArray
theorem ak{a w:World}{g:Nat}(h:a.grownBy w (some g)){p:Addr}(hp:p.block=g∨a.heap.size≤p.block)(u:Value):a.grownBy (w.setCell p u) (some g):=
 ⟨h.os,h.tape,h.output,by simpa[World.setCell]using h.size,fun i hi hne=>(Below.heap_setCell w p u i (by
  rintro rfl
  rcases hp with hp|hp
  ·exact hne (by rw[hp])
  ·omega)).trans (h.block i hi hne)⟩
theorem aL{a w:World}(h:Below a.heap.size a w)(row:Option Nat):a.grownBy w row:=⟨h.os,h.tape,h.output,h.size,fun i hi _=>h.block i hi⟩
theorem sK{a w:World}{row:Option Nat}(h:a.grownBy w row):a.grownBy w.drew row:=⟨h.os,h.tape,h.output,h.size,h.block⟩
theorem bP{a w:World}{row:Option Nat}(h:a.grownBy w row)(o:Obj):a.grownBy (w.alloc o) row:=
 ⟨h.os,h.tape,h.output,Nat.le_trans h.size spA,fun i hi hne=>(Below.heap_alloc w o i (Nat.lt_of_lt_of_le hi h.size)).trans (h.block i hi hne)⟩
theorem au{a b c:World}{row:Option Nat}(h:a.grownBy b row)(k:b.grownBy c row):a.grownBy c row:=
 ⟨k.os.trans h.os,k.tape.trans h.tape,k.output.trans h.output,Nat.le_trans h.size k.size,fun i hi hne=>(k.block i (Nat.lt_of_lt_of_le hi h.size) hne).trans (h.block i hi hne)⟩
theorem iN{P:Program}(t e:TypeId)(i:TypeInfo)(z:Value)(ht:P.underlying t=some (.slice e))(hi:P.info? e=some i)(hz:i.zero=some z)
 (kl kc:IntKind) (n c:Nat) (hnc:n≤c) (hbytes:i.bytes*c≤281474976710656) (h63:c≤9223372036854775807) (w:World):
 (Instr.makeSlice t (.int kl (n:Int)) (.int kc (c:Int))).run P w=.ok (.slice (some ⟨w.heap.size,0,none⟩) n c) (w.alloc (.cells (madeCells z.cells (c*i.size)) e)):=by
 have hb:(i.bytes:Int)*(c:Int)≤281474976710656:=by
  have h:((i.bytes*c:Nat):Int)≤281474976710656:=by omega
  rwa [Int.natCast_mul]at h
 have hr:=run_make (P:=P) w t e i z ht hi hz kl kc n c omA omA hb omA
 simp only[Int.toNat_natCast]at hr
 exact hr
theorem wT:(Tryz.prog.info? 3).map (fun i=>(i.zero,i.size,i.bytes))=some (some (.int .i64 0),1,8):=by kernel_rfl
theorem l8{a b c:World}{row:Option Nat}(h:a.grownBy b row)(k:Below b.heap.size b c):a.grownBy c row:=
 ⟨k.os.trans h.os,k.tape.trans h.tape,k.output.trans h.output,Nat.le_trans h.size k.size,fun i hi hne=>(k.block i (Nat.lt_of_lt_of_le hi h.size)).trans (h.block i hi hne)⟩
end Go.Proofs.YtjidligipoldeaaGreat
