/-
  Contracts and plain laws of this seat, part 1.
-/
import Derived.WalkSpells
import Derived.WalkLawsBesides
import Derived.BigQuiet
import Derived.Lib.Hide
import Derived.Sort.Grow
import Derived.OrdersHeld
import Derived.Test.YtjidligipoldeaaGreatShelf
import Derived.Deep.DeepCutAuto
import Derived.Deep.Light
import Derived.Deep.AppendLies
set_option linter.unusedVariables false
set_option linter.unusedSimpArgs false
set_option maxRecDepth 100000
set_option maxHeartbeats 16000000
namespace Go.Proofs.YtjidligipoldeaaGreat
open Go.RowKit
theorem ab{P:Prop}(h:P:=by simpa using h):P:=h
theorem ao{P:Prop}(h:P:=by simpa using hu):P:=h
theorem aq{P:Prop}(h:P:=by simp[results,Tryz.results167,go_sem,c1]):P:=h
theorem ar{P:Prop}(h:P:=by simp[results,Tryz.results131,go_sem,c1]):P:=h
theorem qh{p:Prop}(h:p):Hid p:=Lib.hid h
structure Val where
 kind:Int
 num:Int
 text:ByteArray
structure Ident where
 ns:ByteArray
 val:Val
structure Link where
 a:Ident
 b:Ident
 seq:Int
 rev:Bool
theorem rF{a b:ByteArray}(h:a.toList=b.toList):a=b:=by
 rw[ByteArray.toList_eq,ByteArray.toList_eq]at h
 obtain⟨⟨x⟩⟩:=a
 obtain⟨⟨y⟩⟩:=b
 simp at h
 rw[h]
instance:DecidableEq ByteArray:=fun a b=>if h:a.toList=b.toList then isTrue (rF h) else isFalse (fun e=>h (by rw[e]))
instance:DecidableEq Val:=fun a b =>
 if h:a.kind=b.kind∧a.num=b.num∧a.text=b.text then isTrue (by obtain⟨_,_,_⟩:=a;obtain⟨_,_,_⟩:=b;simp at h;simp[h])
 else isFalse (fun e=>h (by simp[e]))
instance:DecidableEq Ident:=fun a b =>
 if h:a.ns=b.ns∧a.val=b.val then isTrue (by obtain⟨_,_⟩:=a;obtain⟨_,_⟩:=b;simp at h;simp[h])
 else isFalse (fun e=>h (by simp[e]))
instance:DecidableEq Link:=fun a b =>
 if h:a.a=b.a∧a.b=b.b∧a.seq=b.seq∧a.rev=b.rev then isTrue (by obtain⟨_,_,_,_⟩:=a;obtain⟨_,_,_,_⟩:=b;simp at h;simp[h])
 else isFalse (fun e=>h (by simp[e]))
theorem JU{a b:ByteArray}:a.toList=b.toList↔a=b:=⟨rF,fun h=>by rw[h]⟩
theorem below_drewN{B:Nat}{a w:World}(h:Below B a w)(n:Nat):Below B a (w.drewN n):=⟨h.os,h.tape,h.output,h.size,h.block⟩
theorem lq{w W w1:World}(h:Below w.heap.size w W)(hb:Below W.heap.size W w1):Below w.heap.size w w1:=h.trans (hb.mono h.size)
theorem aa{w W w1:World}{B:Nat}(h:Below B w W)(hb:Below W.heap.size W w1)(hB:B≤W.heap.size):Below B w w1:=h.trans (hb.mono hB)
theorem ak{B:Nat}{a w:World}(h:Below B a w:=by repeat(first|with_reducible exact Below.refl _ _|with_reducible assumption|(with_reducible refine Below.setCell ?_ ?_ _;rotate_left;focus (first|exact Nat.le_refl _|exact Nat.le_add_right _ _|(simp;done)|(simp;omega)|omega))|(with_reducible refine Below.alloc ?_ ?_ _;rotate_left;focus (first|exact Nat.le_refl _|exact Nat.le_add_right _ _|(simp;done)|(simp;omega)|omega))|with_reducible refine Below.drew ?_|with_reducible refine below_drewN ?_ _|(with_reducible refine aa ?_ (by with_reducible assumption) ?_;rotate_left;focus (first|exact Nat.le_refl _|exact Nat.le_add_right _ _|(simp;done)|(simp;omega)|omega)))):Below B a w:=h
theorem leA{p:Prop}(h:p:=by first|exact Nat.le_refl _|exact Nat.le_add_right _ _|assumption|(simp;done)|(simp;omega)|omega):p:=h
theorem ltA{p:Prop}(h:p:=by first|assumption|(simp;done)|(simp;omega)|omega):p:=h
theorem aS{k:IntKind}{a b:Int}(h:a=b):Ending.returned (.int k a)=.returned (.int k b):=by rw[h]
theorem ay{a b:Bool}(h:a=b):Ending.returned (.bool a)=.returned (.bool b):=by rw[h]
def Ext(w w':World):Prop:=Below w.heap.size w w'∧w.drawn≤w'.drawn
theorem Ext.below{w w':World}(h:Ext w w'):Below w.heap.size w w':=h.1
theorem Ext.size{w w':World}(h:Ext w w'):w.heap.size≤w'.heap.size:=h.1.size
theorem Ext.refl(w:World):Ext w w:=⟨Below.refl _ _,Nat.le_refl _⟩
theorem Ext.trans{a b c:World}(h:Ext a b)(k:Ext b c):Ext a c:=⟨lq h.1 k.1,Nat.le_trans h.2 k.2⟩
theorem Ext.alloc{a w:World}(h:Ext a w)(o:Obj):Ext a (w.alloc o):=⟨h.1.alloc h.1.size o,h.2⟩
theorem Ext.drew{a w:World}(h:Ext a w):Ext a w.drew:=⟨h.1.drew,Nat.le_succ_of_le h.2⟩
theorem Ext.drewN{a w:World}(h:Ext a w)(n:Nat):Ext a (w.drewN n):=⟨below_drewN h.1 n,by
 have:(w.drewN n).drawn=w.drawn+n:=rfl
 have:=h.2
 omega⟩
theorem Ext.setCell{a w:World}(h:Ext a w){p:Addr}(hp:a.heap.size≤p.block)(u:Value):Ext a (w.setCell p u):=⟨h.1.setCell hp u,h.2⟩
theorem zN{a w:World}(h:Ext a w:=by repeat(first|with_reducible exact Ext.refl _|with_reducible assumption|(with_reducible refine Ext.setCell ?_ ?_ _;rotate_left;focus (first|exact Nat.le_refl _|exact Nat.le_add_right _ _|(simp;done)|(simp;omega)|omega))|with_reducible refine Ext.alloc ?_ _|with_reducible refine Ext.drew ?_|with_reducible refine Ext.drewN ?_ _|(with_reducible refine Ext.trans ?_ (by with_reducible assumption)))):Ext a w:=h
theorem mO{W w1:World}(he:Ext W w1)(g:Nat)(hg:g<W.heap.size):
 (∀o,w1.cell? ⟨g,o,none⟩=W.cell? ⟨g,o,none⟩)∧(∀o,w1.frozen? ⟨g,o,none⟩=W.frozen? ⟨g,o,none⟩)∧g<w1.heap.size:=
 ⟨fun o=>he.1.cell (p:=⟨g,o,none⟩) hg,fun o=>he.1.frozen (p:=⟨g,o,none⟩) hg,Nat.lt_of_lt_of_le hg he.1.size⟩
theorem bI{W w1:World}(hb:Below W.heap.size W w1)(g:Nat)(hg:g<W.heap.size):
 (∀o,w1.cell? ⟨g,o,none⟩=W.cell? ⟨g,o,none⟩)∧(∀o,w1.frozen? ⟨g,o,none⟩=W.frozen? ⟨g,o,none⟩)∧g<w1.heap.size:=
 ⟨fun o=>hb.cell (p:=⟨g,o,none⟩) hg,fun o=>hb.frozen (p:=⟨g,o,none⟩) hg,Nat.lt_of_lt_of_le hg hb.size⟩
/-! VS that draw their order, whose operations read and whose callees only make new memory: one walk in the order of the text. -/
structure bY (w:World) where
 u:World
 h:Below w.heap.size w u
instance (w:World):Inhabited (bY w):=⟨⟨w,Below.refl _ _⟩⟩
theorem af{P:Program}{id:Nat}{Q:Exit→Act→World→Prop}{a:Act}{w:World}{l:List Oper}(hm:P.follows .mixedOrders=true)(hB:Region.lexB .any l.toArray=true)
 (h:wpQuiet P l.toArray (fun w' =>∃x:bY w,w'=x.u) (fun a' =>∀w',Below w.heap.size w w'→Q .normal a' w') l a):(Code.region id l.toArray true).wp P Q a w:=by
 have e:(fun a' =>∀w',Below w.heap.size w w'→Q .normal a' w')=(fun a' =>∀w',(∃x:bY w,w'=x.u)→Q .normal a' w'):=by
  funext a'
  apply propext
  exact⟨fun h w' ⟨x,hx⟩=>by subst hx;exact h _ x.h,fun h w' hb=>h w' ⟨⟨w',hb⟩,rfl⟩⟩
 rw[e]at h
 exact wp_region_quiet (C:=fun w' =>∃x:bY w,w'=x.u) hm hB ⟨⟨w.drew,(Below.refl _ _).drew⟩,rfl⟩ ab
theorem dK{P:Program}{f:FuncId}{args:Array Value}{w:World}{x:bY w}{v:Value}
 (h:Calls P f args x.u fun e w'=>e=.returned v∧Below x.u.heap.size x.u w'):Calls P f args x.u fun e w''=>e=.returned v ∧ ∃y:bY w,w''=y.u:=
 h.mono fun _ w' ⟨he,hb⟩=>⟨he,⟨w',lq x.h hb⟩,rfl⟩
theorem aZ{P:Program}{f:FuncId}{args:Array Value}{w:World}{x:bY w}{v:Value}
 (h:Calls P f args x.u fun e w'=>e=.returned v∧Ext x.u w'):Calls P f args x.u fun e w''=>e=.returned v ∧ ∃y:bY w,w''=y.u:=
 h.mono fun _ w' ⟨he,hb⟩=>⟨he,⟨w',lq x.h hb.1⟩,rfl⟩
theorem bW{P:Program}{f:FuncId}{args:Array Value}{w:World}{x:bY w}{v:Value}
 (h:Calls P f args x.u fun e w'=>e=.returned v∧x.u=w'):Calls P f args x.u fun e w''=>e=.returned v ∧ ∃y:bY w,w''=y.u:=
 h.mono fun _ _ ⟨he,hb⟩=>⟨he,x,hb.symm⟩
theorem aD{w:World}(g:Nat)(hg:g<w.heap.size):∀(x:bY w) (o:Nat),x.u.cell? ⟨g,o,none⟩=w.cell? ⟨g,o,none⟩:=
 fun x o=>x.h.cell (p:=⟨g,o,none⟩) hg
/-! A slice of structs, read as a list. -/
def ag{α:Type}(w:World)(B:Nat)(enc:α→List Value)(k:Nat)(A:Option Addr)(l:List α):Prop:=
 0<l.length→∃b o,A=some ⟨b,o,none⟩∧b<B ∧ ∀i (h:i<l.length) j u,(enc l[i])[j]?=some u→w.cell? ⟨b,o+(i*k+j),none⟩=some u
section
variable {α:Type}{w w':World}{B B':Nat}{enc:α→List Value}{k:Nat}{A:Option Addr}{l:List α}
theorem ag.nil:ag w B enc k A []:=fun h=>absurd h (by simp)
theorem ag.below(h:ag w B enc k A l)(hb:Below B w w'):ag w' B enc k A l:=by
 intro hl
 obtain⟨b,o,rfl,hB,hc⟩:=h hl
 exact⟨b,o,rfl,hB,fun i hi j u hu=>(hb.cell (by exact hB)).trans (hc i hi j u hu)⟩
theorem ag.mono(h:ag w B enc k A l)(hB:B≤B'):ag w B' enc k A l:=by
 intro hl
 obtain⟨b,o,rfl,hb,hc⟩:=h hl
 exact⟨b,o,rfl,by omega,hc⟩
theorem ag.next(h:ag w w.heap.size enc k A l)(hb:Below w.heap.size w w'):ag w' w'.heap.size enc k A l:=
 (h.below hb).mono hb.size
theorem ag.get(h:ag w B enc k A l){i:Nat}(hi:i<l.length):∃b o,A=some ⟨b,o,none⟩∧b<B ∧ ∀j u,(enc l[i])[j]?=some u→w.cell? ⟨b,o+i*k+j,none⟩=some u:=by
 obtain⟨b,o,rfl,hb,hc⟩:=h (by omega)
 exact⟨b,o,rfl,hb,fun j u hu=>by rw[Nat.add_assoc];exact hc i hi j u hu⟩
end
/-! The cells of the data. -/
def Val.cells(x:Val):List Value:= [.int .i64 x.kind,.int .i64 x.num,.string x.text]
def Ident.cells(x:Ident):List Value:= [.string x.ns,.int .i64 x.val.kind,.int .i64 x.val.num,.string x.val.text]
def Link.cells(x:Link):List Value:= [.string x.a.ns,.int .i64 x.a.val.kind,.int .i64 x.a.val.num,.string x.a.val.text,.string x.b.ns,.int .i64 x.b.val.kind,.int .i64 x.b.val.num,.string x.b.val.text,.int .i64 x.seq,.bool x.rev]
theorem Ident.fe{w:World}{b o:Nat}{x:Ident}(h:∀j u,x.cells[j]?=some u→w.cell? ⟨b,o+j,none⟩=some u):
 w.cell? ⟨b,o,none⟩=some (.string x.ns)∧w.cell? ⟨b,o+1,none⟩=some (.int .i64 x.val.kind)∧w.cell? ⟨b,o+2,none⟩=some (.int .i64 x.val.num)∧w.cell? ⟨b,o+3,none⟩=some (.string x.val.text):=
 ⟨h 0 _ rfl,h 1 _ rfl,h 2 _ rfl,h 3 _ rfl⟩
theorem nbA{P:Prop}(h:P:=by first|exact Blk.new' (by simp;done)|exact(Blk.new' (by simp;done)).drew|exact(Blk.new' (by simp;done)).alloc _|exact((Blk.new' (by simp;done)).alloc _).drew):P:=h
theorem ncA{P:Prop}(h:P:=by first|exact((Blk.new' rfl).alloc _).drew|exact(Blk.new' rfl).alloc _):P:=h
theorem ndA{P:Prop}(h:P:=by first|exact(Blk.new' (by simp)).drew|exact Blk.new' (by simp)):P:=h
theorem neA{P:Prop}(h:P:=by first|exact(Blk.new' rfl).drew|exact Blk.new' rfl):P:=h
theorem nfA{P:Prop}(h:P:=by first|exact hown1|exact hown1.alloc _):P:=h
theorem ngA{P:Prop}(h:P:=by have:=hb1.size;simp;omega):P:=h
theorem mxA{P:Prop}(h:P:=by simp[maxLen];omega):P:=h
theorem krA{P:Prop}(h:P:=by kernel_rfl):P:=h
theorem smA{P:Prop}(h:P:=by simp;omega):P:=h
theorem sdA{P:Prop}(h:P:=by simp;done):P:=h
theorem inA{P:Prop}(h:P:=by intro e;injection e with e;omega):P:=h
theorem inB{P:Prop}(h:P:=by intro q e;injection e with e;omega):P:=h
theorem omA{P:Prop}(h:P:=by omega):P:=h
theorem spA{P:Prop}(h:P:=by simp):P:=h
theorem gE3{α:Type}:(∀(l:List α) (i:Nat),l.toArray[i]?=l[i]?)∧(∀(a:α) (l:List α),(a::l)[0]?=some a)∧(∀(a:α) (l:List α) (i:Nat),(a::l)[i+1]?=l[i]?):=⟨fun _ _=>List.getElem?_toArray,fun _ _=>List.getElem?_cons_zero,fun _ _ _=>List.getElem?_cons_succ⟩
theorem gP6{α:Type}:(∀(l:List α) (i:Nat) (h:i<l.toArray.size),l.toArray[i]=l[i]' ab)∧(∀(a:α) (l:List α) (h:0<(a::l).length),(a::l)[0]=a)∧(∀(a:α) (l:List α) (i:Nat) (h:i+1<(a::l).length),(a::l)[i+1]=l[i]' ab)∧(∀(l:List α) (i:Nat) (a:α),l.toArray.setIfInBounds i a=(l.set i a).toArray)∧(∀(a b:α) (l:List α),(a::l).set 0 b=b::l)∧(∀(a b:α) (l:List α) (i:Nat),(a::l).set (i+1) b=a::l.set i b):=⟨fun _ _ h=>List.getElem_toArray h,fun _ _ _=>rfl,fun _ _ _ _=>rfl,fun _ _ _=>List.setIfInBounds_toArray ..,fun _ _ _=>rfl,fun _ _ _ _=>rfl⟩
theorem lgm{α:Type}{l:List α}{i:Nat}(h:i<l.length):l[i]∈l:=List.getElem_mem h
theorem nlr{n:Nat}:n≤n:=Nat.le_refl n
theorem brf{B:Nat}{w:World}:Below B w w:=Below.refl _ _
theorem meA{p:Prop}(h:p:=by simp[intOf];omega):p:=h
open Go.RowKit Go
section
variable {P:Program}{ops:Array Oper}{Q:Exit→Act→World→Prop}{md:Region.Mode}{S:World→Prop}
theorem tkH(i:Nat){oi:Oper}{v:Value}{n:Nat}{listed:Array Bool}{a a':Act}{w:World}(hS:S w)(h:wpAnyH P md ops Q S n (listed.setIfInBounds i true) a' w)
 (hi:ops[i]?=some oi:=by exact rfl) (hs:Region.noSelect ops=true:=by kernel_rfl) (hf:Region.free md ops listed i=true:=by kernel_rfl) (hr:(Region.ready md ops listed).contains i=true:=by kernel_rfl)
 (hQ:∀c a w,Q (.panic c) (a.put oi.dst v) w→Q (.panic c) a w:=by exact fun _ _ _ h=>h) (hn:Region.wanted oi (yielded ops a.tmps)=true:=by kernel_rfl)
 (hy:∀w,S w→(execOp a.eval oi).run P w=.ok (.value v) w:=by(intro w hSw;(try dsimp only at hSw);go_simp;first|done|with_reducible rfl))
 (ha:a.put oi.dst v=a':=by((try simp only[Act.put,gP6]);exact rfl)):wpAnyH P md ops Q S (n+1) listed a w:=
 wpAnyH_take hi hs hf hr hQ (Or.inl ⟨hn,hy⟩) hS (ha▸h)
end
open Go.RowKit Go
theorem qU{P:Program}{fn:Func}{t t':Array Value}{R:Ending→World→Prop}(ht:results fn t=results fn t'):∀(ds:List Deferred) (u:FrameMode) (w:World),Leaves P fn t R ds u w→Leaves P fn t' R ds u w
 | [],.returning,w,h=>by obtain⟨v,h1,h2⟩:=h;exact⟨v,by rw[←ht];exact h1,h2⟩
 | [],.panicking _,w,h=>h
 | [],.run,w,h=>h
 | d::ds,u,w,h=>by
   obtain⟨h1,fv,cap,f,args,h2,h3,h4⟩:=h
   refine⟨h1,fv,cap,f,args,h2,h3,h4.mono fun e u' w' h5 =>?_⟩
   cases e with
   | returned _=>exact qU ht ds _ _ h5
   | panicked _=>exact qU ht ds _ _ h5
   | outgrown=>exact h5
theorem fw{P:Program}{fn:Func}{R:Ending→World→Prop}{d:Nat}{v:Value}(hd:∀t:Array Value,results fn (t.setIfInBounds d v)=results fn t)(c:List PanicEntry)(a:Act)(w:World)(h:bodyPostD P fn R (.panic c) (a.put (some d) v) w):bodyPostD P fn R (.panic c) a w:=qU (hd a.tmps) _ _ _ h
def bK(x:Val):Bool:=
 if x.kind == 0 then x.num == 0&&x.text.toList.isEmpty
 else if x.kind == 1 then decide (-4294967296≤x.num)&&decide (x.num≤4294967296)&&x.text.toList.isEmpty
 else if x.kind == 2 then x.num == 0&&decide (x.text.size≤32) else false
def clean(x:Val):Val:=if bK x then x else ⟨0,0,⟨#[]⟩⟩
theorem kM{x:Val}(h:bK x=true):clean x=x:=by simp[clean,h]
theorem D8{x:Val}(h:bK x=false):clean x=⟨0,0,⟨#[]⟩⟩:=by simp[clean,h]
theorem vv(k n:Int)(t:ByteArray)(w:World):
 Calls Tryz.prog 126 #[.agg #[.int .i64 k,.int .i64 n,.string t]] w fun e w'=>e=.returned (.bool (bK ⟨k,n,t⟩))∧Ext w w':=by
 go_enter Tryz.func126,Tryz.ntmps126
 go_wp2
 all_goals go_ret
 all_goals refine⟨?_,(Ext.refl _).alloc _⟩
 all_goals refine ay ?_
 all_goals first
  | (simp[bK, *];done)
  | (simp only[bK, *];simp;omega)
theorem vI(k n:Int)(t:ByteArray)(w:World):
 Calls Tryz.prog 45 #[.agg #[.int .i64 k,.int .i64 n,.string t]] w fun e w'=>e=.returned (.bool (bK ⟨k,n,t⟩))∧Ext w w':=by
 go_enter Tryz.func45,Tryz.ntmps45
 go_wp2
 all_goals go_ret
 all_goals refine⟨?_,(Ext.refl _).alloc _⟩
 all_goals refine ay ?_
 all_goals first
  | (simp[bK, *];done)
  | (simp only[bK, *];simp;omega)
theorem Cy(k n:Int)(t:ByteArray)(w:World):
 Calls Tryz.prog 167 #[.agg #[.int .i64 k,.int .i64 n,.string t]] w fun e w' =>
  e=.returned (.agg #[.int .i64 (clean ⟨k,n,t⟩).kind,.int .i64 (clean ⟨k,n,t⟩).num,.string (clean ⟨k,n,t⟩).text])∧Ext w w':=by
 go_enter Tryz.func167,Tryz.ntmps167
 go_wp2_with (go_at_call 126;refine(vv _ _ _ _).mono ?_;rintro e w1 ⟨rfl,hb⟩;obtain⟨c0,f0,z0⟩:=mO hb w.heap.size ltA;obtain⟨c1,f1,z1⟩:=mO hb (w.heap.size+1) ltA)
 ·have h:bK ⟨k,n,t⟩=true:=by assumption
  refine bodyPost_ret (v:= .agg #[.int .i64 k,.int .i64 n,.string t]) aq rfl ⟨by rw[kM h],?_⟩
  exact zN
 ·have h:bK ⟨k,n,t⟩=false:=by assumption
  refine bodyPost_ret (v:= .agg #[.int .i64 0,.int .i64 0,.string ⟨#[]⟩]) aq rfl ⟨by rw[D8 h],?_⟩
  exact zN
theorem oK(k n:Int)(t:ByteArray)(w:World):
 Calls Tryz.prog 131 #[.agg #[.int .i64 k,.int .i64 n,.string t]] w fun e w' =>
  e=.returned (.agg #[.int .i64 (clean ⟨k,n,t⟩).kind,.int .i64 (clean ⟨k,n,t⟩).num,.string (clean ⟨k,n,t⟩).text])∧Ext w w':=by
 go_enter Tryz.func131,Tryz.ntmps131
 go_wp2_with (go_at_call 45;refine(vI _ _ _ _).mono ?_;rintro e w1 ⟨rfl,hb⟩;obtain⟨c0,f0,z0⟩:=mO hb w.heap.size ltA;obtain⟨c1,f1,z1⟩:=mO hb (w.heap.size+1) ltA)
 ·have h:bK ⟨k,n,t⟩=true:=by assumption
  refine bodyPost_ret (v:= .agg #[.int .i64 k,.int .i64 n,.string t]) ar rfl ⟨by rw[kM h],?_⟩
  exact zN
 ·have h:bK ⟨k,n,t⟩=false:=by assumption
  refine bodyPost_ret (v:= .agg #[.int .i64 0,.int .i64 0,.string ⟨#[]⟩]) ar rfl ⟨by rw[D8 h],?_⟩
  exact zN
def gq(a b:Int):Int:=if a<b then -1 else if b<a then 1 else 0
def jg(a b:ByteArray):Int:=if Op.bytesLess a.toList b.toList then -1 else if Op.bytesLess b.toList a.toList then 1 else 0
def aT(a b:Val):Int:=
 if (clean a).kind != (clean b).kind then gq (clean a).kind (clean b).kind
 else if (clean a).kind == 1 then gq (clean a).num (clean b).num
 else if (clean a).kind == 2 then jg (clean a).text (clean b).text else 0
theorem qM:∀(a b:List UInt8),(!(Op.bytesLess a b||a==b))=Op.bytesLess b a
 | [],[]=>rfl
 | [],_::_=>rfl
 | _::_,[]=>rfl
 | x::a,y::b=>by
   have ih:=qM a b
   simp only[Op.bytesLess]
   by_cases h:x=y
   ·subst h
    simp[UInt8.lt_irrefl]at ih ⊢
    exact ih
   ·by_cases h1:x<y
    ·have h2:¬ y<x:=UInt8.lt_asymm h1
     have h3:¬ y=x:=fun e=>h e.symm
     simp[h1,h2,h3]
    ·have h2:y<x:=UInt8.lt_of_le_of_ne (UInt8.not_lt.1 h1) (Ne.symm h)
     simp[h,h1,h2]
theorem vS:∀(a b:List UInt8),Lib.compareBytes a b=if Op.bytesLess a b then -1 else if Op.bytesLess b a then 1 else 0
 | [],[]=>rfl
 | [],_::_=>rfl
 | _::_,[]=>rfl
 | x::a,y::b=>by
   have ih:=vS a b
   simp only[Op.bytesLess,Lib.compareBytes,ih]
   by_cases h:x=y
   ·subst h;simp[UInt8.lt_irrefl]
   ·by_cases h1:x<y
    ·simp[h1]
    ·have h2:y<x:=UInt8.lt_of_le_of_ne (UInt8.not_lt.1 h1) (Ne.symm h)
     simp[h,h1,h2]
theorem qw(a b:ByteArray):Lib.compareBytes a.data.toList b.data.toList=jg a b:=by
 rw[vS,jg,ByteArray.toList_eq,ByteArray.toList_eq]
theorem O9(a b:Int)(w:World):Calls Tryz.prog 156 #[.int .i64 a,.int .i64 b] w fun e w'=>e=.returned (.int .i64 (gq a b))∧w=w':=by
 go_enter Tryz.func156,Tryz.ntmps156
 go_wp2
 all_goals go_ret
 all_goals refine⟨aS ?_,rfl⟩
 all_goals unfold gq
 all_goals(repeat(first|omega|rfl|split))
theorem Jh(a b:Int)(w:World):Calls Tryz.prog 168 #[.int .i64 a,.int .i64 b] w fun e w'=>e=.returned (.int .i64 (gq a b))∧w=w':=by
 go_enter Tryz.func168,Tryz.ntmps168
 go_wp2
 all_goals go_ret
 all_goals refine⟨aS ?_,rfl⟩
 all_goals unfold gq
 all_goals(repeat(first|omega|rfl|split))
def wM(B:Nat)(a b:Val)(w:World):Prop:=
 w.cell? ⟨B,0,none⟩=some (.int .i64 a.kind)∧w.cell? ⟨B,1,none⟩=some (.int .i64 a.num)∧w.cell? ⟨B,2,none⟩=some (.string a.text) ∧
 w.cell? ⟨B+1,0,none⟩=some (.int .i64 b.kind)∧w.cell? ⟨B+1,1,none⟩=some (.int .i64 b.num)∧w.cell? ⟨B+1,2,none⟩=some (.string b.text)
theorem zo(k n k' n':Int)(t t':ByteArray)(w:World):
 Calls Tryz.prog 135 #[.agg #[.int .i64 k,.int .i64 n,.string t],.agg #[.int .i64 k',.int .i64 n',.string t']] w fun e w' =>
  e=.returned (.int .i64 (aT ⟨k,n,t⟩ ⟨k',n',t'⟩))∧Ext w w':=by
 go_enter Tryz.func135,Tryz.ntmps135
 go_upto_region 1 with (fail)
 go_cut [] (fun wc=>Ext w wc∧wM w.heap.size (clean ⟨k,n,t⟩) (clean ⟨k',n',t'⟩) wc)
 case first =>
  go_region_with (go_at_call 167;refine(Cy _ _ _ _).mono ?_;rintro e w1 ⟨rfl,hb⟩;obtain⟨c0,f0,z0⟩:=mO hb w.heap.size ltA;obtain⟨c1,f1,z1⟩:=mO hb (w.heap.size+1) ltA)
  all_goals(go_wp2_with fail;go_meet;refine⟨by exact zN,by unfold wM;go_light;go_simp⟩)
 case rest =>
  obtain⟨hx,h1,h2,h3,h4,h5,h6⟩:=hcut
  go_wp2_with (first|(go_at_call 156;refine(O9 _ _ _).mono ?_;rintro e w1 ⟨rfl,rfl⟩)|(go_at_call 168;refine(Jh _ _ _).mono ?_;rintro e w1 ⟨rfl,rfl⟩)|(go_at_call 169;refine(Tryz.strings_Compare _ _ _).mono ?_;rintro e w1 ⟨rfl,rfl⟩))
  all_goals go_ret
  all_goals refine⟨aS ?_,hx⟩
  all_goals(try rw[qw])
  all_goals(simp[aT, *];done)
theorem MV(x y:Val)(w:World):(Op.equalIn 10000 50 (.agg #[.int .i64 x.kind,.int .i64 x.num,.string x.text]) (.agg #[.int .i64 y.kind,.int .i64 y.num,.string y.text])).run Tryz.prog w=.ok (decide (x=y)) w:=by
 have hS:Tryz.prog.underlying 50=some (.struct (Tryz.prog.fieldsOf 50)):=by kernel_rfl
 have hp:Tryz.prog.stoodInHeld 50=false:=by kernel_rfl
 have u2:=Tryz.underlying2
 have u3:=Tryz.underlying3
 have u9:=Tryz.underlying9
 rw[show (10000:Nat)=9999+1 from rfl,run_equalIn_agg w _ 50 _ _ hS hp]
 simp only[Program.fieldsOf,Tryz.underlying50]
 go_simp
 obtain⟨a,b,c⟩:=x
 obtain⟨a',b',c'⟩:=y
 simp only[Val.mk.injEq]
 by_cases h1:a=a'<;>by_cases h2:b=b'<;>by_cases h3:c=c'<;>simp[h1,h2,h3,JU]
def ES(a b:Val):Int:=
 if a=b then 0 else if decide (a.kind<b.kind)||(a.kind==b.kind&&(decide (a.num<b.num)||Op.bytesLess a.text.toList b.text.toList)) then -1 else 1
theorem lW(a:Val):bK (clean a)=true:=by
 unfold clean
 split
 ·assumption
 ·simp[bK,ByteArray.toList_eq]
theorem xY{t:ByteArray}(h:t.toList.isEmpty=true):t=⟨#[]⟩:=by
 apply rF
 simp at h
 rw[h,ByteArray.toList_eq]
theorem nu{x:Val}(h:bK x=true):x=⟨0,0,⟨#[]⟩⟩∨(∃n,x=⟨1,n,⟨#[]⟩⟩ ∧ -4294967296≤n∧n≤4294967296)∨(∃t,x=⟨2,0,t⟩∧t.size≤32):=by
 obtain⟨k,n,t⟩:=x
 unfold bK at h
 simp only at h
 split at h
 ·simp only[Bool.and_eq_true,beq_iff_eq]at *
  left
  obtain⟨h1,h2⟩:=h
  rw[xY h2]
  simp[*]
 ·split at h
  ·simp only[Bool.and_eq_true,beq_iff_eq,decide_eq_true_eq]at *
   right;left
   obtain⟨⟨h1,h2⟩,h3⟩:=h
   exact⟨n,by rw[xY h3];simp[*],h1,h2⟩
  ·split at h
   ·simp only[Bool.and_eq_true,beq_iff_eq,decide_eq_true_eq]at *
    right;right
    exact⟨t,by simp[*],h.2⟩
   ·cases h
theorem mW:∀a:List UInt8,Op.bytesLess a a=false
 | []=>rfl
 | x::a=>by simp[Op.bytesLess,UInt8.lt_irrefl,mW a]
theorem Ik(a b:Val):ES (clean a) (clean b)=aT a b:=by
 have ha:=nu (lW a)
 have hb:=nu (lW b)
 unfold aT
 generalize clean a=c at *
 generalize clean b=d at *
 unfold ES gq jg
 rcases ha with rfl|⟨n,rfl,_,_⟩|⟨t,rfl,_⟩<;>rcases hb with rfl|⟨n',rfl,_,_⟩|⟨t',rfl,_⟩
 ·simp
 ·simp
 ·simp
 ·simp
 ·simp only[Val.mk.injEq]
  by_cases h1:n=n'
  ·simp[h1]
  ·by_cases h2:n<n'
   ·simp[h1,h2]
   ·have h3:n'<n:=by omega
    simp[h1,h2,h3,Op.bytesLess]
 ·simp
 ·simp
 ·simp
 ·simp only[Val.mk.injEq]
  by_cases h1:t=t'
  ·simp[h1,mW]
  ·have h2:=qM t.toList t'.toList
   have h3:¬ t.toList=t'.toList:=fun e=>h1 (rF e)
   by_cases h4:Op.bytesLess t.toList t'.toList=true
   ·simp[h1,h4]
   ·have h5:(t.toList==t'.toList)=false:=by simpa using h3
    rw[h5]at h2
    have h6:Op.bytesLess t'.toList t.toList=true:=by
     rw[←h2];simpa using h4
    simp[h1,h4,h6]
theorem qE(k n k' n':Int)(t t':ByteArray)(w:World):
 Calls Tryz.prog 89 #[.agg #[.int .i64 k,.int .i64 n,.string t],.agg #[.int .i64 k',.int .i64 n',.string t']] w fun e w' =>
  e=.returned (.int .i64 (aT ⟨k,n,t⟩ ⟨k',n',t'⟩))∧Ext w w':=by
 have heq:=MV (clean ⟨k,n,t⟩) (clean ⟨k',n',t'⟩)
 have hg:Tryz.prog.eqGuardType Tryz.prog.depth 50=false:=by kernel_rfl
 go_enter Tryz.func89,Tryz.ntmps89
 go_upto_region 1 with (fail)
 go_cut [] (fun wc=>Ext w wc∧wM w.heap.size (clean ⟨k,n,t⟩) (clean ⟨k',n',t'⟩) wc)
 case first =>
  go_region_with (go_at_call 131;refine(oK _ _ _ _).mono ?_;rintro e w1 ⟨rfl,hb⟩;obtain⟨c0,f0,z0⟩:=mO hb w.heap.size ltA;obtain⟨c1,f1,z1⟩:=mO hb (w.heap.size+1) ltA)
  all_goals(go_wp2_with fail;go_meet;refine⟨by exact zN,by unfold wM;go_light;go_simp⟩)
 case rest =>
  obtain⟨hx,h1,h2,h3,h4,h5,h6⟩:=hcut
  set_option maxRecDepth 100000 in
  go_wp2_with fail
  all_goals go_ret
  all_goals(refine⟨aS ?_,hx⟩;rw[←Ik];clear heq hg h1 h2 h3 h4 h5 h6 hx;go_light;generalize clean ⟨k,n,t⟩=c at *;generalize clean ⟨k',n',t'⟩=d at *;unfold ES)
  all_goals first
   | (simp_all;done)
   | (simp_all;omega)
theorem Im(n:Int)(w:World):
 Calls Tryz.prog 221 #[.int .i64 n] w fun e w'=>e=.returned (.agg #[.int .i64 (clean ⟨1,n,⟨#[]⟩⟩).kind,.int .i64 (clean ⟨1,n,⟨#[]⟩⟩).num,.string (clean ⟨1,n,⟨#[]⟩⟩).text])∧Ext w w':=by
 go_enter Tryz.func221,Tryz.ntmps221
 go_wp2_with (go_at_call 131;refine(oK _ _ _ _).mono ?_;rintro e w1 ⟨rfl,hb⟩;obtain⟨c0,f0,z0⟩:=mO hb w.heap.size ltA)
 refine bodyPost_ret (v:= .agg #[.int .i64 (clean ⟨1,n,⟨#[]⟩⟩).kind,.int .i64 (clean ⟨1,n,⟨#[]⟩⟩).num,.string (clean ⟨1,n,⟨#[]⟩⟩).text]) (by simp[results,Tryz.results221,go_sem,c0]) rfl ⟨rfl,?_⟩
 exact zN
theorem EW(s:ByteArray)(w:World):
 Calls Tryz.prog 220 #[.string s] w fun e w'=>e=.returned (.agg #[.int .i64 (clean ⟨2,0,s⟩).kind,.int .i64 (clean ⟨2,0,s⟩).num,.string (clean ⟨2,0,s⟩).text])∧Ext w w':=by
 go_enter Tryz.func220,Tryz.ntmps220
 go_wp2_with (go_at_call 131;refine(oK _ _ _ _).mono ?_;rintro e w1 ⟨rfl,hb⟩;obtain⟨c0,f0,z0⟩:=mO hb w.heap.size ltA)
 refine bodyPost_ret (v:= .agg #[.int .i64 (clean ⟨2,0,s⟩).kind,.int .i64 (clean ⟨2,0,s⟩).num,.string (clean ⟨2,0,s⟩).text]) (by simp[results,Tryz.results220,go_sem,c0]) rfl ⟨rfl,?_⟩
 exact zN
def Df(c:Int):Bool:=decide (97≤c)&&decide (c≤122)
def Jc(c:Int):Bool:=decide (48≤c)&&decide (c≤57)
def qa(c:Int):Bool:=Df c||Jc c||c == 95
def rE(s:ByteArray)(k:Nat):Int:=if h:k<s.size then (s[k].toNat:Int) else 0
def qp(s:ByteArray)(k:Nat):Bool:=Df (rE s k)||(decide (0<k)&&(Jc (rE s k)||rE s k == 95))
def uf(s:ByteArray)(n:Nat):Bool:=(List.range n).all (qp s)
def dX(s:ByteArray):Bool:=decide (s.size≠0)&&decide (s.size≤16)&&uf s s.size
theorem uW{s:ByteArray}{k:Nat}(h:k<s.size):rE s k=(s[k].toNat:Int):=dif_pos h
theorem zb(s:ByteArray)(n:Nat):uf s (n+1)=(uf s n&&qp s n):=by
 unfold uf;rw[List.range_succ,List.all_append];simp
theorem ze{s:ByteArray}{n k:Nat}(h:qp s k=false)(hk:k<n):uf s n=false:=by
 unfold uf
 rw[List.all_eq_false]
 exact⟨k,by simpa using hk,by simp[h]⟩
theorem xR(c:Int)(w:World):Calls Tryz.prog 254 #[.int .u8 c] w fun e w'=>e=.returned (.bool (Df c))∧w=w':=by
 go_enter Tryz.func254,Tryz.ntmps254
 go_wp2
 all_goals go_ret
 all_goals refine⟨ay ?_,rfl⟩
 all_goals(unfold Df;simp;try omega)
theorem zC(c:Int)(w:World):Calls Tryz.prog 255 #[.int .u8 c] w fun e w'=>e=.returned (.bool (Jc c))∧w=w':=by
 go_enter Tryz.func255,Tryz.ntmps255
 go_wp2
 all_goals go_ret
 all_goals refine⟨ay ?_,rfl⟩
 all_goals(unfold Jc;simp;try omega)
theorem nH(c:Int)(w:World):Calls Tryz.prog 170 #[.int .u8 c] w fun e w'=>e=.returned (.bool (Df c))∧w=w':=by
 go_enter Tryz.func170,Tryz.ntmps170
 go_wp2
 all_goals go_ret
 all_goals refine⟨ay ?_,rfl⟩
 all_goals(unfold Df;simp;try omega)
theorem zA(c:Int)(w:World):Calls Tryz.prog 215 #[.int .u8 c] w fun e w'=>e=.returned (.bool (Jc c))∧w=w':=by
 go_enter Tryz.func215,Tryz.ntmps215
 go_wp2
 all_goals go_ret
 all_goals refine⟨ay ?_,rfl⟩
 all_goals(unfold Jc;simp;try omega)
theorem Bi(c:Int)(w:World):Calls Tryz.prog 171 #[.int .u8 c] w fun e w'=>e=.returned (.bool (qa c))∧w=w':=by
 go_enter Tryz.func171,Tryz.ntmps171
 go_wp2_with (first|(go_at_call 170;refine(nH _ _).mono ?_;rintro e w1 ⟨rfl,rfl⟩)|(go_at_call 215;refine(zA _ _).mono ?_;rintro e w1 ⟨rfl,rfl⟩))
 all_goals go_ret
 all_goals refine⟨ay ?_,rfl⟩
 all_goals(simp_all[qa])
theorem uG(s:ByteArray)(w:World)(hs:s.size≤1000000):
 Calls Tryz.prog 244 #[.string s] w fun e w'=>(∃k:Nat,e=.returned (.int .i64 k)∧decide (k=s.size)=uf s s.size)∧w=w':=by
 go_enter Tryz.func244,Tryz.ntmps244
 go_wp2
 go_loop [3] (fun i =>∃k:Nat,k≤s.size∧i=.int .i64 k∧uf s k=true) (fun i=>s.size-(intOf i).toNat)
 case atStart=>exact⟨0,Nat.zero_le _,rfl,rfl⟩
 case round =>
  obtain⟨k,hk,rfl,hok⟩:=hrel
  have HOK:=qh hok
  clear hok
  by_cases hlt:k<s.size
  ·have hb:=uW hlt
   have HB:=qh hb
   clear hb
   have hr:0≤(s[k].toNat:Int)∧(s[k].toNat:Int)≤255:=by have:=s[k].toNat_lt;omega
   go_wp2_with (first|(go_at_call 254;refine(xR _ _).mono ?_;rintro e w1 ⟨rfl,rfl⟩)|(go_at_call 255;refine(zC _ _).mono ?_;rintro e w1 ⟨rfl,rfl⟩))
   all_goals first
    | (have FJ:qp s k=true:=by(rw[qp,HB.out];simp_all)
       go_round
       case rel=>exact⟨k+1,by omega,by go_num,by rw[zb,HOK.out,FJ];rfl⟩
       case measure=>exact meA)
    | (have FJ:qp s k=false:=by(rw[qp,HB.out];simp_all)
       go_ret
       refine⟨⟨k,rfl,?_⟩,rfl⟩
       rw[ze FJ hlt]
       simp;omega)
  ·go_wp2
   go_ret
   obtain rfl:k=s.size:=by omega
   exact⟨⟨s.size,rfl,by simp[HOK.out]⟩,rfl⟩
theorem sO(s:ByteArray)(w:World)(hs:s.size≤1000000):
 Calls Tryz.prog 222 #[.string s] w fun e w'=>e=.returned (.bool (dX s))∧w=w':=by
 have hsz:s.toList.length=s.size:=by rw[ByteArray.toList_eq];rfl
 have HSZ:=qh hsz
 clear hsz
 by_cases h0:s.toList=[]
 ·have hz:s.size=0:=by rw[←HSZ.out,h0];rfl
  have h1:s.toList.isEmpty=true:=by simp[h0]
  have HZ:=qh hz
  clear hz
  go_enter Tryz.func222,Tryz.ntmps222
  go_wp2_with fail
  go_ret
  exact⟨ay (by simp[dX,HZ.out]),rfl⟩
 ·have h1:s.toList.isEmpty=false:=by simpa using h0
  have hz:s.size≠0:=fun e=>h0 (List.eq_nil_of_length_eq_zero (by rw[HSZ.out,e]))
  have h2:0<s.size:=by omega
  clear hz
  by_cases h16:(s.size:Int)≤16
  ·have hd:decide ((s.size:Int)≤16)=true:=by simpa using h16
   go_enter Tryz.func222,Tryz.ntmps222
   go_wp2_with (go_at_call 244;refine(uG _ _ hs).mono ?_;rintro e w1 ⟨⟨q,rfl,hq⟩,rfl⟩;have HQ:=qh hq;clear hq)
   go_ret
   refine⟨ay ?_,rfl⟩
   have e1:((q:Int)==(s.size:Int))=decide (q=s.size):=by
    rw[Bool.eq_iff_iff];simp;omega
   have e2:decide (s.size≠0)=true:=decide_eq_true omA
   have e3:decide (s.size≤16)=true:=by simp;omega
   rw[e1,HQ.out,dX,e2,e3]
   rfl
  ·have hd:decide ((s.size:Int)≤16)=false:=by simpa using h16
   go_enter Tryz.func222,Tryz.ntmps222
   go_wp2_with fail
   go_ret
   refine⟨ay ?_,rfl⟩
   have e3:decide (s.size≤16)=false:=by simp;omega
   rw[dX,e3]
   simp
theorem uD(s:ByteArray):qp s 0=Df (rE s 0):=by simp[qp]
theorem Da{s:ByteArray}{k:Nat}(h:0<k):qp s k=qa (rE s k):=by
 simp[qp,qa,h,Bool.or_assoc]
theorem NS(s:ByteArray)(k:Nat)(h:qp s 0=true):qp s k=qa (rE s k):=by
 rcases Nat.eq_zero_or_pos k with rfl|hk
 ·rw[h];rw[uD]at h;simp[qa,h]
 ·exact Da hk
theorem Bj(s:ByteArray)(w:World)(hs:s.size≤1000000):
 Calls Tryz.prog 137 #[.string s] w fun e w'=>e=.returned (.bool (dX s))∧w=w':=by
 by_cases h0:s.size=0
 ·have h1:((s.size:Int) == 0)=true:=by simp[h0]
  have HZ:=qh h0
  clear h0
  go_enter Tryz.func137,Tryz.ntmps137
  go_wp2_with fail
  go_ret
  exact⟨ay (by simp[dX,HZ.out]),rfl⟩
 ·have h1:((s.size:Int) == 0)=false:=by simp[h0]
  have h2:0<s.size:=by omega
  have hb:=uW h2
  have HB:=qh hb
  clear hb
  by_cases h16:(s.size:Int)≤16
  ·cases hl:Df (s[0].toNat:Int)
   ·go_enter Tryz.func137,Tryz.ntmps137
    go_wp2_with (go_at_call 170;refine(nH _ _).mono ?_;rintro e w1 ⟨rfl,rfl⟩)
    go_ret
    refine⟨ay ?_,rfl⟩
    rw[dX,ze (k:= 0) (by rw[uD,HB.out,hl]) h2]
    simp
   ·have hok:qp s 0=true:=by rw[uD,HB.out,hl]
    have HOK:=qh hok
    clear hok
    have HL:=qh hl
    go_enter Tryz.func137,Tryz.ntmps137
    go_wp2_with (go_at_call 170;refine(nH _ _).mono ?_;rintro e w1 ⟨rfl,rfl⟩)
    clear hl
    go_loop [3] (fun i =>∃k:Nat,k≤s.size∧i=.int .i64 k∧uf s k=true) (fun i=>s.size-(intOf i).toNat)
    case atStart=>exact⟨0,Nat.zero_le _,rfl,rfl⟩
    case round =>
     obtain⟨k,hk,rfl,hok⟩:=hrel
     have VE:=qh hok
     clear hok
     by_cases hlt:k<s.size
     ·have hb:=uW hlt
      have HB':=qh hb
      clear hb
      have hi:=NS s k HOK.out
      have HI:=qh hi
      clear hi
      go_wp2_with (go_at_call 171;refine(Bi _ _).mono ?_;rintro e w1 ⟨rfl,rfl⟩)
      all_goals first
       | (have FJ:qp s k=true:=by(rw[HI.out,HB'.out];simp_all)
          go_round
          case rel=>exact⟨k+1,by omega,by go_num,by rw[zb,VE.out,FJ];rfl⟩
          case measure=>exact meA)
       | (have FJ:qp s k=false:=by(rw[HI.out,HB'.out];simp_all)
          go_ret
          refine⟨ay ?_,rfl⟩
          rw[dX,ze FJ hlt]
          simp)
     ·go_wp2
      go_ret
      obtain rfl:k=s.size:=by omega
      have e2:decide (s.size≠0)=true:=decide_eq_true omA
      have e3:decide (s.size≤16)=true:=by simp;omega
      exact⟨ay (by rw[dX,VE.out,e2,e3];rfl),rfl⟩
  ·have h17:16<(s.size:Int):=by omega
   go_enter Tryz.func137,Tryz.ntmps137
   go_wp2_with fail
   go_ret
   refine⟨ay ?_,rfl⟩
   have e3:decide (s.size≤16)=false:=by simp;omega
   rw[dX,e3]
   simp
def ed(x:Ident):Bool:=dX x.ns&&(bK x.val&&x.val.kind != 0)
def fZ(a b:Ident):Int:=if jg a.ns b.ns != 0 then jg a.ns b.ns else aT a.val b.val
theorem cB{α:Type}{enc:α→List Value}{k:Nat}(hk:∀x,(enc x).length=k):∀l:List α,(l.flatMap enc).length=l.length*k
 | []=>by simp
 | x::l=>by rw[List.flatMap_cons,List.length_append,hk,cB hk l,List.length_cons,Nat.add_mul,Nat.one_mul,Nat.add_comm]
theorem flat_get{α:Type}{enc:α→List Value}{k:Nat}(hk:∀x,(enc x).length=k):∀(l:List α) (i:Nat) (h:i<l.length) (j:Nat) (u:Value),(enc l[i])[j]?=some u→(l.flatMap enc)[i*k+j]?=some u
 | x::l,0,_,j,u,hu=>by
   have hj:j<(enc x).length:=(List.getElem?_eq_some_iff.1 hu).1
   rw[List.flatMap_cons,Nat.zero_mul,Nat.zero_add,List.getElem?_append_left hj]
   exact hu
 | x::l,i + 1,h,j,u,hu=>by
   rw[List.flatMap_cons,Nat.add_mul,Nat.one_mul,List.getElem?_append_right (by rw[hk];omega),hk]
   have:=flat_get hk l i ab j u ao
   rw[←this]
   congr 1
   omega
theorem Hg{α:Type}{enc:α→List Value}{k:Nat}(hk:∀x,(enc x).length=k):∀(l:List α) (n:Nat) (u:Value),(l.flatMap enc)[n]?=some u→∃i,∃h:i<l.length,∃j,n=i*k+j∧(enc l[i])[j]?=some u
 | [],n,u,hu=>by simp at hu
 | x::l,n,u,hu=>by
   rw[List.flatMap_cons]at hu
   rcases Nat.lt_or_ge n (enc x).length with h|h
   ·rw[List.getElem?_append_left h]at hu
    exact⟨0,by simp,n,by simp,by simpa using hu⟩
   ·rw[List.getElem?_append_right h]at hu
    obtain⟨i,hi,j,e,hj⟩:=Hg hk l _ u hu
    rw[hk]at e h
    exact⟨i+1,by simpa using hi,j,by rw[Nat.add_mul,Nat.one_mul];omega,by simpa using hj⟩
def ah{α:Type}(w:World)(base:Nat)(e:TypeId)(enc:α→List Value)(k:Nat)(v:Value)(l:List α):Prop:=
 w.ownsRow base e k v l.length (l.flatMap enc)
section
variable {α:Type}{w w':World}{base:Nat}{e:TypeId}{enc:α→List Value}{k:Nat}{v:Value}{l:List α}
theorem ah.nil:ah w base e enc k (.slice none 0 0) ([]:List α):=World.ownsRow_nil _ _ _ _
theorem ah.form(h:ah w base e enc k v l):∃A c,v=.slice A l.length c∧l.length≤c∧(∀a,A=some a→base≤a.block∧a.block<w.heap.size):=by
 rcases h.2 with ⟨rfl,h0⟩|⟨g,cap,cur,rfl,hb,hg,hn,_⟩
 ·exact⟨none,0,by rw[h0],by omega,fun a h=>by cases h⟩
 ·refine⟨_,cap,rfl,hn,fun a h =>?_⟩
  injection h with h
  subst h
  refine⟨hb,?_⟩
  rcases Nat.lt_or_ge g w.heap.size with hlt|hge
  ·exact hlt
  ·rw[Array.getElem?_eq_none hge]at hg;cases hg
theorem ah.slice(hk:∀x,(enc x).length=k)(h:ah w base e enc k v l):∃A c,v=.slice A l.length c∧l.length≤c∧ag w w.heap.size enc k A l∧(∀a,A=some a→base≤a.block∧a.block<w.heap.size):=by
 obtain⟨A,c,hv,hc,hA⟩:=h.form
 refine⟨A,c,hv,hc,fun hl =>?_,hA⟩
 subst hv
 rcases h.2 with ⟨h1,h0⟩|⟨g,cap,cur,hv,hb,hg,hn,hm,hs,ht⟩
 ·injection h1;omega
 ·injection hv with hv1 hv2 hv3
  subst hv1
  refine⟨g,0,rfl,(hA _ rfl).2,fun i hi j u hu =>?_⟩
  have h1:=flat_get hk l i hi j u hu
  rw[←ht]at h1
  rw[Nat.zero_add]
  have h2:cur.toList[i*k+j]?=some u:=by
   rw[List.getElem?_take]at h1
   split at h1
   ·exact h1
   ·cases h1
  rw[World.cell?,hg]
  simpa using h2
theorem ah.row(h:ah w base e enc k v l):∀g,v.ownBlock=some g→base≤g:=by
 intro g hg
 obtain⟨A,c,rfl,_,hA⟩:=h.form
 cases A with
 | none=>simp[Value.ownBlock]at hg
 | some a =>
   have:a.block=g:=by simpa[Value.ownBlock]using hg
   rw[←this]
   exact(hA a rfl).1
theorem ah.alloc(h:ah w base e enc k v l)(o:Obj):ah (w.alloc o) base e enc k v l:=World.ownsRow.alloc h o
theorem ah.drew(h:ah w base e enc k v l):ah w.drew base e enc k v l:=h
theorem ah.drewN(h:ah w base e enc k v l)(n:Nat):ah (w.drewN n) base e enc k v l:=h
theorem ah.below(h:ah w base e enc k v l){B:Nat}(hb:Below B w w')(hB:w.heap.size≤B):ah w' base e enc k v l:=by
 refine⟨h.1,?_⟩
 rcases h.2 with h1|⟨g,cap,cur,hv,hbs,hg,hr⟩
 ·exact .inl h1
 ·refine .inr ⟨g,cap,cur,hv,hbs,?_,hr⟩
  have hlt:g<w.heap.size:=by
   rcases Nat.lt_or_ge g w.heap.size with hlt|hge
   ·exact hlt
   ·rw[Array.getElem?_eq_none hge]at hg;cases hg
  rw[hb.block g omA]
  exact hg
theorem ah.mono(h:ah w base e enc k v l){b':Nat}(hb:b'≤base):ah w b' e enc k v l:=by
 refine⟨h.1,?_⟩
 rcases h.2 with h1|⟨g,cap,cur,hv,hbs,hr⟩
 ·exact .inl h1
 ·exact .inr ⟨g,cap,cur,hv,by omega,hr⟩
end
theorem jV{P:Program}{α:Type}(w:World)(t ty e:TypeId)(i:TypeInfo)(z:Value)(enc:α→List Value)(k bytes:Nat)(ht:P.underlying t=some (.slice e))(hi:P.info? e=some i)(hz:i.zero=some z)
 (hsize:i.size=k) (hby:i.bytes=bytes) (hzs:z.cells.size=k) (hsz:0<k) (hk:∀x,(enc x).length=k) (h1:∀x,∀u∈enc x,u.oneCell'=true)
 (base:Nat) (v:Value) (l:List α) (hown:ah w base e enc k v l) (A:Option Addr) (m c:Nat) (l':List α) (hm:m=l'.length) (hr:ag w w.heap.size enc k A l')
 (hlen:(l.length+l'.length)*bytes≤140737488355328) (h63:l.length+l'.length≤maxLen) (hbase:base≤w.heap.size):
 ∃v' w',(Builtin.append_ #[t,t] ty #[v,.slice A m c]).run P w=.ok v' w'∧ah w' base e enc k v' (l++l')∧w.grownBy w' v.ownBlock∧(v'.ownBlock=v.ownBlock∨v'.ownBlock=some w.heap.size):=by
 subst hm
 rcases A with _|ad
 ·have h0:l'=[]:=by
   rcases Nat.eq_zero_or_pos l'.length with h0|h0
   ·exact List.eq_nil_of_length_eq_zero h0
   ·obtain⟨b,o,h,_⟩:=hr h0
    cases h
  subst h0
  refine⟨v,w,?_,by simpa[ah]using hown,World.grownBy.refl w _,.inl rfl⟩
  rcases hown.2 with ⟨rfl,h2⟩|⟨g,cap,cur,rfl,_,_,hnc,_⟩
  ·simp[Builtin.append_,run_underlying ht,sizeOf,typeInfo,hi,Builtin.lenOf,Builtin.firstCells]
  ·simp[Builtin.append_,run_underlying ht,sizeOf,typeInfo,hi,Builtin.lenOf,Builtin.firstCells,hnc,storeCells]
 ·obtain⟨v',w',hrun,h2,h3,_,h5⟩:=run_append_own_at (P:=P) w base t ty e i z k bytes ht hi hz hsize hby hzs hsz v l.length _ hown ad l'.length c (l'.flatMap enc) (cB hk l')
   (fun j u hu=>by
     obtain⟨i',hi',j',e',hj'⟩:=Hg hk l' j u hu
     obtain⟨b,o,hA,hb,hc⟩:=hr omA
     injection hA with hA
     subst hA
     have:=hc i' hi' j' u hj'
     rw[←e']at this
     unfold Addr.add
     split
     ·rename_i hj0;rw[hj0]at this;exact this
     ·exact this)
   (fun u hu=>by rw[List.mem_flatMap]at hu;obtain⟨x,_,hx⟩:=hu;exact h1 x u hx) h63 hlen hbase
  exact⟨v',w',hrun,by simpa[ah]using h2,h3,h5⟩
theorem kN{P:Program}{α:Type}{o:Oper}{a:Act}{K:Act→World→Prop}{Q:Exit→Act→World→Prop}(w:World)(s x:Operand)(t:TypeId)(ho:o.op=.call { callee:= .builtin .append,args:= #[s,x],argTypes:= #[t,t] })
 (e:TypeId) (i:TypeInfo) (z:Value) (enc:α→List Value) (k bytes:Nat) (ht:P.underlying t=some (.slice e)) (hi:P.info? e=some i) (hz:i.zero=some z)
 (hsize:i.size=k) (hby:i.bytes=bytes) (hzs:z.cells.size=k) (hsz:0<k) (hk:∀x,(enc x).length=k) (h1:∀x,∀u∈enc x,u.oneCell'=true)
 (base:Nat) (v:Value) (l:List α) (hs:a.eval s=v) (hown:ah w base e enc k v l) (A:Option Addr) (m c:Nat) (l':List α) (hx:a.eval x=.slice A m c) (hm:m=l'.length) (hr:ag w w.heap.size enc k A l')
 (hlen:(l.length+l'.length)*bytes≤140737488355328) (h63:l.length+l'.length≤maxLen) (hbase:base≤w.heap.size)
 (h:∀v' w',ah w' base e enc k v' (l++l')→w.grownBy w' v.ownBlock→(v'.ownBlock=v.ownBlock∨v'.ownBlock=some w.heap.size)→K (a.put o.dst v') w'):o.wp P a w K Q:=by
 obtain⟨v',w',hrun,h2,h3,h4⟩:=jV (P:=P) w t o.type e i z enc k bytes ht hi hz hsize hby hzs hsz hk h1 base v l hown A m c l' hm hr hlen h63 hbase
 unfold Oper.wp execOp
 simp only[ho,resolve,invoke,builtin,Sem.run_bind,Sem.run_pure,Result.andThen_ok,List.map_toArray,List.map_cons,List.map_nil,hs,hx,hrun]
 exact h v' w' h2 h3 h4
theorem aP{P:Program}{α:Type}{ops:Array Oper}{rest:List Oper}{o:Oper}{a:Act}{Q:Exit→Act→World→Prop}(w:World)(hgd:o.guard=none)(s x:Operand)(t:TypeId)(ho:o.op=.call { callee:= .builtin .append,args:= #[s,x],argTypes:= #[t,t] })
 (e:TypeId) (i:TypeInfo) (z:Value) (enc:α→List Value) (k bytes:Nat) (ht:P.underlying t=some (.slice e)) (hi:P.info? e=some i) (hz:i.zero=some z)
 (hsize:i.size=k) (hby:i.bytes=bytes) (hzs:z.cells.size=k) (hsz:0<k) (hk:∀x,(enc x).length=k) (h1:∀x,∀u∈enc x,u.oneCell'=true)
 (base:Nat) (v:Value) (l:List α) (hs:a.eval s=v) (hown:ah w base e enc k v l) (A:Option Addr) (m c:Nat) (l':List α) (hx:a.eval x=.slice A m c) (hm:m=l'.length) (hr:ag w w.heap.size enc k A l')
 (hlen:(l.length+l'.length)*bytes≤140737488355328) (h63:l.length+l'.length≤maxLen) (hbase:base≤w.heap.size)
 (h:∀v' w',ah w' base e enc k v' (l++l')→w.grownBy w' v.ownBlock→(v'.ownBlock=v.ownBlock∨v'.ownBlock=some w.heap.size)→wpList P ops Q rest (a.put o.dst v') w'):wpList P ops Q (o::rest) a w:=
 wpList_plain hgd fun _ hK=>kN w s x t ho e i z enc k bytes ht hi hz hsize hby hzs hsz hk h1 base v l hs hown A m c l' hx hm hr hlen h63 hbase fun v' w' h2 h3 h4=>hK _ _ (h v' w' h2 h3 h4)
theorem av{P:Program}{α:Type}{ops:Array Oper}{o:Oper}{a:Act}{K:Act→World→Prop}{Q:Exit→Act→World→Prop}{E:Prop}(w:World)(hgd:o.guard=none)(s x:Operand)(t:TypeId)(ho:o.op=.call { callee:= .builtin .append,args:= #[s,x],argTypes:= #[t,t] })
 (e:TypeId) (i:TypeInfo) (z:Value) (enc:α→List Value) (k bytes:Nat) (ht:P.underlying t=some (.slice e)) (hi:P.info? e=some i) (hz:i.zero=some z)
 (hsize:i.size=k) (hby:i.bytes=bytes) (hzs:z.cells.size=k) (hsz:0<k) (hk:∀x,(enc x).length=k) (h1:∀x,∀u∈enc x,u.oneCell'=true)
 (base:Nat) (v:Value) (l:List α) (hs:a.eval s=v) (hown:ah w base e enc k v l) (A:Option Addr) (m c:Nat) (l':List α) (hx:a.eval x=.slice A m c) (hm:m=l'.length) (hr:ag w w.heap.size enc k A l')
 (hlen:(l.length+l'.length)*bytes≤140737488355328) (h63:l.length+l'.length≤maxLen) (hbase:base≤w.heap.size)
 (h:∀v' w',ah w' base e enc k v' (l++l')→w.grownBy w' v.ownBlock→(v'.ownBlock=v.ownBlock∨v'.ownBlock=some w.heap.size)→K (a.put o.dst v') w'):
 if Region.wanted o (yielded ops a.tmps)=true then Oper.wp P o a w K Q else E:=by
 have hw:Region.wanted o (yielded ops a.tmps)=true:=by simp[Region.wanted,hgd]
 rw[if_pos hw]
 exact kN w s x t ho e i z enc k bytes ht hi hz hsize hby hzs hsz hk h1 base v l hs hown A m c l' hx hm hr hlen h63 hbase h
section
variable {α:Type}{w w':World}{B:Nat}{enc:α→List Value}{k:Nat}{A:Option Addr}{l:List α}
theorem ag.take(h:ag w B enc k A l)(m:Nat):ag w B enc k A (l.take m):=by
 intro hl
 have hl':0<l.length:=by simp at hl;omega
 obtain⟨b,o,rfl,hb,hc⟩:=h hl'
 exact⟨b,o,rfl,hb,fun i hi j u hu=>hc i (by simp at hi;omega) j u ao⟩
theorem ag.cut{b o c:Nat}(h:ag w B enc k (some ⟨b,o,none⟩) l)(m:Nat)(hc:l.length≤c):
 ag w B enc k (if c=m then some ⟨b,o,none⟩ else some ⟨b,o+m*k,none⟩) (l.drop m):=by
 intro hl
 have hl':m<l.length:=by simp at hl;omega
 obtain⟨b',o',e,hb,hcell⟩:=h omA
 injection e with e
 injection e with e1 e2
 subst e1 e2
 rw[if_neg omA]
 refine⟨b,o+m*k,rfl,hb,fun i hi j u hu =>?_⟩
 have:=hcell (m+i) (by simp at hi;omega) j u ao
 rw[←this]
 congr 2
 rw[Nat.add_mul]
 omega
theorem ag.one{g:Nat}{x:α}(hB:g<B)(h:∀j u,(enc x)[j]?=some u→w.cell? ⟨g,j,none⟩=some u):ag w B enc k (some ⟨g,0,none⟩) [x]:=by
 intro _
 refine⟨g,0,rfl,hB,fun i hi j u hu =>?_⟩
 obtain rfl:i=0:=by simp at hi;omega
 simpa using h j u ao
end
theorem cu{g o n c B:Nat}(h:B≤g):∀k,(Value.slice (some ⟨g,o,none⟩) n c).ownBlock=some k→B≤k:=by
 intro k hk
 injection hk with hk
 rw[←hk]
 exact h
theorem jB{g g' o n c:Nat}(h:g≠g'):some g≠(Value.slice (some ⟨g',o,none⟩) n c).ownBlock:=fun e=>h (Option.some.inj e)
def Blk(w:World)(g:Nat)(t:TypeId)(cs:Array Value):Prop:=w.heap[g]?=some (.cells cs t (0,0))
section
variable {w w':World}{g:Nat}{t:TypeId}{cs:Array Value}
theorem Blk.lt(h:Blk w g t cs):g<w.heap.size:=by
 rcases Nat.lt_or_ge g w.heap.size with hlt|hge
 ·exact hlt
 ·unfold Blk at h;rw[Array.getElem?_eq_none hge]at h;cases h
theorem Blk.cell(h:Blk w g t cs)(i:Nat):w.cell? ⟨g,i,none⟩=cs[i]?:= by
 unfold Blk at h;simp[World.cell?,h]
theorem Blk.frozen(h:Blk w g t cs)(i:Nat):w.frozen? ⟨g,i,none⟩=false:=by
 unfold Blk at h;simp[World.frozen?,h]
theorem Blk.new(w:World)(t:TypeId)(cs:Array Value):Blk (w.alloc (.cells cs t)) w.heap.size t cs:=heap_alloc_new w _
theorem Blk.new'{w:World}{g:Nat}{t:TypeId}{cs:Array Value}(hg:w.heap.size=g):Blk (w.alloc (.cells cs t)) g t cs:=by
 subst hg
 exact Blk.new _ _ _
theorem Blk.drew(h:Blk w g t cs):Blk w.drew g t cs:=h
theorem Blk.drewN(h:Blk w g t cs)(n:Nat):Blk (w.drewN n) g t cs:=h
theorem Blk.alloc(h:Blk w g t cs)(o:Obj):Blk (w.alloc o) g t cs:=(Below.heap_alloc w o g h.lt).trans h
theorem Blk.aH(h:Blk w g t cs)(i:Nat)(u:Value):Blk (w.setCell ⟨g,i,none⟩ u) g t (cs.setIfInBounds i u):=by
 unfold Blk at h ⊢
 simp[World.setCell,Array.getElem?_modify,h]
theorem Blk.far(h:Blk w g t cs){p:Addr}(hp:g≠p.block)(u:Value):Blk (w.setCell p u) g t cs:=(Below.heap_setCell w p u g hp).trans h
theorem Blk.below{B:Nat}(h:Blk w g t cs)(hb:Below B w w')(hg:g<B):Blk w' g t cs:=(hb.block g hg).trans h
theorem Blk.grown{row:Option Nat}(h:Blk w g t cs)(hb:w.grownBy w' row)(hg:some g≠row):Blk w' g t cs:=(hb.block g h.lt hg).trans h
theorem Blk.one{α:Type}{enc:α→List Value}{k B:Nat}{x:α}(h:Blk w g t (enc x).toArray)(hB:g<B):ag w B enc k (some ⟨g,0,none⟩) [x]:=
 ag.one hB fun j u hu=>by rw[h.cell];simpa using hu
theorem ah.empty{α:Type}{enc:α→List Value}{k base:Nat}(h:Blk w g t #[])(hb:base≤g):ah w base t enc k (.slice (some ⟨g,0,none⟩) 0 0) ([]:List α):=
 ⟨by simp,.inr ⟨g,0,#[],rfl,hb,h,Nat.le_refl _,Nat.zero_le _,by simp,by simp⟩⟩
end
def rT(x y:Link):Bool:=(decide (x.a=y.a)&&decide (x.b=y.b))||(decide (x.a=y.b)&&decide (x.b=y.a))
def gL(l:List Link)(x:Link)(i:Nat)(seq:Int):Bool:=
 decide (x.seq≤seq) && !x.rev && !((l.drop (i+1)).takeWhile (fun y=>decide (y.seq≤seq))).any (fun y=>rT y x)
def eO(l:List Ident)(x:Ident):Nat:=(l.takeWhile (fun y=>decide (fZ y x<0))).length
def gT(l:List Ident)(x:Ident):List Ident:=if l[eO l x]?=some x then l else l.take (eO l x)++(x::l.drop (eO l x))
theorem jK{α:Type}(p:α→Bool):∀(l:List α) (m:Nat),m≤l.length→(∀j (h:j<l.length),j<m→p l[j]=true)→(∀h:m<l.length,p l[m]=false)→(l.takeWhile p).length=m
 | [],m,hm,_,_=>by simp at hm;simp[hm]
 | x::l,0,_,_,h2=>by
   have:=h2 spA
   rw[List.takeWhile_cons_of_neg (by simpa using this)];rfl
 | x::l,m + 1,hm,h1,h2=>by
   have:=h1 0 spA omA
   rw[List.takeWhile_cons_of_pos (by simpa using this),List.length_cons,jK p l m (by simpa using hm) (fun j h hj=>h1 (j+1) ab omA) (fun h=>h2 ab)]
structure jv {α:Type}(c:α→α→Int):Prop where
 mX:∀x y,c y x=- c x y
 trans:∀x y z,c x y≤0→c y z≤0→c x z≤0
section
variable {α β:Type}{c:α→α→Int}{d:β→β→Int}
theorem jv.refl(h:jv c)(x:α):c x x=0:=by have:=h.mX x x;omega
theorem jv.xQ(h:jv c){x y z:α}(h1:c x y<0)(h2:c y z≤0):c x z<0:=by
 have h3:=h.trans x y z omA h2
 rcases Int.lt_or_le (c x z) 0 with h4|h4
 ·exact h4
 ·have h5:=h.mX x z
  have h6:=h.trans y z x h2 omA
  have h7:=h.mX x y
  omega
theorem jv.SS(h:jv c){x y z:α}(h1:c x y≤0)(h2:c y z<0):c x z<0:=by
 have h3:=h.trans x y z h1 omA
 rcases Int.lt_or_le (c x z) 0 with h4|h4
 ·exact h4
 ·have h5:=h.mX x z
  have h6:=h.trans z x y omA h1
  have h7:=h.mX y z
  omega
theorem jv.pull(h:jv c)(f:β→α):jv (fun x y=>c (f x) (f y)):=⟨fun _ _=>h.mX _ _,fun _ _ _=>h.trans _ _ _⟩
theorem jv.lex{c c':α→α→Int}(h:jv c)(h':jv c'):jv (fun x y=>if c x y != 0 then c x y else c' x y):=by
 refine⟨fun x y =>?_,fun x y z h1 h2 =>?_⟩
 ·have e:=h.mX x y
  have e':=h'.mX x y
  by_cases h0:c x y=0
  ·have:c y x=0:=by omega
   simp[h0,this,e']
  ·have:¬ c y x=0:=by omega
   simp[h0,e]
 ·have hxy:c x y≤0:=by
   by_cases h0:c x y=0
   ·omega
   ·simpa[h0]using h1
  have hyz:c y z≤0:=by
   by_cases h0:c y z=0
   ·omega
   ·simpa[h0]using h2
  have hxz:=h.trans x y z hxy hyz
  by_cases h0:c x z=0
  ·have h3:c x y=0:=by
    rcases Int.lt_or_le (c x y) 0 with h4|h4
    ·have:=h.xQ h4 hyz;omega
    ·omega
   have h4:c y z=0:=by
    rcases Int.lt_or_le (c y z) 0 with h4|h4
    ·have:=h.SS hxy h4;omega
    ·omega
   simp[h3]at h1
   simp[h4]at h2
   simpa[h0]using h'.trans x y z h1 h2
  ·simpa[h0]using hxz
end
theorem AB:jv gq:=by
 refine⟨fun x y =>?_,fun x y z h1 h2 =>?_⟩
 ·unfold gq;split<;>split<;>omega
 ·unfold gq at *
  split at h1<;>split at h2<;>(try split at h1)<;>(try split at h2)<;>(try omega)<;>(split<;>(try split)<;>omega)
theorem kC:∀(x y:List UInt8),Op.bytesLess x y=decide (x<y)
 | _,[]=>by simp[Op.bytesLess]
 | [],_::_=>by simp[Op.bytesLess]
 | a::x,b::y=>by
   rw[Op.bytesLess,kC x y,Bool.eq_iff_iff]
   simp[List.cons_lt_cons_iff]
theorem uU:jv jg:=by
 have total:∀x y:List UInt8,¬ x<y→¬ y<x→x=y:=fun x y h1 h2=>List.le_antisymm (List.not_lt.1 h2) (List.not_lt.1 h1)
 refine⟨fun x y =>?_,fun x y z h1 h2 =>?_⟩
 ·unfold jg
  simp only[kC,decide_eq_true_eq]
  by_cases h1:x.toList<y.toList
  ·have h2:¬ y.toList<x.toList:=fun h=>List.lt_asymm h1 h
   simp[h1,h2]
  ·by_cases h2:y.toList<x.toList<;>simp[h1,h2]
 ·unfold jg at *
  simp only[kC,decide_eq_true_eq]at *
  have le1:¬ y.toList<x.toList:=by
   intro h
   have h3:¬ x.toList<y.toList:=fun h'=>List.lt_asymm h h'
   simp[h,h3]at h1
  have le2:¬ z.toList<y.toList:=by
   intro h
   have h3:¬ y.toList<z.toList:=fun h'=>List.lt_asymm h h'
   simp[h,h3]at h2
  have le3:¬ z.toList<x.toList:=by
   have:=List.le_trans (List.not_lt.1 le1) (List.not_lt.1 le2)
   exact List.not_lt.2 this
  by_cases h4:x.toList<z.toList<;>simp[h4,le3]
theorem AA{x y:ByteArray}(h:jg x y=0):x=y:=by
 unfold jg at h
 simp only[kC,decide_eq_true_eq]at h
 by_cases h1:x.toList<y.toList
 ·simp[h1]at h
 ·by_cases h2:y.toList<x.toList
  ·simp[h1,h2]at h
  ·exact rF (List.le_antisymm (List.not_lt.1 h2) (List.not_lt.1 h1))
theorem D6(x:ByteArray):jg x x=0:=uU.refl x
theorem AJ{x y:Int}(h:gq x y=0):x=y:=by
 unfold gq at h
 split at h
 ·omega
 ·split at h<;>omega
def kL(a b:Val):Int:=if gq a.kind b.kind != 0 then gq a.kind b.kind else if gq a.num b.num != 0 then gq a.num b.num else jg a.text b.text
theorem Cn:jv kL:=
 (AB.pull Val.kind).lex ((AB.pull Val.num).lex (uU.pull Val.text))
theorem tX{a b:Val}(h:kL a b=0):a=b:=by
 unfold kL at h
 obtain⟨k,n,t⟩:=a
 obtain⟨k',n',t'⟩:=b
 simp only at h
 by_cases h1:gq k k'=0
 ·by_cases h2:gq n n'=0
  ·simp[h1,h2]at h
   rw[AJ h1,AJ h2,AA h]
  ·simp[h1,h2]at h
 ·simp[h1]at h
theorem mE(a b:Val):aT a b=kL (clean a) (clean b):=by
 have ha:=nu (lW a)
 have hb:=nu (lW b)
 unfold aT
 generalize clean a=c at *
 generalize clean b=d at *
 have hs:=D6
 rcases ha with rfl|⟨n,rfl,_,_⟩|⟨t,rfl,_⟩<;>rcases hb with rfl|⟨n',rfl,_,_⟩|⟨t',rfl,_⟩<;>simp[kL,hs,gq]
theorem bF:jv aT:=by
 have h:=Cn.pull clean
 have e:aT=fun x y=>kL (clean x) (clean y):=by funext a b;exact mE a b
 rw[e]
 exact h
theorem pG:jv fZ:=(uU.pull Ident.ns).lex (bF.pull Ident.val)
theorem vw{x:Ident}(h:ed x=true):bK x.val=true:=by
 unfold ed at h
 simp only[Bool.and_eq_true]at h
 exact h.2.1
theorem M8{x y:Ident}(hx:ed x=true)(hy:ed y=true)(h:fZ x y=0):x=y:=by
 unfold fZ at h
 by_cases h1:jg x.ns y.ns=0
 ·simp[h1]at h
  rw[mE,kM (vw hx),kM (vw hy)]at h
  obtain⟨s,v⟩:=x
  obtain⟨s',v'⟩:=y
  simp only at h1 h
  rw[AA h1,tX h]
 ·simp[h1]at h
theorem lg(x:Ident):fZ x x=0:=pG.refl x
def Asc(l:List Ident):Prop:=l.Pairwise (fun x y=>fZ x y<0)
def ib(l:List Ident):Prop:= ∀x∈l,ed x=true
theorem Asc.nodup{l:List Ident}(h:Asc l):l.Nodup:=List.Pairwise.imp (fun {a b} hab e=>by subst e;rw[lg]at hab;omega) h
theorem Asc.ext:∀ {l l':List Ident},Asc l→Asc l'→(∀x,x∈l↔x∈l')→l=l'
 | [],[],_,_,_=>rfl
 | [],y::l',_,_,h=>absurd ((h y).2 spA) spA
 | x::l,[],_,_,h=>absurd ((h x).1 spA) spA
 | x::l,y::l',h1,h2,h=>by
   have h1':=List.pairwise_cons.1 h1
   have h2':=List.pairwise_cons.1 h2
   have e:x=y:=by
    have hx:x∈y::l':=(h x).1 spA
    have hy:y∈x::l:=(h y).2 spA
    rcases List.mem_cons.1 hx with e|hx'
    ·exact e
    ·rcases List.mem_cons.1 hy with e|hy'
     ·exact e.symm
     ·have a:=h2'.1 x hx'
      have b:=h1'.1 y hy'
      have:=pG.mX x y
      omega
   subst e
   congr 1
   refine Asc.ext h1'.2 h2'.2 fun z =>?_
   have hz:=h z
   simp only[List.mem_cons]at hz
   constructor
   ·intro hm
    rcases hz.1 (.inr hm) with e|hm'
    ·subst e;have:=h1'.1 z hm;rw[lg]at this;omega
    ·exact hm'
   ·intro hm
    rcases hz.2 (.inr hm) with e|hm'
    ·subst e;have:=h2'.1 z hm;rw[lg]at this;omega
    ·exact hm'
theorem Ob(l:List Ident)(x:Ident):eO l x≤l.length:=by
 unfold eO
 exact(List.takeWhile_sublist _).length_le
theorem Dq(l:List Ident)(x:Ident):∀y∈l.take (eO l x),fZ y x<0:=by
 intro y hy
 have e:l.take (eO l x)=l.takeWhile (fun y=>decide (fZ y x<0)):=by
  unfold eO
  exact(List.prefix_iff_eq_take.1 (List.takeWhile_prefix _)).symm
 rw[e]at hy
 have:=List.all_takeWhile (p:=fun y=>decide (fZ y x<0)) (l:=l)
 rw[List.all_eq_true]at this
 simpa using this y hy
theorem Oc(l:List Ident)(x:Ident)(h:eO l x<l.length):0≤fZ l[eO l x] x:=by
 rcases Int.lt_or_le (fZ l[eO l x] x) 0 with h1|h1
 ·exfalso
  have key:∀(l:List Ident) (h:(l.takeWhile (fun y=>decide (fZ y x<0))).length<l.length),¬ fZ (l[(l.takeWhile (fun y=>decide (fZ y x<0))).length]) x<0:=by
   intro l
   induction l with
   | nil=>intro h;simp at h
   | cons a l ih =>
     intro h
     by_cases ha:fZ a x<0
     ·have e:(a::l).takeWhile (fun y=>decide (fZ y x<0))=a::l.takeWhile (fun y=>decide (fZ y x<0)):=List.takeWhile_cons_of_pos (by simpa using ha)
      simp only[e,List.length_cons]at h ⊢
      simpa using ih omA
     ·have e:(a::l).takeWhile (fun y=>decide (fZ y x<0))=[]:=List.takeWhile_cons_of_neg (by simpa using ha)
      simp only[e,List.length_nil]
      simpa using ha
  exact key l h h1
 ·exact h1
theorem mq{l:List Ident}{x:Ident}(hl:Asc l)(hv:ib l)(hx:ed x=true):Asc (gT l x)∧(∀y,y∈gT l x↔y=x∨y∈l)∧l.length≤(gT l x).length:=by
 have hk:=Ob l x
 unfold gT
 by_cases he:l[eO l x]?=some x
 ·rw[if_pos he]
  have hm:x∈l:=List.mem_of_getElem? he
  exact⟨hl,fun y=>⟨.inr,fun h=>h.elim (fun e=>e▸hm) id⟩,Nat.le_refl _⟩
 ·rw[if_neg he]
  have He:=Dq l x
  have hafter:∀y∈l.drop (eO l x),fZ x y<0:=by
   intro y hy
   have hlt:eO l x<l.length:=by
    rcases Nat.lt_or_ge (eO l x) l.length with h|h
    ·exact h
    ·rw[List.drop_eq_nil_of_le h]at hy;cases hy
   have h0:=Oc l x hlt
   rw[List.drop_eq_getElem_cons hlt]at hy
   have hne:fZ l[eO l x] x≠0:=by
    intro e
    have:=M8 (hv _ (lgm hlt)) hx e
    exact he (by rw[List.getElem?_eq_getElem hlt,this])
   have hlt':fZ x l[eO l x]<0:=by have:=pG.mX l[eO l x] x;omega
   rcases List.mem_cons.1 hy with e|hy'
   ·rw[e];exact hlt'
   ·have hp:(l.drop (eO l x)).Pairwise (fun x y=>fZ x y<0):=hl.drop
    rw[List.drop_eq_getElem_cons hlt]at hp
    have:=(List.pairwise_cons.1 hp).1 y hy'
    exact pG.xQ hlt' omA
  refine⟨?_,fun y =>?_,?_⟩
  ·unfold Asc
   rw[List.pairwise_append]
   refine⟨hl.take,List.pairwise_cons.2 ⟨hafter,hl.drop⟩,fun a ha b hb =>?_⟩
   rcases List.mem_cons.1 hb with e|hb'
   ·rw[e];exact He a ha
   ·exact pG.xQ (He a ha) (by have:=hafter b hb';omega)
  ·rw[List.mem_append,List.mem_cons]
   constructor
   ·rintro(h|h|h)
    ·exact .inr (List.mem_of_mem_take h)
    ·exact .inl h
    ·exact .inr (List.mem_of_mem_drop h)
   ·rintro(h|h)
    ·exact .inr (.inl h)
    ·rw[←List.take_append_drop (eO l x) l,List.mem_append]at h
     exact h.elim .inl (fun h =>.inr (.inr h))
  ·rw[List.length_append,List.length_cons,List.length_take,List.length_drop]
   omega
theorem oM{α:Type}[DecidableEq α]:∀ {l l':List α},l.Nodup→(∀x∈l,x∈l')→l.length≤l'.length
 | [],_,_,_=>by simp
 | x::l,l',hn,hs=>by
   have hn':=List.nodup_cons.1 hn
   have hx:x∈l':=hs x spA
   have:=oM (l:=l) (l':=l'.erase x) hn'.2 (fun y hy=>by
    have hne:y≠x:=fun e=>hn'.1 (e▸hy)
    exact(List.mem_erase_of_ne hne).2 (hs y (by simp[hy])))
   rw[List.length_erase_of_mem hx]at this
   have hpos:0<l'.length:=List.length_pos_of_mem hx
   simp only[List.length_cons]
   omega
def Bz(prev:Int)(x:Link):Bool:=decide (prev<x.seq)&&decide (x.seq≤1073741824)&&(ed x.a&&(ed x.b&&decide (x.a≠x.b)))
def fB:Int→List Link→Bool
 | _,[]=>true
 | last,x::l=>Bz last x&&fB x.seq l
def gN(l:List Link):Bool:=decide (l.length≤64)&&fB 0 l
def zl(l:List Link)(seq:Int)(u v:Ident):Prop:=
 ∃i,∃h:i<l.length,gL l l[i] i seq=true∧((l[i].a=u∧l[i].b=v)∨(l[i].b=u∧l[i].a=v))
inductive Reach (l:List Link) (seq:Int) (u:Ident):Ident→Prop where
 | refl:Reach l seq u u
 | step {v z:Ident}:Reach l seq u v→zl l seq v z→Reach l seq u z
theorem zl.symm{l:List Link}{seq:Int}{u v:Ident}(h:zl l seq u v):zl l seq v u:=by
 obtain⟨i,hi,hd,h⟩:=h
 exact⟨i,hi,hd,h.elim (fun⟨a,b⟩ =>.inr ⟨b,a⟩) (fun⟨a,b⟩ =>.inl ⟨b,a⟩)⟩
theorem Reach.trans{l:List Link}{seq:Int}{u v z:Ident}(h:Reach l seq u v)(k:Reach l seq v z):Reach l seq u z:=by
 induction k with
 | refl=>exact h
 | step _ e ih=>exact .step ih e
theorem Reach.symm{l:List Link}{seq:Int}{u v:Ident}(h:Reach l seq u v):Reach l seq v u:=by
 induction h with
 | refl=>exact .refl
 | step _ e ih=>exact Reach.trans (.step .refl e.symm) ih
theorem Reach.closed{l:List Link}{seq:Int}{u v:Ident}(h:Reach l seq u v)(S:Ident→Prop)(h0:S u)(hs:∀a b,S a→zl l seq a b→S b):S v:=by
 induction h with
 | refl=>exact h0
 | step _ e ih=>exact hs _ _ ih e
def Vg(l:List Link)(who:Ident)(seq:Int)(out:List Ident):Prop:=Asc out ∧ ∀y,y∈out↔Reach l seq who y
theorem l7:∀ {last:Int}{l:List Link},fB last l=true→∀x∈l,last<x.seq∧x.seq≤1073741824∧ed x.a=true∧ed x.b=true∧x.a≠x.b
 | _,[],_,_,h=>by cases h
 | last,y::l,hv,x,h=>by
   simp only[fB,Bz,Bool.and_eq_true,decide_eq_true_eq]at hv
   rcases List.mem_cons.1 h with e|h'
   ·subst e
    exact⟨hv.1.1.1,hv.1.1.2,hv.1.2.1,hv.1.2.2.1,hv.1.2.2.2⟩
   ·have:=l7 hv.2 x h'
    exact⟨by omega,this.2⟩
theorem kP{l:List Link}(h:gN l=true):∀x∈l,0<x.seq∧x.seq≤1073741824∧ed x.a=true∧ed x.b=true∧x.a≠x.b:=by
 simp only[gN,Bool.and_eq_true]at h
 exact l7 h.2
theorem qx:∀ {last:Int}{l:List Link},fB last l=true→l.Pairwise (fun x y=>x.seq<y.seq)
 | _,[],_=>List.Pairwise.nil
 | last,x::l,hv=>by
   simp only[fB,Bool.and_eq_true]at hv
   exact List.pairwise_cons.2 ⟨fun y hy=>(l7 hv.2 y hy).1,qx hv.2⟩
theorem wS{l:List Link}(h:gN l=true):l.Pairwise (fun x y=>x.seq<y.seq):=by
 simp only[gN,Bool.and_eq_true]at h
 exact qx h.2
def named(l:List Link)(who:Ident):List Ident:=who::l.flatMap (fun x =>[x.a,x.b])
theorem sN(l:List Link)(who:Ident):(named l who).length=2*l.length+1:=by
 unfold named
 have:∀l:List Link,(l.flatMap (fun x =>[x.a,x.b])).length=2*l.length:=by
  intro l
  induction l with
  | nil=>rfl
  | cons x l ih=>rw[List.flatMap_cons,List.length_append,ih,List.length_cons];simp;omega
 rw[List.length_cons,this]
theorem Reach.named{l:List Link}{seq:Int}{who y:Ident}(h:Reach l seq who y):y∈named l who:=by
 cases h with
 | refl=>simp[Proofs.YtjidligipoldeaaGreat.named]
 | step _ e =>
   obtain⟨i,hi,_,h⟩:=e
   have hm:l[i]∈l:=lgm hi
   unfold Proofs.YtjidligipoldeaaGreat.named
   refine List.mem_cons_of_mem _ (List.mem_flatMap.2 ⟨l[i],hm,?_⟩)
   rcases h with ⟨_,h⟩|⟨_,h⟩<;>simp[h]
theorem Reach.valid{l:List Link}{seq:Int}{who y:Ident}(hl:gN l=true)(hw:ed who=true)(h:Reach l seq who y):ed y=true:=by
 cases h with
 | refl=>exact hw
 | step _ e =>
   obtain⟨i,hi,_,h⟩:=e
   have hm:=kP hl l[i] (lgm hi)
   rcases h with ⟨_,h⟩|⟨_,h⟩
   ·rw[←h];exact hm.2.2.2.1
   ·rw[←h];exact hm.2.2.1
structure PG (l:List Link) (seq:Int) (who:Ident) (p out:List Ident):Prop where
 asc:Asc out
 has:who∈out
 reach:∀y∈out,Reach l seq who y
 sub:∀y∈p,y∈out
 Vd:Asc p
 Pf:∀i (h:i<l.length),gL l l[i] i seq=true→l[i].a∈p∨l[i].b∈p→l[i].a∈out∧l[i].b∈out
theorem PG.len{l:List Link}{seq:Int}{who:Ident}{p out:List Ident}(h:PG l seq who p out):p.length≤out.length∧out.length≤2*l.length+1:=
 ⟨oM h.Vd.nodup h.sub,by rw[←sN l who];exact oM h.asc.nodup fun y hy=>(h.reach y hy).named⟩
theorem EM{α:Type}[DecidableEq α]{p out:List α}(hp:p.Nodup)(hs:∀y∈p,y∈out)(hl:out.length≤p.length)(ho:out.Nodup):∀y∈out,y∈p:=by
 intro y hy
 by_cases h:y∈p
 ·exact h
 ·exfalso
  have:=oM (l:=y::p) (l':=out) (List.nodup_cons.2 ⟨h,hp⟩) (fun z hz=>by
   rcases List.mem_cons.1 hz with e|hz'
   ·exact e▸hy
   ·exact hs z hz')
  simp at this
  omega
theorem PG.done{l:List Link}{seq:Int}{who:Ident}{p out:List Ident}(h:PG l seq who p out)(hl:out.length≤p.length):Vg l who seq out:=by
 have hback:=EM h.Vd.nodup h.sub hl h.asc.nodup
 refine⟨h.asc,fun y=>⟨h.reach y,fun hr =>?_⟩⟩
 refine hr.closed (fun z=>z∈out) h.has fun a b ha e =>?_
 obtain⟨i,hi,hd,he⟩:=e
 rcases he with ⟨e1,e2⟩|⟨e1,e2⟩
 ·rw[←e2];exact(h.Pf i hi hd (.inl (hback _ (e1▸ha)))).2
 ·rw[←e2];exact(h.Pf i hi hd (.inr (hback _ (e1▸ha)))).1
structure SF (l:List Link) (seq:Int) (who:Ident) (out cur:List Ident) (m:Nat):Prop where
 asc:Asc cur
 reach:∀y∈cur,Reach l seq who y
 sub:∀y∈out,y∈cur
 Pf:∀i (h:i<l.length),i<m→gL l l[i] i seq=true→l[i].a∈out∨l[i].b∈out→l[i].a∈cur∧l[i].b∈cur
theorem SF.add{l:List Link}{seq:Int}{who:Ident}{out cur:List Ident}{m:Nat}(h:SF l seq who out cur m)(hv:gN l=true)(hw:ed who=true)(hm:m<l.length)(hd:gL l l[m] m seq=true)(ho:l[m].a∈cur∨l[m].b∈cur):
 SF l seq who out (gT (gT cur l[m].a) l[m].b) (m+1)∧cur.length≤(gT cur l[m].a).length:=by
 have hx:=kP hv l[m] (lgm hm)
 have hcv:ib cur:=fun y hy=>(h.reach y hy).valid hv hw
 obtain⟨s1,m1,l1⟩:=mq h.asc hcv hx.2.2.1
 have Xb:ib (gT cur l[m].a):=fun y hy=>((m1 y).1 hy).elim (fun e=>e▸hx.2.2.1) (hcv y)
 obtain⟨s2,m2,l2⟩:=mq s1 Xb hx.2.2.2.1
 have hab:Reach l seq who l[m].a∧Reach l seq who l[m].b:=by
  rcases ho with ho|ho
  ·exact⟨h.reach _ ho,.step (h.reach _ ho) ⟨m,hm,hd,.inl ⟨rfl,rfl⟩⟩⟩
  ·exact⟨.step (h.reach _ ho) ⟨m,hm,hd,.inr ⟨rfl,rfl⟩⟩,h.reach _ ho⟩
 have hmem:∀y,y∈gT (gT cur l[m].a) l[m].b↔y=l[m].b∨y=l[m].a∨y∈cur:=fun y=>by rw[m2,m1]
 refine⟨⟨s2,fun y hy =>?_,fun y hy=>(hmem y).2 (.inr (.inr (h.sub y hy))),fun i hi hlt hdi hoi =>?_⟩,l1⟩
 ·rcases(hmem y).1 hy with e|e|e
  ·rw[e];exact hab.2
  ·rw[e];exact hab.1
  ·exact h.reach y e
 ·rcases Nat.lt_or_ge i m with hk|hk
  ·have:=h.Pf i hi hk hdi hoi
   exact⟨(hmem _).2 (.inr (.inr this.1)),(hmem _).2 (.inr (.inr this.2))⟩
  ·obtain rfl:i=m:=by omega
   exact⟨(hmem _).2 (.inr (.inl rfl)),(hmem _).2 (.inl rfl)⟩
def lastOf:Int→List Link→Int
 | last,[]=>last
 | _,x::l=>lastOf x.seq l
theorem oq:∀(last:Int) (l:List Link) (x:Link),fB last (l ++ [x])=(fB last l&&Bz (lastOf last l) x)
 | last,[],x=>by simp[fB,lastOf]
 | last,y::l,x=>by
   rw[List.cons_append,fB,oq y.seq l x,fB,lastOf,Bool.and_assoc]
theorem vM:∀(last:Int) (l:List Link) (x:Link),lastOf last (l ++ [x])=x.seq
 | _,[],_=>rfl
 | _,y::l,x=>by rw[List.cons_append,lastOf,vM]
structure zR (l:List Link) (who:Ident) (seq:Int) (out:List Ident) (m:Nat):Prop where
 asc:Asc out
 mem:∀y,y∈out↔(Reach l seq who y ∨ ∃x∈l.take m,seq<x.seq∧Reach l x.seq who y)
theorem zR.skip{l:List Link}{who:Ident}{seq:Int}{out:List Ident}{m:Nat}(h:zR l who seq out m)(hm:m<l.length)(hs:l[m].seq≤seq):zR l who seq out (m+1):=by
 refine⟨h.asc,fun y =>?_⟩
 rw[h.mem,List.take_succ_eq_append_getElem hm]
 constructor
 ·rintro(h|⟨x,hx,h⟩)
  ·exact .inl h
  ·exact .inr ⟨x,List.mem_append_left _ hx,h⟩
 ·rintro(h|⟨x,hx,h1,h2⟩)
  ·exact .inl h
  ·rcases List.mem_append.1 hx with hx|hx
   ·exact .inr ⟨x,hx,h1,h2⟩
   ·simp at hx;subst hx;omega
structure Pm (l:List Link) (who:Ident) (seq:Int) (out xs cur:List Ident) (j:Nat):Prop where
 asc:Asc cur
 mem:∀y,y∈cur↔(y∈out∨y∈xs.take j)
 val:ib cur
theorem Pm.step{l:List Link}{who:Ident}{seq:Int}{out xs cur:List Ident}{j:Nat}(h:Pm l who seq out xs cur j)(hj:j<xs.length)(hv:ed xs[j]=true):Pm l who seq out xs (gT cur xs[j]) (j+1):=by
 obtain⟨s1,m1,_⟩:=mq h.asc h.val hv
 refine⟨s1,fun y =>?_,fun y hy=>((m1 y).1 hy).elim (fun e=>e▸hv) (h.val y)⟩
 rw[m1,h.mem,List.take_succ_eq_append_getElem hj,List.mem_append]
 simp only[List.mem_singleton]
 constructor
 ·rintro(h|h|h)
  ·exact .inr (.inr h)
  ·exact .inl h
  ·exact .inr (.inl h)
 ·rintro(h|h|h)
  ·exact .inr (.inl h)
  ·exact .inr (.inr h)
  ·exact .inl h
theorem zR.next{l:List Link}{who:Ident}{seq:Int}{out xs cur:List Ident}{m j:Nat}(h:zR l who seq out m)(hm:m<l.length)(hs:seq<l[m].seq)(hx:Vg l who l[m].seq xs)(ht:Pm l who seq out xs cur j)(hj:xs.length≤j):zR l who seq cur (m+1):=by
 refine⟨ht.asc,fun y =>?_⟩
 rw[ht.mem,h.mem,List.take_of_length_le hj,hx.2,List.take_succ_eq_append_getElem hm]
 constructor
 ·rintro((h|⟨x,hx,h⟩)|h)
  ·exact .inl h
  ·exact .inr ⟨x,List.mem_append_left _ hx,h⟩
  ·exact .inr ⟨l[m],List.mem_append_right _ spA,hs,h⟩
 ·rintro(h|⟨x,hx,h1,h2⟩)
  ·exact .inl (.inl h)
  ·rcases List.mem_append.1 hx with hx|hx
   ·exact .inl (.inr ⟨x,hx,h1,h2⟩)
   ·simp at hx;subst hx;exact .inr h2
theorem zR.valid{l:List Link}{who:Ident}{seq:Int}{out:List Ident}{m:Nat}(h:zR l who seq out m)(hv:gN l=true)(hw:ed who=true):ib out:=fun y hy=>by
 rcases(h.mem y).1 hy with h|⟨_,_,_,h⟩
 ·exact h.valid hv hw
 ·exact h.valid hv hw
theorem zR.len{l:List Link}{who:Ident}{seq:Int}{out:List Ident}{m:Nat}(h:zR l who seq out m):out.length≤2*l.length+1:=by
 rw[←sN l who]
 refine oM h.asc.nodup fun y hy =>?_
 rcases(h.mem y).1 hy with h|⟨_,_,_,h⟩
 ·exact h.named
 ·exact h.named
inductive vU (f:List Nat):Nat→Nat→Nat→Prop where
 | here {i:Nat}:f[i]?=some i→vU f i i 0
 | up {i p r d:Nat}:f[i]?=some p→p≠i→vU f p r d→vU f i r (d+1)
def Root(f:List Nat)(i r:Nat):Prop:= ∃d,vU f i r d
def GI(f:List Nat):Prop:= ∀i,i<f.length→∃r,Root f i r
theorem vU.lt{f:List Nat}{i r d:Nat}(h:vU f i r d):i<f.length:=by
 cases h with
 | here h=>exact(List.getElem?_eq_some_iff.1 h).1
 | up h _ _=>exact(List.getElem?_eq_some_iff.1 h).1
theorem vU.isRoot{f:List Nat}{i r d:Nat}(h:vU f i r d):f[r]?=some r:=by
 induction h with
 | here h=>exact h
 | up _ _ _ ih=>exact ih
theorem Root.lt{f:List Nat}{i r:Nat}(h:Root f i r):i<f.length∧r<f.length:=by
 obtain⟨_,h⟩:=h
 exact⟨h.lt,(List.getElem?_eq_some_iff.1 h.isRoot).1⟩
def eQ(f f':List Nat):Prop:=f'.length=f.length ∧ ∀j r,Root f j r↔Root f' j r
theorem eQ.len{f f':List Nat}(h:eQ f f'):f'.length=f.length:=h.1
theorem eQ.refl(f:List Nat):eQ f f:=⟨rfl,fun _ _=>Iff.rfl⟩
theorem eQ.trans{f g h:List Nat}(a:eQ f g)(b:eQ g h):eQ f h:=⟨b.1.trans a.1,fun j r=>(a.2 j r).trans (b.2 j r)⟩
theorem eQ.FT{f g:List Nat}(a:eQ f g)(h:GI f):GI g:=fun i hi=>by
 obtain⟨r,hr⟩:=h i (by rw[←a.1];exact hi)
 exact⟨r,(a.2 i r).1 hr⟩
inductive lH (ps:List (Nat × Nat)) (i:Nat):Nat→Prop where
 | refl:lH ps i i
 | right {a b:Nat}:lH ps i a→(a,b)∈ps→lH ps i b
 | left {a b:Nat}:lH ps i b→(a,b)∈ps→lH ps i a
theorem lH.trans{ps:List (Nat × Nat)}{i j k:Nat}(h:lH ps i j)(h':lH ps j k):lH ps i k:=by
 induction h' with
 | refl=>exact h
 | right _ hm ih=>exact .right ih hm
 | left _ hm ih=>exact .left ih hm
theorem lH.symm{ps:List (Nat × Nat)}{i j:Nat}(h:lH ps i j):lH ps j i:=by
 induction h with
 | refl=>exact .refl
 | right _ hm ih=>exact(lH.left .refl hm).trans ih
 | left _ hm ih=>exact(lH.right .refl hm).trans ih
theorem lH.mono{ps qs:List (Nat × Nat)}{i j:Nat}(h:lH ps i j)(hs:∀x∈ps,x∈qs):lH qs i j:=by
 induction h with
 | refl=>exact .refl
 | right _ hm ih=>exact .right ih (hs _ hm)
 | left _ hm ih=>exact .left ih (hs _ hm)
structure Gy (f:List Nat) (n:Nat) (ps:List (Nat × Nat)):Prop where
 len:f.length=n
 FT:GI f
 inr:∀x∈ps,x.1<n∧x.2<n
 conn:∀i j ri rj,Root f i ri→Root f j rj→(ri=rj↔lH ps i j)
theorem Gy.same{f f':List Nat}{n:Nat}{ps:List (Nat × Nat)}(h:Gy f n ps)(hs:eQ f f'):Gy f' n ps:=
 ⟨hs.1.trans h.len,hs.FT h.FT,h.inr,fun i j ri rj h1 h2=>h.conn i j ri rj ((hs.2 _ _).2 h1) ((hs.2 _ _).2 h2)⟩
def pJ(w:World)(g:Nat)(f:List Nat):Prop:=Blk w g 3 (f.map (fun x:Nat=>Value.int .i64 (x:Int))).toArray
theorem pJ.cell{w:World}{g:Nat}{f:List Nat}(h:pJ w g f){i p:Nat}(hp:f[i]?=some p):w.cell? ⟨g,i,none⟩=some (.int .i64 p):=by
 rw[Blk.cell h]
 simp[hp]
theorem pJ.aH{w:World}{g:Nat}{f:List Nat}(h:pJ w g f)(i q:Nat):pJ (w.setCell ⟨g,i,none⟩ (.int .i64 q)) g (f.set i q):=by
 have h1:=Blk.aH h i (.int .i64 (q:Int))
 unfold pJ
 have e:(List.map (fun x:Nat=>Value.int .i64 (x:Int)) (f.set i q)).toArray=((List.map (fun x:Nat=>Value.int .i64 (x:Int)) f).toArray).setIfInBounds i (.int .i64 (q:Int)):=by
  simp[List.map_set]
 rw[e]
 exact h1
theorem ai{a w:World}{g:Nat}(h:a.grownBy w (some g)){p:Addr}(hp:p.block=g∨a.heap.size≤p.block)(u:Value):a.grownBy (w.setCell p u) (some g):=
 ⟨h.os,h.tape,h.output,by simpa[World.setCell]using h.size,fun i hi hne=>(Below.heap_setCell w p u i (by
  rintro rfl
  rcases hp with hp|hp
  ·exact hne (by rw[hp])
  ·omega)).trans (h.block i hi hne)⟩
theorem aI{a w:World}(h:Below a.heap.size a w)(row:Option Nat):a.grownBy w row:=⟨h.os,h.tape,h.output,h.size,fun i hi _=>h.block i hi⟩
theorem rz{a w:World}{row:Option Nat}(h:a.grownBy w row):a.grownBy w.drew row:=⟨h.os,h.tape,h.output,h.size,h.block⟩
theorem bM{a w:World}{row:Option Nat}(h:a.grownBy w row)(o:Obj):a.grownBy (w.alloc o) row:=
 ⟨h.os,h.tape,h.output,Nat.le_trans h.size spA,fun i hi hne=>(Below.heap_alloc w o i (Nat.lt_of_lt_of_le hi h.size)).trans (h.block i hi hne)⟩
theorem au{a b c:World}{row:Option Nat}(h:a.grownBy b row)(k:b.grownBy c row):a.grownBy c row:=
 ⟨k.os.trans h.os,k.tape.trans h.tape,k.output.trans h.output,Nat.le_trans h.size k.size,fun i hi hne=>(k.block i (Nat.lt_of_lt_of_le hi h.size) hne).trans (h.block i hi hne)⟩
theorem Hu{l:List Ident}(h:Asc l){i j:Nat}(hi:i<l.length)(hj:j<l.length)(hij:i<j):fZ l[i] l[j]<0:=
 List.pairwise_iff_getElem.1 h i j hi hj hij
theorem yg{l:List Ident}(x:Ident)(m:Nat)(hm:m≤l.length)(h1:∀k (h:k<l.length),k<m→fZ l[k] x<0)(h2:∀h:m<l.length,0≤fZ l[m] x):eO l x=m:=
 jK _ l m hm (fun j h hj=>by simpa using h1 j h hj) (fun h=>by simpa using h2 h)
theorem xZ{l:List Ident}(ha:Asc l)(hv:ib l){x:Ident}(hx:x∈l):eO l x<l.length∧l[eO l x]?=some x:=by
 obtain⟨i,hi,rfl⟩:=List.getElem_of_mem hx
 have e:eO l l[i]=i:=yg _ i omA (fun k h hk=>Hu ha h hi hk) (fun _=>by rw[lg];omega)
 rw[e]
 exact⟨hi,List.getElem?_eq_getElem hi⟩
structure Edge where
 a:Nat
 b:Nat
 first:Int
 last:Int
def Edge.cells(x:Edge):List Value:= [.int .i64 x.a,.int .i64 x.b,.int .i64 x.first,.int .i64 x.last]
theorem Edge.fe{w:World}{b o:Nat}{x:Edge}(h:∀j u,x.cells[j]?=some u→w.cell? ⟨b,o+j,none⟩=some u):
 w.cell? ⟨b,o,none⟩=some (.int .i64 x.a)∧w.cell? ⟨b,o+1,none⟩=some (.int .i64 x.b)∧w.cell? ⟨b,o+2,none⟩=some (.int .i64 x.first)∧w.cell? ⟨b,o+3,none⟩=some (.int .i64 x.last):=
 ⟨h 0 _ rfl,h 1 _ rfl,h 2 _ rfl,h 3 _ rfl⟩
def lT(es:List Edge)(seq:Int):List (Nat × Nat):=(es.filter (fun e=>decide (e.first≤seq)&&decide (seq≤e.last))).map (fun e=>(e.a,e.b))
theorem iy{P:Program}(t e:TypeId)(i:TypeInfo)(z:Value)(ht:P.underlying t=some (.slice e))(hi:P.info? e=some i)(hz:i.zero=some z)
 (kl kc:IntKind) (n c:Nat) (hnc:n≤c) (hbytes:i.bytes*c≤281474976710656) (h63:c≤9223372036854775807) (w:World):
 (Instr.makeSlice t (.int kl (n:Int)) (.int kc (c:Int))).run P w=.ok (.slice (some ⟨w.heap.size,0,none⟩) n c) (w.alloc (.cells (madeCells z.cells (c*i.size)) e)):=by
 have hb:(i.bytes:Int)*(c:Int)≤281474976710656:=by
  have h:((i.bytes*c:Nat):Int)≤281474976710656:=by omega
  rwa [Int.natCast_mul]at h
 have hr:=run_make (P:=P) w t e i z ht hi hz kl kc n c omA omA hb omA
 simp only[Int.toNat_natCast]at hr
 exact hr
theorem wH:(Tryz.prog.info? 3).map (fun i=>(i.zero,i.size,i.bytes))=some (some (.int .i64 0),1,8):=by kernel_rfl
def qj(w:World)(g:Nat)(bs:List Bool):Prop:=Blk w g 4 (bs.map Value.bool).toArray
theorem qj.cell{w:World}{g:Nat}{bs:List Bool}(h:qj w g bs){i:Nat}{p:Bool}(hp:bs[i]?=some p):w.cell? ⟨g,i,none⟩=some (.bool p):=by
 rw[Blk.cell h]
 simp[hp]
theorem qj.aH{w:World}{g:Nat}{bs:List Bool}(h:qj w g bs)(i:Nat)(q:Bool):qj (w.setCell ⟨g,i,none⟩ (.bool q)) g (bs.set i q):=by
 have h1:=Blk.aH h i (.bool q)
 unfold qj
 have e:(List.map Value.bool (bs.set i q)).toArray=((List.map Value.bool bs).toArray).setIfInBounds i (.bool q):=by
  simp[List.map_set]
 rw[e]
 exact h1
theorem lU{a b c:World}{row:Option Nat}(h:a.grownBy b row)(k:Below b.heap.size b c):a.grownBy c row:=
 ⟨k.os.trans h.os,k.tape.trans h.tape,k.output.trans h.output,Nat.le_trans h.size k.size,fun i hi hne=>(k.block i (Nat.lt_of_lt_of_le hi h.size)).trans (h.block i hi hne)⟩
def Sd(bs bs':List Bool)(C:Nat→Prop)(m:Nat):Prop:=bs'.length=bs.length ∧ ∀i,i<bs.length→(bs'[i]?=some true↔(bs[i]?=some true∨(i<m∧C i)))
end Go.Proofs.YtjidligipoldeaaGreat
