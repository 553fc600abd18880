/-
  Contracts and plain laws of this seat, part 1: Base, HeldA, Val, Cmp, Ref1, Name, Id, List, Own, Direct, Insert, Ord, Reach, Comp, Valid, Valid2, Ref16, Subj, Forest, Root, Search, Graph, Choose.
-/
import Derived.WalkKit
import Derived.WalkSpells
import Derived.WalkLawsBesides
import Derived.Deep.QuietTactic
import Derived.BigQuiet
import Derived.Laws.StructEq
import Derived.Lib.Hide
import Derived.Sort.Grow
import Derived.OrdersHeld
import Derived.Test.YtlpgmdhnjckplaaGreatProg
import Derived.Test.YtlpgmdhnjckplaaGreatShelf
import Derived.Deep.RegionWith
import Derived.Deep.DeepCutAuto
import Derived.Deep.Light
import Derived.Defers
import Derived.Recover
import Derived.Maps.AppendAt
import Derived.Deep.AppendLies
import Derived.Deep.RegionLaw
import Derived.OwnWalk
import Derived.Laws.OwnMore
import Derived.Deep.LoopGhost
import Derived.Laws.MakeOwn
import Derived.Laws.Entries
set_option linter.unusedVariables false
set_option linter.unusedSimpArgs false
set_option maxRecDepth 100000
set_option maxHeartbeats 16000000
namespace Go.Proofs.YtlpgmdhnjckplaaGreat
open Go.RowKit
theorem qh {p:Prop} (h:p):Hid p:=Lib.hid h
structure Val where
 kind:Int
 num:Int
 text:ByteArray
structure Ident where
 ns:ByteArray
 val:Val
structure Link where
 a:Ident
 b:Ident
 seq:Int
 rev:Bool
theorem ba_ext {a b:ByteArray} (h:a.toList=b.toList):a=b:=by
 rw [ByteArray.toList_eq,ByteArray.toList_eq] at h
 obtain ⟨⟨x⟩⟩:=a
 obtain ⟨⟨y⟩⟩:=b
 simp at h
 rw [h]
instance:DecidableEq ByteArray:=fun a b=>if h:a.toList=b.toList then isTrue (ba_ext h) else isFalse (fun e=>h (by rw [e]))
instance:DecidableEq Val:=fun a b =>
 if h:a.kind=b.kind∧a.num=b.num∧a.text=b.text then isTrue (by obtain ⟨_,_,_⟩:=a;obtain ⟨_,_,_⟩:=b;simp at h;simp [h])
 else isFalse (fun e=>h (by simp [e]))
instance:DecidableEq Ident:=fun a b =>
 if h:a.ns=b.ns∧a.val=b.val then isTrue (by obtain ⟨_,_⟩:=a;obtain ⟨_,_⟩:=b;simp at h;simp [h])
 else isFalse (fun e=>h (by simp [e]))
instance:DecidableEq Link:=fun a b =>
 if h:a.a=b.a∧a.b=b.b∧a.seq=b.seq∧a.rev=b.rev then isTrue (by obtain ⟨_,_,_,_⟩:=a;obtain ⟨_,_,_,_⟩:=b;simp at h;simp [h])
 else isFalse (fun e=>h (by simp [e]))
theorem ba_eq_iff {a b:ByteArray}:a.toList=b.toList↔a=b:=⟨ba_ext,fun h=>by rw [h]⟩
theorem below_drewN {B:Nat} {a w:World} (h:Below B a w) (n:Nat):Below B a (w.drewN n):=⟨h.os,h.tape,h.output,h.size,h.block⟩
theorem below_next {w W w1:World} (h:Below w.heap.size w W) (hb:Below W.heap.size W w1):Below w.heap.size w w1:=h.trans (hb.mono h.size)
theorem below_nextN {w W w1:World} {B:Nat} (h:Below B w W) (hb:Below W.heap.size W w1) (hB:B≤W.heap.size):Below B w w1:=h.trans (hb.mono hB)
theorem belA {B:Nat} {a w:World} (h:Below B a w:=by repeat (first|with_reducible exact Below.refl _ _|with_reducible assumption|(with_reducible refine Below.setCell ?_ ?_ _;rotate_left;focus (first|exact Nat.le_refl _|exact Nat.le_add_right _ _|(simp;done)|(simp;omega)|omega))|(with_reducible refine Below.alloc ?_ ?_ _;rotate_left;focus (first|exact Nat.le_refl _|exact Nat.le_add_right _ _|(simp;done)|(simp;omega)|omega))|with_reducible refine Below.drew ?_|with_reducible refine below_drewN ?_ _|(with_reducible refine below_nextN ?_ (by with_reducible assumption) ?_;rotate_left;focus (first|exact Nat.le_refl _|exact Nat.le_add_right _ _|(simp;done)|(simp;omega)|omega)))):Below B a w:=h
theorem leA {p:Prop} (h:p:=by first|exact Nat.le_refl _|exact Nat.le_add_right _ _|assumption|(simp;done)|(simp;omega)|omega):p:=h
theorem ltA {p:Prop} (h:p:=by first|assumption|(simp;done)|(simp;omega)|omega):p:=h
theorem ret_int {k:IntKind} {a b:Int} (h:a=b):Ending.returned (.int k a) = .returned (.int k b):=by rw [h]
theorem ret_bool {a b:Bool} (h:a=b):Ending.returned (.bool a) = .returned (.bool b):=by rw [h]
def Ext (w w':World):Prop:=Below w.heap.size w w'∧w.drawn≤w'.drawn
theorem Ext.refl (w:World):Ext w w:=⟨Below.refl _ _,Nat.le_refl _⟩
theorem Ext.trans {a b c:World} (h:Ext a b) (k:Ext b c):Ext a c:=⟨below_next h.1 k.1,Nat.le_trans h.2 k.2⟩
theorem Ext.alloc {a w:World} (h:Ext a w) (o:Obj):Ext a (w.alloc o):=⟨h.1.alloc h.1.size o,h.2⟩
theorem Ext.drew {a w:World} (h:Ext a w):Ext a w.drew:=⟨h.1.drew,Nat.le_succ_of_le h.2⟩
theorem Ext.drewN {a w:World} (h:Ext a w) (n:Nat):Ext a (w.drewN n):=⟨below_drewN h.1 n,by
 have:(w.drewN n).drawn=w.drawn+n:=rfl
 have:=h.2
 omega⟩
theorem Ext.setCell {a w:World} (h:Ext a w) {p:Addr} (hp:a.heap.size≤p.block) (u:Value):Ext a (w.setCell p u):=⟨h.1.setCell hp u,h.2⟩
theorem extA {a w:World} (h:Ext a w:=by repeat (first|with_reducible exact Ext.refl _|with_reducible assumption|(with_reducible refine Ext.setCell ?_ ?_ _;rotate_left;focus (first|exact Nat.le_refl _|exact Nat.le_add_right _ _|(simp;done)|(simp;omega)|omega))|with_reducible refine Ext.alloc ?_ _|with_reducible refine Ext.drew ?_|with_reducible refine Ext.drewN ?_ _|(with_reducible refine Ext.trans ?_ (by with_reducible assumption)))):Ext a w:=h
theorem Ext.grow {w w':World} (h:Ext w w') : ∃ q os,w'=Sort.grow (w.drewN q) os:=by
 obtain ⟨⟨h1,h2,h3,h4,h5⟩,hd⟩:=h
 refine ⟨w'.drawn - w.drawn,w'.heap.extract w.heap.size w'.heap.size,?_⟩
 obtain ⟨hp,tp,dr,os,out⟩:=w
 obtain ⟨hp',tp',dr',os',out'⟩:=w'
 simp only [World.drewN,Sort.grow] at *
 have e:hp'=hp++hp'.extract hp.size hp'.size:=by
  apply Array.ext_getElem?
  intro i
  rw [Array.getElem?_append]
  split
  ·rename_i hi
   exact h5 i hi
  ·rename_i hi
   rw [Array.getElem?_extract]
   split
   ·congr 1;omega
   ·rw [Array.getElem?_eq_none];omega
 subst h1 h2 h3
 rw [← e]
 congr 1
 omega
theorem keepE {W w1:World} (he:Ext W w1) (g:Nat) (hg:g<W.heap.size) :
 (∀ o,w1.cell? ⟨g,o,none⟩=W.cell? ⟨g,o,none⟩)∧(∀ o,w1.frozen? ⟨g,o,none⟩=W.frozen? ⟨g,o,none⟩)∧g<w1.heap.size :=
 ⟨fun o=>he.1.cell (p:=⟨g,o,none⟩) hg,fun o=>he.1.frozen (p:=⟨g,o,none⟩) hg,Nat.lt_of_lt_of_le hg he.1.size⟩
theorem keepB {W w1:World} (hb:Below W.heap.size W w1) (g:Nat) (hg:g<W.heap.size) :
 (∀ o,w1.cell? ⟨g,o,none⟩=W.cell? ⟨g,o,none⟩)∧(∀ o,w1.frozen? ⟨g,o,none⟩=W.frozen? ⟨g,o,none⟩)∧g<w1.heap.size :=
 ⟨fun o=>hb.cell (p:=⟨g,o,none⟩) hg,fun o=>hb.frozen (p:=⟨g,o,none⟩) hg,Nat.lt_of_lt_of_le hg hb.size⟩
/-! Regions that draw their order, whose operations read and whose callees only make new memory: one walk in the order of the text. -/
structure BelOf (w:World) where
 u:World
 h:Below w.heap.size w u
instance (w:World):Inhabited (BelOf w):=⟨⟨w,Below.refl _ _⟩⟩
theorem wp_region_bel {P:Program} {id:Nat} {Q:Exit→Act→World→Prop} {a:Act} {w:World} {l:List Oper} (hm:P.follows .mixedOrders=true) (hB:Region.lexB .any l.toArray=true)
 (h:wpQuiet P l.toArray (fun w' => ∃ x:BelOf w,w'=x.u) (fun a' => ∀ w',Below w.heap.size w w'→Q .normal a' w') l a):(Code.region id l.toArray true).wp P Q a w:=by
 have e:(fun a' => ∀ w',Below w.heap.size w w'→Q .normal a' w')=(fun a' => ∀ w',(∃ x:BelOf w,w'=x.u)→Q .normal a' w'):=by
  funext a'
  apply propext
  exact ⟨fun h w' ⟨x,hx⟩=>by subst hx;exact h _ x.h,fun h w' hb=>h w' ⟨⟨w',hb⟩,rfl⟩⟩
 rw [e] at h
 exact wp_region_quiet (C:=fun w' => ∃ x:BelOf w,w'=x.u) hm hB ⟨⟨w.drew,(Below.refl _ _).drew⟩,rfl⟩ (by simpa using h)
theorem bel_of {P:Program} {f:FuncId} {args:Array Value} {w:World} {x:BelOf w} {v:Value}
 (h:Calls P f args x.u fun e w'=>e = .returned v∧Below x.u.heap.size x.u w'):Calls P f args x.u fun e w''=>e = .returned v ∧ ∃ y:BelOf w,w''=y.u :=
 h.mono fun _ w' ⟨he,hb⟩=>⟨he,⟨w',below_next x.h hb⟩,rfl⟩
theorem bel_of_ext {P:Program} {f:FuncId} {args:Array Value} {w:World} {x:BelOf w} {v:Value}
 (h:Calls P f args x.u fun e w'=>e = .returned v∧Ext x.u w'):Calls P f args x.u fun e w''=>e = .returned v ∧ ∃ y:BelOf w,w''=y.u :=
 h.mono fun _ w' ⟨he,hb⟩=>⟨he,⟨w',below_next x.h hb.1⟩,rfl⟩
theorem bel_of_same {P:Program} {f:FuncId} {args:Array Value} {w:World} {x:BelOf w} {v:Value}
 (h:Calls P f args x.u fun e w'=>e = .returned v∧x.u=w'):Calls P f args x.u fun e w''=>e = .returned v ∧ ∃ y:BelOf w,w''=y.u :=
 h.mono fun _ _ ⟨he,hb⟩=>⟨he,x,hb.symm⟩
theorem keepQ {w:World} (g:Nat) (hg:g<w.heap.size) : ∀ (x:BelOf w) (o:Nat),x.u.cell? ⟨g,o,none⟩=w.cell? ⟨g,o,none⟩ :=
 fun x o=>x.h.cell (p:=⟨g,o,none⟩) hg
/-! A slice of structs, read as a list. -/
def SliceIs {α : Type} (w:World) (B:Nat) (enc : α → List Value) (k:Nat) (A:Option Addr) (l:List α):Prop :=
 0<l.length → ∃ b o,A=some ⟨b,o,none⟩∧b<B ∧ ∀ i (h:i<l.length) j u,(enc l[i])[j]? = some u→w.cell? ⟨b,o+(i*k+j),none⟩=some u
section
variable {α : Type} {w w':World} {B B':Nat} {enc : α → List Value} {k:Nat} {A:Option Addr} {l:List α}
theorem SliceIs.nil:SliceIs w B enc k A []:=fun h=>absurd h (by simp)
theorem SliceIs.below (h:SliceIs w B enc k A l) (hb:Below B w w'):SliceIs w' B enc k A l:=by
 intro hl
 obtain ⟨b,o,rfl,hB,hc⟩:=h hl
 exact ⟨b,o,rfl,hB,fun i hi j u hu=>(hb.cell (by exact hB)).trans (hc i hi j u hu)⟩
theorem SliceIs.mono (h:SliceIs w B enc k A l) (hB:B≤B'):SliceIs w B' enc k A l:=by
 intro hl
 obtain ⟨b,o,rfl,hb,hc⟩:=h hl
 exact ⟨b,o,rfl,by omega,hc⟩
theorem SliceIs.next (h:SliceIs w w.heap.size enc k A l) (hb:Below w.heap.size w w'):SliceIs w' w'.heap.size enc k A l :=
 (h.below hb).mono hb.size
theorem SliceIs.get (h:SliceIs w B enc k A l) {i:Nat} (hi:i<l.length) : ∃ b o,A=some ⟨b,o,none⟩∧b<B ∧ ∀ j u,(enc l[i])[j]? = some u→w.cell? ⟨b,o+i*k+j,none⟩=some u:=by
 obtain ⟨b,o,rfl,hb,hc⟩:=h (by omega)
 exact ⟨b,o,rfl,hb,fun j u hu=>by rw [Nat.add_assoc];exact hc i hi j u hu⟩
end
/-! The cells of the data. -/
def Val.cells (x:Val):List Value := [.int .i64 x.kind, .int .i64 x.num, .string x.text]
def Ident.cells (x:Ident):List Value := [.string x.ns, .int .i64 x.val.kind, .int .i64 x.val.num, .string x.val.text]
def Link.cells (x:Link):List Value := [.string x.a.ns, .int .i64 x.a.val.kind, .int .i64 x.a.val.num, .string x.a.val.text, .string x.b.ns, .int .i64 x.b.val.kind, .int .i64 x.b.val.num, .string x.b.val.text, .int .i64 x.seq, .bool x.rev]
theorem Ident.cells4 {w:World} {b o:Nat} {x:Ident} (h : ∀ j u,x.cells[j]? = some u→w.cell? ⟨b,o+j,none⟩=some u) :
 w.cell? ⟨b,o,none⟩=some (.string x.ns)∧w.cell? ⟨b,o + 1,none⟩=some (.int .i64 x.val.kind)∧w.cell? ⟨b,o + 2,none⟩=some (.int .i64 x.val.num)∧w.cell? ⟨b,o + 3,none⟩=some (.string x.val.text) :=
 ⟨h 0 _ rfl,h 1 _ rfl,h 2 _ rfl,h 3 _ rfl⟩
theorem Link.cells10 {w:World} {b o:Nat} {x:Link} (h : ∀ j u,x.cells[j]? = some u→w.cell? ⟨b,o+j,none⟩=some u) :
 (w.cell? ⟨b,o,none⟩=some (.string x.a.ns)∧w.cell? ⟨b,o + 1,none⟩=some (.int .i64 x.a.val.kind)∧w.cell? ⟨b,o + 2,none⟩=some (.int .i64 x.a.val.num)∧w.cell? ⟨b,o + 3,none⟩=some (.string x.a.val.text)) ∧
 (w.cell? ⟨b,o + 4,none⟩=some (.string x.b.ns)∧w.cell? ⟨b,o + 5,none⟩=some (.int .i64 x.b.val.kind)∧w.cell? ⟨b,o + 6,none⟩=some (.int .i64 x.b.val.num)∧w.cell? ⟨b,o + 7,none⟩=some (.string x.b.val.text)) ∧
 w.cell? ⟨b,o + 8,none⟩=some (.int .i64 x.seq)∧w.cell? ⟨b,o + 9,none⟩=some (.bool x.rev) :=
 ⟨⟨h 0 _ rfl,h 1 _ rfl,h 2 _ rfl,h 3 _ rfl⟩,⟨h 4 _ rfl,h 5 _ rfl,h 6 _ rfl,h 7 _ rfl⟩,h 8 _ rfl,h 9 _ rfl⟩
theorem nbA {P:Prop} (h:P:=by first|exact Blk.new' (by simp;done)|exact (Blk.new' (by simp;done)).drew|exact (Blk.new' (by simp;done)).alloc _|exact ((Blk.new' (by simp;done)).alloc _).drew):P:=h
theorem ncA {P:Prop} (h:P:=by first|exact ((Blk.new' rfl).alloc _).drew|exact (Blk.new' rfl).alloc _):P:=h
theorem ndA {P:Prop} (h:P:=by first|exact (Blk.new' (by simp)).drew|exact Blk.new' (by simp)):P:=h
theorem neA {P:Prop} (h:P:=by first|exact (Blk.new' rfl).drew|exact Blk.new' rfl):P:=h
theorem nfA {P:Prop} (h:P:=by first|exact hown1|exact hown1.alloc _):P:=h
theorem ngA {P:Prop} (h:P:=by have:=hb1.size;simp;omega):P:=h
theorem mxA {P:Prop} (h:P:=by simp [maxLen];omega):P:=h
theorem krA {P:Prop} (h:P:=by kernel_rfl):P:=h
theorem smA {P:Prop} (h:P:=by simp;omega):P:=h
theorem sdA {P:Prop} (h:P:=by simp;done):P:=h
theorem omA {P:Prop} (h:P:=by omega):P:=h
theorem spA {P:Prop} (h:P:=by simp):P:=h
open Go.RowKit Go
section
variable {P:Program} {ops:Array Oper} {Q:Exit→Act→World→Prop} {md:Region.Mode} {S:World→Prop}
theorem tkH (i:Nat) {oi:Oper} {v:Value} {n:Nat} {listed:Array Bool} {a a':Act} {w:World} (hS:S w) (h:wpAnyH P md ops Q S n (listed.setIfInBounds i true) a' w)
 (hi:ops[i]? = some oi:=by exact rfl) (hs:Region.noSelect ops=true:=by kernel_rfl) (hf:Region.free md ops listed i=true:=by kernel_rfl) (hr:(Region.ready md ops listed).contains i=true:=by kernel_rfl)
 (hQ : ∀ c a w,Q (.panic c) (a.put oi.dst v) w→Q (.panic c) a w:=by exact fun _ _ _ h=>h) (hn:Region.wanted oi (yielded ops a.tmps)=true:=by kernel_rfl)
 (hy : ∀ w,S w→(execOp a.eval oi).run P w = .ok (.value v) w:=by (intro w hSw;(try dsimp only at hSw);go_simp;first|done|with_reducible rfl))
 (ha:a.put oi.dst v=a':=by ((try simp only [Act.put,List.getElem_toArray,List.getElem_cons_zero,List.getElem_cons_succ,List.setIfInBounds_toArray,List.set_cons_zero,List.set_cons_succ]);exact rfl)):wpAnyH P md ops Q S (n + 1) listed a w :=
 wpAnyH_take hi hs hf hr hQ (Or.inl ⟨hn,hy⟩) hS (ha▸h)
end
def valB (x:Val):Bool :=
 if x.kind == 0 then x.num == 0&&x.text.toList.isEmpty
 else if x.kind == 1 then decide (-4294967296≤x.num)&&decide (x.num ≤ 4294967296)&&x.text.toList.isEmpty
 else if x.kind == 2 then x.num == 0&&decide (x.text.size ≤ 32) else false
def clean (x:Val):Val:=if valB x then x else ⟨0,0,⟨#[]⟩⟩
theorem clean_yes {x:Val} (h:valB x=true):clean x=x:=by simp [clean,h]
theorem clean_no {x:Val} (h:valB x=false):clean x=⟨0,0,⟨#[]⟩⟩:=by simp [clean,h]
theorem value_Valid (k n:Int) (t:ByteArray) (w:World) :
 Calls Tryz.prog 210 #[.agg #[.int .i64 k, .int .i64 n, .string t]] w fun e w'=>e = .returned (.bool (valB ⟨k,n,t⟩))∧Ext w w':=by
 go_enter Tryz.func210,Tryz.ntmps210
 go_wp2
 all_goals go_ret
 all_goals refine ⟨?_,(Ext.refl _).alloc _⟩
 all_goals refine ret_bool ?_
 all_goals first
  | (simp [valB, *];done)
  | (simp only [valB, *];simp;omega)
theorem ref01_Valid (k n:Int) (t:ByteArray) (w:World) :
 Calls Tryz.prog 171 #[.agg #[.int .i64 k, .int .i64 n, .string t]] w fun e w'=>e = .returned (.bool (valB ⟨k,n,t⟩))∧Ext w w':=by
 go_enter Tryz.func171,Tryz.ntmps171
 go_wp2
 all_goals go_ret
 all_goals refine ⟨?_,(Ext.refl _).alloc _⟩
 all_goals refine ret_bool ?_
 all_goals first
  | (simp [valB, *];done)
  | (simp only [valB, *];simp;omega)
theorem value_Clean (k n:Int) (t:ByteArray) (w:World) :
 Calls Tryz.prog 251 #[.agg #[.int .i64 k, .int .i64 n, .string t]] w fun e w' =>
  e = .returned (.agg #[.int .i64 (clean ⟨k,n,t⟩).kind, .int .i64 (clean ⟨k,n,t⟩).num, .string (clean ⟨k,n,t⟩).text])∧Ext w w':=by
 go_enter Tryz.func251,Tryz.ntmps251
 go_wp2_with (go_at_call 210;refine (value_Valid _ _ _ _).mono ?_;rintro e w1 ⟨rfl,hb⟩;obtain ⟨c0,f0,z0⟩:=keepE hb w.heap.size ltA;obtain ⟨c1,f1,z1⟩:=keepE hb (w.heap.size + 1) ltA)
 ·have h:valB ⟨k,n,t⟩=true:=by assumption
  refine bodyPost_ret (v := .agg #[.int .i64 k, .int .i64 n, .string t]) (by simp [results,Tryz.results251,go_sem,c1]) rfl ⟨by rw [clean_yes h],?_⟩
  exact extA
 ·have h:valB ⟨k,n,t⟩=false:=by assumption
  refine bodyPost_ret (v := .agg #[.int .i64 0, .int .i64 0, .string ⟨#[]⟩]) (by simp [results,Tryz.results251,go_sem,c1]) rfl ⟨by rw [clean_no h],?_⟩
  exact extA
theorem ref01_Clean (k n:Int) (t:ByteArray) (w:World) :
 Calls Tryz.prog 114 #[.agg #[.int .i64 k, .int .i64 n, .string t]] w fun e w' =>
  e = .returned (.agg #[.int .i64 (clean ⟨k,n,t⟩).kind, .int .i64 (clean ⟨k,n,t⟩).num, .string (clean ⟨k,n,t⟩).text])∧Ext w w':=by
 go_enter Tryz.func114,Tryz.ntmps114
 go_wp2_with (go_at_call 171;refine (ref01_Valid _ _ _ _).mono ?_;rintro e w1 ⟨rfl,hb⟩;obtain ⟨c0,f0,z0⟩:=keepE hb w.heap.size ltA;obtain ⟨c1,f1,z1⟩:=keepE hb (w.heap.size + 1) ltA)
 ·have h:valB ⟨k,n,t⟩=true:=by assumption
  refine bodyPost_ret (v := .agg #[.int .i64 k, .int .i64 n, .string t]) (by simp [results,Tryz.results114,go_sem,c1]) rfl ⟨by rw [clean_yes h],?_⟩
  exact extA
 ·have h:valB ⟨k,n,t⟩=false:=by assumption
  refine bodyPost_ret (v := .agg #[.int .i64 0, .int .i64 0, .string ⟨#[]⟩]) (by simp [results,Tryz.results114,go_sem,c1]) rfl ⟨by rw [clean_no h],?_⟩
  exact extA
def cmpInt (a b:Int):Int:=if a<b then -1 else if b<a then 1 else 0
def cmpStr (a b:ByteArray):Int:=if Op.bytesLess a.toList b.toList then -1 else if Op.bytesLess b.toList a.toList then 1 else 0
def cmpVal (a b:Val):Int :=
 if (clean a).kind != (clean b).kind then cmpInt (clean a).kind (clean b).kind
 else if (clean a).kind == 1 then cmpInt (clean a).num (clean b).num
 else if (clean a).kind == 2 then cmpStr (clean a).text (clean b).text else 0
theorem bytesLess_gtr : ∀ (a b:List UInt8),(!(Op.bytesLess a b||a==b))=Op.bytesLess b a
 | [],[]=>rfl
 | [],_::_=>rfl
 | _::_,[]=>rfl
 | x::a,y::b=>by
   have ih:=bytesLess_gtr a b
   simp only [Op.bytesLess]
   by_cases h:x=y
   ·subst h
    simp [UInt8.lt_irrefl] at ih ⊢
    exact ih
   ·by_cases h1:x<y
    ·have h2 : ¬ y<x:=UInt8.lt_asymm h1
     have h3 : ¬ y=x:=fun e=>h e.symm
     simp [h1,h2,h3]
    ·have h2:y<x:=UInt8.lt_of_le_of_ne (UInt8.not_lt.1 h1) (Ne.symm h)
     simp [h,h1,h2]
theorem cmpBytes_eq : ∀ (a b:List UInt8),Lib.compareBytes a b=if Op.bytesLess a b then -1 else if Op.bytesLess b a then 1 else 0
 | [],[]=>rfl
 | [],_::_=>rfl
 | _::_,[]=>rfl
 | x::a,y::b=>by
   have ih:=cmpBytes_eq a b
   simp only [Op.bytesLess,Lib.compareBytes,ih]
   by_cases h:x=y
   ·subst h;simp [UInt8.lt_irrefl]
   ·by_cases h1:x<y
    ·simp [h1]
    ·have h2:y<x:=UInt8.lt_of_le_of_ne (UInt8.not_lt.1 h1) (Ne.symm h)
     simp [h,h1,h2]
theorem compareBytes_cmpStr (a b:ByteArray):Lib.compareBytes a.data.toList b.data.toList=cmpStr a b:=by
 rw [cmpBytes_eq,cmpStr,ByteArray.toList_eq,ByteArray.toList_eq]
theorem cmp_int (a b:Int) (w:World):Calls Tryz.prog 133 #[.int .i64 a, .int .i64 b] w fun e w'=>e = .returned (.int .i64 (cmpInt a b))∧w=w':=by
 go_enter Tryz.func133,Tryz.ntmps133
 go_wp2
 all_goals go_ret
 all_goals refine ⟨ret_int ?_,rfl⟩
 all_goals unfold cmpInt
 all_goals (repeat (first|omega|rfl|split))
theorem cmp_int64 (a b:Int) (w:World):Calls Tryz.prog 252 #[.int .i64 a, .int .i64 b] w fun e w'=>e = .returned (.int .i64 (cmpInt a b))∧w=w':=by
 go_enter Tryz.func252,Tryz.ntmps252
 go_wp2
 all_goals go_ret
 all_goals refine ⟨ret_int ?_,rfl⟩
 all_goals unfold cmpInt
 all_goals (repeat (first|omega|rfl|split))
theorem cmp_string (a b:ByteArray) (w:World):Calls Tryz.prog 212 #[.string a, .string b] w fun e w'=>e = .returned (.int .i64 (cmpStr a b))∧w=w':=by
 go_enter Tryz.func212,Tryz.ntmps212
 go_wp2
 all_goals go_ret
 all_goals refine ⟨ret_int ?_,rfl⟩
 all_goals (rw [cmpStr,← bytesLess_gtr a.toList b.toList];simp_all)
def TwoVals (B:Nat) (a b:Val) (w:World):Prop :=
 w.cell? ⟨B,0,none⟩=some (.int .i64 a.kind)∧w.cell? ⟨B,1,none⟩=some (.int .i64 a.num)∧w.cell? ⟨B,2,none⟩=some (.string a.text) ∧
 w.cell? ⟨B + 1,0,none⟩=some (.int .i64 b.kind)∧w.cell? ⟨B + 1,1,none⟩=some (.int .i64 b.num)∧w.cell? ⟨B + 1,2,none⟩=some (.string b.text)
theorem value_Compare (k n k' n':Int) (t t':ByteArray) (w:World) :
 Calls Tryz.prog 213 #[.agg #[.int .i64 k, .int .i64 n, .string t], .agg #[.int .i64 k', .int .i64 n', .string t']] w fun e w' =>
  e = .returned (.int .i64 (cmpVal ⟨k,n,t⟩ ⟨k',n',t'⟩))∧Ext w w':=by
 go_enter Tryz.func213,Tryz.ntmps213
 go_upto_region 1 with (fail)
 go_cut [] (fun wc=>Ext w wc∧TwoVals w.heap.size (clean ⟨k,n,t⟩) (clean ⟨k',n',t'⟩) wc)
 case first =>
  go_region_with (go_at_call 251;refine (value_Clean _ _ _ _).mono ?_;rintro e w1 ⟨rfl,hb⟩;obtain ⟨c0,f0,z0⟩:=keepE hb w.heap.size ltA;obtain ⟨c1,f1,z1⟩:=keepE hb (w.heap.size + 1) ltA)
  all_goals (go_wp2_with fail;go_meet;refine ⟨by exact extA,by unfold TwoVals;go_light;go_simp⟩)
 case rest =>
  obtain ⟨hx,h1,h2,h3,h4,h5,h6⟩:=hcut
  go_wp2_with (first|(go_at_call 133;refine (cmp_int _ _ _).mono ?_;rintro e w1 ⟨rfl,rfl⟩)|(go_at_call 252;refine (cmp_int64 _ _ _).mono ?_;rintro e w1 ⟨rfl,rfl⟩)|(go_at_call 253;refine (Tryz.strings_Compare _ _ _).mono ?_;rintro e w1 ⟨rfl,rfl⟩))
  all_goals go_ret
  all_goals refine ⟨ret_int ?_,hx⟩
  all_goals (try rw [compareBytes_cmpStr])
  all_goals (simp [cmpVal, *];done)
theorem eqlVal (x y:Val) (w:World):(Op.equalIn 10000 88 (.agg #[.int .i64 x.kind, .int .i64 x.num, .string x.text]) (.agg #[.int .i64 y.kind, .int .i64 y.num, .string y.text])).run Tryz.prog w = .ok (decide (x=y)) w:=by
 have hS:Tryz.prog.underlying 88=some (.struct (Tryz.prog.fieldsOf 88)):=by kernel_rfl
 have hp:Tryz.prog.stoodInHeld 88=false:=by kernel_rfl
 have u2:=Tryz.underlying2
 have u3:=Tryz.underlying3
 have u9:=Tryz.underlying9
 rw [show (10000:Nat) = 9999 + 1 from rfl,run_equalIn_agg w _ 88 _ _ hS hp]
 simp only [Program.fieldsOf,Tryz.underlying88]
 go_simp
 obtain ⟨a,b,c⟩:=x
 obtain ⟨a',b',c'⟩:=y
 simp only [Val.mk.injEq]
 by_cases h1:a=a' <;> by_cases h2:b=b' <;> by_cases h3:c=c' <;> simp [h1,h2,h3,ba_eq_iff]
def refCmp (a b:Val):Int :=
 if a=b then 0 else if decide (a.kind<b.kind)||(a.kind==b.kind&&(decide (a.num<b.num)||Op.bytesLess a.text.toList b.text.toList)) then -1 else 1
theorem clean_valid (a:Val):valB (clean a)=true:=by
 unfold clean
 split
 ·assumption
 ·simp [valB,ByteArray.toList_eq]
theorem isEmpty_ba {t:ByteArray} (h:t.toList.isEmpty=true):t=⟨#[]⟩:=by
 apply ba_ext
 simp at h
 rw [h,ByteArray.toList_eq]
theorem valB_cases {x:Val} (h:valB x=true):x=⟨0,0,⟨#[]⟩⟩∨(∃ n,x=⟨1,n,⟨#[]⟩⟩ ∧ -4294967296≤n∧n ≤ 4294967296)∨(∃ t,x=⟨2,0,t⟩∧t.size ≤ 32):=by
 obtain ⟨k,n,t⟩:=x
 unfold valB at h
 simp only at h
 split at h
 ·simp only [Bool.and_eq_true,beq_iff_eq] at *
  left
  obtain ⟨h1,h2⟩:=h
  rw [isEmpty_ba h2]
  simp [*]
 ·split at h
  ·simp only [Bool.and_eq_true,beq_iff_eq,decide_eq_true_eq] at *
   right;left
   obtain ⟨⟨h1,h2⟩,h3⟩:=h
   exact ⟨n,by rw [isEmpty_ba h3];simp [*],h1,h2⟩
  ·split at h
   ·simp only [Bool.and_eq_true,beq_iff_eq,decide_eq_true_eq] at *
    right;right
    exact ⟨t,by simp [*],h.2⟩
   ·cases h
theorem bytesLess_irrefl : ∀ a:List UInt8,Op.bytesLess a a=false
 | []=>rfl
 | x::a=>by simp [Op.bytesLess,UInt8.lt_irrefl,bytesLess_irrefl a]
theorem refCmp_eq (a b:Val):refCmp (clean a) (clean b)=cmpVal a b:=by
 have ha:=valB_cases (clean_valid a)
 have hb:=valB_cases (clean_valid b)
 unfold cmpVal
 generalize clean a=c at *
 generalize clean b=d at *
 unfold refCmp cmpInt cmpStr
 rcases ha with rfl|⟨n,rfl,_,_⟩|⟨t,rfl,_⟩ <;> rcases hb with rfl|⟨n',rfl,_,_⟩|⟨t',rfl,_⟩
 ·simp
 ·simp
 ·simp
 ·simp
 ·simp only [Val.mk.injEq]
  by_cases h1:n=n'
  ·simp [h1]
  ·by_cases h2:n<n'
   ·simp [h1,h2]
   ·have h3:n'<n:=by omega
    simp [h1,h2,h3,Op.bytesLess]
 ·simp
 ·simp
 ·simp
 ·simp only [Val.mk.injEq]
  by_cases h1:t=t'
  ·simp [h1,bytesLess_irrefl]
  ·have h2:=bytesLess_gtr t.toList t'.toList
   have h3 : ¬ t.toList=t'.toList:=fun e=>h1 (ba_ext e)
   by_cases h4:Op.bytesLess t.toList t'.toList=true
   ·simp [h1,h4]
   ·have h5:(t.toList==t'.toList)=false:=by simpa using h3
    rw [h5] at h2
    have h6:Op.bytesLess t'.toList t.toList=true:=by
     rw [← h2];simpa using h4
    simp [h1,h4,h6]
theorem ref01_Compare (k n k' n':Int) (t t':ByteArray) (w:World) :
 Calls Tryz.prog 120 #[.agg #[.int .i64 k, .int .i64 n, .string t], .agg #[.int .i64 k', .int .i64 n', .string t']] w fun e w' =>
  e = .returned (.int .i64 (cmpVal ⟨k,n,t⟩ ⟨k',n',t'⟩))∧Ext w w':=by
 have heq:=eqlVal (clean ⟨k,n,t⟩) (clean ⟨k',n',t'⟩)
 have hg:Tryz.prog.eqGuardType Tryz.prog.depth 88=false:=by kernel_rfl
 go_enter Tryz.func120,Tryz.ntmps120
 go_upto_region 1 with (fail)
 go_cut [] (fun wc=>Ext w wc∧TwoVals w.heap.size (clean ⟨k,n,t⟩) (clean ⟨k',n',t'⟩) wc)
 case first =>
  go_region_with (go_at_call 114;refine (ref01_Clean _ _ _ _).mono ?_;rintro e w1 ⟨rfl,hb⟩;obtain ⟨c0,f0,z0⟩:=keepE hb w.heap.size ltA;obtain ⟨c1,f1,z1⟩:=keepE hb (w.heap.size + 1) ltA)
  all_goals (go_wp2_with fail;go_meet;refine ⟨by exact extA,by unfold TwoVals;go_light;go_simp⟩)
 case rest =>
  obtain ⟨hx,h1,h2,h3,h4,h5,h6⟩:=hcut
  set_option maxRecDepth 100000 in
  go_wp2_with fail
  all_goals go_ret
  all_goals (refine ⟨ret_int ?_,hx⟩;rw [← refCmp_eq];clear heq hg h1 h2 h3 h4 h5 h6 hx;go_light;generalize clean ⟨k,n,t⟩=c at *;generalize clean ⟨k',n',t'⟩=d at *;unfold refCmp)
  all_goals first
   | (simp_all;done)
   | (simp_all;omega)
theorem ref01_Int (n:Int) (w:World) :
 Calls Tryz.prog 66 #[.int .i64 n] w fun e w'=>e = .returned (.agg #[.int .i64 (clean ⟨1,n,⟨#[]⟩⟩).kind, .int .i64 (clean ⟨1,n,⟨#[]⟩⟩).num, .string (clean ⟨1,n,⟨#[]⟩⟩).text])∧Ext w w':=by
 go_enter Tryz.func66,Tryz.ntmps66
 go_wp2_with (go_at_call 114;refine (ref01_Clean _ _ _ _).mono ?_;rintro e w1 ⟨rfl,hb⟩;obtain ⟨c0,f0,z0⟩:=keepE hb w.heap.size ltA)
 refine bodyPost_ret (v := .agg #[.int .i64 (clean ⟨1,n,⟨#[]⟩⟩).kind, .int .i64 (clean ⟨1,n,⟨#[]⟩⟩).num, .string (clean ⟨1,n,⟨#[]⟩⟩).text]) (by simp [results,Tryz.results66,go_sem,c0]) rfl ⟨rfl,?_⟩
 exact extA
theorem ref01_Text (s:ByteArray) (w:World) :
 Calls Tryz.prog 176 #[.string s] w fun e w'=>e = .returned (.agg #[.int .i64 (clean ⟨2,0,s⟩).kind, .int .i64 (clean ⟨2,0,s⟩).num, .string (clean ⟨2,0,s⟩).text])∧Ext w w':=by
 go_enter Tryz.func176,Tryz.ntmps176
 go_wp2_with (go_at_call 114;refine (ref01_Clean _ _ _ _).mono ?_;rintro e w1 ⟨rfl,hb⟩;obtain ⟨c0,f0,z0⟩:=keepE hb w.heap.size ltA)
 refine bodyPost_ret (v := .agg #[.int .i64 (clean ⟨2,0,s⟩).kind, .int .i64 (clean ⟨2,0,s⟩).num, .string (clean ⟨2,0,s⟩).text]) (by simp [results,Tryz.results176,go_sem,c0]) rfl ⟨rfl,?_⟩
 exact extA
def letB (c:Int):Bool:=decide (97≤c)&&decide (c ≤ 122)
def digB (c:Int):Bool:=decide (48≤c)&&decide (c ≤ 57)
def inNameB (c:Int):Bool:=letB c||digB c||c == 95
def byteAt (s:ByteArray) (k:Nat):Int:=if h:k<s.size then (s[k].toNat:Int) else 0
def okAt (s:ByteArray) (k:Nat):Bool:=letB (byteAt s k)||(decide (0<k)&&(digB (byteAt s k)||byteAt s k == 95))
def allOk (s:ByteArray) (n:Nat):Bool:=(List.range n).all (okAt s)
def nameB (s:ByteArray):Bool:=decide (s.size ≠ 0)&&decide (s.size ≤ 16)&&allOk s s.size
theorem byteAt_lt {s:ByteArray} {k:Nat} (h:k<s.size):byteAt s k=(s[k].toNat:Int):=dif_pos h
theorem allOk_succ (s:ByteArray) (n:Nat):allOk s (n + 1)=(allOk s n&&okAt s n):=by
 unfold allOk;rw [List.range_succ,List.all_append];simp
theorem allOk_no {s:ByteArray} {n k:Nat} (h:okAt s k=false) (hk:k<n):allOk s n=false:=by
 unfold allOk
 rw [List.all_eq_false]
 exact ⟨k,by simpa using hk,by simp [h]⟩
theorem lexer_isLetter (c:Int) (w:World):Calls Tryz.prog 282 #[.int .u8 c] w fun e w'=>e = .returned (.bool (letB c))∧w=w':=by
 go_enter Tryz.func282,Tryz.ntmps282
 go_wp2
 all_goals go_ret
 all_goals refine ⟨ret_bool ?_,rfl⟩
 all_goals (unfold letB;simp;try omega)
theorem lexer_isDigit (c:Int) (w:World):Calls Tryz.prog 283 #[.int .u8 c] w fun e w'=>e = .returned (.bool (digB c))∧w=w':=by
 go_enter Tryz.func283,Tryz.ntmps283
 go_wp2
 all_goals go_ret
 all_goals refine ⟨ret_bool ?_,rfl⟩
 all_goals (unfold digB;simp;try omega)
theorem ref02_letter (c:Int) (w:World):Calls Tryz.prog 189 #[.int .u8 c] w fun e w'=>e = .returned (.bool (letB c))∧w=w':=by
 go_enter Tryz.func189,Tryz.ntmps189
 go_wp2
 all_goals go_ret
 all_goals refine ⟨ret_bool ?_,rfl⟩
 all_goals (unfold letB;simp;try omega)
theorem ref02_decimal (c:Int) (w:World):Calls Tryz.prog 244 #[.int .u8 c] w fun e w'=>e = .returned (.bool (digB c))∧w=w':=by
 go_enter Tryz.func244,Tryz.ntmps244
 go_wp2
 all_goals go_ret
 all_goals refine ⟨ret_bool ?_,rfl⟩
 all_goals (unfold digB;simp;try omega)
theorem ref02_inName (c:Int) (w:World):Calls Tryz.prog 190 #[.int .u8 c] w fun e w'=>e = .returned (.bool (inNameB c))∧w=w':=by
 go_enter Tryz.func190,Tryz.ntmps190
 go_wp2_with (first|(go_at_call 189;refine (ref02_letter _ _).mono ?_;rintro e w1 ⟨rfl,rfl⟩)|(go_at_call 244;refine (ref02_decimal _ _).mono ?_;rintro e w1 ⟨rfl,rfl⟩))
 all_goals go_ret
 all_goals refine ⟨ret_bool ?_,rfl⟩
 all_goals (simp_all [inNameB])
theorem lexer_nameLength (s:ByteArray) (w:World) (hs:s.size ≤ 1000000) :
 Calls Tryz.prog 249 #[.string s] w fun e w'=>(∃ k:Nat,e = .returned (.int .i64 k)∧decide (k=s.size)=allOk s s.size)∧w=w':=by
 go_enter Tryz.func249,Tryz.ntmps249
 go_wp2
 go_loop [3] (fun i => ∃ k:Nat,k≤s.size∧i = .int .i64 k∧allOk s k=true) (fun i=>s.size - (intOf i).toNat)
 case atStart=>exact ⟨0,Nat.zero_le _,rfl,rfl⟩
 case round =>
  obtain ⟨k,hk,rfl,hok⟩:=hrel
  have HOK:=qh hok
  clear hok
  by_cases hlt:k<s.size
  ·have hb:=byteAt_lt hlt
   have HB:=qh hb
   clear hb
   have hr : 0≤(s[k].toNat:Int)∧(s[k].toNat:Int) ≤ 255:=by have:=s[k].toNat_lt;omega
   go_wp2_with (first|(go_at_call 282;refine (lexer_isLetter _ _).mono ?_;rintro e w1 ⟨rfl,rfl⟩)|(go_at_call 283;refine (lexer_isDigit _ _).mono ?_;rintro e w1 ⟨rfl,rfl⟩))
   all_goals first
    | (have hokk:okAt s k=true:=by (rw [okAt,HB.out];simp_all)
       go_round
       case rel=>exact ⟨k + 1,by omega,by go_num,by rw [allOk_succ,HOK.out,hokk];rfl⟩
       case measure=>simp [intOf];omega)
    | (have hokk:okAt s k=false:=by (rw [okAt,HB.out];simp_all)
       go_ret
       refine ⟨⟨k,rfl,?_⟩,rfl⟩
       rw [allOk_no hokk hlt]
       simp;omega)
  ·go_wp2
   go_ret
   obtain rfl:k=s.size:=by omega
   exact ⟨⟨s.size,rfl,by simp [HOK.out]⟩,rfl⟩
theorem lexer_IsName (s:ByteArray) (w:World) (hs:s.size ≤ 1000000) :
 Calls Tryz.prog 209 #[.string s] w fun e w'=>e = .returned (.bool (nameB s))∧w=w':=by
 have hsz:s.toList.length=s.size:=by rw [ByteArray.toList_eq];rfl
 have HSZ:=qh hsz
 clear hsz
 by_cases h0:s.toList = []
 ·have hz:s.size = 0:=by rw [← HSZ.out,h0];rfl
  have h1:s.toList.isEmpty=true:=by simp [h0]
  have HZ:=qh hz
  clear hz
  go_enter Tryz.func209,Tryz.ntmps209
  go_wp2_with fail
  go_ret
  exact ⟨ret_bool (by simp [nameB,HZ.out]),rfl⟩
 ·have h1:s.toList.isEmpty=false:=by simpa using h0
  have hz:s.size ≠ 0:=fun e=>h0 (List.eq_nil_of_length_eq_zero (by rw [HSZ.out,e]))
  have h2 : 0<s.size:=by omega
  clear hz
  by_cases h16:(s.size:Int) ≤ 16
  ·have hd:decide ((s.size:Int) ≤ 16)=true:=by simpa using h16
   go_enter Tryz.func209,Tryz.ntmps209
   go_wp2_with (go_at_call 249;refine (lexer_nameLength _ _ hs).mono ?_;rintro e w1 ⟨⟨q,rfl,hq⟩,rfl⟩;have HQ:=qh hq;clear hq)
   go_ret
   refine ⟨ret_bool ?_,rfl⟩
   have e1:((q:Int)==(s.size:Int))=decide (q=s.size):=by
    rw [Bool.eq_iff_iff];simp;omega
   have e2:decide (s.size ≠ 0)=true:=decide_eq_true omA
   have e3:decide (s.size ≤ 16)=true:=by simp;omega
   rw [e1,HQ.out,nameB,e2,e3]
   rfl
  ·have hd:decide ((s.size:Int) ≤ 16)=false:=by simpa using h16
   go_enter Tryz.func209,Tryz.ntmps209
   go_wp2_with fail
   go_ret
   refine ⟨ret_bool ?_,rfl⟩
   have e3:decide (s.size ≤ 16)=false:=by simp;omega
   rw [nameB,e3]
   simp
theorem okAt_zero (s:ByteArray):okAt s 0=letB (byteAt s 0):=by simp [okAt]
theorem okAt_inName {s:ByteArray} {k:Nat} (h : 0<k):okAt s k=inNameB (byteAt s k):=by
 simp [okAt,inNameB,h,Bool.or_assoc]
theorem okAt_of (s:ByteArray) (k:Nat) (h:okAt s 0=true):okAt s k=inNameB (byteAt s k):=by
 rcases Nat.eq_zero_or_pos k with rfl|hk
 ·rw [h];rw [okAt_zero] at h;simp [inNameB,h]
 ·exact okAt_inName hk
theorem ref02_IsName (s:ByteArray) (w:World) (hs:s.size ≤ 1000000) :
 Calls Tryz.prog 136 #[.string s] w fun e w'=>e = .returned (.bool (nameB s))∧w=w':=by
 by_cases h0:s.size = 0
 ·have h1:((s.size:Int) == 0)=true:=by simp [h0]
  have HZ:=qh h0
  clear h0
  go_enter Tryz.func136,Tryz.ntmps136
  go_wp2_with fail
  go_ret
  exact ⟨ret_bool (by simp [nameB,HZ.out]),rfl⟩
 ·have h1:((s.size:Int) == 0)=false:=by simp [h0]
  have h2 : 0<s.size:=by omega
  have hb:=byteAt_lt h2
  have HB:=qh hb
  clear hb
  by_cases h16:(s.size:Int) ≤ 16
  ·cases hl:letB (s[0].toNat:Int)
   ·go_enter Tryz.func136,Tryz.ntmps136
    go_wp2_with (go_at_call 189;refine (ref02_letter _ _).mono ?_;rintro e w1 ⟨rfl,rfl⟩)
    go_ret
    refine ⟨ret_bool ?_,rfl⟩
    rw [nameB,allOk_no (k := 0) (by rw [okAt_zero,HB.out,hl]) h2]
    simp
   ·have hok:okAt s 0=true:=by rw [okAt_zero,HB.out,hl]
    have HOK:=qh hok
    clear hok
    have HL:=qh hl
    go_enter Tryz.func136,Tryz.ntmps136
    go_wp2_with (go_at_call 189;refine (ref02_letter _ _).mono ?_;rintro e w1 ⟨rfl,rfl⟩)
    clear hl
    go_loop [3] (fun i => ∃ k:Nat,k≤s.size∧i = .int .i64 k∧allOk s k=true) (fun i=>s.size - (intOf i).toNat)
    case atStart=>exact ⟨0,Nat.zero_le _,rfl,rfl⟩
    case round =>
     obtain ⟨k,hk,rfl,hok⟩:=hrel
     have HOK':=qh hok
     clear hok
     by_cases hlt:k<s.size
     ·have hb:=byteAt_lt hlt
      have HB':=qh hb
      clear hb
      have hi:=okAt_of s k HOK.out
      have HI:=qh hi
      clear hi
      go_wp2_with (go_at_call 190;refine (ref02_inName _ _).mono ?_;rintro e w1 ⟨rfl,rfl⟩)
      all_goals first
       | (have hokk:okAt s k=true:=by (rw [HI.out,HB'.out];simp_all)
          go_round
          case rel=>exact ⟨k + 1,by omega,by go_num,by rw [allOk_succ,HOK'.out,hokk];rfl⟩
          case measure=>simp [intOf];omega)
       | (have hokk:okAt s k=false:=by (rw [HI.out,HB'.out];simp_all)
          go_ret
          refine ⟨ret_bool ?_,rfl⟩
          rw [nameB,allOk_no hokk hlt]
          simp)
     ·go_wp2
      go_ret
      obtain rfl:k=s.size:=by omega
      have e2:decide (s.size ≠ 0)=true:=decide_eq_true omA
      have e3:decide (s.size ≤ 16)=true:=by simp;omega
      exact ⟨ret_bool (by rw [nameB,HOK'.out,e2,e3];rfl),rfl⟩
  ·have h17 : 16<(s.size:Int):=by omega
   go_enter Tryz.func136,Tryz.ntmps136
   go_wp2_with fail
   go_ret
   refine ⟨ret_bool ?_,rfl⟩
   have e3:decide (s.size ≤ 16)=false:=by simp;omega
   rw [nameB,e3]
   simp
def validId (x:Ident):Bool:=nameB x.ns&&(valB x.val&&x.val.kind != 0)
def cmpId (a b:Ident):Int:=if cmpStr a.ns b.ns != 0 then cmpStr a.ns b.ns else cmpVal a.val b.val
theorem idle_Compare (w:World):CallsD Tryz.prog 211 #[] .returning w fun e u' w'=>e = .returned (.tuple #[])∧u' = .returning∧w'=w:=by
 refine callsD_of_wpS Tryz.func211 rfl fun c₀ cs hu => ?_
 apply wpS_region
 cases c₀
 simp_all [wpOpsS,go_sem,recoverD,Tryz.ntmps211,bodyPostS,results,Tryz.results211]
theorem idle_ValidIdentifier (w:World):CallsD Tryz.prog 208 #[] .returning w fun e u' w'=>e = .returned (.tuple #[])∧u' = .returning∧w'=w:=by
 refine callsD_of_wpS Tryz.func208 rfl fun c₀ cs hu => ?_
 apply wpS_region
 cases c₀
 simp_all [wpOpsS,go_sem,recoverD,Tryz.ntmps208,bodyPostS,results,Tryz.results208]
theorem identity_Compare (s s':ByteArray) (k n k' n':Int) (t t':ByteArray) (w:World) :
 Calls Tryz.prog 150 #[.agg #[.string s, .int .i64 k, .int .i64 n, .string t], .agg #[.string s', .int .i64 k', .int .i64 n', .string t']] w fun e w' =>
  e = .returned (.int .i64 (cmpId ⟨s,k,n,t⟩ ⟨s',k',n',t'⟩))∧Ext w w':=by
 go_enter_defers Tryz.func150,Tryz.ntmps150
 go_wp2_with (first|(go_at_call 212;refine (cmp_string _ _ _).mono ?_;rintro e w1 ⟨rfl,rfl⟩)|(go_at_call 213;refine (value_Compare _ _ _ _ _ _ _).mono ?_;rintro e w1 ⟨rfl,hb⟩))
 all_goals (refine leaves_cons (f := 211) (args := #[]) spA (by simp [go_sem]) ?_;refine (idle_Compare _).mono ?_;rintro e u' w'' ⟨rfl,rfl,rfl⟩;refine ⟨_,results_tmp rfl _ _ _,?_⟩)
 ·have h:(cmpStr s s' != 0)=true:=by assumption
  exact ⟨ret_int (by simp [cmpId,h]),by exact extA⟩
 ·have h:(cmpStr s s' != 0)=false:=by assumption
  exact ⟨ret_int (by simp [cmpId,h]),by exact extA⟩
theorem identity_ValidIdentifier (s:ByteArray) (k n:Int) (t:ByteArray) (w:World) (hs:s.size ≤ 1000000) :
 Calls Tryz.prog 147 #[.agg #[.string s, .int .i64 k, .int .i64 n, .string t]] w fun e w' =>
  e = .returned (.bool (validId ⟨s,k,n,t⟩))∧Ext w w':=by
 go_enter_defers Tryz.func147,Tryz.ntmps147
 go_wp2_with (first|(go_at_call 209;refine (lexer_IsName _ _ hs).mono ?_;rintro e w1 ⟨rfl,rfl⟩)|(go_at_call 210;refine (value_Valid _ _ _ _).mono ?_;rintro e w1 ⟨rfl,hb⟩;obtain ⟨c0,f0,z0⟩:=keepE hb w.heap.size ltA))
 all_goals (refine leaves_cons (f := 208) (args := #[]) spA (by simp [go_sem]) ?_;refine (idle_ValidIdentifier _).mono ?_;rintro e u' w'' ⟨rfl,rfl,rfl⟩;refine ⟨_,results_tmp rfl _ _ _,?_⟩)
 all_goals refine ⟨ret_bool ?_,by exact extA⟩
 all_goals (go_light;simp_all [validId])
theorem ref16_ValidIdentifier (s:ByteArray) (k n:Int) (t:ByteArray) (w:World) (hs:s.size ≤ 1000000) :
 Calls Tryz.prog 148 #[.agg #[.string s, .int .i64 k, .int .i64 n, .string t]] w fun e w' =>
  e = .returned (.bool (validId ⟨s,k,n,t⟩))∧Ext w w':=by
 go_enter Tryz.func148,Tryz.ntmps148
 go_wp2_with (first|(go_at_call 136;refine (ref02_IsName _ _ hs).mono ?_;rintro e w1 ⟨rfl,rfl⟩)|(go_at_call 171;refine (ref01_Valid _ _ _ _).mono ?_;rintro e w1 ⟨rfl,hb⟩;obtain ⟨c0,f0,z0⟩:=keepE hb w.heap.size ltA))
 all_goals go_ret
 all_goals refine ⟨ret_bool ?_,by exact extA⟩
 all_goals (go_light;simp_all [validId])
theorem ref16_Compare (s s':ByteArray) (k n k' n':Int) (t t':ByteArray) (w:World) :
 Calls Tryz.prog 206 #[.agg #[.string s, .int .i64 k, .int .i64 n, .string t], .agg #[.string s', .int .i64 k', .int .i64 n', .string t']] w fun e w' =>
  e = .returned (.int .i64 (cmpId ⟨s,k,n,t⟩ ⟨s',k',n',t'⟩))∧Ext w w':=by
 have hg:=bytesLess_gtr s.toList s'.toList
 have HG:=qh hg
 clear hg
 go_enter Tryz.func206,Tryz.ntmps206
 go_wp2_with (go_at_call 120;refine (ref01_Compare _ _ _ _ _ _ _).mono ?_;rintro e w1 ⟨rfl,hb⟩)
 all_goals go_ret
 all_goals (refine ⟨ret_int ?_,by exact extA⟩;go_light;rw [cmpId,cmpStr,← HG.out];simp_all)
theorem eqlId (x y:Ident) (w:World):(Op.equalIn 10000 105 (.agg #[.string x.ns, .int .i64 x.val.kind, .int .i64 x.val.num, .string x.val.text]) (.agg #[.string y.ns, .int .i64 y.val.kind, .int .i64 y.val.num, .string y.val.text])).run Tryz.prog w = .ok (decide (x=y)) w:=by
 have hS:Tryz.prog.underlying 105=some (.struct (Tryz.prog.fieldsOf 105)):=by kernel_rfl
 have hp:Tryz.prog.stoodInHeld 105=false:=by kernel_rfl
 have u2:=Tryz.underlying2
 have u3:=Tryz.underlying3
 have u9:=Tryz.underlying9
 rw [show (10000:Nat) = 9999 + 1 from rfl,run_equalIn_agg w _ 105 _ _ hS hp]
 simp only [Program.fieldsOf,Tryz.underlying105]
 go_simp
 obtain ⟨s,a,b,c⟩:=x
 obtain ⟨s',a',b',c'⟩:=y
 simp only [Ident.mk.injEq,Val.mk.injEq]
 by_cases h0:s=s' <;> by_cases h1:a=a' <;> by_cases h2:b=b' <;> by_cases h3:c=c' <;> simp [h0,h1,h2,h3,ba_eq_iff]
theorem eqlId_of {x y:Ident} {b:Bool} (h:decide (x=y)=b) : ∀ w:World,(Op.equalIn 10000 105 (.agg #[.string x.ns, .int .i64 x.val.kind, .int .i64 x.val.num, .string x.val.text]) (.agg #[.string y.ns, .int .i64 y.val.kind, .int .i64 y.val.num, .string y.val.text])).run Tryz.prog w = .ok b w :=
 fun w=>by rw [eqlId,h]
theorem ref16_Has (A:Option Addr) (c:Nat) (l:List Ident) (s:ByteArray) (k n:Int) (t:ByteArray) (w:World) (hl:SliceIs w w.heap.size Ident.cells 4 A l) (hn:l.length ≤ 1000000) :
 Calls Tryz.prog 160 #[.slice A l.length c, .agg #[.string s, .int .i64 k, .int .i64 n, .string t]] w fun e w'=>e = .returned (.bool (decide (⟨s,k,n,t⟩∈l)))∧Below w.heap.size w w':=by
 have hg:Tryz.prog.eqGuardType Tryz.prog.depth 105=false:=by kernel_rfl
 go_enter Tryz.func160,Tryz.ntmps160
 go_wp2
 go_loopw [5] (fun i wr => ∃ m:Nat,m≤l.length∧i = .int .i64 m∧Below w.heap.size w wr∧(∀ j u,(Ident.cells ⟨s,k,n,t⟩)[j]? = some u→wr.cell? ⟨w.heap.size,0+j,none⟩=some u)∧w.heap.size<wr.heap.size∧(⟨s,k,n,t⟩ ∉ l.take m)) (fun i _=>l.length - (intOf i).toNat)
 case atStart=>exact ⟨0,Nat.zero_le _,rfl,by exact belA,fun j u hu=>by simpa [Ident.cells] using hu,by simp,by simp⟩
 case round =>
  obtain ⟨m,hm,rfl,hbw,hx,hz,hmem⟩:=hrel
  obtain ⟨x0,x1,x2,x3⟩:=Ident.cells4 hx
  simp only [Nat.zero_add] at x1 x2 x3
  have HX:=qh hx
  have HM:=qh hmem
  clear hx hmem
  by_cases hlt:m<l.length
  ·obtain ⟨b,o,rfl,hb,hc⟩:=(hl.below hbw).get hlt
   obtain ⟨h0,h1,h2,h3⟩:=Ident.cells4 hc
   have hk0:=keepQ (w:=wr) b (by have:=hbw.size;omega)
   have hk1:=keepQ (w:=wr) w.heap.size hz
   have heq:=eqlId l[m] ⟨s,k,n,t⟩
   clear hc
   go_wp2
   refine wp_region_bel krA krA ?_;(repeat (go_big_quiet_step (fail)));refine wpQuiet_nil ?_;intro wq hq
   clear hk0 hk1 h0 h1 h2 h3 x0 x1 x2 x3 heq
   have hq':=below_nextN hbw hq hbw.size
   have hz':w.heap.size<wq.heap.size:=by have:=hq.size;omega
   go_wp2
   ·have e:l[m]=⟨s,k,n,t⟩:=by assumption
    go_ret
    exact ⟨ret_bool (by simp [← e]),hq'⟩
   ·have e : ¬ l[m]=⟨s,k,n,t⟩:=by assumption
    go_roundw
    case rel=>exact ⟨m + 1,by omega,by go_num,hq',fun j u hu=>(hq.cell (by exact hz)).trans (HX.out j u hu),hz',by rw [List.take_succ_eq_append_getElem hlt];simp only [List.mem_append,List.mem_singleton,not_or];exact ⟨HM.out,fun e'=>e e'.symm⟩⟩
    case measure=>simp [intOf];omega
  ·go_wp2
   go_ret
   have e:l.take m=l:=List.take_of_length_le omA
   have h:=HM.out
   rw [e] at h
   exact ⟨ret_bool (by simp [h]),hbw⟩
theorem flat_length {α : Type} {enc : α → List Value} {k:Nat} (hk : ∀ x,(enc x).length=k) : ∀ l:List α,(l.flatMap enc).length=l.length*k
 | []=>by simp
 | x::l=>by rw [List.flatMap_cons,List.length_append,hk,flat_length hk l,List.length_cons,Nat.add_mul,Nat.one_mul,Nat.add_comm]
theorem flat_get {α : Type} {enc : α → List Value} {k:Nat} (hk : ∀ x,(enc x).length=k) : ∀ (l:List α) (i:Nat) (h:i<l.length) (j:Nat) (u:Value),(enc l[i])[j]? = some u→(l.flatMap enc)[i*k+j]? = some u
 | x::l,0,_,j,u,hu=>by
   have hj:j<(enc x).length:=(List.getElem?_eq_some_iff.1 hu).1
   rw [List.flatMap_cons,Nat.zero_mul,Nat.zero_add,List.getElem?_append_left hj]
   exact hu
 | x::l,i + 1,h,j,u,hu=>by
   rw [List.flatMap_cons,Nat.add_mul,Nat.one_mul,List.getElem?_append_right (by rw [hk];omega),hk]
   have:=flat_get hk l i (by simpa using h) j u (by simpa using hu)
   rw [← this]
   congr 1
   omega
theorem flat_at {α : Type} {enc : α → List Value} {k:Nat} (hk : ∀ x,(enc x).length=k) : ∀ (l:List α) (n:Nat) (u:Value),(l.flatMap enc)[n]? = some u → ∃ i,∃ h:i<l.length,∃ j,n=i*k+j∧(enc l[i])[j]? = some u
 | [],n,u,hu=>by simp at hu
 | x::l,n,u,hu=>by
   rw [List.flatMap_cons] at hu
   rcases Nat.lt_or_ge n (enc x).length with h|h
   ·rw [List.getElem?_append_left h] at hu
    exact ⟨0,by simp,n,by simp,by simpa using hu⟩
   ·rw [List.getElem?_append_right h] at hu
    obtain ⟨i,hi,j,e,hj⟩:=flat_at hk l _ u hu
    rw [hk] at e h
    exact ⟨i + 1,by simpa using hi,j,by rw [Nat.add_mul,Nat.one_mul];omega,by simpa using hj⟩
def Owns {α : Type} (w:World) (base:Nat) (e:TypeId) (enc : α → List Value) (k:Nat) (v:Value) (l:List α):Prop :=
 w.ownsRow base e k v l.length (l.flatMap enc)
section
variable {α : Type} {w w':World} {base:Nat} {e:TypeId} {enc : α → List Value} {k:Nat} {v:Value} {l:List α}
theorem Owns.nil:Owns w base e enc k (.slice none 0 0) ([]:List α):=World.ownsRow_nil _ _ _ _
theorem Owns.form (h:Owns w base e enc k v l) : ∃ A c,v = .slice A l.length c∧l.length≤c∧(∀ a,A=some a→base≤a.block∧a.block<w.heap.size):=by
 rcases h.2 with ⟨rfl,h0⟩|⟨g,cap,cur,rfl,hb,hg,hn,_⟩
 ·exact ⟨none,0,by rw [h0],by omega,fun a h=>by cases h⟩
 ·refine ⟨_,cap,rfl,hn,fun a h => ?_⟩
  injection h with h
  subst h
  refine ⟨hb,?_⟩
  rcases Nat.lt_or_ge g w.heap.size with hlt|hge
  ·exact hlt
  ·rw [Array.getElem?_eq_none hge] at hg;cases hg
theorem Owns.slice (hk : ∀ x,(enc x).length=k) (h:Owns w base e enc k v l) : ∃ A c,v = .slice A l.length c∧l.length≤c∧SliceIs w w.heap.size enc k A l∧(∀ a,A=some a→base≤a.block∧a.block<w.heap.size):=by
 obtain ⟨A,c,hv,hc,hA⟩:=h.form
 refine ⟨A,c,hv,hc,fun hl => ?_,hA⟩
 subst hv
 rcases h.2 with ⟨h1,h0⟩|⟨g,cap,cur,hv,hb,hg,hn,hm,hs,ht⟩
 ·injection h1;omega
 ·injection hv with hv1 hv2 hv3
  subst hv1
  refine ⟨g,0,rfl,(hA _ rfl).2,fun i hi j u hu => ?_⟩
  have h1:=flat_get hk l i hi j u hu
  rw [← ht] at h1
  rw [Nat.zero_add]
  have h2:cur.toList[i*k+j]? = some u:=by
   rw [List.getElem?_take] at h1
   split at h1
   ·exact h1
   ·cases h1
  rw [World.cell?,hg]
  simpa using h2
theorem Owns.row (h:Owns w base e enc k v l) : ∀ g,v.ownBlock=some g→base≤g:=by
 intro g hg
 obtain ⟨A,c,rfl,_,hA⟩:=h.form
 cases A with
 | none=>simp [Value.ownBlock] at hg
 | some a =>
   have:a.block=g:=by simpa [Value.ownBlock] using hg
   rw [← this]
   exact (hA a rfl).1
theorem Owns.alloc (h:Owns w base e enc k v l) (o:Obj):Owns (w.alloc o) base e enc k v l:=World.ownsRow.alloc h o
theorem Owns.drew (h:Owns w base e enc k v l):Owns w.drew base e enc k v l:=h
theorem Owns.below (h:Owns w base e enc k v l) {B:Nat} (hb:Below B w w') (hB:w.heap.size≤B):Owns w' base e enc k v l:=by
 refine ⟨h.1,?_⟩
 rcases h.2 with h1|⟨g,cap,cur,hv,hbs,hg,hr⟩
 ·exact .inl h1
 ·refine .inr ⟨g,cap,cur,hv,hbs,?_,hr⟩
  have hlt:g<w.heap.size:=by
   rcases Nat.lt_or_ge g w.heap.size with hlt|hge
   ·exact hlt
   ·rw [Array.getElem?_eq_none hge] at hg;cases hg
  rw [hb.block g omA]
  exact hg
theorem Owns.mono (h:Owns w base e enc k v l) {b':Nat} (hb:b'≤base):Owns w b' e enc k v l:=by
 refine ⟨h.1,?_⟩
 rcases h.2 with h1|⟨g,cap,cur,hv,hbs,hr⟩
 ·exact .inl h1
 ·exact .inr ⟨g,cap,cur,hv,by omega,hr⟩
end
theorem run_append_list {P:Program} {α : Type} (w:World) (t ty e:TypeId) (i:TypeInfo) (z:Value) (enc : α → List Value) (k bytes:Nat) (ht:P.underlying t=some (.slice e)) (hi:P.info? e=some i) (hz:i.zero=some z)
 (hsize:i.size=k) (hby:i.bytes=bytes) (hzs:z.cells.size=k) (hsz : 0<k) (hk : ∀ x,(enc x).length=k) (h1 : ∀ x,∀ u∈enc x,u.oneCell'=true)
 (base:Nat) (v:Value) (l:List α) (hown:Owns w base e enc k v l) (A:Option Addr) (m c:Nat) (l':List α) (hm:m=l'.length) (hr:SliceIs w w.heap.size enc k A l')
 (hlen:(l.length+l'.length)*bytes ≤ 140737488355328) (h63:l.length+l'.length≤maxLen) (hbase:base≤w.heap.size) :
 ∃ v' w',(Builtin.append_ #[t,t] ty #[v, .slice A m c]).run P w = .ok v' w'∧Owns w' base e enc k v' (l++l')∧w.grownBy w' v.ownBlock∧(v'.ownBlock=v.ownBlock∨v'.ownBlock=some w.heap.size):=by
 subst hm
 rcases A with _|ad
 ·have h0:l' = []:=by
   rcases Nat.eq_zero_or_pos l'.length with h0|h0
   ·exact List.eq_nil_of_length_eq_zero h0
   ·obtain ⟨b,o,h,_⟩:=hr h0
    cases h
  subst h0
  refine ⟨v,w,?_,by simpa [Owns] using hown,World.grownBy.refl w _, .inl rfl⟩
  rcases hown.2 with ⟨rfl,h2⟩|⟨g,cap,cur,rfl,_,_,hnc,_⟩
  ·simp [Builtin.append_,run_underlying ht,sizeOf,typeInfo,hi,Builtin.lenOf,Builtin.firstCells]
  ·simp [Builtin.append_,run_underlying ht,sizeOf,typeInfo,hi,Builtin.lenOf,Builtin.firstCells,hnc,storeCells]
 ·obtain ⟨v',w',hrun,h2,h3,_,h5⟩:=run_append_own_at (P:=P) w base t ty e i z k bytes ht hi hz hsize hby hzs hsz v l.length _ hown ad l'.length c (l'.flatMap enc) (flat_length hk l')
   (fun j u hu=>by
     obtain ⟨i',hi',j',e',hj'⟩:=flat_at hk l' j u hu
     obtain ⟨b,o,hA,hb,hc⟩:=hr omA
     injection hA with hA
     subst hA
     have:=hc i' hi' j' u hj'
     rw [← e'] at this
     unfold Addr.add
     split
     ·rename_i hj0;rw [hj0] at this;exact this
     ·exact this)
   (fun u hu=>by rw [List.mem_flatMap] at hu;obtain ⟨x,_,hx⟩:=hu;exact h1 x u hx) h63 hlen hbase
  exact ⟨v',w',hrun,by simpa [Owns] using h2,h3,h5⟩
theorem wp_append_list {P:Program} {α : Type} {o:Oper} {a:Act} {K:Act→World→Prop} {Q:Exit→Act→World→Prop} (w:World) (s x:Operand) (t:TypeId) (ho:o.op = .call { callee := .builtin .append,args := #[s,x],argTypes := #[t,t] })
 (e:TypeId) (i:TypeInfo) (z:Value) (enc : α → List Value) (k bytes:Nat) (ht:P.underlying t=some (.slice e)) (hi:P.info? e=some i) (hz:i.zero=some z)
 (hsize:i.size=k) (hby:i.bytes=bytes) (hzs:z.cells.size=k) (hsz : 0<k) (hk : ∀ x,(enc x).length=k) (h1 : ∀ x,∀ u∈enc x,u.oneCell'=true)
 (base:Nat) (v:Value) (l:List α) (hs:a.eval s=v) (hown:Owns w base e enc k v l) (A:Option Addr) (m c:Nat) (l':List α) (hx:a.eval x = .slice A m c) (hm:m=l'.length) (hr:SliceIs w w.heap.size enc k A l')
 (hlen:(l.length+l'.length)*bytes ≤ 140737488355328) (h63:l.length+l'.length≤maxLen) (hbase:base≤w.heap.size)
 (h : ∀ v' w',Owns w' base e enc k v' (l++l')→w.grownBy w' v.ownBlock→(v'.ownBlock=v.ownBlock∨v'.ownBlock=some w.heap.size)→K (a.put o.dst v') w'):o.wp P a w K Q:=by
 obtain ⟨v',w',hrun,h2,h3,h4⟩:=run_append_list (P:=P) w t o.type e i z enc k bytes ht hi hz hsize hby hzs hsz hk h1 base v l hown A m c l' hm hr hlen h63 hbase
 unfold Oper.wp execOp
 simp only [ho,resolve,invoke,builtin,Sem.run_bind,Sem.run_pure,Result.andThen_ok,List.map_toArray,List.map_cons,List.map_nil,hs,hx,hrun]
 exact h v' w' h2 h3 h4
theorem wpList_append_list {P:Program} {α : Type} {ops:Array Oper} {rest:List Oper} {o:Oper} {a:Act} {Q:Exit→Act→World→Prop} (w:World) (hgd:o.guard=none) (s x:Operand) (t:TypeId) (ho:o.op = .call { callee := .builtin .append,args := #[s,x],argTypes := #[t,t] })
 (e:TypeId) (i:TypeInfo) (z:Value) (enc : α → List Value) (k bytes:Nat) (ht:P.underlying t=some (.slice e)) (hi:P.info? e=some i) (hz:i.zero=some z)
 (hsize:i.size=k) (hby:i.bytes=bytes) (hzs:z.cells.size=k) (hsz : 0<k) (hk : ∀ x,(enc x).length=k) (h1 : ∀ x,∀ u∈enc x,u.oneCell'=true)
 (base:Nat) (v:Value) (l:List α) (hs:a.eval s=v) (hown:Owns w base e enc k v l) (A:Option Addr) (m c:Nat) (l':List α) (hx:a.eval x = .slice A m c) (hm:m=l'.length) (hr:SliceIs w w.heap.size enc k A l')
 (hlen:(l.length+l'.length)*bytes ≤ 140737488355328) (h63:l.length+l'.length≤maxLen) (hbase:base≤w.heap.size)
 (h : ∀ v' w',Owns w' base e enc k v' (l++l')→w.grownBy w' v.ownBlock→(v'.ownBlock=v.ownBlock∨v'.ownBlock=some w.heap.size)→wpList P ops Q rest (a.put o.dst v') w'):wpList P ops Q (o::rest) a w :=
 wpList_plain hgd fun _ hK=>wp_append_list w s x t ho e i z enc k bytes ht hi hz hsize hby hzs hsz hk h1 base v l hs hown A m c l' hx hm hr hlen h63 hbase fun v' w' h2 h3 h4=>hK _ _ (h v' w' h2 h3 h4)
theorem step_append_list {P:Program} {α : Type} {ops:Array Oper} {o:Oper} {a:Act} {K:Act→World→Prop} {Q:Exit→Act→World→Prop} {E:Prop} (w:World) (hgd:o.guard=none) (s x:Operand) (t:TypeId) (ho:o.op = .call { callee := .builtin .append,args := #[s,x],argTypes := #[t,t] })
 (e:TypeId) (i:TypeInfo) (z:Value) (enc : α → List Value) (k bytes:Nat) (ht:P.underlying t=some (.slice e)) (hi:P.info? e=some i) (hz:i.zero=some z)
 (hsize:i.size=k) (hby:i.bytes=bytes) (hzs:z.cells.size=k) (hsz : 0<k) (hk : ∀ x,(enc x).length=k) (h1 : ∀ x,∀ u∈enc x,u.oneCell'=true)
 (base:Nat) (v:Value) (l:List α) (hs:a.eval s=v) (hown:Owns w base e enc k v l) (A:Option Addr) (m c:Nat) (l':List α) (hx:a.eval x = .slice A m c) (hm:m=l'.length) (hr:SliceIs w w.heap.size enc k A l')
 (hlen:(l.length+l'.length)*bytes ≤ 140737488355328) (h63:l.length+l'.length≤maxLen) (hbase:base≤w.heap.size)
 (h : ∀ v' w',Owns w' base e enc k v' (l++l')→w.grownBy w' v.ownBlock→(v'.ownBlock=v.ownBlock∨v'.ownBlock=some w.heap.size)→K (a.put o.dst v') w') :
 if Region.wanted o (yielded ops a.tmps)=true then Oper.wp P o a w K Q else E:=by
 have hw:Region.wanted o (yielded ops a.tmps)=true:=by simp [Region.wanted,hgd]
 rw [if_pos hw]
 exact wp_append_list w s x t ho e i z enc k bytes ht hi hz hsize hby hzs hsz hk h1 base v l hs hown A m c l' hx hm hr hlen h63 hbase h
section
variable {α : Type} {w w':World} {B:Nat} {enc : α → List Value} {k:Nat} {A:Option Addr} {l:List α}
theorem SliceIs.take (h:SliceIs w B enc k A l) (m:Nat):SliceIs w B enc k A (l.take m):=by
 intro hl
 have hl' : 0<l.length:=by simp at hl;omega
 obtain ⟨b,o,rfl,hb,hc⟩:=h hl'
 exact ⟨b,o,rfl,hb,fun i hi j u hu=>hc i (by simp at hi;omega) j u (by simpa using hu)⟩
theorem SliceIs.cut {b o c:Nat} (h:SliceIs w B enc k (some ⟨b,o,none⟩) l) (m:Nat) (hc:l.length≤c) :
 SliceIs w B enc k (if c=m then some ⟨b,o,none⟩ else some ⟨b,o+m*k,none⟩) (l.drop m):=by
 intro hl
 have hl':m<l.length:=by simp at hl;omega
 obtain ⟨b',o',e,hb,hcell⟩:=h omA
 injection e with e
 injection e with e1 e2
 subst e1 e2
 rw [if_neg omA]
 refine ⟨b,o+m*k,rfl,hb,fun i hi j u hu => ?_⟩
 have:=hcell (m+i) (by simp at hi;omega) j u (by simpa using hu)
 rw [← this]
 congr 2
 rw [Nat.add_mul]
 omega
theorem SliceIs.one {g:Nat} {x : α} (hB:g<B) (h : ∀ j u,(enc x)[j]? = some u→w.cell? ⟨g,j,none⟩=some u):SliceIs w B enc k (some ⟨g,0,none⟩) [x]:=by
 intro _
 refine ⟨g,0,rfl,hB,fun i hi j u hu => ?_⟩
 obtain rfl:i = 0:=by simp at hi;omega
 simpa using h j u (by simpa using hu)
end
theorem own_row {g o n c B:Nat} (h:B≤g) : ∀ k,(Value.slice (some ⟨g,o,none⟩) n c).ownBlock=some k→B≤k:=by
 intro k hk
 injection hk with hk
 rw [← hk]
 exact h
theorem ne_row {g g' o n c:Nat} (h:g≠g'):some g≠(Value.slice (some ⟨g',o,none⟩) n c).ownBlock:=fun e=>h (Option.some.inj e)
def Blk (w:World) (g:Nat) (t:TypeId) (cs:Array Value):Prop:=w.heap[g]? = some (.cells cs t (0,0))
section
variable {w w':World} {g:Nat} {t:TypeId} {cs:Array Value}
theorem Blk.lt (h:Blk w g t cs):g<w.heap.size:=by
 rcases Nat.lt_or_ge g w.heap.size with hlt|hge
 ·exact hlt
 ·unfold Blk at h;rw [Array.getElem?_eq_none hge] at h;cases h
theorem Blk.cell (h:Blk w g t cs) (i:Nat):w.cell? ⟨g,i,none⟩=cs[i]? := by
 unfold Blk at h;simp [World.cell?,h]
theorem Blk.frozen (h:Blk w g t cs) (i:Nat):w.frozen? ⟨g,i,none⟩=false:=by
 unfold Blk at h;simp [World.frozen?,h]
theorem Blk.new (w:World) (t:TypeId) (cs:Array Value):Blk (w.alloc (.cells cs t)) w.heap.size t cs:=heap_alloc_new w _
theorem Blk.new' {w:World} {g:Nat} {t:TypeId} {cs:Array Value} (hg:w.heap.size=g):Blk (w.alloc (.cells cs t)) g t cs:=by
 subst hg
 exact Blk.new _ _ _
theorem Blk.drew (h:Blk w g t cs):Blk w.drew g t cs:=h
theorem Blk.alloc (h:Blk w g t cs) (o:Obj):Blk (w.alloc o) g t cs:=(Below.heap_alloc w o g h.lt).trans h
theorem Blk.set_ (h:Blk w g t cs) (i:Nat) (u:Value):Blk (w.setCell ⟨g,i,none⟩ u) g t (cs.setIfInBounds i u):=by
 unfold Blk at h ⊢
 simp [World.setCell,Array.getElem?_modify,h]
theorem Blk.far (h:Blk w g t cs) {p:Addr} (hp:g≠p.block) (u:Value):Blk (w.setCell p u) g t cs:=(Below.heap_setCell w p u g hp).trans h
theorem Blk.below {B:Nat} (h:Blk w g t cs) (hb:Below B w w') (hg:g<B):Blk w' g t cs:=(hb.block g hg).trans h
theorem Blk.grown {row:Option Nat} (h:Blk w g t cs) (hb:w.grownBy w' row) (hg:some g≠row):Blk w' g t cs:=(hb.block g h.lt hg).trans h
theorem Blk.one {α : Type} {enc : α → List Value} {k B:Nat} {x : α} (h:Blk w g t (enc x).toArray) (hB:g<B):SliceIs w B enc k (some ⟨g,0,none⟩) [x] :=
 SliceIs.one hB fun j u hu=>by rw [h.cell];simpa using hu
theorem Owns.empty {α : Type} {enc : α → List Value} {k base:Nat} (h:Blk w g t #[]) (hb:base≤g):Owns w base t enc k (.slice (some ⟨g,0,none⟩) 0 0) ([]:List α) :=
 ⟨by simp, .inr ⟨g,0,#[],rfl,hb,h,Nat.le_refl _,Nat.zero_le _,by simp,by simp⟩⟩
end
def samePair (x y:Link):Bool:=(decide (x.a=y.a)&&decide (x.b=y.b))||(decide (x.a=y.b)&&decide (x.b=y.a))
def directB (l:List Link) (x:Link) (i:Nat) (seq:Int):Bool :=
 decide (x.seq≤seq) && !x.rev && !((l.drop (i + 1)).takeWhile (fun y=>decide (y.seq≤seq))).any (fun y=>samePair y x)
theorem takeWhile_any_step {α : Type} (p q : α → Bool) (l:List α) (j m:Nat) (hm:m<l.length) (hj:j≤m) (hp : ∀ k (h:k<l.length),j≤k→k<m→p l[k]=true∧q l[k]=false) :
 ((l.drop j).takeWhile p).any q=((l.drop m).takeWhile p).any q:=by
 induction hd:m - j generalizing j with
 | zero => have : j = m := by omega
           rw [this]
 | succ d ih =>
   have hlt:j<l.length:=by omega
   obtain ⟨h1,h2⟩:=hp j hlt (Nat.le_refl _) omA
   rw [List.drop_eq_getElem_cons hlt,List.takeWhile_cons_of_pos h1,List.any_cons,h2,Bool.false_or]
   exact ih (j + 1) omA (fun k h a b=>hp k h omA b) omA
theorem takeWhile_any_end {α : Type} (p q : α → Bool) (l:List α) (j m:Nat) (hm:l.length≤m) (hp : ∀ k (h:k<l.length),j≤k→k<m→p l[k]=true∧q l[k]=false) :
 ((l.drop j).takeWhile p).any q=false:=by
 rw [List.any_eq_false]
 intro x hx
 have hx':=(List.takeWhile_sublist p).subset hx
 rw [List.mem_iff_getElem] at hx'
 obtain ⟨k,hk,rfl⟩:=hx'
 rw [List.getElem_drop]
 have hk':j+k<l.length:=by simpa using (by simp at hk;omega:j+k<l.length)
 rw [(hp (j+k) hk' omA omA).2]
 simp
theorem ref16_direct (A:Option Addr) (c:Nat) (l:List Link) (i:Nat) (seq:Int) (w:World) (hl:SliceIs w w.heap.size Link.cells 10 A l) (hn:l.length ≤ 1000000) (hi:i<l.length) :
 Calls Tryz.prog 262 #[.slice A l.length c, .int .i64 i, .int .i64 seq] w fun e w'=>e = .returned (.bool (directB l l[i] i seq))∧Below w.heap.size w w':=by
 have hg:Tryz.prog.eqGuardType Tryz.prog.depth 105=false:=by kernel_rfl
 obtain ⟨b,o,rfl,hb,hc⟩:=hl.get hi
 obtain ⟨⟨a0,a1,a2,a3⟩,⟨b0,b1,b2,b3⟩,s8,r9⟩:=Link.cells10 hc
 by_cases h1:seq<l[i].seq
 ·go_enter Tryz.func262,Tryz.ntmps262
  go_wp2
  go_ret
  exact ⟨ret_bool (by have : ¬ l[i].seq ≤ seq := by omega
                      simp [directB,this]),by exact belA⟩
 ·have h1':l[i].seq≤seq:=by omega
  cases hr:l[i].rev
  ·rw [hr] at r9
   have HR:=qh hr
   clear hr
   go_enter Tryz.func262,Tryz.ntmps262
   go_wp2
   go_loopw [7] (fun i' wr => ∃ m:Nat,i + 1≤m∧m≤l.length∧i' = .int .i64 m∧Below w.heap.size w wr∧(∀ k (h:k<l.length),i + 1≤k→k<m→decide (l[k].seq≤seq)=true∧samePair l[k] l[i]=false)) (fun i' _=>l.length - (intOf i').toNat)
   case atStart=>exact ⟨i + 1,Nat.le_refl _,by omega,by go_num,by exact belA,fun k _ a b=>by omega⟩
   case round =>
    obtain ⟨m,him,hm,rfl,hbw,hp⟩:=hrel
    have HP:=qh hp
    clear hp
    by_cases hlt:m<l.length
    ·obtain ⟨b',o',e,hb',hc'⟩:=(hl.below hbw).get hlt
     injection e with e
     injection e with e1 e2
     subst e1 e2
     obtain ⟨⟨a0',a1',a2',a3'⟩,⟨b0',b1',b2',b3'⟩,s8',r9'⟩:=Link.cells10 hc'
     by_cases hs:l[m].seq≤seq
     ·have hdr : ∀ o,wr.cell? ⟨b,o,none⟩=w.cell? ⟨b,o,none⟩:=fun o=>hbw.cell (p:=⟨b,o,none⟩) hb
      have hk0:=keepQ (w:=wr) b (by have:=hbw.size;omega)
      clear hc hc'
      rw [hdr] at a0' a1' a2' a3' b0' b1' b2' b3' s8' r9'
      clear r9 r9' s8
      go_wp2
      cases h1:decide (l[m].a=l[i].a) <;> cases h2:decide (l[m].b=l[i].b) <;> cases h3:decide (l[m].a=l[i].b) <;> cases h4:decide (l[m].b=l[i].a)
      all_goals
       have e1:=eqlId_of h1
       have e2:=eqlId_of h2
       have e3:=eqlId_of h3
       have e4:=eqlId_of h4
       have H1:=qh h1
       have H2:=qh h2
       have H3:=qh h3
       have H4:=qh h4
       clear h1 h2 h3 h4
       refine wp_region_bel krA krA ?_;(repeat (go_big_quiet_step (fail)));refine wpQuiet_nil ?_;intro wq hq
       clear e1 e2 e3 e4 hk0 hdr a0 a1 a2 a3 b0 b1 b2 b3 a0' a1' a2' a3' b0' b1' b2' b3' s8'
       have hq':=below_nextN hbw hq hbw.size
       go_wp2
       first
        | (have hsp:samePair l[m] l[i]=false:=by simp only [samePair,H1.out,H2.out,H3.out,H4.out];rfl
           go_roundw
           case rel=>exact ⟨m + 1,by omega,by omega,by go_num,hq',fun k h a b=>by
            rcases Nat.lt_or_ge k m with hk|hk
            ·exact HP.out k h a hk
            ·obtain rfl:k=m:=by omega
             exact ⟨by simpa using hs,hsp⟩⟩
           case measure=>simp [intOf];omega)
        | (have hsp:samePair l[m] l[i]=true:=by simp only [samePair,H1.out,H2.out,H3.out,H4.out];rfl
           go_ret
           refine ⟨ret_bool ?_,hq'⟩
           rw [directB,takeWhile_any_step _ _ l (i + 1) m hlt him HP.out,List.drop_eq_getElem_cons hlt,List.takeWhile_cons_of_pos (by simpa using hs),List.any_cons,hsp]
           simp)
     ·have hs':decide (l[m].seq≤seq)=false:=by simpa using hs
      clear hc hc'
      go_wp2
      go_ret
      refine ⟨ret_bool ?_,hbw⟩
      rw [directB,takeWhile_any_step _ _ l (i + 1) m hlt him HP.out,List.drop_eq_getElem_cons hlt,List.takeWhile_cons_of_neg (by simpa using hs)]
      simp [HR.out,h1']
    ·go_wp2
     go_ret
     refine ⟨ret_bool ?_,hbw⟩
     rw [directB,takeWhile_any_end _ _ l (i + 1) m omA HP.out]
     simp [HR.out,h1']
  ·rw [hr] at r9
   have HR:=qh hr
   clear hr
   go_enter Tryz.func262,Tryz.ntmps262
   go_wp2
   go_ret
   exact ⟨ret_bool (by simp [directB,HR.out]),by exact belA⟩
def insK (l:List Ident) (x:Ident):Nat:=(l.takeWhile (fun y=>decide (cmpId y x < 0))).length
def insertId (l:List Ident) (x:Ident):List Ident:=if l[insK l x]? = some x then l else l.take (insK l x)++(x::l.drop (insK l x))
theorem takeWhile_len {α : Type} (p : α → Bool) : ∀ (l:List α) (m:Nat),m≤l.length→(∀ j (h:j<l.length),j<m→p l[j]=true)→(∀ h:m<l.length,p l[m]=false)→(l.takeWhile p).length=m
 | [],m,hm,_,_=>by simp at hm;simp [hm]
 | x::l,0,_,_,h2=>by
   have:=h2 spA
   rw [List.takeWhile_cons_of_neg (by simpa using this)];rfl
 | x::l,m + 1,hm,h1,h2=>by
   have:=h1 0 spA omA
   rw [List.takeWhile_cons_of_pos (by simpa using this),List.length_cons,takeWhile_len p l m (by simpa using hm) (fun j h hj=>h1 (j + 1) (by simpa using h) omA) (fun h=>h2 (by simpa using h))]
theorem ident_len : ∀ x:Ident,(Ident.cells x).length = 4:=fun _=>rfl
theorem ident_one : ∀ x:Ident,∀ u∈Ident.cells x,u.oneCell'=true:=by
 intro x u hu
 simp [Ident.cells] at hu
 rcases hu with rfl|rfl|rfl|rfl <;> rfl
theorem infoIdent:(Tryz.prog.info? 105).map (fun i=>(i.zero,i.size,i.bytes))=some (some (.agg #[.string ⟨#[]⟩, .int .i64 0, .int .i64 0, .string ⟨#[]⟩]),4,48):=by kernel_rfl
theorem ref16_Insert (A:Option Addr) (c:Nat) (l:List Ident) (s:ByteArray) (k n:Int) (t:ByteArray) (w:World) (hl:SliceIs w w.heap.size Ident.cells 4 A l) (hn:l.length ≤ 1000000) (hcap:l.length≤c) :
 Calls Tryz.prog 141 #[.slice A l.length c, .agg #[.string s, .int .i64 k, .int .i64 n, .string t]] w fun e w' =>
  (∃ A' c',e = .returned (.slice A' (insertId l ⟨s,k,n,t⟩).length c')∧(insertId l ⟨s,k,n,t⟩).length≤c'∧SliceIs w' w'.heap.size Ident.cells 4 A' (insertId l ⟨s,k,n,t⟩))∧Below w.heap.size w w':=by
 have hg:Tryz.prog.eqGuardType Tryz.prog.depth 105=false:=by kernel_rfl
 obtain ⟨i0,hi0,hz0,hz1,hz2⟩:=info_parts infoIdent
 go_enter Tryz.func141,Tryz.ntmps141
 go_wp2
 go_loopw [5] (fun i wr => ∃ m:Nat,m≤l.length∧i = .int .i64 m∧Below w.heap.size w wr∧(∀ j u,(Ident.cells ⟨s,k,n,t⟩)[j]? = some u→wr.cell? ⟨w.heap.size,0+j,none⟩=some u)∧w.heap.size<wr.heap.size∧(∀ j (h:j<l.length),j<m→decide (cmpId l[j] ⟨s,k,n,t⟩ < 0)=true)) (fun i _=>l.length - (intOf i).toNat)
 case atStart=>exact ⟨0,Nat.zero_le _,rfl,by exact belA,fun j u hu=>by simpa [Ident.cells] using hu,by simp,fun j _ h=>absurd h omA⟩
 case round =>
  obtain ⟨m,hm,rfl,hbw,hx,hz,hlo⟩:=hrel
  obtain ⟨x0,x1,x2,x3⟩:=Ident.cells4 hx
  simp only [Nat.zero_add] at x1 x2 x3
  have HX:=qh hx
  have HLO:=qh hlo
  clear hx hlo
  by_cases hlt:m<l.length
  ·obtain ⟨b,o,rfl,hb,hc⟩:=(hl.below hbw).get hlt
   obtain ⟨h0,h1,h2,h3⟩:=Ident.cells4 hc
   have hk0:=keepQ (w:=wr) b (by have:=hbw.size;omega)
   have hk1:=keepQ (w:=wr) w.heap.size hz
   clear hc
   go_wp2
   refine wp_region_bel krA krA ?_;(repeat (go_big_quiet_step ((go_at_call 206;exact bel_of_ext (ref16_Compare _ _ _ _ _ _ _ _ _)))));refine wpQuiet_nil ?_;intro wq hq
   have hq':=below_nextN hbw hq hbw.size
   have hz':w.heap.size<wq.heap.size:=by have:=hq.size;omega
   have hkb : ∀ o,wq.cell? ⟨b,o,none⟩=wr.cell? ⟨b,o,none⟩:=fun o=>hq.cell (p:=⟨b,o,none⟩) (by have:=hbw.size;show b<_;omega)
   have hkx : ∀ o,wq.cell? ⟨w.heap.size,o,none⟩=wr.cell? ⟨w.heap.size,o,none⟩:=fun o=>hq.cell (p:=⟨w.heap.size,o,none⟩) hz
   rw [← hkb] at h0 h1 h2 h3
   rw [← hkx] at x0 x1 x2 x3
   clear hkb hkx hk0 hk1
   go_wp2
   ·have hlo':cmpId l[m] ⟨s,k,n,t⟩ < 0:=by assumption
    go_roundw
    case rel=>exact ⟨m + 1,by omega,by go_num,hq',fun j u hu=>(hq.cell (by exact hz)).trans (HX.out j u hu),hz',fun j h hj=>by
     rcases Nat.lt_or_ge j m with hk|hk
     ·exact HLO.out j h hk
     ·obtain rfl:j=m:=by omega
      simpa using hlo'⟩
    case measure=>simp [intOf];omega
   ·have hge : 0≤cmpId l[m] ⟨s,k,n,t⟩:=by assumption
    have hK:insK l ⟨s,k,n,t⟩=m:=takeWhile_len _ l m omA HLO.out (fun _=>by simpa using hge)
    have HK:=qh hK
    have HGE:=qh hge
    clear hK hge
    have hk0:=keepQ (w:=wq) b omA
    have hk1:=keepQ (w:=wq) w.heap.size hz'
    by_cases hxe:l[m]=⟨s,k,n,t⟩
    ·have heq:=eqlId_of (decide_eq_true hxe)
     have HXE:=qh hxe
     clear hxe
     refine wp_region_bel krA krA ?_;(repeat (go_big_quiet_step (fail)));refine wpQuiet_nil ?_;intro wq2 hq2
     go_wp2
     go_ret
     have e:insertId l ⟨s,k,n,t⟩=l:=by rw [insertId,if_pos (by rw [HK.out,List.getElem?_eq_getElem hlt,HXE.out])]
     have hbel:=below_nextN hq' hq2 hq'.size
     rw [e]
     exact ⟨⟨_,c,rfl,hcap,hl.next hbel⟩,hbel⟩
    ·have heq:=eqlId_of (decide_eq_false hxe)
     have HXE:=qh hxe
     clear hxe
     refine wp_region_bel krA krA ?_;(repeat (go_big_quiet_step (fail)));refine wpQuiet_nil ?_;intro wq2 hq2
     have e:insertId l ⟨s,k,n,t⟩=l.take m++(⟨s,k,n,t⟩::l.drop m):=by rw [insertId,if_neg (by rw [HK.out,List.getElem?_eq_getElem hlt];simpa using HXE.out),HK.out]
     have hbel:=below_nextN hq' hq2 hq'.size
     have HE:=qh e
     clear e heq hk0 hk1 h0 h1 h2 h3
     go_wp2
     have hmc:m≤c:=by omega
     have hcm : ¬ c=m:=by omega
     have hl2:=hl.next hbel
     have hx2 : ∀ o,wq2.cell? ⟨w.heap.size,o,none⟩=wq.cell? ⟨w.heap.size,o,none⟩:=fun o=>hq2.cell (p:=⟨w.heap.size,o,none⟩) hz'
     rw [← hx2] at x0 x1 x2 x3
     clear hx2
     have hcut:SliceIs wq2 wq2.heap.size Ident.cells 4 (some ⟨b,o+m * 4,none⟩) (l.drop m):=by have h:=hl2.cut (c:=c) m hcap;rwa [if_neg hcm] at h
     have hzz:w.heap.size<wq2.heap.size:=by have:=hq2.size;omega
     go_region_law (first
     | (refine step_append_list _ rfl (.tmp 34) (.tmp 37) 53 rfl 105 i0 _ Ident.cells 4 48 Tryz.underlying53 hi0 hz0 hz1 hz2 rfl omA ident_len ident_one wq2.heap.size (.slice (some ⟨wq2.heap.size,0,none⟩) 0 0) [] rfl (Owns.empty ncA leA) _ _ _ (l.take m) rfl smA ((hl2.take m).next belA) smA mxA leA ?_;intro v1 w1 hown1 hg1 hat1;have hb1:Below wq2.heap.size wq2 w1:=Below.grown belA hg1 leA (own_row leA);have hsz1:=hb1.size;have kx1:=(keepB hb1 w.heap.size hzz).1;have h40:Blk w1 (wq2.heap.size + 1) 105 #[.string s, .int .i64 k, .int .i64 n, .string t]:=Blk.grown ndA hg1 (ne_row omA))
     | (refine step_append_list _ rfl (.tmp 34) (.tmp 37) 53 rfl 105 i0 _ Ident.cells 4 48 Tryz.underlying53 hi0 hz0 hz1 hz2 rfl omA ident_len ident_one wq2.heap.size (.slice (some ⟨(wq2.heap.size + 1),0,none⟩) 0 0) [] rfl (Owns.empty ndA leA) _ _ _ (l.take m) rfl smA ((hl2.take m).next belA) smA mxA leA ?_;intro v1 w1 hown1 hg1 hat1;have hb1:Below wq2.heap.size wq2 w1:=Below.grown belA hg1 leA (own_row leA);have hsz1:=hb1.size;have kx1:=(keepB hb1 w.heap.size hzz).1;have h40:Blk w1 wq2.heap.size 105 #[.string s, .int .i64 k, .int .i64 n, .string t]:=Blk.grown ncA hg1 (ne_row omA))
     | (refine step_append_list _ rfl (.tmp 34) (.tmp 37) 53 rfl 105 i0 _ Ident.cells 4 48 Tryz.underlying53 hi0 hz0 hz1 hz2 rfl omA ident_len ident_one wq2.heap.size (.slice (some ⟨wq2.heap.size,0,none⟩) 0 0) [] rfl (Owns.empty neA leA) _ _ _ (l.take m) rfl smA ((hl2.take m).next belA) smA mxA leA ?_;intro v1 w1 hown1 hg1 hat1;have hb1:Below wq2.heap.size wq2 w1:=Below.grown belA hg1 leA (own_row leA);have hsz1:=hb1.size;have kx1:=(keepB hb1 w.heap.size hzz).1)
     | (refine step_append_list _ rfl (.tmp 38) (.tmp 40) 53 rfl 105 i0 _ Ident.cells 4 48 Tryz.underlying53 hi0 hz0 hz1 hz2 rfl omA ident_len ident_one wq2.heap.size v1 ([]++l.take m) rfl nfA _ _ _ [⟨s,k,n,t⟩] rfl rfl (by first|exact Blk.one (enc:=Ident.cells) (x:=⟨s,k,n,t⟩) (Blk.new' spA) spA|exact Blk.one (enc:=Ident.cells) (x:=⟨s,k,n,t⟩) h40 h40.lt) smA mxA ngA ?_;intro v2 w2 hown2 hg2 hat2;have hb2:Below wq2.heap.size wq2 w2:=Below.grown belA hg2 ngA hown1.row;have hsz2:=hb2.size)
     | (refine step_append_list _ rfl (.tmp 41) (.tmp 44) 53 rfl 105 i0 _ Ident.cells 4 48 Tryz.underlying53 hi0 hz0 hz1 hz2 rfl omA ident_len ident_one wq2.heap.size v2 ([]++l.take m ++ [⟨s,k,n,t⟩]) rfl hown2 _ _ _ (l.drop m) rfl spA (hcut.next hb2) smA mxA hb2.size ?_;intro v3 w3 hown3 hg3 hat3;have hb3:Below wq2.heap.size wq2 w3:=Below.grown hb2 hg3 hb2.size hown2.row;obtain ⟨A3,c3,rfl,hc3,hs3,_⟩:=hown3.slice ident_len))
     all_goals (go_wp2;go_ret;rw [HE.out];refine ⟨⟨A3,c3,?_,?_,?_⟩,?_⟩)
     all_goals first
      | (with_reducible refine below_nextN hbel hb3 ?_;exact hbel.size)
      | (simpa using hs3)
      | (simpa using hc3)
      | exact congrArg (fun n=>Ending.returned (Value.slice A3 n c3)) (by first|(simp;omega)|rfl|omega|(simp;done))
  ·have hmn:m=l.length:=by omega
   have hK:insK l ⟨s,k,n,t⟩=m:=takeWhile_len _ l m omA HLO.out (fun h=>absurd h hlt)
   have e:insertId l ⟨s,k,n,t⟩=l.take m++(⟨s,k,n,t⟩::l.drop m):=by rw [insertId,if_neg (by rw [hK,List.getElem?_eq_none omA];simp),hK]
   have HE:=qh e
   have hdr:l.drop m = []:=List.drop_eq_nil_of_le omA
   have HMN:=qh hmn
   have HDR:=qh hdr
   clear e hK hmn hdr
   go_wp2
   refine wp_region_bel krA krA ?_;(repeat (go_big_quiet_step ((fail))));refine wpQuiet_nil ?_;intro wq hq
   have hkx : ∀ o,wq.cell? ⟨w.heap.size,o,none⟩=wr.cell? ⟨w.heap.size,o,none⟩:=fun o=>hq.cell (p:=⟨w.heap.size,o,none⟩) hz
   rw [← hkx] at x0 x1 x2 x3
   clear hkx
   have hz':w.heap.size<wq.heap.size:=by have:=hq.size;omega
   have hq':=below_nextN hbw hq hbw.size
   go_wp2
   refine wp_region_bel krA krA ?_;(repeat (go_big_quiet_step ((fail))));refine wpQuiet_nil ?_;intro wq2 hq2
   have hbel:=below_nextN hq' hq2 hq'.size
   have hmc:m≤c:=by omega
   have hl2:=hl.next hbel
   have hx2 : ∀ o,wq2.cell? ⟨w.heap.size,o,none⟩=wq.cell? ⟨w.heap.size,o,none⟩:=fun o=>hq2.cell (p:=⟨w.heap.size,o,none⟩) hz'
   rw [← hx2] at x0 x1 x2 x3
   clear hx2
   have hcut : ∀ A',SliceIs wq2 wq2.heap.size Ident.cells 4 A' (l.drop m):=fun A'=>by rw [HDR.out];exact SliceIs.nil
   have hzz:w.heap.size<wq2.heap.size:=by have:=hq2.size;omega
   go_wp2
   go_region_law (first
   | (refine step_append_list _ rfl (.tmp 34) (.tmp 37) 53 rfl 105 i0 _ Ident.cells 4 48 Tryz.underlying53 hi0 hz0 hz1 hz2 rfl omA ident_len ident_one wq2.heap.size (.slice (some ⟨wq2.heap.size,0,none⟩) 0 0) [] rfl (Owns.empty ncA leA) _ _ _ (l.take m) rfl smA ((hl2.take m).next belA) smA mxA leA ?_;intro v1 w1 hown1 hg1 hat1;have hb1:Below wq2.heap.size wq2 w1:=Below.grown belA hg1 leA (own_row leA);have hsz1:=hb1.size;have kx1:=(keepB hb1 w.heap.size hzz).1;have h40:Blk w1 (wq2.heap.size + 1) 105 #[.string s, .int .i64 k, .int .i64 n, .string t]:=Blk.grown ndA hg1 (ne_row omA))
   | (refine step_append_list _ rfl (.tmp 34) (.tmp 37) 53 rfl 105 i0 _ Ident.cells 4 48 Tryz.underlying53 hi0 hz0 hz1 hz2 rfl omA ident_len ident_one wq2.heap.size (.slice (some ⟨(wq2.heap.size + 1),0,none⟩) 0 0) [] rfl (Owns.empty ndA leA) _ _ _ (l.take m) rfl smA ((hl2.take m).next belA) smA mxA leA ?_;intro v1 w1 hown1 hg1 hat1;have hb1:Below wq2.heap.size wq2 w1:=Below.grown belA hg1 leA (own_row leA);have hsz1:=hb1.size;have kx1:=(keepB hb1 w.heap.size hzz).1;have h40:Blk w1 wq2.heap.size 105 #[.string s, .int .i64 k, .int .i64 n, .string t]:=Blk.grown ncA hg1 (ne_row omA))
   | (refine step_append_list _ rfl (.tmp 34) (.tmp 37) 53 rfl 105 i0 _ Ident.cells 4 48 Tryz.underlying53 hi0 hz0 hz1 hz2 rfl omA ident_len ident_one wq2.heap.size (.slice (some ⟨wq2.heap.size,0,none⟩) 0 0) [] rfl (Owns.empty neA leA) _ _ _ (l.take m) rfl smA ((hl2.take m).next belA) smA mxA leA ?_;intro v1 w1 hown1 hg1 hat1;have hb1:Below wq2.heap.size wq2 w1:=Below.grown belA hg1 leA (own_row leA);have hsz1:=hb1.size;have kx1:=(keepB hb1 w.heap.size hzz).1)
   | (refine step_append_list _ rfl (.tmp 38) (.tmp 40) 53 rfl 105 i0 _ Ident.cells 4 48 Tryz.underlying53 hi0 hz0 hz1 hz2 rfl omA ident_len ident_one wq2.heap.size v1 ([]++l.take m) rfl nfA _ _ _ [⟨s,k,n,t⟩] rfl rfl (by first|exact Blk.one (enc:=Ident.cells) (x:=⟨s,k,n,t⟩) (Blk.new' spA) spA|exact Blk.one (enc:=Ident.cells) (x:=⟨s,k,n,t⟩) h40 h40.lt) smA mxA ngA ?_;intro v2 w2 hown2 hg2 hat2;have hb2:Below wq2.heap.size wq2 w2:=Below.grown belA hg2 ngA hown1.row;have hsz2:=hb2.size)
   | (refine step_append_list _ rfl (.tmp 41) (.tmp 44) 53 rfl 105 i0 _ Ident.cells 4 48 Tryz.underlying53 hi0 hz0 hz1 hz2 rfl omA ident_len ident_one wq2.heap.size v2 ([]++l.take m ++ [⟨s,k,n,t⟩]) rfl hown2 _ _ _ (l.drop m) rfl spA ((hcut _).next hb2) smA mxA hb2.size ?_;intro v3 w3 hown3 hg3 hat3;have hb3:Below wq2.heap.size wq2 w3:=Below.grown hb2 hg3 hb2.size hown2.row;obtain ⟨A3,c3,rfl,hc3,hs3,_⟩:=hown3.slice ident_len))
   all_goals go_wp2
   all_goals go_ret
   all_goals (rw [HE.out];refine ⟨⟨A3,c3,?_,?_,?_⟩,?_⟩)
   all_goals first
    | (with_reducible refine below_nextN hbel hb3 ?_;exact hbel.size)
    | (simpa using hs3)
    | (simpa using hc3)
    | exact congrArg (fun n=>Ending.returned (Value.slice A3 n c3)) (by first|(simp;omega)|rfl|omega|(simp;done))
structure IsCmp {α : Type} (c : α → α → Int):Prop where
 anti : ∀ x y,c y x = - c x y
 trans : ∀ x y z,c x y ≤ 0→c y z ≤ 0→c x z ≤ 0
section
variable {α β : Type} {c : α → α → Int} {d : β → β → Int}
theorem IsCmp.refl (h:IsCmp c) (x : α):c x x = 0:=by have:=h.anti x x;omega
theorem IsCmp.lt_le (h:IsCmp c) {x y z : α} (h1:c x y < 0) (h2:c y z ≤ 0):c x z < 0:=by
 have h3:=h.trans x y z omA h2
 rcases Int.lt_or_le (c x z) 0 with h4|h4
 ·exact h4
 ·have h5:=h.anti x z
  have h6:=h.trans y z x h2 omA
  have h7:=h.anti x y
  omega
theorem IsCmp.le_lt (h:IsCmp c) {x y z : α} (h1:c x y ≤ 0) (h2:c y z < 0):c x z < 0:=by
 have h3:=h.trans x y z h1 omA
 rcases Int.lt_or_le (c x z) 0 with h4|h4
 ·exact h4
 ·have h5:=h.anti x z
  have h6:=h.trans z x y omA h1
  have h7:=h.anti y z
  omega
theorem IsCmp.pull (h:IsCmp c) (f : β → α):IsCmp (fun x y=>c (f x) (f y)):=⟨fun _ _=>h.anti _ _,fun _ _ _=>h.trans _ _ _⟩
theorem IsCmp.lex {c c' : α → α → Int} (h:IsCmp c) (h':IsCmp c'):IsCmp (fun x y=>if c x y != 0 then c x y else c' x y):=by
 refine ⟨fun x y => ?_,fun x y z h1 h2 => ?_⟩
 ·have e:=h.anti x y
  have e':=h'.anti x y
  by_cases h0:c x y = 0
  ·have:c y x = 0:=by omega
   simp [h0,this,e']
  ·have : ¬ c y x = 0:=by omega
   simp [h0,e]
 ·have hxy:c x y ≤ 0:=by
   by_cases h0:c x y = 0
   ·omega
   ·simpa [h0] using h1
  have hyz:c y z ≤ 0:=by
   by_cases h0:c y z = 0
   ·omega
   ·simpa [h0] using h2
  have hxz:=h.trans x y z hxy hyz
  by_cases h0:c x z = 0
  ·have h3:c x y = 0:=by
    rcases Int.lt_or_le (c x y) 0 with h4|h4
    ·have:=h.lt_le h4 hyz;omega
    ·omega
   have h4:c y z = 0:=by
    rcases Int.lt_or_le (c y z) 0 with h4|h4
    ·have:=h.le_lt hxy h4;omega
    ·omega
   simp [h3] at h1
   simp [h4] at h2
   simpa [h0] using h'.trans x y z h1 h2
  ·simpa [h0] using hxz
end
theorem cmpInt_ok:IsCmp cmpInt:=by
 refine ⟨fun x y => ?_,fun x y z h1 h2 => ?_⟩
 ·unfold cmpInt;split <;> split <;> omega
 ·unfold cmpInt at *
  split at h1 <;> split at h2 <;> (try split at h1) <;> (try split at h2) <;> (try omega) <;> (split <;> (try split) <;> omega)
theorem bytesLess_lt : ∀ (x y:List UInt8),Op.bytesLess x y=decide (x<y)
 | _,[]=>by simp [Op.bytesLess]
 | [],_::_=>by simp [Op.bytesLess]
 | a::x,b::y=>by
   rw [Op.bytesLess,bytesLess_lt x y,Bool.eq_iff_iff]
   simp [List.cons_lt_cons_iff]
theorem cmpStr_ok:IsCmp cmpStr:=by
 have total : ∀ x y:List UInt8,¬ x<y → ¬ y<x→x=y:=fun x y h1 h2=>List.le_antisymm (List.not_lt.1 h2) (List.not_lt.1 h1)
 refine ⟨fun x y => ?_,fun x y z h1 h2 => ?_⟩
 ·unfold cmpStr
  simp only [bytesLess_lt,decide_eq_true_eq]
  by_cases h1:x.toList<y.toList
  ·have h2 : ¬ y.toList<x.toList:=fun h=>List.lt_asymm h1 h
   simp [h1,h2]
  ·by_cases h2:y.toList<x.toList <;> simp [h1,h2]
 ·unfold cmpStr at *
  simp only [bytesLess_lt,decide_eq_true_eq] at *
  have le1 : ¬ y.toList<x.toList:=by
   intro h
   have h3 : ¬ x.toList<y.toList:=fun h'=>List.lt_asymm h h'
   simp [h,h3] at h1
  have le2 : ¬ z.toList<y.toList:=by
   intro h
   have h3 : ¬ y.toList<z.toList:=fun h'=>List.lt_asymm h h'
   simp [h,h3] at h2
  have le3 : ¬ z.toList<x.toList:=by
   have:=List.le_trans (List.not_lt.1 le1) (List.not_lt.1 le2)
   exact List.not_lt.2 this
  by_cases h4:x.toList<z.toList <;> simp [h4,le3]
theorem cmpStr_eq {x y:ByteArray} (h:cmpStr x y = 0):x=y:=by
 unfold cmpStr at h
 simp only [bytesLess_lt,decide_eq_true_eq] at h
 by_cases h1:x.toList<y.toList
 ·simp [h1] at h
 ·by_cases h2:y.toList<x.toList
  ·simp [h1,h2] at h
  ·exact ba_ext (List.le_antisymm (List.not_lt.1 h2) (List.not_lt.1 h1))
theorem cmpStr_refl (x:ByteArray):cmpStr x x = 0:=cmpStr_ok.refl x
theorem cmpInt_eq {x y:Int} (h:cmpInt x y = 0):x=y:=by
 unfold cmpInt at h
 split at h
 ·omega
 ·split at h <;> omega
def cmpFields (a b:Val):Int:=if cmpInt a.kind b.kind != 0 then cmpInt a.kind b.kind else if cmpInt a.num b.num != 0 then cmpInt a.num b.num else cmpStr a.text b.text
theorem cmpFields_ok:IsCmp cmpFields :=
 (cmpInt_ok.pull Val.kind).lex ((cmpInt_ok.pull Val.num).lex (cmpStr_ok.pull Val.text))
theorem cmpFields_eq {a b:Val} (h:cmpFields a b = 0):a=b:=by
 unfold cmpFields at h
 obtain ⟨k,n,t⟩:=a
 obtain ⟨k',n',t'⟩:=b
 simp only at h
 by_cases h1:cmpInt k k' = 0
 ·by_cases h2:cmpInt n n' = 0
  ·simp [h1,h2] at h
   rw [cmpInt_eq h1,cmpInt_eq h2,cmpStr_eq h]
  ·simp [h1,h2] at h
 ·simp [h1] at h
theorem cmpVal_fields (a b:Val):cmpVal a b=cmpFields (clean a) (clean b):=by
 have ha:=valB_cases (clean_valid a)
 have hb:=valB_cases (clean_valid b)
 unfold cmpVal
 generalize clean a=c at *
 generalize clean b=d at *
 have hs:=cmpStr_refl
 rcases ha with rfl|⟨n,rfl,_,_⟩|⟨t,rfl,_⟩ <;> rcases hb with rfl|⟨n',rfl,_,_⟩|⟨t',rfl,_⟩ <;> simp [cmpFields,hs,cmpInt]
theorem cmpVal_ok:IsCmp cmpVal:=by
 have h:=cmpFields_ok.pull clean
 have e:cmpVal=fun x y=>cmpFields (clean x) (clean y):=by funext a b;exact cmpVal_fields a b
 rw [e]
 exact h
theorem cmpId_ok:IsCmp cmpId:=(cmpStr_ok.pull Ident.ns).lex (cmpVal_ok.pull Ident.val)
theorem validId_val {x:Ident} (h:validId x=true):valB x.val=true:=by
 unfold validId at h
 simp only [Bool.and_eq_true] at h
 exact h.2.1
theorem cmpId_eq {x y:Ident} (hx:validId x=true) (hy:validId y=true) (h:cmpId x y = 0):x=y:=by
 unfold cmpId at h
 by_cases h1:cmpStr x.ns y.ns = 0
 ·simp [h1] at h
  rw [cmpVal_fields,clean_yes (validId_val hx),clean_yes (validId_val hy)] at h
  obtain ⟨s,v⟩:=x
  obtain ⟨s',v'⟩:=y
  simp only at h1 h
  rw [cmpStr_eq h1,cmpFields_eq h]
 ·simp [h1] at h
theorem cmpId_refl (x:Ident):cmpId x x = 0:=cmpId_ok.refl x
def Asc (l:List Ident):Prop:=l.Pairwise (fun x y=>cmpId x y < 0)
def AllValid (l:List Ident):Prop := ∀ x∈l,validId x=true
theorem Asc.nodup {l:List Ident} (h:Asc l):l.Nodup:=List.Pairwise.imp (fun {a b} hab e=>by subst e;rw [cmpId_refl] at hab;omega) h
theorem Asc.ext : ∀ {l l':List Ident},Asc l→Asc l'→(∀ x,x∈l↔x∈l')→l=l'
 | [],[],_,_,_=>rfl
 | [],y::l',_,_,h=>absurd ((h y).2 spA) spA
 | x::l,[],_,_,h=>absurd ((h x).1 spA) spA
 | x::l,y::l',h1,h2,h=>by
   have h1':=List.pairwise_cons.1 h1
   have h2':=List.pairwise_cons.1 h2
   have e:x=y:=by
    have hx:x∈y::l':=(h x).1 spA
    have hy:y∈x::l:=(h y).2 spA
    rcases List.mem_cons.1 hx with e|hx'
    ·exact e
    ·rcases List.mem_cons.1 hy with e|hy'
     ·exact e.symm
     ·have a:=h2'.1 x hx'
      have b:=h1'.1 y hy'
      have:=cmpId_ok.anti x y
      omega
   subst e
   congr 1
   refine Asc.ext h1'.2 h2'.2 fun z => ?_
   have hz:=h z
   simp only [List.mem_cons] at hz
   constructor
   ·intro hm
    rcases hz.1 (.inr hm) with e|hm'
    ·subst e;have:=h1'.1 z hm;rw [cmpId_refl] at this;omega
    ·exact hm'
   ·intro hm
    rcases hz.2 (.inr hm) with e|hm'
    ·subst e;have:=h2'.1 z hm;rw [cmpId_refl] at this;omega
    ·exact hm'
theorem insK_le (l:List Ident) (x:Ident):insK l x≤l.length:=by
 unfold insK
 exact (List.takeWhile_sublist _).length_le
theorem insK_before (l:List Ident) (x:Ident) : ∀ y∈l.take (insK l x),cmpId y x < 0:=by
 intro y hy
 have e:l.take (insK l x)=l.takeWhile (fun y=>decide (cmpId y x < 0)):=by
  unfold insK
  exact (List.prefix_iff_eq_take.1 (List.takeWhile_prefix _)).symm
 rw [e] at hy
 have:=List.all_takeWhile (p:=fun y=>decide (cmpId y x < 0)) (l:=l)
 rw [List.all_eq_true] at this
 simpa using this y hy
theorem insK_at (l:List Ident) (x:Ident) (h:insK l x<l.length) : 0≤cmpId l[insK l x] x:=by
 rcases Int.lt_or_le (cmpId l[insK l x] x) 0 with h1|h1
 ·exfalso
  have key : ∀ (l:List Ident) (h:(l.takeWhile (fun y=>decide (cmpId y x < 0))).length<l.length),¬ cmpId (l[(l.takeWhile (fun y=>decide (cmpId y x < 0))).length]) x < 0:=by
   intro l
   induction l with
   | nil=>intro h;simp at h
   | cons a l ih =>
     intro h
     by_cases ha:cmpId a x < 0
     ·have e:(a::l).takeWhile (fun y=>decide (cmpId y x < 0))=a::l.takeWhile (fun y=>decide (cmpId y x < 0)):=List.takeWhile_cons_of_pos (by simpa using ha)
      simp only [e,List.length_cons] at h ⊢
      simpa using ih omA
     ·have e:(a::l).takeWhile (fun y=>decide (cmpId y x < 0)) = []:=List.takeWhile_cons_of_neg (by simpa using ha)
      simp only [e,List.length_nil]
      simpa using ha
  exact key l h h1
 ·exact h1
theorem insertId_spec {l:List Ident} {x:Ident} (hl:Asc l) (hv:AllValid l) (hx:validId x=true):Asc (insertId l x)∧(∀ y,y∈insertId l x↔y=x∨y∈l)∧l.length≤(insertId l x).length:=by
 have hk:=insK_le l x
 unfold insertId
 by_cases he:l[insK l x]? = some x
 ·rw [if_pos he]
  have hm:x∈l:=List.mem_of_getElem? he
  exact ⟨hl,fun y=>⟨.inr,fun h=>h.elim (fun e=>e▸hm) id⟩,Nat.le_refl _⟩
 ·rw [if_neg he]
  have hbefore:=insK_before l x
  have hafter : ∀ y∈l.drop (insK l x),cmpId x y < 0:=by
   intro y hy
   have hlt:insK l x<l.length:=by
    rcases Nat.lt_or_ge (insK l x) l.length with h|h
    ·exact h
    ·rw [List.drop_eq_nil_of_le h] at hy;cases hy
   have h0:=insK_at l x hlt
   rw [List.drop_eq_getElem_cons hlt] at hy
   have hne:cmpId l[insK l x] x ≠ 0:=by
    intro e
    have:=cmpId_eq (hv _ (List.getElem_mem hlt)) hx e
    exact he (by rw [List.getElem?_eq_getElem hlt,this])
   have hlt':cmpId x l[insK l x] < 0:=by have:=cmpId_ok.anti l[insK l x] x;omega
   rcases List.mem_cons.1 hy with e|hy'
   ·rw [e];exact hlt'
   ·have hp:(l.drop (insK l x)).Pairwise (fun x y=>cmpId x y < 0):=hl.drop
    rw [List.drop_eq_getElem_cons hlt] at hp
    have:=(List.pairwise_cons.1 hp).1 y hy'
    exact cmpId_ok.lt_le hlt' omA
  refine ⟨?_,fun y => ?_,?_⟩
  ·unfold Asc
   rw [List.pairwise_append]
   refine ⟨hl.take,List.pairwise_cons.2 ⟨hafter,hl.drop⟩,fun a ha b hb => ?_⟩
   rcases List.mem_cons.1 hb with e|hb'
   ·rw [e];exact hbefore a ha
   ·exact cmpId_ok.lt_le (hbefore a ha) (by have:=hafter b hb';omega)
  ·rw [List.mem_append,List.mem_cons]
   constructor
   ·rintro (h|h|h)
    ·exact .inr (List.mem_of_mem_take h)
    ·exact .inl h
    ·exact .inr (List.mem_of_mem_drop h)
   ·rintro (h|h)
    ·exact .inr (.inl h)
    ·rw [← List.take_append_drop (insK l x) l,List.mem_append] at h
     exact h.elim .inl (fun h => .inr (.inr h))
  ·rw [List.length_append,List.length_cons,List.length_take,List.length_drop]
   omega
theorem nodup_le {α : Type} [DecidableEq α] : ∀ {l l':List α},l.Nodup→(∀ x∈l,x∈l')→l.length≤l'.length
 | [],_,_,_=>by simp
 | x::l,l',hn,hs=>by
   have hn':=List.nodup_cons.1 hn
   have hx:x∈l':=hs x spA
   have:=nodup_le (l:=l) (l':=l'.erase x) hn'.2 (fun y hy=>by
    have hne:y≠x:=fun e=>hn'.1 (e▸hy)
    exact (List.mem_erase_of_ne hne).2 (hs y (by simp [hy])))
   rw [List.length_erase_of_mem hx] at this
   have hpos : 0<l'.length:=List.length_pos_of_mem hx
   simp only [List.length_cons]
   omega
def linkOk (prev:Int) (x:Link):Bool:=decide (prev<x.seq)&&decide (x.seq ≤ 1073741824)&&(validId x.a&&(validId x.b&&decide (x.a≠x.b)))
def validFrom:Int→List Link→Bool
 | _,[]=>true
 | last,x::l=>linkOk last x&&validFrom x.seq l
def validLinks (l:List Link):Bool:=decide (l.length ≤ 64)&&validFrom 0 l
def EdgeAt (l:List Link) (seq:Int) (u v:Ident):Prop :=
 ∃ i,∃ h:i<l.length,directB l l[i] i seq=true∧((l[i].a=u∧l[i].b=v)∨(l[i].b=u∧l[i].a=v))
inductive Reach (l:List Link) (seq:Int) (u:Ident):Ident→Prop where
 | refl:Reach l seq u u
 | step {v z:Ident}:Reach l seq u v→EdgeAt l seq v z→Reach l seq u z
theorem Reach.closed {l:List Link} {seq:Int} {u v:Ident} (h:Reach l seq u v) (S:Ident→Prop) (h0:S u) (hs : ∀ a b,S a→EdgeAt l seq a b→S b):S v:=by
 induction h with
 | refl=>exact h0
 | step _ e ih=>exact hs _ _ ih e
def IsAt (l:List Link) (who:Ident) (seq:Int) (out:List Ident):Prop:=Asc out ∧ ∀ y,y∈out↔Reach l seq who y
def InSubject (l:List Link) (who:Ident) (from_:Int) (y:Ident):Prop:=Reach l from_ who y ∨ ∃ x∈l,from_<x.seq∧Reach l x.seq who y
def IsSubject (l:List Link) (who:Ident) (from_:Int) (out:List Ident):Prop:=Asc out ∧ ∀ y,y∈out↔InSubject l who from_ y
theorem IsSubject.unique {l:List Link} {who:Ident} {seq:Int} {o o':List Ident} (h:IsSubject l who seq o) (h':IsSubject l who seq o'):o=o' :=
 Asc.ext h.1 h'.1 fun x=>(h.2 x).trans (h'.2 x).symm
theorem validFrom_mem : ∀ {last:Int} {l:List Link},validFrom last l=true → ∀ x∈l,last<x.seq∧x.seq ≤ 1073741824∧validId x.a=true∧validId x.b=true∧x.a≠x.b
 | _,[],_,_,h=>by cases h
 | last,y::l,hv,x,h=>by
   simp only [validFrom,linkOk,Bool.and_eq_true,decide_eq_true_eq] at hv
   rcases List.mem_cons.1 h with e|h'
   ·subst e
    exact ⟨hv.1.1.1,hv.1.1.2,hv.1.2.1,hv.1.2.2.1,hv.1.2.2.2⟩
   ·have:=validFrom_mem hv.2 x h'
    exact ⟨by omega,this.2⟩
theorem validLinks_mem {l:List Link} (h:validLinks l=true) : ∀ x∈l,0<x.seq∧x.seq ≤ 1073741824∧validId x.a=true∧validId x.b=true∧x.a≠x.b:=by
 simp only [validLinks,Bool.and_eq_true] at h
 exact validFrom_mem h.2
theorem validLinks_len {l:List Link} (h:validLinks l=true):l.length ≤ 64:=by
 simp only [validLinks,Bool.and_eq_true,decide_eq_true_eq] at h
 exact h.1
theorem validFrom_asc : ∀ {last:Int} {l:List Link},validFrom last l=true→l.Pairwise (fun x y=>x.seq<y.seq)
 | _,[],_=>List.Pairwise.nil
 | last,x::l,hv=>by
   simp only [validFrom,Bool.and_eq_true] at hv
   exact List.pairwise_cons.2 ⟨fun y hy=>(validFrom_mem hv.2 y hy).1,validFrom_asc hv.2⟩
theorem validLinks_asc {l:List Link} (h:validLinks l=true):l.Pairwise (fun x y=>x.seq<y.seq):=by
 simp only [validLinks,Bool.and_eq_true] at h
 exact validFrom_asc h.2
def named (l:List Link) (who:Ident):List Ident:=who::l.flatMap (fun x => [x.a,x.b])
theorem named_length (l:List Link) (who:Ident):(named l who).length = 2*l.length + 1:=by
 unfold named
 have : ∀ l:List Link,(l.flatMap (fun x => [x.a,x.b])).length = 2*l.length:=by
  intro l
  induction l with
  | nil=>rfl
  | cons x l ih=>rw [List.flatMap_cons,List.length_append,ih,List.length_cons];simp;omega
 rw [List.length_cons,this]
theorem Reach.named {l:List Link} {seq:Int} {who y:Ident} (h:Reach l seq who y):y∈named l who:=by
 cases h with
 | refl=>simp [Proofs.YtlpgmdhnjckplaaGreat.named]
 | step _ e =>
   obtain ⟨i,hi,_,h⟩:=e
   have hm:l[i]∈l:=List.getElem_mem hi
   unfold Proofs.YtlpgmdhnjckplaaGreat.named
   refine List.mem_cons_of_mem _ (List.mem_flatMap.2 ⟨l[i],hm,?_⟩)
   rcases h with ⟨_,h⟩|⟨_,h⟩ <;> simp [h]
theorem Reach.valid {l:List Link} {seq:Int} {who y:Ident} (hl:validLinks l=true) (hw:validId who=true) (h:Reach l seq who y):validId y=true:=by
 cases h with
 | refl=>exact hw
 | step _ e =>
   obtain ⟨i,hi,_,h⟩:=e
   have hm:=validLinks_mem hl l[i] (List.getElem_mem hi)
   rcases h with ⟨_,h⟩|⟨_,h⟩
   ·rw [← h];exact hm.2.2.2.1
   ·rw [← h];exact hm.2.2.1
structure CInv (l:List Link) (seq:Int) (who:Ident) (p out:List Ident):Prop where
 asc:Asc out
 has:who∈out
 reach : ∀ y∈out,Reach l seq who y
 sub : ∀ y∈p,y∈out
 ascp:Asc p
 clos : ∀ i (h:i<l.length),directB l l[i] i seq=true→l[i].a∈p∨l[i].b∈p→l[i].a∈out∧l[i].b∈out
theorem CInv.start (l:List Link) (seq:Int) (who:Ident):CInv l seq who [] [who] :=
 ⟨by unfold Asc;simp,by simp,(fun y hy=>by simp at hy;subst hy;exact .refl),(fun y hy=>by cases hy),by unfold Asc;simp,(fun i h _ h2=>by simp at h2)⟩
theorem CInv.len {l:List Link} {seq:Int} {who:Ident} {p out:List Ident} (h:CInv l seq who p out):p.length≤out.length∧out.length ≤ 2*l.length + 1 :=
 ⟨nodup_le h.ascp.nodup h.sub,by rw [← named_length l who];exact nodup_le h.asc.nodup fun y hy=>(h.reach y hy).named⟩
theorem sub_of_len {α : Type} [DecidableEq α] {p out:List α} (hp:p.Nodup) (hs : ∀ y∈p,y∈out) (hl:out.length≤p.length) (ho:out.Nodup) : ∀ y∈out,y∈p:=by
 intro y hy
 by_cases h:y∈p
 ·exact h
 ·exfalso
  have:=nodup_le (l:=y::p) (l':=out) (List.nodup_cons.2 ⟨h,hp⟩) (fun z hz=>by
   rcases List.mem_cons.1 hz with e|hz'
   ·exact e▸hy
   ·exact hs z hz')
  simp at this
  omega
theorem CInv.done {l:List Link} {seq:Int} {who:Ident} {p out:List Ident} (h:CInv l seq who p out) (hl:out.length≤p.length):IsAt l who seq out:=by
 have hback:=sub_of_len h.ascp.nodup h.sub hl h.asc.nodup
 refine ⟨h.asc,fun y=>⟨h.reach y,fun hr => ?_⟩⟩
 refine hr.closed (fun z=>z∈out) h.has fun a b ha e => ?_
 obtain ⟨i,hi,hd,he⟩:=e
 rcases he with ⟨e1,e2⟩|⟨e1,e2⟩
 ·rw [← e2];exact (h.clos i hi hd (.inl (hback _ (e1▸ha)))).2
 ·rw [← e2];exact (h.clos i hi hd (.inr (hback _ (e1▸ha)))).1
structure DInv (l:List Link) (seq:Int) (who:Ident) (out cur:List Ident) (m:Nat):Prop where
 asc:Asc cur
 reach : ∀ y∈cur,Reach l seq who y
 sub : ∀ y∈out,y∈cur
 clos : ∀ i (h:i<l.length),i<m→directB l l[i] i seq=true→l[i].a∈out∨l[i].b∈out→l[i].a∈cur∧l[i].b∈cur
theorem DInv.start {l:List Link} {seq:Int} {who:Ident} {p out:List Ident} (h:CInv l seq who p out):DInv l seq who out out 0 :=
 ⟨h.asc,h.reach,fun _ h=>h,fun _ _ h=>absurd h omA⟩
theorem DInv.stay {l:List Link} {seq:Int} {who:Ident} {out cur:List Ident} {m:Nat} (h:DInv l seq who out cur m) (hm:m<l.length) (hn : ¬ (directB l l[m] m seq=true∧(l[m].a∈cur∨l[m].b∈cur))):DInv l seq who out cur (m + 1):=by
 refine ⟨h.asc,h.reach,h.sub,fun i hi hlt hd ho => ?_⟩
 rcases Nat.lt_or_ge i m with hk|hk
 ·exact h.clos i hi hk hd ho
 ·obtain rfl:i=m:=by omega
  exact absurd ⟨hd,ho.elim (fun a => .inl (h.sub _ a)) (fun a => .inr (h.sub _ a))⟩ hn
theorem DInv.add {l:List Link} {seq:Int} {who:Ident} {out cur:List Ident} {m:Nat} (h:DInv l seq who out cur m) (hv:validLinks l=true) (hw:validId who=true) (hm:m<l.length) (hd:directB l l[m] m seq=true) (ho:l[m].a∈cur∨l[m].b∈cur) :
 DInv l seq who out (insertId (insertId cur l[m].a) l[m].b) (m + 1)∧cur.length≤(insertId cur l[m].a).length:=by
 have hx:=validLinks_mem hv l[m] (List.getElem_mem hm)
 have hcv:AllValid cur:=fun y hy=>(h.reach y hy).valid hv hw
 obtain ⟨s1,m1,l1⟩:=insertId_spec h.asc hcv hx.2.2.1
 have hcv1:AllValid (insertId cur l[m].a):=fun y hy=>((m1 y).1 hy).elim (fun e=>e▸hx.2.2.1) (hcv y)
 obtain ⟨s2,m2,l2⟩:=insertId_spec s1 hcv1 hx.2.2.2.1
 have hab:Reach l seq who l[m].a∧Reach l seq who l[m].b:=by
  rcases ho with ho|ho
  ·exact ⟨h.reach _ ho, .step (h.reach _ ho) ⟨m,hm,hd, .inl ⟨rfl,rfl⟩⟩⟩
  ·exact ⟨.step (h.reach _ ho) ⟨m,hm,hd, .inr ⟨rfl,rfl⟩⟩,h.reach _ ho⟩
 have hmem : ∀ y,y∈insertId (insertId cur l[m].a) l[m].b↔y=l[m].b∨y=l[m].a∨y∈cur:=fun y=>by rw [m2,m1]
 refine ⟨⟨s2,fun y hy => ?_,fun y hy=>(hmem y).2 (.inr (.inr (h.sub y hy))),fun i hi hlt hdi hoi => ?_⟩,l1⟩
 ·rcases (hmem y).1 hy with e|e|e
  ·rw [e];exact hab.2
  ·rw [e];exact hab.1
  ·exact h.reach y e
 ·rcases Nat.lt_or_ge i m with hk|hk
  ·have:=h.clos i hi hk hdi hoi
   exact ⟨(hmem _).2 (.inr (.inr this.1)),(hmem _).2 (.inr (.inr this.2))⟩
  ·obtain rfl:i=m:=by omega
   exact ⟨(hmem _).2 (.inr (.inl rfl)),(hmem _).2 (.inl rfl)⟩
theorem DInv.fin {l:List Link} {seq:Int} {who:Ident} {p out cur:List Ident} (h:DInv l seq who out cur l.length) (hc:CInv l seq who p out):CInv l seq who out cur :=
 ⟨h.asc,h.sub _ hc.has,h.reach,h.sub,hc.asc,fun i hi hd ho=>h.clos i hi hi hd ho⟩
theorem ref16_HasId {A:Option Addr} {c:Nat} {l:List Ident} (x:Ident) {w:World} (hl:SliceIs w w.heap.size Ident.cells 4 A l) (hn:l.length ≤ 1000000) {r:Bool} (hr:decide (x∈l)=r) :
 Calls Tryz.prog 160 #[.slice A l.length c, .agg #[.string x.ns, .int .i64 x.val.kind, .int .i64 x.val.num, .string x.val.text]] w fun e w'=>e = .returned (.bool r)∧Below w.heap.size w w':=by
 rw [← hr]
 exact ref16_Has A c l x.ns x.val.kind x.val.num x.val.text w hl hn
theorem ref16_InsertId {A:Option Addr} {c:Nat} {l:List Ident} (x:Ident) {w:World} (hl:SliceIs w w.heap.size Ident.cells 4 A l) (hn:l.length ≤ 1000000) (hcap:l.length≤c) :
 Calls Tryz.prog 141 #[.slice A l.length c, .agg #[.string x.ns, .int .i64 x.val.kind, .int .i64 x.val.num, .string x.val.text]] w fun e w' =>
  (∃ A' c',e = .returned (.slice A' (insertId l x).length c')∧(insertId l x).length≤c'∧SliceIs w' w'.heap.size Ident.cells 4 A' (insertId l x))∧Below w.heap.size w w' :=
 ref16_Insert A c l x.ns x.val.kind x.val.num x.val.text w hl hn hcap
theorem insertId_len (l:List Ident) (x:Ident):(insertId l x).length≤l.length + 1:=by
 unfold insertId
 split
 ·omega
 ·rw [List.length_append,List.length_cons,List.length_take,List.length_drop];omega
theorem ref16_component (A:Option Addr) (c:Nat) (l:List Link) (s:ByteArray) (k n:Int) (t:ByteArray) (seq:Int) (w:World) (hl:SliceIs w w.heap.size Link.cells 10 A l) (hv:validLinks l=true) (hw:validId ⟨s,k,n,t⟩=true) :
 Calls Tryz.prog 219 #[.slice A l.length c, .agg #[.string s, .int .i64 k, .int .i64 n, .string t], .int .i64 seq] w fun e w' =>
  (∃ out A' c',IsAt l ⟨s,k,n,t⟩ seq out∧e = .returned (.slice A' out.length c')∧out.length≤c'∧SliceIs w' w'.heap.size Ident.cells 4 A' out)∧Below w.heap.size w w':=by
 have hlen:=validLinks_len hv
 have HV:=qh hv
 have HW:=qh hw
 clear hv hw
 go_enter Tryz.func219,Tryz.ntmps219
 go_wp2
 go_loopw [7,8] (fun vo vn wr => ∃ (p out:List Ident) (A':Option Addr) (c':Nat),vo = .slice A' out.length c'∧out.length≤c'∧SliceIs wr wr.heap.size Ident.cells 4 A' out∧Below w.heap.size w wr∧vn = .int .i64 p.length∧CInv l seq ⟨s,k,n,t⟩ p out) (fun _ vn _ => 2*l.length + 2 - (intOf vn).toNat)
 case atStart=>exact ⟨[],[⟨s,k,n,t⟩],_,1,rfl,by simp,Blk.one (Blk.new' spA) spA,by exact belA,rfl,CInv.start _ _ _⟩
 case round =>
  obtain ⟨p,out,A',c',rfl,hc',ho,hbw,rfl,hinv⟩:=hrel
  have hpl:=hinv.len
  have HI:=qh hinv
  clear hinv
  by_cases hlt:p.length<out.length
  ·obtain ⟨wo,rfl⟩ : ∃ wo:World,wo=wr:=⟨_,rfl⟩
   go_wp2
   go_loopw [7,9] (fun vo vi wi => ∃ (cur:List Ident) (A1:Option Addr) (c1 m:Nat),vo = .slice A1 cur.length c1∧cur.length≤c1∧SliceIs wi wi.heap.size Ident.cells 4 A1 cur∧Below wo.heap.size wo wi∧vi = .int .i64 m∧m≤l.length∧DInv l seq ⟨s,k,n,t⟩ out cur m) (fun _ vi _=>l.length - (intOf vi).toNat)
   case atStart=>exact ⟨out,A',c',0,rfl,hc',ho,Below.refl _ _,rfl,Nat.zero_le _,DInv.start HI.out⟩
   case round =>
    obtain ⟨cur,A1,c1,m,rfl,hc1,hcur,hbi,rfl,hm,hdi⟩:=hrel
    have HD:=qh hdi
    have hcl:cur.length ≤ 2*l.length + 1:=by rw [← named_length l ⟨s,k,n,t⟩];exact nodup_le hdi.asc.nodup fun y hy=>(hdi.reach y hy).named
    clear hdi
    have hbwi:Below w.heap.size w wr:=below_nextN hbw hbi hbw.size
    by_cases hltm:m<l.length
    ·have hli:=hl.next hbwi
     obtain ⟨b,o,rfl,hb,hc⟩:=hli.get hltm
     obtain ⟨⟨a0,a1,a2,a3⟩,⟨b0,b1,b2,b3⟩,_,_⟩:=Link.cells10 hc
     clear hc
     cases hd:directB l l[m] m seq
     ·have HDB:=qh hd
      go_wp2_with ((go_at_call 262;(with_reducible refine (ref16_direct _ _ l m seq _ hli omA hltm).mono ?_);rintro e w1 ⟨rfl,hb1⟩;rw [hd]))
      clear hd
      go_roundw
      case rel=>exact ⟨cur,A1,c1,m + 1,rfl,hc1,hcur.next hb1,below_nextN hbi hb1 hbi.size,by go_num,by omega,HD.out.stay hltm (by rw [HDB.out];simp)⟩
      case measure=>simp [intOf];omega
     ·have HDB:=qh hd
      go_wp2_with ((go_at_call 262;(with_reducible refine (ref16_direct _ _ l m seq _ hli omA hltm).mono ?_);rintro e w1 ⟨rfl,hb1⟩;rw [hd];have hk1:=(keepB hb1 b hb).1;have hcur1:=hcur.next hb1))
      clear hd
      by_cases ha:l[m].a∈cur
      ·with_reducible refine (ref16_HasId l[m].a hcur1 omA (decide_eq_true ha)).mono ?_
       rintro e w2 ⟨rfl,hb2⟩
       have hk2:=(keepB hb2 b (by have:=hb1.size;omega)).1
       have hcur2:=hcur1.next hb2
       have hsz2:wr.heap.size≤w2.heap.size:=by have:=hb1.size;have:=hb2.size;omega
       have hbel2:Below wr.heap.size wr w2:=below_nextN hb1 hb2 hb1.size
       have HA:=qh ((HD.out.add HV.out HW.out hltm HDB.out (.inl ha)))
       clear ha
       go_wp2_with fail
       go_region_with (first
        | (go_at_call 141;(with_reducible refine (ref16_InsertId (A:=A1) (c:=c1) (l:=cur) l[m].a ?_ ?_ ?_).mono ?_);exact hcur2;omega;exact hc1;rintro e w3 ⟨⟨A3,c3,rfl,hc3,hs3⟩,hb3⟩;have hk3:=(keepB hb3 b (by first|omega|(simp;omega))).1;have hsz3:wr.heap.size≤w3.heap.size:=(by have:=hb3.size;first|omega|(simp at this;omega));have hbel3:Below wr.heap.size wr w3:=(by first|exact hbel2.drew.trans (hb3.mono hsz2)|exact hbel2.trans (hb3.mono hsz2)))
        | (go_at_call 141;(with_reducible refine (ref16_InsertId (A:=A3) (c:=c3) (l:=insertId cur l[m].a) l[m].b ?_ ?_ ?_).mono ?_);exact hs3;(have:=insertId_len cur l[m].a;omega);exact hc3;rintro e w4 ⟨⟨A4,c4,rfl,hc4,hs4⟩,hb4⟩;have hbel4:Below wr.heap.size wr w4:=(by first|exact hbel3.trans (hb4.mono hsz3)|exact hbel3.drew.trans (hb4.mono hsz3))))
       all_goals go_wp2
       all_goals go_roundw
       all_goals first
        | (case rel=>exact ⟨insertId (insertId cur l[m].a) l[m].b,A4,c4,m + 1,rfl,hc4,hs4,hbi.trans (hbel4.mono hbi.size),by go_num,by omega,HA.out.1⟩)
        | skip
       all_goals (simp [intOf];omega)
      ·with_reducible refine (ref16_HasId l[m].a hcur1 omA (decide_eq_false ha)).mono ?_
       rintro e w2' ⟨rfl,hb2'⟩
       have hk2':=(keepB hb2' b (by have:=hb1.size;omega)).1
       have hcur2':=hcur1.next hb2'
       have hsz2':wr.heap.size≤w2'.heap.size:=by have:=hb1.size;have:=hb2'.size;omega
       have hbel2':Below wr.heap.size wr w2':=below_nextN hb1 hb2' hb1.size
       have HNA:=qh ha
       clear ha
       go_wp2_with fail
       by_cases hbm:l[m].b∈cur
       ·with_reducible refine (ref16_HasId l[m].b hcur2' omA (decide_eq_true hbm)).mono ?_
        rintro e w2 ⟨rfl,hb2⟩
        have hk2:=(keepB hb2 b omA).1
        have hcur2:=hcur2'.next hb2
        have hsz2:wr.heap.size≤w2.heap.size:=by have:=hb2.size;omega
        have hbel2:Below wr.heap.size wr w2:=below_nextN hbel2' hb2 hsz2'
        have HA:=qh ((HD.out.add HV.out HW.out hltm HDB.out (.inr hbm)))
        clear hbm
        go_wp2_with fail
        go_region_with (first
         | (go_at_call 141;(with_reducible refine (ref16_InsertId (A:=A1) (c:=c1) (l:=cur) l[m].a ?_ ?_ ?_).mono ?_);exact hcur2;omega;exact hc1;rintro e w3 ⟨⟨A3,c3,rfl,hc3,hs3⟩,hb3⟩;have hk3:=(keepB hb3 b (by first|omega|(simp;omega))).1;have hsz3:wr.heap.size≤w3.heap.size:=(by have:=hb3.size;first|omega|(simp at this;omega));have hbel3:Below wr.heap.size wr w3:=(by first|exact hbel2.drew.trans (hb3.mono hsz2)|exact hbel2.trans (hb3.mono hsz2)))
         | (go_at_call 141;(with_reducible refine (ref16_InsertId (A:=A3) (c:=c3) (l:=insertId cur l[m].a) l[m].b ?_ ?_ ?_).mono ?_);exact hs3;(have:=insertId_len cur l[m].a;omega);exact hc3;rintro e w4 ⟨⟨A4,c4,rfl,hc4,hs4⟩,hb4⟩;have hbel4:Below wr.heap.size wr w4:=(by first|exact hbel3.trans (hb4.mono hsz3)|exact hbel3.drew.trans (hb4.mono hsz3))))
        all_goals go_wp2
        all_goals go_roundw
        all_goals first
         | (case rel=>exact ⟨insertId (insertId cur l[m].a) l[m].b,A4,c4,m + 1,rfl,hc4,hs4,hbi.trans (hbel4.mono hbi.size),by go_num,by omega,HA.out.1⟩)
         | skip
        all_goals (simp [intOf];omega)
       ·with_reducible refine (ref16_HasId l[m].b hcur2' omA (decide_eq_false hbm)).mono ?_
        rintro e w2 ⟨rfl,hb2⟩
        have HNB:=qh hbm
        clear hbm
        go_wp2_with fail
        go_roundw
        case rel=>exact ⟨cur,A1,c1,m + 1,rfl,hc1,hcur2'.next hb2,hbi.trans ((hbel2'.trans (hb2.mono hsz2')).mono hbi.size),by go_num,by omega,HD.out.stay hltm (fun hh=>hh.2.elim HNA.out HNB.out)⟩
        case measure=>simp [intOf];omega
    ·go_wp2
     go_roundw
     case rel=>exact ⟨out,cur,A1,c1,rfl,hc1,hcur,hbwi,rfl,by
      have h:=HD.out
      obtain rfl:m=l.length:=by omega
      exact h.fin HI.out⟩
     case measure=>simp [intOf];omega
  ·go_wp2
   go_ret
   exact ⟨⟨out,A',c',HI.out.done omA,rfl,hc',ho⟩,hbw⟩
def lastOf:Int→List Link→Int
 | last,[]=>last
 | _,x::l=>lastOf x.seq l
theorem validFrom_snoc : ∀ (last:Int) (l:List Link) (x:Link),validFrom last (l ++ [x])=(validFrom last l&&linkOk (lastOf last l) x)
 | last,[],x=>by simp [validFrom,lastOf]
 | last,y::l,x=>by
   rw [List.cons_append,validFrom,validFrom_snoc y.seq l x,validFrom,lastOf,Bool.and_assoc]
theorem lastOf_snoc : ∀ (last:Int) (l:List Link) (x:Link),lastOf last (l ++ [x])=x.seq
 | _,[],_=>rfl
 | _,y::l,x=>by rw [List.cons_append,lastOf,lastOf_snoc]
theorem validFrom_take (l:List Link) (m:Nat) (h:m<l.length):validFrom 0 (l.take (m + 1))=(validFrom 0 (l.take m)&&linkOk (lastOf 0 (l.take m)) l[m]):=by
 rw [List.take_succ_eq_append_getElem h,validFrom_snoc]
theorem lastOf_take (l:List Link) (m:Nat) (h:m<l.length):lastOf 0 (l.take (m + 1))=l[m].seq:=by
 rw [List.take_succ_eq_append_getElem h,lastOf_snoc]
theorem validFrom_app : ∀ (last:Int) (l r:List Link),validFrom last l=false→validFrom last (l++r)=false
 | _,[],_,h=>by simp [validFrom] at h
 | last,x::l,r,h=>by
   rw [List.cons_append]
   rw [validFrom] at h ⊢
   cases h1:validFrom x.seq l with
   | false=>rw [validFrom_app x.seq l r h1];simp
   | true=>rw [h1,Bool.and_true] at h;rw [h];simp
theorem validFrom_fail {l:List Link} {m:Nat} (h:m<l.length) (hf:linkOk (lastOf 0 (l.take m)) l[m]=false):validLinks l=false:=by
 have h1:validFrom 0 (l.take (m + 1))=false:=by rw [validFrom_take l m h,hf];simp
 have h2:=validFrom_app 0 _ (l.drop (m + 1)) h1
 rw [List.take_append_drop] at h2
 rw [validLinks,h2];simp
theorem lastOf_pos {l:List Link} {m:Nat} (h:validFrom 0 (l.take m)=true) (hm:m≤l.length) : 0≤lastOf 0 (l.take m)∧(∀ h : 0<m,lastOf 0 (l.take m)=(l[m - 1]' omA).seq ∧ 1≤lastOf 0 (l.take m)):=by
 rcases m with _|m
 ·exact ⟨by simp [lastOf],fun h=>by omega⟩
 ·have e:=lastOf_take l m omA
  have hx:=validFrom_mem h l[m] (by rw [List.take_succ_eq_append_getElem omA];exact List.mem_append_right _ spA)
  rw [e]
  exact ⟨by omega,fun _=>⟨rfl,by omega⟩⟩
def Sane (l:List Link):Prop := ∀ x∈l,x.a.ns.size ≤ 1000000∧x.b.ns.size ≤ 1000000
theorem ref16_ValidId (x:Ident) (w:World) (hs:x.ns.size ≤ 1000000) {r:Bool} (hr:validId x=r) :
 Calls Tryz.prog 148 #[.agg #[.string x.ns, .int .i64 x.val.kind, .int .i64 x.val.num, .string x.val.text]] w fun e w'=>e = .returned (.bool r)∧Ext w w':=by
 rw [← hr]
 exact ref16_ValidIdentifier x.ns x.val.kind x.val.num x.val.text w hs
theorem ref16_Valid (A:Option Addr) (c:Nat) (l:List Link) (w:World) (hl:SliceIs w w.heap.size Link.cells 10 A l) (hn:l.length ≤ 1000000) (hs:Sane l) :
 Calls Tryz.prog 106 #[.slice A l.length c] w fun e w'=>e = .returned (.bool (validLinks l))∧Below w.heap.size w w':=by
 have hg:Tryz.prog.eqGuardType Tryz.prog.depth 105=false:=by kernel_rfl
 have HS:=qh hs
 clear hs
 go_enter Tryz.func106,Tryz.ntmps106
 go_wp2
 go_loopw [3] (fun i wr => ∃ m:Nat,m≤l.length∧i = .int .i64 m∧Below w.heap.size w wr∧validFrom 0 (l.take m)=true) (fun i _=>l.length - (intOf i).toNat)
 case atStart=>exact ⟨0,Nat.zero_le _,rfl,by exact belA,by simp [validFrom]⟩
 case round =>
  obtain ⟨m,hm,rfl,hbw,hvf⟩:=hrel
  have HVF:=qh hvf
  have hlp:=lastOf_pos hvf hm
  have HLP:=qh hlp
  clear hvf hlp
  by_cases hlt:m<l.length
  ·obtain ⟨b,o,rfl,hb,hc⟩:=(hl.below hbw).get hlt
   obtain ⟨⟨a0,a1,a2,a3⟩,⟨b0,b1,b2,b3⟩,s8,_⟩:=Link.cells10 hc
   clear hc
   have hk0:=keepQ (w:=wr) b (by have:=hbw.size;omega)
   have hsane:=HS.out l[m] (List.getElem_mem hlt)
   obtain ⟨hsa,hsb⟩:=hsane
   have fails : ∀ (wq:World),Below wr.heap.size wr wq→linkOk (lastOf 0 (l.take m)) l[m]=false→(Ending.returned (.bool false) = .returned (.bool (validLinks l))∧Below w.heap.size w wq)   := fun wq hq h=>⟨ret_bool (validFrom_fail hlt h).symm,below_nextN hbw hq hbw.size⟩
   have HF:=qh fails
   clear fails
   by_cases c1:l[m].seq < 1
   ·go_wp2
    refine wp_region_bel krA krA ?_;(repeat (go_big_quiet_step (fail)));refine wpQuiet_nil ?_;intro wq hq
    go_wp2
    go_ret
    exact HF.out _ hq (by have h1:=HLP.out.1;have h2 : ¬ lastOf 0 (l.take m)<l[m].seq:=omA;simp [linkOk,h2])
   have d1:decide (l[m].seq < 1)=false:=by simpa using c1
   by_cases c2 : 1073741824<l[m].seq
   ·go_wp2
    refine wp_region_bel krA krA ?_;(repeat (go_big_quiet_step (fail)));refine wpQuiet_nil ?_;intro wq hq
    go_wp2
    go_ret
    exact HF.out _ hq (by have h2 : ¬ l[m].seq ≤ 1073741824:=omA;simp [linkOk,h2])
   have d2:decide (1073741824<l[m].seq)=false:=by simpa using c2
   rcases Nat.eq_zero_or_pos m with hm0|hm0
   ·have d3:decide (0<(m:Int))=false:=by simp;omega
    have d3':decide (0<m)=false:=by simp;omega
    have hl0:lastOf 0 (l.take m) = 0:=by rw [hm0];simp [lastOf]
    have hlast:lastOf 0 (l.take m)<l[m].seq:=by omega
    clear hl0
    have HM0:=qh hm0
    clear hm0
    cases c4:validId l[m].a
    ·have HC4:=qh c4
     clear c4
     go_wp2
     refine wp_region_bel krA krA ?_;(repeat (go_big_quiet_step ((go_at_call 148;with_reducible exact bel_of_ext (ref16_ValidId l[m].a _ hsa HC4.out)))));refine wpQuiet_nil ?_;intro wq hq
     go_wp2
     go_ret
     exact HF.out _ hq (by simp [linkOk,HC4.out])
    cases c5:validId l[m].b
    ·have HC4:=qh c4
     have HC5:=qh c5
     clear c4 c5
     go_wp2
     refine wp_region_bel krA krA ?_;(repeat (go_big_quiet_step (((go_at_call 148;first|with_reducible exact bel_of_ext (ref16_ValidId l[m].a _ hsa HC4.out)|with_reducible exact bel_of_ext (ref16_ValidId l[m].b _ hsb HC5.out))))));refine wpQuiet_nil ?_;intro wq hq
     go_wp2
     go_ret
     exact HF.out _ hq (by simp [linkOk,HC5.out])
    by_cases c6:l[m].a=l[m].b
    ·have HC4:=qh c4
     have HC5:=qh c5
     have HC6:=qh c6
     have he:=eqlId_of (decide_eq_true c6)
     clear c4 c5 c6
     go_wp2
     refine wp_region_bel krA krA ?_;(repeat (go_big_quiet_step (((go_at_call 148;first|with_reducible exact bel_of_ext (ref16_ValidId l[m].a _ hsa HC4.out)|with_reducible exact bel_of_ext (ref16_ValidId l[m].b _ hsb HC5.out))))));refine wpQuiet_nil ?_;intro wq hq
     go_wp2
     go_ret
     exact HF.out _ hq (by simp [linkOk,HC6.out])
    have HC4:=qh c4
    have HC5:=qh c5
    have HC6:=qh c6
    have he:=eqlId_of (decide_eq_false c6)
    clear c4 c5 c6
    have hgood:validFrom 0 (l.take (m + 1))=true:=by
     rw [validFrom_take l m hlt,HVF.out]
     have h2:l[m].seq ≤ 1073741824:=by omega
     simp [linkOk,HC4.out,HC5.out,HC6.out,hlast,h2]
    have HGD:=qh hgood
    clear hgood hlast
    go_wp2
    refine wp_region_bel krA krA ?_;(repeat (go_big_quiet_step (((go_at_call 148;first|with_reducible exact bel_of_ext (ref16_ValidId l[m].a _ hsa HC4.out)|with_reducible exact bel_of_ext (ref16_ValidId l[m].b _ hsb HC5.out))))));refine wpQuiet_nil ?_;intro wq hq
    go_wp2
    go_roundw
    case rel=>exact ⟨m + 1,by omega,by go_num,below_nextN hbw hq hbw.size,HGD.out⟩
    case measure=>simp [intOf];omega
   ·obtain ⟨b',o',e,_,hc'⟩:=(hl.below hbw).get (i:=m - 1) omA
    injection e with e
    injection e with e1 e2
    subst e1 e2
    obtain ⟨_,_,s8',_⟩:=Link.cells10 hc'
    clear hc'
    have hle:=(HLP.out.2 hm0).1
    have HLE:=qh hle
    clear hle
    have d3:(0:Int)<(m:Int):=by omega
    by_cases c3:l[m].seq≤(l[m - 1]' omA).seq
    ·have hnl : ¬ lastOf 0 (l.take m)<l[m].seq:=by rw [HLE.out];omega
     have HNL:=qh hnl
     clear hnl
     go_wp2
     refine wp_region_bel krA krA ?_;(repeat (go_big_quiet_step (fail)));refine wpQuiet_nil ?_;intro wq hq
     go_wp2
     go_ret
     exact HF.out _ hq (by rw [linkOk,decide_eq_false (by have h:=HNL.out;omega)];rfl)
    have d4:decide (l[m].seq≤(l[m - 1]' omA).seq)=false:=by simpa using c3
    have hlast:lastOf 0 (l.take m)<l[m].seq:=by rw [HLE.out];omega
    cases c4:validId l[m].a
    ·have HC4:=qh c4
     clear c4
     go_wp2
     refine wp_region_bel krA krA ?_;(repeat (go_big_quiet_step ((go_at_call 148;with_reducible exact bel_of_ext (ref16_ValidId l[m].a _ hsa HC4.out)))));refine wpQuiet_nil ?_;intro wq hq
     go_wp2
     go_ret
     exact HF.out _ hq (by simp [linkOk,HC4.out])
    cases c5:validId l[m].b
    ·have HC4:=qh c4
     have HC5:=qh c5
     clear c4 c5
     go_wp2
     refine wp_region_bel krA krA ?_;(repeat (go_big_quiet_step (((go_at_call 148;first|with_reducible exact bel_of_ext (ref16_ValidId l[m].a _ hsa HC4.out)|with_reducible exact bel_of_ext (ref16_ValidId l[m].b _ hsb HC5.out))))));refine wpQuiet_nil ?_;intro wq hq
     go_wp2
     go_ret
     exact HF.out _ hq (by simp [linkOk,HC5.out])
    by_cases c6:l[m].a=l[m].b
    ·have HC4:=qh c4
     have HC5:=qh c5
     have HC6:=qh c6
     have he:=eqlId_of (decide_eq_true c6)
     clear c4 c5 c6
     go_wp2
     refine wp_region_bel krA krA ?_;(repeat (go_big_quiet_step (((go_at_call 148;first|with_reducible exact bel_of_ext (ref16_ValidId l[m].a _ hsa HC4.out)|with_reducible exact bel_of_ext (ref16_ValidId l[m].b _ hsb HC5.out))))));refine wpQuiet_nil ?_;intro wq hq
     go_wp2
     go_ret
     exact HF.out _ hq (by simp [linkOk,HC6.out])
    have HC4:=qh c4
    have HC5:=qh c5
    have HC6:=qh c6
    have he:=eqlId_of (decide_eq_false c6)
    clear c4 c5 c6
    have hgood:validFrom 0 (l.take (m + 1))=true:=by
     rw [validFrom_take l m hlt,HVF.out]
     have h2:l[m].seq ≤ 1073741824:=by omega
     simp [linkOk,HC4.out,HC5.out,HC6.out,hlast,h2]
    have HGD:=qh hgood
    clear hgood hlast
    go_wp2
    refine wp_region_bel krA krA ?_;(repeat (go_big_quiet_step (((go_at_call 148;first|with_reducible exact bel_of_ext (ref16_ValidId l[m].a _ hsa HC4.out)|with_reducible exact bel_of_ext (ref16_ValidId l[m].b _ hsb HC5.out))))));refine wpQuiet_nil ?_;intro wq hq
    go_wp2
    go_roundw
    case rel=>exact ⟨m + 1,by omega,by go_num,below_nextN hbw hq hbw.size,HGD.out⟩
    case measure=>simp [intOf];omega
  ·go_wp2
   go_ret
   have e:l.take m=l:=List.take_of_length_le omA
   have h:=HVF.out
   rw [e] at h
   exact ⟨ret_bool (by rw [validLinks,h,Bool.and_true,Bool.eq_iff_iff];simp;omega),hbw⟩
theorem idle_Valid (w:World):CallsD Tryz.prog 149 #[] .returning w fun e u' w'=>e = .returned (.tuple #[])∧u' = .returning∧w'=w:=by
 refine callsD_of_wpS Tryz.func149 rfl fun c₀ cs hu => ?_
 apply wpS_region
 cases c₀
 simp_all [wpOpsS,go_sem,recoverD,Tryz.ntmps149,bodyPostS,results,Tryz.results149]
theorem identity_ValidId (x:Ident) (w:World) (hs:x.ns.size ≤ 1000000) {r:Bool} (hr:validId x=r) :
 Calls Tryz.prog 147 #[.agg #[.string x.ns, .int .i64 x.val.kind, .int .i64 x.val.num, .string x.val.text]] w fun e w'=>e = .returned (.bool r)∧Ext w w':=by
 rw [← hr]
 exact identity_ValidIdentifier x.ns x.val.kind x.val.num x.val.text w hs
theorem identity_CompareId (x y:Ident) (w:World) :
 Calls Tryz.prog 150 #[.agg #[.string x.ns, .int .i64 x.val.kind, .int .i64 x.val.num, .string x.val.text], .agg #[.string y.ns, .int .i64 y.val.kind, .int .i64 y.val.num, .string y.val.text]] w fun e w'=>e = .returned (.int .i64 (cmpId x y))∧Ext w w' :=
 identity_Compare x.ns y.ns x.val.kind x.val.num y.val.kind y.val.num x.val.text y.val.text w
theorem identity_Valid (A:Option Addr) (c:Nat) (l:List Link) (w:World) (hl:SliceIs w w.heap.size Link.cells 10 A l) (hn:l.length ≤ 1000000) (hs:Sane l) :
 Calls Tryz.prog 96 #[.slice A l.length c] w fun e w'=>e = .returned (.bool (validLinks l))∧Below w.heap.size w w':=by
 have HS:=qh hs
 clear hs
 by_cases h64:(64:Int)<(l.length:Int)
 ·go_enter_defers Tryz.func96,Tryz.ntmps96
  go_wp2
  refine leaves_cons (f := 149) (args := #[]) spA (by simp [go_sem]) ?_;refine (idle_Valid _).mono ?_;rintro e u' w'' ⟨rfl,rfl,rfl⟩;refine ⟨_,results_tmp rfl _ _ _,?_⟩
  have e3:decide (l.length ≤ 64)=false:=by simp;omega
  exact ⟨ret_bool (by rw [validLinks,e3];simp),by exact belA⟩
 ·have h64':(l.length:Int) ≤ 64:=by omega
  go_enter_defers Tryz.func96,Tryz.ntmps96
  go_wp2
  go_loopw [3,11] (fun vl vi wr => ∃ m:Nat,m≤l.length∧vl = .int .i64 (lastOf 0 (l.take m))∧vi = .int .i64 m∧Below w.heap.size w wr∧validFrom 0 (l.take m)=true) (fun _ i _=>l.length - (intOf i).toNat)
  case atStart=>exact ⟨0,Nat.zero_le _,by simp [lastOf],rfl,by exact belA,by simp [validFrom]⟩
  case round =>
   obtain ⟨m,hm,rfl,rfl,hbw,hvf⟩:=hrel
   have HVF:=qh hvf
   clear hvf
   by_cases hlt:m<l.length
   ·obtain ⟨b,o,rfl,hb,hc⟩:=(hl.below hbw).get hlt
    obtain ⟨⟨a0,a1,a2,a3⟩,⟨b0,b1,b2,b3⟩,s8,r9⟩:=Link.cells10 hc
    clear hc
    have hsane:=HS.out l[m] (List.getElem_mem hlt)
    obtain ⟨hsa,hsb⟩:=hsane
    have fails:linkOk (lastOf 0 (l.take m)) l[m]=false→validLinks l=false:=fun h=>validFrom_fail hlt h
    have HF:=qh fails
    clear fails
    have hwz:=hbw.size
    by_cases c1:l[m].seq≤lastOf 0 (l.take m)
    ·have HC:=qh c1
     go_wp2_with fail
     refine leaves_cons (f := 149) (args := #[]) spA (by simp [go_sem]) ?_;refine (idle_Valid _).mono ?_;rintro e u' w'' ⟨rfl,rfl,rfl⟩;refine ⟨_,results_tmp rfl _ _ _,?_⟩
     exact ⟨ret_bool (HF.out (by rw [linkOk,decide_eq_false (by have h:=HC.out;omega)];rfl)).symm,by exact belA⟩
    have d1:lastOf 0 (l.take m)<l[m].seq:=by omega
    by_cases c2 : 1073741824<l[m].seq
    ·have HC:=qh c2
     go_wp2_with fail
     refine leaves_cons (f := 149) (args := #[]) spA (by simp [go_sem]) ?_;refine (idle_Valid _).mono ?_;rintro e u' w'' ⟨rfl,rfl,rfl⟩;refine ⟨_,results_tmp rfl _ _ _,?_⟩
     exact ⟨ret_bool (HF.out (by have h : ¬ l[m].seq ≤ 1073741824:=(by have h:=HC.out;omega);rw [linkOk,decide_eq_false h];simp)).symm,by exact belA⟩
    have d2:l[m].seq ≤ 1073741824:=by omega
    cases c4:validId l[m].a
    ·have HC4:=qh c4
     clear c4
     go_wp2_with (first
     | (go_at_call 147;(with_reducible refine (identity_ValidId l[m].a _ hsa HC4.out).mono ?_);rintro e w1 ⟨rfl,hb1⟩;obtain ⟨c0,f0,z0⟩:=keepE hb1 wr.heap.size ltA;have hx1:Below w.heap.size w w1:=(by first|exact below_nextN belA hb1.1 leA))
     | (go_at_call 147;(with_reducible refine (identity_ValidId l[m].b _ hsb HC4.out).mono ?_);rintro e w2 ⟨rfl,hb2⟩;obtain ⟨c1,f1,z1⟩:=keepE hb2 wr.heap.size ltA;have hx2:Below w.heap.size w w2:=below_nextN hx1 hb2.1 hx1.size)
     | (go_at_call 150;(with_reducible refine (identity_CompareId l[m].a l[m].b _).mono ?_);rintro e w3 ⟨rfl,hb3⟩;obtain ⟨c2,f2,z2⟩:=keepE hb3 wr.heap.size ltA;have hx3:Below w.heap.size w w3:=below_nextN hx2 hb3.1 hx2.size))
     refine leaves_cons (f := 149) (args := #[]) spA (by simp [go_sem]) ?_;refine (idle_Valid _).mono ?_;rintro e u' w'' ⟨rfl,rfl,rfl⟩;refine ⟨_,results_tmp rfl _ _ _,?_⟩
     exact ⟨ret_bool (HF.out (by simp [linkOk,HC4.out])).symm,hx1⟩
    cases c5:validId l[m].b
    ·have HC4:=qh c4
     have HC5:=qh c5
     clear c4 c5
     go_wp2_with (first
     | (go_at_call 147;(with_reducible refine (identity_ValidId l[m].a _ hsa HC4.out).mono ?_);rintro e w1 ⟨rfl,hb1⟩;obtain ⟨c0,f0,z0⟩:=keepE hb1 wr.heap.size ltA;have hx1:Below w.heap.size w w1:=(by first|exact below_nextN belA hb1.1 leA))
     | (go_at_call 147;(with_reducible refine (identity_ValidId l[m].b _ hsb HC5.out).mono ?_);rintro e w2 ⟨rfl,hb2⟩;obtain ⟨c1,f1,z1⟩:=keepE hb2 wr.heap.size ltA;have hx2:Below w.heap.size w w2:=below_nextN hx1 hb2.1 hx1.size)
     | (go_at_call 150;(with_reducible refine (identity_CompareId l[m].a l[m].b _).mono ?_);rintro e w3 ⟨rfl,hb3⟩;obtain ⟨c2,f2,z2⟩:=keepE hb3 wr.heap.size ltA;have hx3:Below w.heap.size w w3:=below_nextN hx2 hb3.1 hx2.size))
     refine leaves_cons (f := 149) (args := #[]) spA (by simp [go_sem]) ?_;refine (idle_Valid _).mono ?_;rintro e u' w'' ⟨rfl,rfl,rfl⟩;refine ⟨_,results_tmp rfl _ _ _,?_⟩
     exact ⟨ret_bool (HF.out (by simp [linkOk,HC5.out])).symm,hx2⟩
    have HC4:=qh c4
    have HC5:=qh c5
    clear c4 c5
    by_cases c6:l[m].a=l[m].b
    ·have hz:(cmpId l[m].a l[m].b == 0)=true:=by rw [c6,cmpId_refl];rfl
     have HC6:=qh c6
     clear c6
     go_wp2_with (first
     | (go_at_call 147;(with_reducible refine (identity_ValidId l[m].a _ hsa HC4.out).mono ?_);rintro e w1 ⟨rfl,hb1⟩;obtain ⟨c0,f0,z0⟩:=keepE hb1 wr.heap.size ltA;have hx1:Below w.heap.size w w1:=(by first|exact below_nextN belA hb1.1 leA))
     | (go_at_call 147;(with_reducible refine (identity_ValidId l[m].b _ hsb HC5.out).mono ?_);rintro e w2 ⟨rfl,hb2⟩;obtain ⟨c1,f1,z1⟩:=keepE hb2 wr.heap.size ltA;have hx2:Below w.heap.size w w2:=below_nextN hx1 hb2.1 hx1.size)
     | (go_at_call 150;(with_reducible refine (identity_CompareId l[m].a l[m].b _).mono ?_);rintro e w3 ⟨rfl,hb3⟩;obtain ⟨c2,f2,z2⟩:=keepE hb3 wr.heap.size ltA;have hx3:Below w.heap.size w w3:=below_nextN hx2 hb3.1 hx2.size))
     refine leaves_cons (f := 149) (args := #[]) spA (by simp [go_sem]) ?_;refine (idle_Valid _).mono ?_;rintro e u' w'' ⟨rfl,rfl,rfl⟩;refine ⟨_,results_tmp rfl _ _ _,?_⟩
     exact ⟨ret_bool (HF.out (by simp [linkOk,HC6.out])).symm,hx3⟩
    ·have hz:(cmpId l[m].a l[m].b == 0)=false:=by
      rw [beq_eq_false_iff_ne]
      exact fun e=>c6 (cmpId_eq HC4.out HC5.out e)
     have HC6:=qh c6
     clear c6
     have hgood:validFrom 0 (l.take (m + 1))=true:=by
      rw [validFrom_take l m hlt,HVF.out]
      simp [linkOk,HC4.out,HC5.out,HC6.out,d1,d2]
     have HGD:=qh hgood
     clear hgood
     go_wp2_with (first
     | (go_at_call 147;(with_reducible refine (identity_ValidId l[m].a _ hsa HC4.out).mono ?_);rintro e w1 ⟨rfl,hb1⟩;obtain ⟨c0,f0,z0⟩:=keepE hb1 wr.heap.size ltA;have hx1:Below w.heap.size w w1:=(by first|exact below_nextN belA hb1.1 leA))
     | (go_at_call 147;(with_reducible refine (identity_ValidId l[m].b _ hsb HC5.out).mono ?_);rintro e w2 ⟨rfl,hb2⟩;obtain ⟨c1,f1,z1⟩:=keepE hb2 wr.heap.size ltA;have hx2:Below w.heap.size w w2:=below_nextN hx1 hb2.1 hx1.size)
     | (go_at_call 150;(with_reducible refine (identity_CompareId l[m].a l[m].b _).mono ?_);rintro e w3 ⟨rfl,hb3⟩;obtain ⟨c2,f2,z2⟩:=keepE hb3 wr.heap.size ltA;have hx3:Below w.heap.size w w3:=below_nextN hx2 hb3.1 hx2.size))
     go_roundw
     case rel=>exact ⟨m + 1,by omega,by rw [lastOf_take l m hlt],by go_num,hx3,HGD.out⟩
     case measure=>simp [intOf];omega
   ·go_wp2_with fail
    refine leaves_cons (f := 149) (args := #[]) spA (by simp [go_sem]) ?_;refine (idle_Valid _).mono ?_;rintro e u' w'' ⟨rfl,rfl,rfl⟩;refine ⟨_,results_tmp rfl _ _ _,?_⟩
    have e:l.take m=l:=List.take_of_length_le omA
    have h:=HVF.out
    rw [e] at h
    exact ⟨ret_bool (by rw [validLinks,h,Bool.and_true];symm;simp;omega),hbw⟩
def SubjectOut (l:List Link) (who:Ident) (seq:Int) (out:List Ident):Prop :=
 if validLinks l&&validId who then IsSubject l who seq out else out = []
theorem SubjectOut.unique {l:List Link} {who:Ident} {seq:Int} {o o':List Ident} (h:SubjectOut l who seq o) (h':SubjectOut l who seq o'):o=o':=by
 unfold SubjectOut at *
 split at h
 ·rename_i hh;rw [if_pos hh] at h';exact h.unique h'
 ·rename_i hh;rw [if_neg hh] at h';rw [h,h']
theorem ref16_ValidR {A:Option Addr} {c:Nat} {l:List Link} {w:World} (hl:SliceIs w w.heap.size Link.cells 10 A l) (hn:l.length ≤ 1000000) (hs:Sane l) {r:Bool} (hr:validLinks l=r) :
 Calls Tryz.prog 106 #[.slice A l.length c] w fun e w'=>e = .returned (.bool r)∧Below w.heap.size w w':=by
 rw [← hr]
 exact ref16_Valid A c l w hl hn hs
theorem ref16_ValidIdR (s:ByteArray) (k n:Int) (t:ByteArray) (w:World) (hs:s.size ≤ 1000000) {r:Bool} (hr:validId ⟨s,k,n,t⟩=r) :
 Calls Tryz.prog 148 #[.agg #[.string s, .int .i64 k, .int .i64 n, .string t]] w fun e w'=>e = .returned (.bool r)∧Ext w w':=by
 rw [← hr]
 exact ref16_ValidIdentifier s k n t w hs
structure SInv (l:List Link) (who:Ident) (seq:Int) (out:List Ident) (m:Nat):Prop where
 asc:Asc out
 mem : ∀ y,y∈out↔(Reach l seq who y ∨ ∃ x∈l.take m,seq<x.seq∧Reach l x.seq who y)
theorem SInv.start {l:List Link} {who:Ident} {seq:Int} {out:List Ident} (h:IsAt l who seq out):SInv l who seq out 0 :=
 ⟨h.1,fun y=>by rw [h.2];simp⟩
theorem SInv.fin {l:List Link} {who:Ident} {seq:Int} {out:List Ident} {m:Nat} (h:SInv l who seq out m) (hm:l.length≤m):IsSubject l who seq out :=
 ⟨h.asc,fun y=>by rw [h.mem,List.take_of_length_le hm];rfl⟩
theorem SInv.skip {l:List Link} {who:Ident} {seq:Int} {out:List Ident} {m:Nat} (h:SInv l who seq out m) (hm:m<l.length) (hs:l[m].seq≤seq):SInv l who seq out (m + 1):=by
 refine ⟨h.asc,fun y => ?_⟩
 rw [h.mem,List.take_succ_eq_append_getElem hm]
 constructor
 ·rintro (h|⟨x,hx,h⟩)
  ·exact .inl h
  ·exact .inr ⟨x,List.mem_append_left _ hx,h⟩
 ·rintro (h|⟨x,hx,h1,h2⟩)
  ·exact .inl h
  ·rcases List.mem_append.1 hx with hx|hx
   ·exact .inr ⟨x,hx,h1,h2⟩
   ·simp at hx;subst hx;omega
structure TInv (l:List Link) (who:Ident) (seq:Int) (out xs cur:List Ident) (j:Nat):Prop where
 asc:Asc cur
 mem : ∀ y,y∈cur↔(y∈out∨y∈xs.take j)
 val:AllValid cur
theorem TInv.step {l:List Link} {who:Ident} {seq:Int} {out xs cur:List Ident} {j:Nat} (h:TInv l who seq out xs cur j) (hj:j<xs.length) (hv:validId xs[j]=true):TInv l who seq out xs (insertId cur xs[j]) (j + 1):=by
 obtain ⟨s1,m1,_⟩:=insertId_spec h.asc h.val hv
 refine ⟨s1,fun y => ?_,fun y hy=>((m1 y).1 hy).elim (fun e=>e▸hv) (h.val y)⟩
 rw [m1,h.mem,List.take_succ_eq_append_getElem hj,List.mem_append]
 simp only [List.mem_singleton]
 constructor
 ·rintro (h|h|h)
  ·exact .inr (.inr h)
  ·exact .inl h
  ·exact .inr (.inl h)
 ·rintro (h|h|h)
  ·exact .inr (.inl h)
  ·exact .inr (.inr h)
  ·exact .inl h
theorem SInv.next {l:List Link} {who:Ident} {seq:Int} {out xs cur:List Ident} {m j:Nat} (h:SInv l who seq out m) (hm:m<l.length) (hs:seq<l[m].seq) (hx:IsAt l who l[m].seq xs) (ht:TInv l who seq out xs cur j) (hj:xs.length≤j):SInv l who seq cur (m + 1):=by
 refine ⟨ht.asc,fun y => ?_⟩
 rw [ht.mem,h.mem,List.take_of_length_le hj,hx.2,List.take_succ_eq_append_getElem hm]
 constructor
 ·rintro ((h|⟨x,hx,h⟩)|h)
  ·exact .inl h
  ·exact .inr ⟨x,List.mem_append_left _ hx,h⟩
  ·exact .inr ⟨l[m],List.mem_append_right _ spA,hs,h⟩
 ·rintro (h|⟨x,hx,h1,h2⟩)
  ·exact .inl (.inl h)
  ·rcases List.mem_append.1 hx with hx|hx
   ·exact .inl (.inr ⟨x,hx,h1,h2⟩)
   ·simp at hx;subst hx;exact .inr h2
theorem SInv.valid {l:List Link} {who:Ident} {seq:Int} {out:List Ident} {m:Nat} (h:SInv l who seq out m) (hv:validLinks l=true) (hw:validId who=true):AllValid out:=fun y hy=>by
 rcases (h.mem y).1 hy with h|⟨_,_,_,h⟩
 ·exact h.valid hv hw
 ·exact h.valid hv hw
theorem SInv.len {l:List Link} {who:Ident} {seq:Int} {out:List Ident} {m:Nat} (h:SInv l who seq out m):out.length ≤ 2*l.length + 1:=by
 rw [← named_length l who]
 refine nodup_le h.asc.nodup fun y hy => ?_
 rcases (h.mem y).1 hy with h|⟨_,_,_,h⟩
 ·exact h.named
 ·exact h.named
theorem ref16_Subject (A:Option Addr) (c:Nat) (l:List Link) (s:ByteArray) (k n:Int) (t:ByteArray) (seq:Int) (w:World) (hl:SliceIs w w.heap.size Link.cells 10 A l) (hn:l.length ≤ 1000000) (hs:Sane l) (hs':s.size ≤ 1000000) :
 Calls Tryz.prog 159 #[.slice A l.length c, .agg #[.string s, .int .i64 k, .int .i64 n, .string t], .int .i64 seq] w fun e w' =>
  (∃ out A' c',SubjectOut l ⟨s,k,n,t⟩ seq out∧e = .returned (.slice A' out.length c')∧out.length≤c'∧SliceIs w' w'.heap.size Ident.cells 4 A' out)∧Below w.heap.size w w':=by
 have HS:=qh hs
 clear hs
 cases hv:validLinks l
 ·have HV:=qh hv
  clear hv
  go_enter Tryz.func159,Tryz.ntmps159
  go_wp2_with (go_at_call 106;(with_reducible refine (ref16_ValidR (A:=A) (c:=c) (l:=l) ?_ hn HS.out HV.out).mono ?_);(exact hl.next belA);rintro e w1 ⟨rfl,hb1⟩;obtain ⟨c0,f0,z0⟩:=keepB hb1 w.heap.size ltA;have hx1:Below w.heap.size w w1:=below_nextN belA hb1 leA)
  go_ret
  exact ⟨⟨[],none,0,by unfold SubjectOut;rw [HV.out];rfl,rfl,by simp,SliceIs.nil⟩,hx1⟩
 have HV:=qh hv
 clear hv
 cases hw:validId ⟨s,k,n,t⟩
 ·have HW:=qh hw
  clear hw
  go_enter Tryz.func159,Tryz.ntmps159
  go_wp2_with (first|(go_at_call 106;(with_reducible refine (ref16_ValidR (A:=A) (c:=c) (l:=l) ?_ hn HS.out HV.out).mono ?_);(exact hl.next belA);rintro e w1 ⟨rfl,hb1⟩;obtain ⟨c0,f0,z0⟩:=keepB hb1 w.heap.size ltA;have hx1:Below w.heap.size w w1:=below_nextN belA hb1 leA)|(go_at_call 148;(with_reducible refine (ref16_ValidIdR s k n t _ hs' HW.out).mono ?_);rintro e w2 ⟨rfl,hb2⟩;obtain ⟨c1,f1,z1⟩:=keepE hb2 w.heap.size ltA;have hx2:Below w.heap.size w w2:=below_nextN hx1 hb2.1 hx1.size))
  go_ret
  exact ⟨⟨[],none,0,by unfold SubjectOut;rw [HV.out,HW.out];rfl,rfl,by simp,SliceIs.nil⟩,hx2⟩
 have HW:=qh hw
 clear hw
 have hlen:=validLinks_len HV.out
 go_enter Tryz.func159,Tryz.ntmps159
 go_wp2_with (first|(go_at_call 106;(with_reducible refine (ref16_ValidR (A:=A) (c:=c) (l:=l) ?_ hn HS.out HV.out).mono ?_);(exact hl.next belA);rintro e w1 ⟨rfl,hb1⟩;obtain ⟨c0,f0,z0⟩:=keepB hb1 w.heap.size ltA;have hx1:Below w.heap.size w w1:=below_nextN belA hb1 leA)|(go_at_call 148;(with_reducible refine (ref16_ValidIdR s k n t _ hs' HW.out).mono ?_);rintro e w2 ⟨rfl,hb2⟩;obtain ⟨c1,f1,z1⟩:=keepE hb2 w.heap.size ltA;have hx2:Below w.heap.size w w2:=below_nextN hx1 hb2.1 hx1.size)|(go_at_call 219;(with_reducible refine (ref16_component A c l s k n t seq _ ?_ HV.out HW.out).mono ?_);(exact hl.next hx2);rintro e w3 ⟨⟨out0,A3,c3,hout,rfl,hc3,hs3⟩,hb3⟩;have HOUT:=qh hout;clear hout;have hx3:Below w.heap.size w w3:=below_nextN hx2 hb3 hx2.size;obtain ⟨c2,f2,z2⟩:=keepB hb3 w.heap.size ltA))
 have hbox : ∀ j u,(Ident.cells ⟨s,k,n,t⟩)[j]? = some u→w3.cell? ⟨w.heap.size,0+j,none⟩=some u:=fun j u hu=>by
  rw [Nat.zero_add,c2,c1,c0]
  simpa [Ident.cells] using hu
 go_loopw [7,8] (fun vo vi wr => ∃ (out:List Ident) (A':Option Addr) (c' m:Nat),vo = .slice A' out.length c'∧out.length≤c'∧SliceIs wr wr.heap.size Ident.cells 4 A' out∧vi = .int .i64 m∧m≤l.length∧Below w3.heap.size w3 wr∧SInv l ⟨s,k,n,t⟩ seq out m) (fun _ vi _=>l.length - (intOf vi).toNat)
 case atStart=>exact ⟨out0,A3,c3,0,rfl,hc3,hs3,rfl,Nat.zero_le _,Below.refl _ _,SInv.start HOUT.out⟩
 case round =>
  obtain ⟨out,A',c',m,rfl,hc',ho,rfl,hm,hbw,hinv⟩:=hrel
  have HI:=qh hinv
  have hol:=hinv.len
  clear hinv
  have hbw':Below w.heap.size w wr:=below_nextN hx3 hbw hx3.size
  by_cases hlt:m<l.length
  ·have hlr:=hl.next hbw'
   obtain ⟨b,o,rfl,hb,hc⟩:=hlr.get hlt
   obtain ⟨_,_,s8,_⟩:=Link.cells10 hc
   clear hc
   by_cases hle:l[m].seq≤seq
   ·go_wp2_with fail
    go_roundw
    case rel=>exact ⟨out,A',c',m + 1,rfl,hc',ho,by go_num,by omega,hbw,HI.out.skip hlt hle⟩
    case measure=>simp [intOf];omega
   ·have hgt:seq<l[m].seq:=by omega
    obtain ⟨x0,x1,x2,x3⟩:=Ident.cells4 (fun j u hu=>(hbw.cell (by exact z2)).trans (hbox j u hu))
    simp only [Nat.zero_add] at x1 x2 x3
    have hzr:w.heap.size<wr.heap.size:=by have:=hbw.size;omega
    go_wp2_with fail
    go_upto_region 8 with fail
    go_cut [9] (fun vx wc => ∃ (xs:List Ident) (Ax:Option Addr) (cx:Nat),vx = .slice Ax xs.length cx∧IsAt l ⟨s,k,n,t⟩ l[m].seq xs∧SliceIs wc wc.heap.size Ident.cells 4 Ax xs∧Below wr.heap.size wr wc)
    case first =>
     go_region_with (go_at_call 219;(with_reducible refine (ref16_component (some ⟨b,o,none⟩) c l s k n t l[m].seq _ ?_ HV.out HW.out).mono ?_);(exact hlr.next belA);rintro e w4 ⟨⟨xs,A4,c4,hxs,rfl,hc4,hs4⟩,hb4⟩;have HXS:=qh hxs;clear hxs;have hx4:Below wr.heap.size wr w4:=below_nextN belA hb4 leA)
     all_goals (go_wp2_with fail;go_meet;exact ⟨xs,A4,c4,rfl,HXS.out,hs4,hx4⟩)
    case rest =>
     obtain ⟨xs,Ax,cx,rfl,hxs,hsx,hbc⟩:=hcut
     have HXS:=qh hxs
     have hxl:xs.length ≤ 2*l.length + 1:=by rw [← named_length l ⟨s,k,n,t⟩];exact nodup_le hxs.1.nodup fun y hy=>((hxs.2 y).1 hy).named
     have HXV:=qh (fun y (hy:y∈xs)=>((hxs.2 y).1 hy).valid HV.out HW.out)
     clear hxs
     obtain ⟨wo,rfl⟩ : ∃ wo:World,wo=wr:=⟨_,rfl⟩
     clear x0 x1 x2 x3 s8
     go_wp2_with fail
     go_loopw [7,10] (fun vo vj wi => ∃ (cur:List Ident) (A1:Option Addr) (c1 j:Nat),vo = .slice A1 cur.length c1∧cur.length≤c1∧SliceIs wi wi.heap.size Ident.cells 4 A1 cur∧vj = .int .i64 j∧j≤xs.length∧Below wc.heap.size wc wi∧TInv l ⟨s,k,n,t⟩ seq out xs cur j) (fun _ vj _=>xs.length - (intOf vj).toNat)
     case atStart=>exact ⟨out,A',c',0,rfl,hc',ho.next hbc,rfl,Nat.zero_le _,Below.refl _ _,⟨HI.out.asc,fun y=>by simp,HI.out.valid HV.out HW.out⟩⟩
     case round =>
      obtain ⟨cur,A1,c1',j,rfl,hc1,hcur,rfl,hj,hbi,hti⟩:=hrel
      have hcl:cur.length≤out.length+xs.length:=by
       rw [← List.length_append]
       exact nodup_le hti.asc.nodup fun y hy=>((hti.mem y).1 hy).elim (fun h=>List.mem_append_left _ h) (fun h=>List.mem_append_right _ (List.mem_of_mem_take h))
      have HT:=qh hti
      clear hti
      by_cases hltj:j<xs.length
      ·obtain ⟨bx,ox,rfl,hbx,hcx⟩:=(hsx.next hbi).get hltj
       obtain ⟨q0,q1,q2,q3⟩:=Ident.cells4 hcx
       clear hcx
       go_wp2_with ((go_at_call 141;(with_reducible refine (ref16_InsertId (A:=A1) (c:=c1') (l:=cur) xs[j] hcur ?_ hc1).mono ?_);omega;rintro e w5 ⟨⟨A5,c5,rfl,hc5,hs5⟩,hb5⟩))
       go_roundw
       case rel=>exact ⟨insertId cur xs[j],A5,c5,j + 1,rfl,hc5,hs5,by go_num,by omega,below_nextN hbi hb5 hbi.size,HT.out.step hltj (HXV.out _ (List.getElem_mem hltj))⟩
       case measure=>simp [intOf];omega
      ·go_wp2_with fail
       go_roundw
       case rel=>exact ⟨cur,A1,c1',m + 1,rfl,hc1,hcur,by go_num,by omega,below_nextN hbw (below_nextN hbc hbi hbc.size) hbw.size,HI.out.next hlt hgt HXS.out HT.out omA⟩
       case measure=>simp [intOf];omega
  ·go_wp2_with fail
   go_ret
   exact ⟨⟨out,A',c',by unfold SubjectOut;rw [HV.out,HW.out];exact HI.out.fin omA,rfl,hc',ho⟩,hbw'⟩
inductive RootN (f:List Nat):Nat→Nat→Nat→Prop where
 | here {i:Nat}:f[i]? = some i→RootN f i i 0
 | up {i p r d:Nat}:f[i]? = some p→p≠i→RootN f p r d→RootN f i r (d + 1)
def Root (f:List Nat) (i r:Nat):Prop := ∃ d,RootN f i r d
def Forest (f:List Nat):Prop := ∀ i,i<f.length → ∃ r,Root f i r
theorem RootN.lt {f:List Nat} {i r d:Nat} (h:RootN f i r d):i<f.length:=by
 cases h with
 | here h=>exact (List.getElem?_eq_some_iff.1 h).1
 | up h _ _=>exact (List.getElem?_eq_some_iff.1 h).1
theorem RootN.isRoot {f:List Nat} {i r d:Nat} (h:RootN f i r d):f[r]? = some r:=by
 induction h with
 | here h=>exact h
 | up _ _ _ ih=>exact ih
theorem RootN.unique {f:List Nat} {i r d r' d':Nat} (h:RootN f i r d) (h':RootN f i r' d'):r=r'∧d=d':=by
 induction h generalizing r' d' with
 | here e =>
   cases h' with
   | here _=>exact ⟨rfl,rfl⟩
   | up e' hne _=>rw [e] at e';injection e' with e';exact absurd e'.symm hne
 | up e hne _ ih =>
   cases h' with
   | here e'=>rw [e] at e';injection e' with e';exact absurd e' hne
   | up e' _ h2 =>
     rw [e] at e'
     injection e' with e'
     subst e'
     obtain ⟨h3,h4⟩:=ih h2
     exact ⟨h3,by omega⟩
theorem Root.unique {f:List Nat} {i r r':Nat} (h:Root f i r) (h':Root f i r'):r=r':=by
 obtain ⟨_,h⟩:=h
 obtain ⟨_,h'⟩:=h'
 exact (h.unique h').1
theorem Root.lt {f:List Nat} {i r:Nat} (h:Root f i r):i<f.length∧r<f.length:=by
 obtain ⟨_,h⟩:=h
 exact ⟨h.lt,(List.getElem?_eq_some_iff.1 h.isRoot).1⟩
theorem RootN.halve {f:List Nat} {i p q:Nat} (hp:f[i]? = some p) (hpi:p≠i) (hq:f[p]? = some q) :
 ∀ {d j r:Nat},RootN f j r d → ∃ d',d'≤d∧RootN (f.set i q) j r d':=by
 have hil:i<f.length:=(List.getElem?_eq_some_iff.1 hp).1
 have hne : ∀ j,j≠i→(f.set i q)[j]? = f[j]? := fun j hj=>List.getElem?_set_ne (fun e=>hj e.symm)
 have hat:(f.set i q)[i]? = some q:=by rw [List.getElem?_set_self hil]
 intro d
 induction d using Nat.strongRecOn with
 | ind d ih =>
   intro j r h
   by_cases hji:j=i
   ·subst hji
    cases h with
    | here e=>rw [hp] at e;injection e with e;exact absurd e hpi
    | up e hne' h2 =>
      rw [hp] at e
      injection e with e
      subst e
      cases h2 with
      | here e2 =>
        rw [hq] at e2
        injection e2 with e2
        subst e2
        exact ⟨1,by omega, .up hat (fun e=>hpi e) (.here (by rw [hne _ hpi];exact hq))⟩
      | up e2 hne2 h3 =>
        rw [hq] at e2
        injection e2 with e2
        subst e2
        rename_i d3
        have hqi:q≠j:=by
         intro e
         subst e
         have h4:RootN f q r (d3 + 1 + 1) := .up hp hpi (.up hq hne2 h3)
         have:=(h4.unique h3).2
         omega
        obtain ⟨d',hd',h4⟩:=ih d3 omA h3
        exact ⟨d' + 1,by omega, .up hat hqi h4⟩
   ·cases h with
    | here e=>exact ⟨0,by omega, .here (by rw [hne j hji];exact e)⟩
    | up e hne' h2 =>
      rename_i p' d2
      obtain ⟨d',hd',h3⟩:=ih d2 omA h2
      exact ⟨d' + 1,by omega, .up (by rw [hne j hji];exact e) hne' h3⟩
def SameRoots (f f':List Nat):Prop:=f'.length=f.length ∧ ∀ j r,Root f j r↔Root f' j r
theorem SameRoots.len {f f':List Nat} (h:SameRoots f f'):f'.length=f.length:=h.1
theorem SameRoots.refl (f:List Nat):SameRoots f f:=⟨rfl,fun _ _=>Iff.rfl⟩
theorem SameRoots.trans {f g h:List Nat} (a:SameRoots f g) (b:SameRoots g h):SameRoots f h:=⟨b.1.trans a.1,fun j r=>(a.2 j r).trans (b.2 j r)⟩
theorem SameRoots.forest {f g:List Nat} (a:SameRoots f g) (h:Forest f):Forest g:=fun i hi=>by
 obtain ⟨r,hr⟩:=h i (by rw [← a.1];exact hi)
 exact ⟨r,(a.2 i r).1 hr⟩
theorem sameRoots_halve {f:List Nat} (hf:Forest f) {i p q:Nat} (hp:f[i]? = some p) (hpi:p≠i) (hq:f[p]? = some q):SameRoots f (f.set i q):=by
 have fwd : ∀ j r,Root f j r→Root (f.set i q) j r:=fun j r ⟨d,h⟩=>by
  obtain ⟨d',_,h'⟩:=RootN.halve hp hpi hq h
  exact ⟨d',h'⟩
 refine ⟨by simp,fun j r=>⟨fwd j r,fun h => ?_⟩⟩
 obtain ⟨r',hr'⟩:=hf j (by have:=h.lt.1;simpa using this)
 have:=(fwd j r' hr').unique h
 rw [← this]
 exact hr'
theorem RootN.join {f:List Nat} {a b:Nat} (ha:f[a]? = some a) (hb:f[b]? = some b) (hab:a≠b) :
 ∀ {j r d:Nat},RootN f j r d→Root (f.set a b) j (if r=a then b else r):=by
 have hal:a<f.length:=(List.getElem?_eq_some_iff.1 ha).1
 have hne : ∀ j,j≠a→(f.set a b)[j]? = f[j]? := fun j hj=>List.getElem?_set_ne (fun e=>hj e.symm)
 have hat:(f.set a b)[a]? = some b:=by rw [List.getElem?_set_self hal]
 intro j r d h
 induction h with
 | @here i e =>
   by_cases hia:i=a
   ·subst hia
    rw [if_pos rfl]
    exact ⟨1, .up hat (fun e=>hab e.symm) (.here (by rw [hne b (fun e=>hab e.symm)];exact hb))⟩
   ·rw [if_neg hia]
    exact ⟨0, .here (by rw [hne i hia];exact e)⟩
 | @up i p r d e hne' _ ih =>
   have hia:i≠a:=by
    intro e'
    subst e'
    rw [ha] at e
    injection e with e
    exact hne' e.symm
   obtain ⟨d',h'⟩:=ih
   exact ⟨d' + 1, .up (by rw [hne i hia];exact e) hne' h'⟩
inductive Conn (ps:List (Nat × Nat)) (i:Nat):Nat→Prop where
 | refl:Conn ps i i
 | right {a b:Nat}:Conn ps i a→(a,b)∈ps→Conn ps i b
 | left {a b:Nat}:Conn ps i b→(a,b)∈ps→Conn ps i a
theorem Conn.trans {ps:List (Nat × Nat)} {i j k:Nat} (h:Conn ps i j) (h':Conn ps j k):Conn ps i k:=by
 induction h' with
 | refl=>exact h
 | right _ hm ih=>exact .right ih hm
 | left _ hm ih=>exact .left ih hm
theorem Conn.symm {ps:List (Nat × Nat)} {i j:Nat} (h:Conn ps i j):Conn ps j i:=by
 induction h with
 | refl=>exact .refl
 | right _ hm ih=>exact (Conn.left .refl hm).trans ih
 | left _ hm ih=>exact (Conn.right .refl hm).trans ih
theorem Conn.mono {ps qs:List (Nat × Nat)} {i j:Nat} (h:Conn ps i j) (hs : ∀ x∈ps,x∈qs):Conn qs i j:=by
 induction h with
 | refl=>exact .refl
 | right _ hm ih=>exact .right ih (hs _ hm)
 | left _ hm ih=>exact .left ih (hs _ hm)
structure Stands (f:List Nat) (n:Nat) (ps:List (Nat × Nat)):Prop where
 len:f.length=n
 forest:Forest f
 inr : ∀ x∈ps,x.1<n∧x.2<n
 conn : ∀ i j ri rj,Root f i ri→Root f j rj→(ri=rj↔Conn ps i j)
theorem Stands.same {f f':List Nat} {n:Nat} {ps:List (Nat × Nat)} (h:Stands f n ps) (hs:SameRoots f f'):Stands f' n ps :=
 ⟨hs.1.trans h.len,hs.forest h.forest,h.inr,fun i j ri rj h1 h2=>h.conn i j ri rj ((hs.2 _ _).2 h1) ((hs.2 _ _).2 h2)⟩
theorem Stands.start (n:Nat):Stands (List.range n) n []:=by
 have h0 : ∀ i,i<n→(List.range n)[i]? = some i:=fun i hi=>by rw [List.getElem?_range hi]
 refine ⟨by simp,fun i hi=>⟨i,0, .here (h0 i (by simpa using hi))⟩,(fun x hx=>by cases hx),fun i j ri rj h1 h2 => ?_⟩
 have e1:=h1.unique ⟨0, .here (h0 i (by simpa using h1.lt.1))⟩
 have e2:=h2.unique ⟨0, .here (h0 j (by simpa using h2.lt.1))⟩
 rw [e1,e2]
 constructor
 ·rintro rfl;exact .refl
 ·intro h
  have : ∀ k,Conn [] i k→i=k:=by
   intro k hk
   induction hk with
   | refl=>rfl
   | right _ hm _=>cases hm
   | left _ hm _=>cases hm
  exact this j h
theorem Stands.join {f:List Nat} {n:Nat} {ps:List (Nat × Nat)} (h:Stands f n ps) {a b ra rb:Nat} (ha:Root f a ra) (hb:Root f b rb):Stands (f.set ra rb) n (ps ++ [(a,b)]):=by
 have hra:f[ra]? = some ra:=by obtain ⟨_,h⟩:=ha;exact h.isRoot
 have hrb:f[rb]? = some rb:=by obtain ⟨_,h⟩:=hb;exact h.isRoot
 have hal:=ha.lt.1
 have hbl:=hb.lt.1
 rw [h.len] at hal hbl
 have hinr : ∀ x∈ps ++ [(a,b)],x.1<n∧x.2<n:=fun x hx=>by
  rcases List.mem_append.1 hx with hx|hx
  ·exact h.inr x hx
  ·simp at hx;subst hx;exact ⟨hal,hbl⟩
 have hsub : ∀ x∈ps,x∈ps ++ [(a,b)]:=fun x hx=>List.mem_append_left _ hx
 have hnew:(a,b)∈ps ++ [(a,b)]:=List.mem_append_right _ spA
 -- new roots
 have newRoot : ∀ j r,Root f j r→Root (f.set ra rb) j (if r=ra then rb else r):=by
  intro j r ⟨d,hd⟩
  by_cases e:ra=rb
  ·subst e
   have e1:f.set ra ra=f:=by
    have hlt:ra<f.length:=(List.getElem?_eq_some_iff.1 hra).1
    apply List.ext_getElem?
    intro k
    by_cases hk:k=ra
    ·subst hk;rw [List.getElem?_set_self hlt,hra]
    ·rw [List.getElem?_set_ne (fun e=>hk e.symm)]
   rw [e1]
   by_cases e2:r=ra
   ·rw [if_pos e2,← e2];exact ⟨d,hd⟩
   ·rw [if_neg e2];exact ⟨d,hd⟩
  ·exact RootN.join hra hrb e hd
 have hforest:Forest (f.set ra rb):=fun i hi=>by
  obtain ⟨r,hr⟩:=h.forest i (by simpa using hi)
  exact ⟨_,newRoot i r hr⟩
 have hconn : ∀ i r,Root f i r → ∀ k,Conn (ps ++ [(a,b)]) i k → ∃ rk,Root f k rk∧(if r=ra then rb else r)=(if rk=ra then rb else rk):=by
  intro i r hr k hk
  have grb:(if rb=ra then rb else rb)=rb:=by simp
  have gra:(if ra=ra then rb else ra)=rb:=by simp
  induction hk with
  | refl=>exact ⟨r,hr,rfl⟩
  | @right x y _ hm ih =>
    obtain ⟨rx,hx,e⟩:=ih
    rcases List.mem_append.1 hm with hm'|hm'
    ·obtain ⟨ry,hy⟩:=h.forest y (by rw [h.len];exact (h.inr _ hm').2)
     have e2:=(h.conn x y rx ry hx hy).2 (.right .refl hm')
     exact ⟨ry,hy,by rw [e,e2]⟩
    ·simp at hm'
     obtain ⟨rfl,rfl⟩:=hm'
     refine ⟨rb,hb,?_⟩
     rw [e,hx.unique ha,gra,grb]
  | @left x y _ hm ih =>
    obtain ⟨ry,hy,e⟩:=ih
    rcases List.mem_append.1 hm with hm'|hm'
    ·obtain ⟨rx,hx⟩:=h.forest x (by rw [h.len];exact (h.inr _ hm').1)
     have e2:=(h.conn x y rx ry hx hy).2 (.right .refl hm')
     exact ⟨rx,hx,by rw [e,e2]⟩
    ·simp at hm'
     obtain ⟨rfl,rfl⟩:=hm'
     refine ⟨ra,ha,?_⟩
     rw [e,hy.unique hb,gra,grb]
 refine ⟨by simpa using h.len,hforest,hinr,fun i j si sj hi hj => ?_⟩
 have hil:i<n:=by have:=hi.lt.1;rw [List.length_set,h.len] at this;exact this
 have hjl:j<n:=by have:=hj.lt.1;rw [List.length_set,h.len] at this;exact this
 obtain ⟨ri,hri⟩:=h.forest i (by rw [h.len];exact hil)
 obtain ⟨rj,hrj⟩:=h.forest j (by rw [h.len];exact hjl)
 rw [hi.unique (newRoot i ri hri),hj.unique (newRoot j rj hrj)]
 constructor
 ·intro e
  have toA : ∀ k rk,Root f k rk→rk=ra→Conn (ps ++ [(a,b)]) k b:=fun k rk hk ek =>
   Conn.right (((h.conn k a rk ra hk ha).1 ek).mono hsub) hnew
  have toB : ∀ k rk,Root f k rk→rk=rb→Conn (ps ++ [(a,b)]) k b:=fun k rk hk ek =>
   ((h.conn k b rk rb hk hb).1 ek).mono hsub
  by_cases e1:ri=ra
  ·rw [if_pos e1] at e
   by_cases e2:rj=ra
   ·exact (toA i ri hri e1).trans (toA j rj hrj e2).symm
   ·rw [if_neg e2] at e
    exact (toA i ri hri e1).trans (toB j rj hrj e.symm).symm
  ·rw [if_neg e1] at e
   by_cases e2:rj=ra
   ·rw [if_pos e2] at e
    exact (toB i ri hri e).trans (toA j rj hrj e2).symm
   ·rw [if_neg e2] at e
    exact ((h.conn i j ri rj hri hrj).1 e).mono hsub
 ·intro hc
  obtain ⟨rk,hk,e⟩:=hconn i ri hri j hc
  rw [e,hk.unique hrj]
def IntBlk (w:World) (g:Nat) (f:List Nat):Prop:=Blk w g 3 (f.map (fun x:Nat=>Value.int .i64 (x:Int))).toArray
theorem IntBlk.cell {w:World} {g:Nat} {f:List Nat} (h:IntBlk w g f) {i p:Nat} (hp:f[i]? = some p):w.cell? ⟨g,i,none⟩=some (.int .i64 p):=by
 rw [Blk.cell h]
 simp [hp]
theorem IntBlk.set_ {w:World} {g:Nat} {f:List Nat} (h:IntBlk w g f) (i q:Nat):IntBlk (w.setCell ⟨g,i,none⟩ (.int .i64 q)) g (f.set i q):=by
 have h1:=Blk.set_ h i (.int .i64 (q:Int))
 unfold IntBlk
 have e:(List.map (fun x:Nat=>Value.int .i64 (x:Int)) (f.set i q)).toArray=((List.map (fun x:Nat=>Value.int .i64 (x:Int)) f).toArray).setIfInBounds i (.int .i64 (q:Int)):=by
  simp [List.map_set]
 rw [e]
 exact h1
theorem only_setCell {a w:World} {g:Nat} (h:a.grownBy w (some g)) {p:Addr} (hp:p.block=g∨a.heap.size≤p.block) (u:Value):a.grownBy (w.setCell p u) (some g) :=
 ⟨h.os,h.tape,h.output,by simpa [World.setCell] using h.size,fun i hi hne=>(Below.heap_setCell w p u i (by
  rintro rfl
  rcases hp with hp|hp
  ·exact hne (by rw [hp])
  ·omega)).trans (h.block i hi hne)⟩
theorem only_of_below {a w:World} (h:Below a.heap.size a w) (row:Option Nat):a.grownBy w row:=⟨h.os,h.tape,h.output,h.size,fun i hi _=>h.block i hi⟩
theorem grown_drew {a w:World} {row:Option Nat} (h:a.grownBy w row):a.grownBy w.drew row:=⟨h.os,h.tape,h.output,h.size,h.block⟩
theorem grown_alloc {a w:World} {row:Option Nat} (h:a.grownBy w row) (o:Obj):a.grownBy (w.alloc o) row :=
 ⟨h.os,h.tape,h.output,Nat.le_trans h.size spA,fun i hi hne=>(Below.heap_alloc w o i (Nat.lt_of_lt_of_le hi h.size)).trans (h.block i hi hne)⟩
theorem grown_trans {a b c:World} {row:Option Nat} (h:a.grownBy b row) (k:b.grownBy c row):a.grownBy c row :=
 ⟨k.os.trans h.os,k.tape.trans h.tape,k.output.trans h.output,Nat.le_trans h.size k.size,fun i hi hne=>(k.block i (Nat.lt_of_lt_of_le hi h.size) hne).trans (h.block i hi hne)⟩
theorem forest_root (g c:Nat) (f:List Nat) (i:Nat) (w:World) (hB:IntBlk w g f) (hf:Forest f) (hi:i<f.length) (hlen:f.length ≤ 1000000) :
 Calls Tryz.prog 261 #[.slice (some ⟨g,0,none⟩) f.length c, .int .i64 i] w fun e w' =>
  ∃ r f',Root f i r∧SameRoots f f'∧e = .returned (.int .i64 r)∧IntBlk w' g f'∧w.grownBy w' (some g):=by
 obtain ⟨r,d,hr⟩:=hf i hi
 have HF:=qh hf
 have HR:=qh hr
 clear hf hr
 go_enter Tryz.func261,Tryz.ntmps261
 go_wp2
 go_loopg [1] d (fun k vi wr => ∃ (j:Nat) (f':List Nat),vi = .int .i64 j∧RootN f' j r k∧SameRoots f f'∧IntBlk wr g f'∧w.grownBy wr (some g))
 case atStart=>exact ⟨i,f,rfl,HR.out,SameRoots.refl _,hB,World.grownBy.refl _ _⟩
 case round =>
  obtain ⟨j,f',rfl,hj,hs,hB',hg⟩:=hrel
  have hjl:=hj.lt
  have hfl:=hs.1
  have HS:=qh hs
  have HJ:=qh hj
  have HB':=qh hB'
  rw [hfl] at hjl
  cases hj with
  | here e =>
    have hc:=hB'.cell e
    have ht:((r:Int) != (r:Int))=false:=by simp
    clear hs hfl hB' e
    go_wp2
    go_ret
    exact ⟨r,f',⟨d,HR.out⟩,HS.out,rfl,HB'.out,hg⟩
  | @up _ p _ k e hne h2 =>
    have hpl:=h2.lt
    rw [hfl] at hpl
    have hc:=hB'.cell e
    have ht:((p:Int) != (j:Int))=true:=by simp;omega
    obtain ⟨q,hq⟩ : ∃ q,f'[p]? = some q:=⟨_,List.getElem?_eq_getElem h2.lt⟩
    have hc2:=hB'.cell hq
    have hfz:=Blk.frozen HB'.out j
    clear hs hfl hB'
    have HE:=qh e
    have HN:=qh hne
    have HQ:=qh hq
    have H2:=qh h2
    clear e hne hq h2
    have hk : ∃ k',k'≤k∧RootN (f'.set j q) q r k':=by
     have h1 : ∃ kq,kq≤k∧RootN f' q r kq:=by
      have h:=H2.out
      cases h with
      | here e =>
        have e2:=HQ.out
        rw [e] at e2
        injection e2 with e2
        subst e2
        exact ⟨0,Nat.le_refl _, .here e⟩
      | up e _ h3 =>
        have e2:=HQ.out
        rw [e] at e2
        injection e2 with e2
        subst e2
        exact ⟨_,by omega,h3⟩
     obtain ⟨kq,hkq,h2⟩:=h1
     obtain ⟨d',hd',h3⟩:=RootN.halve HE.out HN.out HQ.out h2
     exact ⟨d',by omega,h3⟩
    obtain ⟨k',hk',hr'⟩:=hk
    have HR':=qh hr'
    clear hr'
    go_wp2
    go_roundg k'
    case measure=>omega
    case rel=>exact ⟨q,f'.set j q,rfl,HR'.out,HS.out.trans (sameRoots_halve (HS.out.forest HF.out) HE.out HN.out HQ.out),HB'.out.set_ j q,only_setCell hg (.inl rfl) _⟩
theorem asc_get {l:List Ident} (h:Asc l) {i j:Nat} (hi:i<l.length) (hj:j<l.length) (hij:i<j):cmpId l[i] l[j] < 0 :=
 List.pairwise_iff_getElem.1 h i j hi hj hij
theorem insK_bound {l:List Ident} (x:Ident) (m:Nat) (hm:m≤l.length) (h1 : ∀ k (h:k<l.length),k<m→cmpId l[k] x < 0) (h2 : ∀ h:m<l.length,0≤cmpId l[m] x):insK l x=m :=
 takeWhile_len _ l m hm (fun j h hj=>by simpa using h1 j h hj) (fun h=>by simpa using h2 h)
theorem search_any (A:Option Addr) (c:Nat) (l:List Ident) (x:Ident) (w:World) (hl:SliceIs w w.heap.size Ident.cells 4 A l) (hn:l.length ≤ 1000000) (ha:Asc l) :
 Calls Tryz.prog 154 #[.slice A l.length c, .agg #[.string x.ns, .int .i64 x.val.kind, .int .i64 x.val.num, .string x.val.text], .func (.func 150) #[] #[]] w fun e w' =>
  (∃ b,e = .returned (.tuple #[.int .i64 (insK l x), .bool b]))∧Below w.heap.size w w':=by
 have HA:=qh ha
 clear ha
 go_enter Tryz.func154,Tryz.ntmps154
 go_wp2
 go_loopw [9,10] (fun vi vj wr => ∃ i j:Nat,i≤j∧j≤l.length∧vi = .int .i64 i∧vj = .int .i64 j∧Below w.heap.size w wr∧(∀ y u,(Ident.cells x)[y]? = some u→wr.cell? ⟨w.heap.size,0+y,none⟩=some u)∧w.heap.size<wr.heap.size∧(∀ k (h:k<l.length),k<i→cmpId l[k] x < 0)∧(∀ k (h:k<l.length),j≤k → 0≤cmpId l[k] x)) (fun vi vj _=>(intOf vj).toNat - (intOf vi).toNat)
 case atStart=>exact ⟨0,l.length,Nat.zero_le _,Nat.le_refl _,rfl,rfl,by exact belA,fun j u hu=>by simpa [Ident.cells] using hu,by simp,fun k h hk=>by omega,fun k h hk=>by omega⟩
 case round =>
  obtain ⟨i,j,hij,hj,rfl,rfl,hbw,hx,hz,hlo,hhi⟩:=hrel
  obtain ⟨x0,x1,x2,x3⟩:=Ident.cells4 hx
  simp only [Nat.zero_add] at x1 x2 x3
  have HX:=qh hx
  have HLO:=qh hlo
  have HHI:=qh hhi
  clear hx hlo hhi
  have hk1:=keepQ (w:=wr) w.heap.size hz
  by_cases hlt:i<j
  ·obtain ⟨m,hme⟩ : ∃ m:Nat,m=(i+j) / 2:=⟨_,rfl⟩
   have hcast:((i:Int)+(j:Int)) / 2=(m:Int):=by omega
   have hm1:i≤m:=by omega
   have hm2:m<j:=by omega
   have hm:m<l.length:=by omega
   have HC:=qh hcast
   clear hcast hme
   obtain ⟨b,o,rfl,hb,hc⟩:=(hl.below hbw).get hm
   obtain ⟨h0,h1,h2,h3⟩:=Ident.cells4 hc
   have hk0:=keepQ (w:=wr) b (by have:=hbw.size;omega)
   clear hc
   go_wp2
   rw [HC.out]
   refine wp_region_bel krA krA ?_;(repeat (go_big_quiet_step ((go_at_call 150;with_reducible exact bel_of_ext (identity_CompareId l[m] x _)))));refine wpQuiet_nil ?_;intro wq hq
   have hq':=below_nextN hbw hq hbw.size
   have hz':w.heap.size<wq.heap.size:=by have:=hq.size;omega
   by_cases hcmp:cmpId l[m] x < 0
   ·go_wp2
    go_roundw
    case rel=>exact ⟨m + 1,j,by omega,hj,by go_num,rfl,hq',fun y u hu=>(hq.cell (by exact hz)).trans (HX.out y u hu),hz',fun k h hk=>by
     rcases Nat.lt_or_ge k m with hkm|hkm
     ·exact cmpId_ok.lt_le (asc_get HA.out h hm hkm) omA
     ·obtain rfl:k=m:=by omega
      exact hcmp,HHI.out⟩
    case measure=>simp [intOf];omega
   ·have hge:decide (cmpId l[m] x < 0)=false:=by simpa using hcmp
    go_wp2
    go_roundw
    case rel=>exact ⟨i,m,by omega,by omega,rfl,rfl,hq',fun y u hu=>(hq.cell (by exact hz)).trans (HX.out y u hu),hz',HLO.out,fun k h hk=>by
     rcases Nat.lt_or_ge m k with hkm|hkm
     ·have h1:=asc_get HA.out hm h hkm
      rcases Int.lt_or_le (cmpId l[k] x) 0 with h2|h2
      ·have:=cmpId_ok.lt_le h1 (Int.le_of_lt h2)
       omega
      ·exact h2
     ·obtain rfl:k=m:=by omega
      omega⟩
    case measure=>simp [intOf];omega
  ·obtain rfl:i=j:=by omega
   have hK:insK l x=i:=insK_bound x i hj HLO.out (fun h=>HHI.out i h (Nat.le_refl _))
   have HK:=qh hK
   clear hK
   by_cases hil:i<l.length
   ·obtain ⟨b,o,rfl,hb,hc⟩:=(hl.below hbw).get hil
    obtain ⟨h0,h1,h2,h3⟩:=Ident.cells4 hc
    have hk0:=keepQ (w:=wr) b (by have:=hbw.size;omega)
    clear hc
    go_wp2
    refine wp_region_bel krA krA ?_;(repeat (go_big_quiet_step ((go_at_call 150;with_reducible exact bel_of_ext (identity_CompareId l[i] x _)))));refine wpQuiet_nil ?_;intro wq hq
    go_wp2
    go_ret2
    rw [HK.out]
    exact ⟨⟨_,rfl⟩,below_nextN hbw hq hbw.size⟩
   ·go_wp2
    refine wp_region_bel krA krA ?_;(repeat (go_big_quiet_step (fail)));refine wpQuiet_nil ?_;intro wq hq
    go_wp2
    go_ret2
    rw [HK.out]
    exact ⟨⟨_,rfl⟩,below_nextN hbw hq hbw.size⟩
theorem insK_mem {l:List Ident} (ha:Asc l) (hv:AllValid l) {x:Ident} (hx:x∈l):insK l x<l.length∧l[insK l x]? = some x:=by
 obtain ⟨i,hi,rfl⟩:=List.getElem_of_mem hx
 have e:insK l l[i]=i:=insK_bound _ i omA (fun k h hk=>asc_get ha h hi hk) (fun _=>by rw [cmpId_refl];omega)
 rw [e]
 exact ⟨hi,List.getElem?_eq_getElem hi⟩
theorem graph_index (A:Option Addr) (c:Nat) (l:List Ident) (ev:Value) (x:Ident) (w:World) (hev : ∃ a n k,ev = .slice a n k) (hl:SliceIs w w.heap.size Ident.cells 4 A l) (hn:l.length ≤ 1000000) (ha:Asc l) :
 Calls Tryz.prog 258 #[.agg #[.slice A l.length c,ev], .agg #[.string x.ns, .int .i64 x.val.kind, .int .i64 x.val.num, .string x.val.text]] w fun e w' =>
  e = .returned (.int .i64 (insK l x))∧Below w.heap.size w w':=by
 obtain ⟨ea,en,ek,rfl⟩:=hev
 go_enter Tryz.func258,Tryz.ntmps258
 go_wp2_with ((go_at_call 154;(with_reducible refine (search_any A c l x _ ?_ hn ha).mono ?_);(exact hl.next belA);rintro e w1 ⟨⟨b,rfl⟩,hb1⟩;have hx1:Below w.heap.size w w1:=below_nextN belA hb1 leA))
 go_ret
 exact ⟨rfl,hx1⟩
structure Edge where
 a:Nat
 b:Nat
 first:Int
 last:Int
def Edge.cells (x:Edge):List Value := [.int .i64 x.a, .int .i64 x.b, .int .i64 x.first, .int .i64 x.last]
theorem Edge.cells4 {w:World} {b o:Nat} {x:Edge} (h : ∀ j u,x.cells[j]? = some u→w.cell? ⟨b,o+j,none⟩=some u) :
 w.cell? ⟨b,o,none⟩=some (.int .i64 x.a)∧w.cell? ⟨b,o + 1,none⟩=some (.int .i64 x.b)∧w.cell? ⟨b,o + 2,none⟩=some (.int .i64 x.first)∧w.cell? ⟨b,o + 3,none⟩=some (.int .i64 x.last) :=
 ⟨h 0 _ rfl,h 1 _ rfl,h 2 _ rfl,h 3 _ rfl⟩
def inForce (es:List Edge) (seq:Int):List (Nat × Nat):=(es.filter (fun e=>decide (e.first≤seq)&&decide (seq≤e.last))).map (fun e=>(e.a,e.b))
theorem inForce_snoc (es:List Edge) (e:Edge) (seq:Int):inForce (es ++ [e]) seq=if e.first≤seq∧seq≤e.last then inForce es seq ++ [(e.a,e.b)] else inForce es seq:=by
 unfold inForce
 rw [List.filter_append,List.map_append]
 by_cases h:e.first≤seq∧seq≤e.last
 ·rw [if_pos h];simp [h.1,h.2]
 ·rw [if_neg h]
  have:(decide (e.first≤seq)&&decide (seq≤e.last))=false:=by simpa using h
  simp [this]
theorem run_make_rowN {P:Program} (t e:TypeId) (i:TypeInfo) (z:Value) (ht:P.underlying t=some (.slice e)) (hi:P.info? e=some i) (hz:i.zero=some z)
 (kl kc:IntKind) (n c:Nat) (hnc:n≤c) (hbytes:i.bytes*c ≤ 281474976710656) (h63:c ≤ 9223372036854775807) (w:World) :
 (Instr.makeSlice t (.int kl (n:Int)) (.int kc (c:Int))).run P w = .ok (.slice (some ⟨w.heap.size,0,none⟩) n c) (w.alloc (.cells (madeCells z.cells (c*i.size)) e)):=by
 have hb:(i.bytes:Int)*(c:Int) ≤ 281474976710656:=by
  have h:((i.bytes*c:Nat):Int) ≤ 281474976710656:=by omega
  rwa [Int.natCast_mul] at h
 have hr:=run_make (P:=P) w t e i z ht hi hz kl kc n c omA omA hb omA
 simp only [Int.toNat_natCast] at hr
 exact hr
theorem infoInt:(Tryz.prog.info? 3).map (fun i=>(i.zero,i.size,i.bytes))=some (some (.int .i64 0),1,8):=by kernel_rfl
theorem intBlk_made {w:World} {g n:Nat} (hg:w.heap.size=g):IntBlk (w.alloc (.cells (madeCells #[.int .i64 0] n) 3)) g (List.range 0++List.replicate (n - 0) 0):=by
 have h:=Blk.new' (w:=w) (g:=g) (t := 3) (cs:=madeCells #[.int .i64 0] n) hg
 unfold IntBlk
 have e:madeCells #[Value.int .i64 0] n=(List.map (fun x:Nat=>Value.int .i64 (x:Int)) (List.range 0++List.replicate (n - 0) 0)).toArray:=by
  apply Array.toList_inj.1
  rw [toList_madeCells_one]
  simp
 rw [← e]
 exact h
theorem range_set {m n:Nat} (h:m<n):(List.range m++List.replicate (n - m) 0).set m m=List.range (m + 1)++List.replicate (n - (m + 1)) 0:=by
 have e:n - m=(n - (m + 1)) + 1:=by omega
 rw [e,List.replicate_succ,List.set_append_right _ _ spA,List.range_succ,List.append_assoc]
 simp
theorem forest_rootN (g c n:Nat) (f:List Nat) (i:Nat) (w:World) (hB:IntBlk w g f) (hf:Forest f) (hn:f.length=n) (hi:i<n) (hlen:n ≤ 1000000) :
 Calls Tryz.prog 261 #[.slice (some ⟨g,0,none⟩) n c, .int .i64 i] w fun e w' =>
  ∃ r f',Root f i r∧SameRoots f f'∧e = .returned (.int .i64 r)∧IntBlk w' g f'∧w.grownBy w' (some g):=by
 subst hn
 exact forest_root g c f i w hB hf hi hlen
theorem graph_components (A:Option Addr) (c n:Nat) (EA:Option Addr) (ec:Nat) (es:List Edge) (seq:Int) (w:World) (hn:n ≤ 1000000) (he:SliceIs w w.heap.size Edge.cells 4 EA es) (hes:es.length ≤ 1000000) (hr : ∀ e∈es,e.a<n∧e.b<n) :
 Calls Tryz.prog 260 #[.agg #[.slice A n c, .slice EA es.length ec], .int .i64 seq] w fun e w' =>
  (∃ g f,e = .returned (.slice (some ⟨g,0,none⟩) n n)∧IntBlk w' g f∧w.heap.size≤g∧Stands f n (inForce es seq))∧Below w.heap.size w w':=by
 obtain ⟨i0,hi0,hz0,hz1,hz2⟩:=info_parts infoInt
 have hmk : ∀ u:World,(Instr.makeSlice 321 (.int .i64 (n:Int)) (.int .i64 (n:Int))).run Tryz.prog u = .ok (.slice (some ⟨u.heap.size,0,none⟩) n n) (u.alloc (.cells (madeCells #[.int .i64 0] n) 3)):=fun u=>by
  have h:=run_make_rowN (P:=Tryz.prog) 321 3 i0 (.int .i64 0) Tryz.underlying321 hi0 hz0 .i64 .i64 n n (Nat.le_refl _) (by rw [hz2];omega) omA u
  simpa [hz1,Value.cells] using h
 have HR:=qh hr
 clear hr
 go_enter Tryz.func260,Tryz.ntmps260
 go_wp2
 go_loopw [15] (fun vi wr => ∃ m:Nat,m≤n∧vi = .int .i64 m∧IntBlk wr (w.heap.size + 1) (List.range m++List.replicate (n - m) 0)∧Below w.heap.size w wr∧Blk wr w.heap.size 279 #[.slice A n c, .slice EA es.length ec]) (fun vi _=>n - (intOf vi).toNat)
 case atStart=>exact ⟨0,Nat.zero_le _,rfl,intBlk_made spA,by exact belA,(Blk.new _ _ _).alloc _⟩
 case round =>
  obtain ⟨m,hm,rfl,hB,hbw,hbox⟩:=hrel
  by_cases hlt:m<n
  ·obtain ⟨cv,hcv⟩ : ∃ v,wr.cell? ⟨w.heap.size + 1,m,none⟩=some v:=⟨_,hB.cell (p := 0) (by rw [List.getElem?_append_right spA,List.length_range,List.getElem?_replicate,if_pos omA])⟩
   have hfz:=Blk.frozen hB m
   have HB:=qh hB
   have HBX:=qh hbox
   clear hB hbox
   go_wp2
   go_roundw
   case rel=>exact ⟨m + 1,by omega,by go_num,by
    have h:=HB.out.set_ m m
    rw [range_set hlt] at h
    exact h,by exact belA,HBX.out.far spA _⟩
   case measure=>simp [intOf];omega
  ·obtain rfl:m=n:=by omega
   have hB':IntBlk wr (w.heap.size + 1) (List.range m):=by simpa using hB
   have c1:wr.cell? ⟨w.heap.size,1,none⟩=some (.slice EA es.length ec):=hbox.cell 1
   obtain ⟨wo,rfl⟩ : ∃ wo:World,wo=wr:=⟨_,rfl⟩
   have HB:=qh hB'
   have HBX:=qh hbox
   clear hB hbox hB'
   go_wp2
   go_loopw [26] (fun vi wi => ∃ (k:Nat) (f:List Nat),k≤es.length∧vi = .int .i64 k∧IntBlk wi (w.heap.size + 1) f∧Stands f m (inForce (es.take k) seq)∧Below w.heap.size w wi) (fun vi _=>es.length - (intOf vi).toNat)
   case atStart=>exact ⟨0,List.range m,Nat.zero_le _,rfl,HB.out,by simpa [inForce] using Stands.start m,hbw⟩
   case round =>
    obtain ⟨k,f,hk,rfl,hB,hst,hbi⟩:=hrel
    have HST:=qh hst
    have hflen:=hst.len
    have HFL:=qh hflen
    clear hst hflen
    by_cases hltk:k<es.length
    ·obtain ⟨b,o,rfl,hb,hc⟩:=(he.below hbi).get hltk
     obtain ⟨e0,e1,e2,e3⟩:=Edge.cells4 hc
     have hrr:=HR.out es[k] (List.getElem_mem hltk)
     obtain ⟨hra,hrb⟩:=hrr
     clear hc
     have hsnoc:=inForce_snoc (es.take k) es[k] seq
     rw [← List.take_succ_eq_append_getElem hltk] at hsnoc
     have HSN:=qh hsnoc
     clear hsnoc
     by_cases hf1:es[k].first≤seq
     ·by_cases hf2:seq≤es[k].last
      ·go_wp2
       obtain ⟨W,hW⟩ : ∃ W:World,W=wr.alloc (.cells #[.int .i64 es[k].a, .int .i64 es[k].b, .int .i64 es[k].first, .int .i64 es[k].last] 319):=⟨_,rfl⟩
       have hE:Blk W wr.heap.size 319 #[.int .i64 es[k].a, .int .i64 es[k].b, .int .i64 es[k].first, .int .i64 es[k].last]:=by rw [hW];exact Blk.new _ _ _
       have hBW:IntBlk W (w.heap.size + 1) f:=by rw [hW];exact Blk.alloc hB _
       have hbW:Below w.heap.size w W:=by rw [hW];exact hbi.alloc hbi.size _
       have hgl:=hB.lt
       rw [← hW]
       clear hW e0 e1 e2 e3 hB
       have x0:=hE.cell 0
       have x1:=hE.cell 1
       simp only [List.getElem?_toArray,List.getElem?_cons_zero,List.getElem?_cons_succ] at x0 x1
       have HE:=qh hE
       have HBW:=qh hBW
       clear hE hBW
       have hmz:=hbW.size
       go_region_with (first
        | (go_at_call 261;(with_reducible refine (forest_rootN (w.heap.size + 1) m m f es[k].a _ ?_ HST.out.forest HFL.out hra hn).mono ?_);(exact HBW.out);rintro e w1 ⟨ra,f1,hRa,hS1,rfl,hB1,hg1⟩;have hE1:Blk w1 wr.heap.size 319 #[.int .i64 es[k].a, .int .i64 es[k].b, .int .i64 es[k].first, .int .i64 es[k].last]:=Blk.grown (by exact HE.out) hg1 (fun e=>(by injection e with e;omega));have y0:=hE1.cell 0;have y1:=hE1.cell 1;simp only [List.getElem?_toArray,List.getElem?_cons_zero,List.getElem?_cons_succ] at y0 y1;have hral:ra<m:=(by have h:=hRa.lt.2;rw [HFL.out] at h;exact h);have hbel1:Below w.heap.size w w1:=Below.grown (by first|exact hbW.drew|exact hbW) hg1 (by first|omega|(simp;omega)) (fun q e=>(by injection e with e;omega));have HRA:=qh hRa;have HS1:=qh hS1;have HB1:=qh hB1;clear hRa hS1 hB1 hE1)
        | (go_at_call 261;(with_reducible refine (forest_rootN (w.heap.size + 1) m m f1 es[k].b _ ?_ (HS1.out.forest HST.out.forest) (HS1.out.len.trans HFL.out) hrb hn).mono ?_);(exact HB1.out);rintro e w2 ⟨rb,f2,hRb,hS2,rfl,hB2,hg2⟩;have hbel2:Below w.heap.size w w2:=Below.grown hbel1 hg2 hbel1.size (fun q e=>(by injection e with e;omega));obtain ⟨old,hold⟩ : ∃ p,f2[ra]? = some p:=⟨_,List.getElem?_eq_getElem (by rw [hS2.1,HS1.out.1,HFL.out];exact hral)⟩;have hcell:=hB2.cell hold;have hfz:=Blk.frozen hB2 ra;have HRB:=qh hRb;have HS2:=qh hS2;have HB2:=qh hB2;clear hRb hS2 hB2 hold))
       all_goals go_wp2
       all_goals go_roundw
       all_goals first
        | (case rel=>exact ⟨k + 1,f2.set ra rb,by omega,by go_num,HB2.out.set_ ra rb,by
           rw [HSN.out,if_pos ⟨hf1,hf2⟩]
           have hs:=(HST.out.same HS1.out).same HS2.out
           exact hs.join (((HS1.out.trans HS2.out).2 _ _).1 HRA.out) ((HS2.out.2 _ _).1 HRB.out),hbel2.setCell spA _⟩)
        | skip
       all_goals (simp [intOf];omega)
      ·have hd2:decide (seq≤es[k].last)=false:=by simpa using hf2
       go_wp2
       go_roundw
       case rel=>exact ⟨k + 1,f,by omega,by go_num,Blk.alloc hB _,by rw [HSN.out,if_neg (fun h=>hf2 h.2)];exact HST.out,hbi.alloc hbi.size _⟩
       case measure=>simp [intOf];omega
     ·have hd1:decide (es[k].first≤seq)=false:=by simpa using hf1
      go_wp2
      go_roundw
      case rel=>exact ⟨k + 1,f,by omega,by go_num,Blk.alloc hB _,by rw [HSN.out,if_neg (fun h=>hf1 h.1)];exact HST.out,hbi.alloc hbi.size _⟩
      case measure=>simp [intOf];omega
    ·go_wp2
     go_ret
     have e:es.take k=es:=List.take_of_length_le omA
     have h:=HST.out
     rw [e] at h
     exact ⟨⟨_,f,rfl,hB,by omega,h⟩,hbi⟩
def BoolBlk (w:World) (g:Nat) (bs:List Bool):Prop:=Blk w g 4 (bs.map Value.bool).toArray
theorem BoolBlk.cell {w:World} {g:Nat} {bs:List Bool} (h:BoolBlk w g bs) {i:Nat} {p:Bool} (hp:bs[i]? = some p):w.cell? ⟨g,i,none⟩=some (.bool p):=by
 rw [Blk.cell h]
 simp [hp]
theorem BoolBlk.set_ {w:World} {g:Nat} {bs:List Bool} (h:BoolBlk w g bs) (i:Nat) (q:Bool):BoolBlk (w.setCell ⟨g,i,none⟩ (.bool q)) g (bs.set i q):=by
 have h1:=Blk.set_ h i (.bool q)
 unfold BoolBlk
 have e:(List.map Value.bool (bs.set i q)).toArray=((List.map Value.bool bs).toArray).setIfInBounds i (.bool q):=by
  simp [List.map_set]
 rw [e]
 exact h1
theorem grown_new {a b c:World} {g g':Nat} (h:a.grownBy b (some g)) (k:b.grownBy c (some g')) (hg:a.heap.size≤g'):a.grownBy c (some g) :=
 ⟨k.os.trans h.os,k.tape.trans h.tape,k.output.trans h.output,Nat.le_trans h.size k.size,fun i hi hne=>(k.block i (Nat.lt_of_lt_of_le hi h.size) (fun e=>by injection e with e;omega)).trans (h.block i hi hne)⟩
theorem grown_below {a b c:World} {row:Option Nat} (h:a.grownBy b row) (k:Below b.heap.size b c):a.grownBy c row :=
 ⟨k.os.trans h.os,k.tape.trans h.tape,k.output.trans h.output,Nat.le_trans h.size k.size,fun i hi hne=>(k.block i (Nat.lt_of_lt_of_le hi h.size)).trans (h.block i hi hne)⟩
def Marked (bs bs':List Bool) (C:Nat→Prop) (m:Nat):Prop:=bs'.length=bs.length ∧ ∀ i,i<bs.length→(bs'[i]? = some true↔(bs[i]? = some true∨(i<m∧C i)))
theorem Marked.start (bs:List Bool) (C:Nat→Prop):Marked bs bs C 0:=⟨rfl,fun i _=>⟨.inl,fun h=>h.elim id (fun h=>absurd h.1 omA)⟩⟩
theorem Marked.yes {bs bs':List Bool} {C:Nat→Prop} {m:Nat} (h:Marked bs bs' C m) (hm:m<bs.length) (hc:C m):Marked bs (bs'.set m true) C (m + 1):=by
 refine ⟨by simpa using h.1,fun i hi => ?_⟩
 by_cases e:i=m
 ·subst e
  rw [List.getElem?_set_self (by rw [h.1];exact hm)]
  exact ⟨fun _ => .inr ⟨by omega,hc⟩,fun _=>rfl⟩
 ·rw [List.getElem?_set_ne (fun e'=>e e'.symm),h.2 i hi]
  constructor
  ·rintro (h|⟨h1,h2⟩)
   ·exact .inl h
   ·exact .inr ⟨by omega,h2⟩
  ·rintro (h|⟨h1,h2⟩)
   ·exact .inl h
   ·exact .inr ⟨by omega,h2⟩
theorem Marked.no {bs bs':List Bool} {C:Nat→Prop} {m:Nat} (h:Marked bs bs' C m) (hc : ¬ C m):Marked bs bs' C (m + 1):=by
 refine ⟨h.1,fun i hi => ?_⟩
 rw [h.2 i hi]
 constructor
 ·rintro (h|⟨h1,h2⟩)
  ·exact .inl h
  ·exact .inr ⟨by omega,h2⟩
 ·rintro (h|⟨h1,h2⟩)
  ·exact .inl h
  ·refine .inr ⟨?_,h2⟩
   rcases Nat.lt_or_ge i m with h3|h3
   ·exact h3
   ·obtain rfl:i=m:=by omega
    exact absurd h2 hc
theorem graph_choose (A:Option Addr) (c:Nat) (l:List Ident) (EA:Option Addr) (ec:Nat) (es:List Edge) (gb cb:Nat) (bs:List Bool) (x:Ident) (seq:Int) (w:World)
 (hl:SliceIs w w.heap.size Ident.cells 4 A l) (hn:l.length ≤ 1000000) (ha:Asc l) (hx:insK l x<l.length)
 (he:SliceIs w w.heap.size Edge.cells 4 EA es) (hes:es.length ≤ 1000000) (hr : ∀ e∈es,e.a<l.length∧e.b<l.length) (hb:BoolBlk w gb bs) (hbl:bs.length=l.length) :
 Calls Tryz.prog 216 #[.agg #[.slice A l.length c, .slice EA es.length ec], .slice (some ⟨gb,0,none⟩) l.length cb, .agg #[.string x.ns, .int .i64 x.val.kind, .int .i64 x.val.num, .string x.val.text], .int .i64 seq] w fun e w' =>
  e = .returned (.tuple #[]) ∧ ∃ bs',Marked bs bs' (fun i=>Conn (inForce es seq) (insK l x) i) l.length∧BoolBlk w' gb bs'∧w.grownBy w' (some gb):=by
 have HB:=qh hb
 have hgl:=Blk.lt hb
 clear hb
 go_enter Tryz.func216,Tryz.ntmps216
 go_wp2_with ((go_at_call 260;(with_reducible refine (graph_components A c l.length EA ec es seq _ hn ?_ hes hr).mono ?_);(exact he.next belA);rintro e w1 ⟨⟨g,f,rfl,hf1,hg1,hst⟩,hb1⟩;obtain ⟨c0,f0,z0⟩:=keepB hb1 w.heap.size ltA;obtain ⟨c1,f1,z1⟩:=keepB hb1 (w.heap.size + 1) ltA;have hx1:Below w.heap.size w w1:=below_nextN belA hb1 leA;have HF1:=qh hf1;have HST:=qh hst;clear hf1 hst))
 with_reducible refine (graph_index A c l (.slice EA es.length ec) x _ ⟨_,_,_,rfl⟩ (hl.next hx1) hn ha).mono ?_
 rintro e w2 ⟨rfl,hb2⟩
 have hx2:Below w.heap.size w w2:=below_nextN hx1 hb2 hx1.size
 have hsz1:=hx1.size
 have hsz2:=hx2.size
 simp only [World.size_alloc] at hg1
 have HF2:Hid (IntBlk w2 g f):=Blk.below HF1.out hb2 (Blk.lt HF1.out)
 obtain ⟨k0,f20,z20⟩:=keepB hb2 w.heap.size omA
 have HG:=qh (Stands.len HST.out)
 go_wp2_with fail
 with_reducible refine (forest_rootN g l.length l.length f (insK l x) _ ?_ HST.out.forest HG.out hx hn).mono ?_
 ·exact HF2.out
 rintro e w3 ⟨r,f3,hr3,hs3,rfl,hf3,hg3⟩
 have hx3:Below w.heap.size w w3:=Below.grown hx2 hg3 hsz2 (fun q e=>by injection e with e;omega)
 have k3 : ∀ o,w3.cell? ⟨w.heap.size,o,none⟩=w2.cell? ⟨w.heap.size,o,none⟩:=fun o=>World.cell?_of_block (hg3.block w.heap.size z20 (fun e=>by injection e with e;omega))
 have HR3:=qh hr3
 have HS3:=qh hs3
 have HF3:=qh hf3
 have HB3:Hid (BoolBlk w3 gb bs):=Blk.below HB.out hx3 hgl
 have HGB:Hid (w.grownBy w3 (some gb)):=only_of_below hx3 _
 have HW:=qh hbl
 have hg1':w.heap.size≤g:=by omega
 clear hr3 hs3 hf3 hbl
 go_wp2_with fail
 go_loopw [22] (fun vi wr => ∃ (m:Nat) (f':List Nat) (bs':List Bool),m≤l.length∧vi = .int .i64 m∧IntBlk wr g f'∧SameRoots f f'∧BoolBlk wr gb bs'∧Marked bs bs' (fun i=>Conn (inForce es seq) (insK l x) i) m∧w.grownBy wr (some gb)) (fun vi _=>l.length - (intOf vi).toNat)
 case atStart=>exact ⟨0,f3,bs,Nat.zero_le _,rfl,HF3.out,HS3.out,HB3.out,Marked.start _ _,HGB.out⟩
 case round =>
  obtain ⟨m,f',bs',hm,rfl,hf',hs',hb',hmk,hgr⟩:=hrel
  have HF':=qh hf'
  have HS':=qh hs'
  have HB':=qh hb'
  have HMK:=qh hmk
  have HGR:=qh hgr
  clear hf' hs' hb' hmk hgr
  by_cases hlt:m<l.length
  ·go_wp2_with ((go_at_call 261;(with_reducible refine (forest_rootN g l.length l.length f' m _ ?_ (HS'.out.forest HST.out.forest) (HS'.out.len.trans HG.out) hlt hn).mono ?_);(exact HF'.out);rintro e w4 ⟨r4,f4,hr4,hs4,rfl,hf4,hg4⟩;have HR4:=qh hr4;have HS4:=qh hs4;have HF4:=qh hf4;clear hr4 hs4 hf4;have hbm : ∃ p,bs'[m]? = some p:=⟨_,List.getElem?_eq_getElem (by rw [HMK.out.1,HW.out];exact hlt)⟩;obtain ⟨p,hp⟩:=hbm;have HB4:Hid (BoolBlk w4 gb bs'):=Blk.grown HB'.out hg4 (fun e=>by injection e with e;omega);have hcb:=BoolBlk.cell HB4.out hp;have hfb:=Blk.frozen HB4.out m;clear hp))
   ·have hrr:(r4:Int)=(r:Int):=by first|assumption|exact beq_iff_eq.1 (show ((r4:Int)==(r:Int))=true by assumption)|omega
    have hc:Conn (inForce es seq) (insK l x) m:=(HST.out.conn _ _ _ _ HR3.out ((HS'.out.2 _ _).2 HR4.out)).1 omA
    go_roundw
    case rel=>exact ⟨m + 1,f4,bs'.set m true,by omega,by go_num,Blk.far HF4.out smA _,HS'.out.trans HS4.out,HB4.out.set_ m true,HMK.out.yes (by rw [HW.out];exact hlt) hc,only_setCell (grown_new HGR.out hg4 hg1') (.inl rfl) _⟩
    case measure=>simp [intOf];omega
   ·have hrr : ¬ (r4:Int)=(r:Int):=by first|assumption|exact beq_eq_false_iff_ne.1 (show ((r4:Int)==(r:Int))=false by assumption)|omega
    have hc : ¬ Conn (inForce es seq) (insK l x) m:=fun h=>hrr (by rw [← (HST.out.conn _ _ _ _ HR3.out ((HS'.out.2 _ _).2 HR4.out)).2 h])
    go_roundw
    case rel=>exact ⟨m + 1,f4,bs',by omega,by go_num,HF4.out,HS'.out.trans HS4.out,HB4.out,HMK.out.no hc,grown_new HGR.out hg4 hg1'⟩
    case measure=>simp [intOf];omega
  ·obtain rfl:m=l.length:=by omega
   go_wp2_with fail
   go_end0
   exact ⟨rfl,bs',HMK.out,HB'.out,HGR.out⟩
end Go.Proofs.YtlpgmdhnjckplaaGreat
