/-
  Contracts and plain laws of this seat, part 59.
-/
import Derived.Test.YtjidligipoldeaaGreatS31
import Derived.Test.YtjidligipoldeaaGreatS56
set_option linter.unusedVariables false
set_option linter.unusedSimpArgs false
set_option maxRecDepth 100000
set_option maxHeartbeats 16000000
namespace Go.Proofs.YtjidligipoldeaaGreat
open Go.RowKit Go
theorem D7(A:Option Addr)(c n:Nat)(l:List Val)(w:World)(hl:ag w w.heap.size Val.cells 3 A l)(hln:l.length=n)(hn:n≤1000000):
 Calls Tryz.prog 96 #[.slice A n c] w fun e w' =>
  (∃A' c',e=.returned (.slice A' n c')∧ah w' w.heap.size 50 Val.cells 3 (.slice A' n c') l)∧Below w.heap.size w w':=by
 cases A with
 | some a =>
   subst hln
   obtain⟨i0,hi0,hz0,hz1,hz2⟩:=info_parts sU
   have hnil:(binOp .eql 48 (.slice (some a) l.length c) (.slice none 0 0)).run Tryz.prog w=.ok (.bool false) w:=Lib.run_eql_slice_nil w 48 50 (some a) l.length c 0 0 Tryz.underlying48
   go_enter Tryz.func96,Tryz.ntmps96
   go_wp2_with ((at_builtin;refine aP _ rfl (.tmp 5) (.tmp 6) 48 rfl 50 i0 _ Val.cells 3 32 Tryz.underlying48 hi0 hz0 hz1 hz2 rfl omA bn val_one w.heap.size (.slice (some ⟨w.heap.size,0,none⟩) 0 0) [] rfl (ah.empty (Blk.new' rfl) nlr) _ _ _ l rfl rfl (hl.next ak) smA mxA spA ?_;intro v' w1 hown' hg' hat';obtain⟨A',c',hv',_,_⟩:=hown'.form;have HOWN':=qh hown';clear hown';have hbel:Below w.heap.size w w1:=Below.grown ak hg' spA (cu nlr)))
   go_ret
   have h:=HOWN'.out
   simp only[List.nil_append]at hv' h
   subst hv'
   exact⟨⟨A',c',rfl,h⟩,hbel⟩
 | none =>
   have h0:l=[]:=by
    rcases Nat.eq_zero_or_pos l.length with h|h
    ·exact List.eq_nil_of_length_eq_zero h
    ·obtain⟨b',o',he,_⟩:=hl h
     cases he
   subst h0
   subst hln
   have hnil:(binOp .eql 48 (.slice none 0 c) (.slice none 0 0)).run Tryz.prog w=.ok (.bool true) w:=Lib.run_eql_slice_nil w 48 50 none 0 c 0 0 Tryz.underlying48
   go_enter Tryz.func96,Tryz.ntmps96
   go_wp2_with fail
   go_ret
   exact⟨⟨none,0,rfl,ah.nil⟩,Below.refl _ _⟩
theorem ah.xJ{α:Type}{enc:α→List Value}{s base g:Nat}{w:World}{e t:TypeId}{v:Value}{m:List α}{cs:Array Value}(ho:ah w base e enc s v m)(h:Blk w g t cs)(he:t≠e){i0 i1 i2 i3 i4 i5 i6 i7 i8 i9 i10 i11:Nat}{x0 x1 x2 x3 x4 x5 x6 x7 x8 x9 x10 x11:Value}:
 ah ((((((((((((w.setCell ⟨g,i0,none⟩ x0).setCell ⟨g,i1,none⟩ x1).setCell ⟨g,i2,none⟩ x2).setCell ⟨g,i3,none⟩ x3).setCell ⟨g,i4,none⟩ x4).setCell ⟨g,i5,none⟩ x5).setCell ⟨g,i6,none⟩ x6).setCell ⟨g,i7,none⟩ x7).setCell ⟨g,i8,none⟩ x8).setCell ⟨g,i9,none⟩ x9).setCell ⟨g,i10,none⟩ x10).setCell ⟨g,i11,none⟩ x11) base e enc s v m:=by
 have hne:∀q,v.ownBlock=some q→q≠g:=fun q hq e1=>by
  obtain⟨cs',hc⟩:=ho.typ hq
  rw[e1]at hc
  exact lh h he cs' hc
 repeat(refine ah.far ?_ hne _)
 exact ho
open Go.RowKit Go
abbrev fu:=(Val→Option Int) × Nat
def rG:fu:=(fun _=>none,0)
abbrev Eff:=Chg × Src × Int
def xI(f:Val→Option Int)(k:Val)(y:Option Int):Val→Option Int:=fun x=>if x=k then y else f x
def I7(a:fu)(x:Chg):fu × Option Eff:=match a.1 (keyOf x) with
 | some s=>if x.kind=1 then ((xI a.1 (keyOf x) (some x.seq),a.2),some (x,⟨x.table,x.seq⟩,s)) else if x.kind=3 then ((xI a.1 (keyOf x) none,a.2-1),some (x,⟨x.table,s⟩,0)) else (a,some (x,⟨x.table,s⟩,0))
 | none=>if x.kind=1∧a.2<64 then ((xI a.1 (keyOf x) (some x.seq),a.2+1),some (x,⟨x.table,x.seq⟩,0)) else (a,none)
def Cq(al:List fu)(k:Int):fu:=(al[k.toNat]?).getD rG
def tL(al:List fu)(x:Chg):List fu × List Eff:=(al.set x.table.toNat (I7 (Cq al x.table) x).1,(I7 (Cq al x.table) x).2.toList)
def Cg:List fu→List Chg→List fu
 | al,[]=>al
 | al,x::l=>Cg (tL al x).1 l
def FV:List fu→List Chg→List Eff
 | _,[] =>[]
 | al,x::l=>(tL al x).2++FV (tL al x).1 l
theorem I9(al:List fu)(l:List Chg)(x:Chg):Cg al (l ++ [x])=(tL (Cg al l) x).1:=by
 induction l generalizing al with
 | nil=>rfl
 | cons y l ih=>exact ih _
theorem I8(al:List fu)(l:List Chg)(x:Chg):FV al (l ++ [x])=FV al l++(tL (Cg al l) x).2:=by
 induction l generalizing al with
 | nil=>simp[FV,Cg]
 | cons y l ih =>
   show (tL al y).2++FV (tL al y).1 (l ++ [x])=_
   rw[ih,←List.append_assoc]
   rfl
theorem MU(al:List fu)(l:List Chg):(Cg al l).length=al.length:=by
 induction l generalizing al with
 | nil=>rfl
 | cons y l ih =>
   show (Cg (tL al y).1 l).length=_
   rw[ih]
   simp[tL]
open Classical in
open Go.RowKit Go
section
variable {P:Program}{k:TypeId}{w w':World}{b n c:Nat}{f:Value→Option Value}
theorem fU.same(h:fU P k w b n c f)(hs:w'.heap[b]?=w.heap[b]?):fU P k w' b n c f:=by
 obtain⟨D,⟨es,clock,he,F⟩,h'⟩:=h
 exact⟨D,⟨es,clock,hs.trans he,F⟩,h'⟩
theorem fU.isMap(h:fU P k w b n c f):∃es clock,w.heap[b]?=some (.map es clock):=by
 obtain⟨D,⟨es,clock,he,F⟩,_⟩:=h
 exact⟨es,clock,he⟩
end
section
variable {w w':World}{B q N:Nat}{bl:List Nat}{al:List fu}
end
def unC(x:Chg):Chg:=⟨x.kind,x.seq,x.day,x.table,none,0,x.row,x.key,x.column,x.val⟩
structure ng (w:World) (pk:Nat) (KA:Option Addr) (kc:Nat) (kl:List Chg):Prop where
 var:Blk w pk 34 #[.slice KA kl.length kc]
 own:ah w (pk+1) 52 Chg.cells 12 (.slice KA kl.length kc) kl
 rows:∀x∈kl,ah w (pk+1) 50 Val.cells 3 (.slice x.A x.row.length x.cap) x.row
 len:∀x∈kl,x.row.length≤8
def Ve(w w':World)(pk:Nat)(KA:Option Addr)(n kc:Nat):Prop:=Below pk w w' ∧ ∀b,b<w.heap.size→b≠pk→some b≠(Value.slice KA n kc).ownBlock→w'.heap[b]?=w.heap[b]?
section
variable {w w':World}{pk:Nat}{KA:Option Addr}{kc:Nat}{kl:List Chg}
theorem ng.below(h:ng w pk KA kc kl)(hb:Below w.heap.size w w'):ng w' pk KA kc kl:=⟨h.var.below hb h.var.lt,h.own.below hb nlr,fun x hx=>(h.rows x hx).below hb nlr,h.len⟩
theorem ng.map{b:Nat}(h:ng w pk KA kc kl)(hg:w.grownBy w' (some b))(hm:∃es clock,w.heap[b]?=some (.map es clock)):ng w' pk KA kc kl:=by
 obtain⟨es,clock,hm⟩:=hm
 have hne:∀g cs t,w.heap[g]?=some (.cells cs t (0,0))→some g≠some b:=fun g cs t hg e=>by
  injection e with e
  rw[e,hm]at hg
  injection hg with hg
  cases hg
 refine⟨h.var.grown hg (hne _ _ _ h.var),?_,fun x hx =>?_,h.len⟩
 ·exact h.own.kept hg fun g hg'=>by
   obtain⟨cs,hc⟩:=h.own.typ hg'
   exact hne _ _ _ hc
 ·exact(h.rows x hx).kept hg fun g hg'=>by
   obtain⟨cs,hc⟩:=(h.rows x hx).typ hg'
   exact hne _ _ _ hc
theorem ng.app{A':Option Addr}{c':Nat}{x:Chg}(h:ng w pk KA kc kl)(hg:w.grownBy w' (Value.slice KA kl.length kc).ownBlock)(ho:ah w' (pk+1) 52 Chg.cells 12 (.slice A' (kl ++ [x]).length c') (kl ++ [x]))
 (hx:ah w (pk+1) 50 Val.cells 3 (.slice x.A x.row.length x.cap) x.row) (hl:x.row.length≤8):ng (w'.setCell ⟨pk,0,none⟩ (.slice A' (kl ++ [x]).length c')) pk A' c' (kl ++ [x]):=by
 have hv:Blk w' pk 34 #[.slice KA kl.length kc]:=h.var.grown hg fun e=>by
  have:=h.own.row pk e.symm
  omega
 refine⟨by have:=hv.aH 0 (.slice A' (kl ++ [x]).length c');simpa using this,ho.iC hv (by decide) _,fun y hy =>?_,fun y hy =>?_⟩
 ·rcases List.mem_append.1 hy with h1|h1
  ·exact((h.rows y h1).kept hg ((h.rows y h1).dO h.own (by decide))).iC hv (by decide) _
  ·rw[List.mem_singleton.1 h1]
   exact(hx.kept hg (hx.dO h.own (by decide))).iC hv (by decide) _
 ·rcases List.mem_append.1 hy with h1|h1
  ·exact h.len y h1
  ·rw[List.mem_singleton.1 h1]
   exact hl
theorem ng.lt(h:ng w pk KA kc kl):pk<w.heap.size:=h.var.lt
theorem ng.frame{u:World}(h:ng w pk KA kc kl)(hb:Below w.heap.size w u)(hg:u.grownBy w' (Value.slice KA kl.length kc).ownBlock)(v:Value):Ve w (w'.setCell ⟨pk,0,none⟩ v) pk KA kl.length kc:=by
 have hp:=h.lt
 refine⟨((hb.mono (Nat.le_of_lt hp)).grown hg (by have:=hb.size;omega) fun k hk=>by have:=h.own.row k hk;omega).setCell nlr v,fun b hl h1 h2 =>?_⟩
 rw[Below.heap_setCell _ _ _ _ h1,hg.block b (by have:=hb.size;omega) h2,hb.block b hl]
end
structure NB (n:Nat) (x:Chg):Prop where
 tab:∃k:Nat,x.table=(k:Int)∧k<n
 row:x.kind=1→0<x.row.length
 seq:0≤x.seq∧x.seq≤1073741824
 key:bK (keyOf x)=true
 len:x.row.length≤8
section
variable {al:List fu}{x:Chg}{k:Nat}
end
def zm(al:List fu):Prop:= ∀a∈al,∀k s,a.1 k=some s→0≤s∧s≤1073741824
theorem Bl{f:Val→Option Int}(h:∀k s,f k=some s→0≤s∧s≤1073741824){x:Val}{y:Option Int}(hy:∀s,y=some s→0≤s∧s≤1073741824):∀k s,xI f x y k=some s→0≤s∧s≤1073741824:=fun k s hs=>by
 unfold xI at hs
 split at hs
 ·exact hy s hs
 ·exact h k s hs
theorem JV{al:List fu}(h:zm al)(i:Int):∀k s,(Cq al i).1 k=some s→0≤s∧s≤1073741824:=by
 unfold Cq
 cases hg:al[i.toNat]? with
 | none=>intro k s hs;cases hs
 | some a=>exact h a (List.mem_of_getElem? hg)
theorem OY{a:fu}(h:∀k s,a.1 k=some s→0≤s∧s≤1073741824){x:Chg}(hx:0≤x.seq∧x.seq≤1073741824):∀k s,(I7 a x).1.1 k=some s→0≤s∧s≤1073741824:=by
 have h1:∀s,some x.seq=some s→0≤s∧s≤1073741824:=fun s e=>by injection e with e;rw[←e];exact hx
 unfold I7
 split
 ·split
  ·exact Bl h h1
  ·split
   ·exact Bl h fun s e=>by cases e
   ·exact h
 ·split
  ·exact Bl h h1
  ·exact h
theorem zm.step{al:List fu}(h:zm al){x:Chg}(hx:0≤x.seq∧x.seq≤1073741824):zm (tL al x).1:=fun a ha=>by
 unfold tL at ha
 rcases List.mem_or_eq_of_mem_set ha with h1|h1
 ·exact h a h1
 ·rw[h1]
  exact OY (JV h _) hx
structure GJ (V:Eff→List Chg) (K0:List Chg) (n:Nat) (l:List Chg) (j:Nat) (al:List fu) (K:List Chg):Prop where
 live:al=Cg (List.replicate n rG) (l.take j)
 kept:K=K0++(FV (List.replicate n rG) (l.take j)).flatMap V
 bd:zm al
section
variable {V:Eff→List Chg}{K0 K:List Chg}{n j:Nat}{l:List Chg}{al:List fu}
theorem GJ.zero(V:Eff→List Chg)(K0:List Chg)(n:Nat)(l:List Chg):GJ V K0 n l 0 (List.replicate n rG) K0:=
 ⟨by simp[Cg],by simp[FV],fun a ha k s hs=>by rw[(List.mem_replicate.1 ha).2]at hs;cases hs⟩
theorem GJ.next(h:GJ V K0 n l j al K)(hj:j<l.length)(hx:NB n l[j]){al':List fu}{es:List Eff}(he:tL al l[j]=(al',es)):GJ V K0 n l (j+1) al' (K++es.flatMap V):=by
 have h1:=h.live
 have e1:(tL al l[j]).1=al':=by rw[he]
 have e2:(tL al l[j]).2=es:=by rw[he]
 refine⟨?_,?_,?_⟩
 ·rw[List.take_succ_eq_append_getElem hj,I9,←h1,e1]
 ·rw[List.take_succ_eq_append_getElem hj,I8,←h1,e2,List.flatMap_append,h.kept,List.append_assoc]
 ·rw[←e1]
  exact h.bd.step hx.seq
theorem GJ.len(h:GJ V K0 n l j al K):al.length=n:=by rw[h.live,MU,List.length_replicate]
end
end Go.Proofs.YtjidligipoldeaaGreat
