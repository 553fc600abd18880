/-
  Contracts and plain laws of this seat, part 59.
-/
import Derived.Test.YtjidligipoldeaaGreatT31
import Derived.Test.YtjidligipoldeaaGreatT56
set_option linter.unusedVariables false
set_option linter.unusedSimpArgs false
set_option maxRecDepth 100000
set_option maxHeartbeats 16000000
namespace Go.Proofs.YtjidligipoldeaaGreat
open Go.RowKit Go
theorem DX(A:Option Addr)(c n:Nat)(l:List Val)(w:World)(hl:ag w w.heap.size Val.cells 3 A l)(hln:l.length=n)(hn:n≤1000000):
 Calls Tryz.prog 96 #[.slice A n c] w fun e w' =>
  (∃A' c',e=.returned (.slice A' n c')∧aj w' w.heap.size 50 Val.cells 3 (.slice A' n c') l)∧Below w.heap.size w w':=by
 cases A with
 | some a =>
   subst hln
   obtain⟨i0,hi0,hz0,hz1,hz2⟩:=info_parts uo
   have hnil:(binOp .eql 48 (.slice (some a) l.length c) (.slice none 0 0)).run Tryz.prog w=.ok (.bool false) w:=Lib.run_eql_slice_nil w 48 50 (some a) l.length c 0 0 Tryz.underlying48
   go_enter Tryz.func96,Tryz.ntmps96
   go_wp2_with ((at_builtin;refine aO _ rfl (.tmp 5) (.tmp 6) 48 rfl 50 i0 _ Val.cells 3 32 Tryz.underlying48 hi0 hz0 hz1 hz2 rfl omA bC val_one w.heap.size (.slice (some ⟨w.heap.size,0,none⟩) 0 0) [] rfl (aj.empty (Blk.new' rfl) nlr) _ _ _ l rfl rfl (hl.next ai) smA mxA spA ?_;intro v' w1 hown' hg' hat';obtain⟨A',c',hv',_,_⟩:=hown'.form;have HOWN':=qh hown';clear hown';have hbel:Below w.heap.size w w1:=Below.grown ai hg' spA (bX nlr)))
   go_ret
   have h:=HOWN'.out
   simp only[List.nil_append]at hv' h
   subst hv'
   exact⟨⟨A',c',rfl,h⟩,hbel⟩
 | none =>
   have h0:l=[]:=by
    rcases Nat.eq_zero_or_pos l.length with h|h
    ·exact List.eq_nil_of_length_eq_zero h
    ·obtain⟨b',o',he,_⟩:=hl h
     cases he
   subst h0
   subst hln
   have hnil:(binOp .eql 48 (.slice none 0 c) (.slice none 0 0)).run Tryz.prog w=.ok (.bool true) w:=Lib.run_eql_slice_nil w 48 50 none 0 c 0 0 Tryz.underlying48
   go_enter Tryz.func96,Tryz.ntmps96
   go_wp2_with fail
   go_ret
   exact⟨⟨none,0,rfl,aj.nil⟩,Below.refl _ _⟩
theorem aj.xR{α:Type}{enc:α→List Value}{s base g:Nat}{w:World}{e t:TypeId}{v:Value}{m:List α}{cs:Array Value}(ho:aj w base e enc s v m)(h:Blk w g t cs)(he:t≠e){i0 i1 i2 i3 i4 i5 i6 i7 i8 i9 i10 i11:Nat}{x0 x1 x2 x3 x4 x5 x6 x7 x8 x9 x10 x11:Value}:
 aj ((((((((((((w.setCell ⟨g,i0,none⟩ x0).setCell ⟨g,i1,none⟩ x1).setCell ⟨g,i2,none⟩ x2).setCell ⟨g,i3,none⟩ x3).setCell ⟨g,i4,none⟩ x4).setCell ⟨g,i5,none⟩ x5).setCell ⟨g,i6,none⟩ x6).setCell ⟨g,i7,none⟩ x7).setCell ⟨g,i8,none⟩ x8).setCell ⟨g,i9,none⟩ x9).setCell ⟨g,i10,none⟩ x10).setCell ⟨g,i11,none⟩ x11) base e enc s v m:=by
 have hne:∀q,v.ownBlock=some q→q≠g:=fun q hq e1=>by
  obtain⟨cs',hc⟩:=ho.typ hq
  rw[e1]at hc
  exact lC h he cs' hc
 repeat(refine aj.far ?_ hne _)
 exact ho
open Go.RowKit Go
def unC(x:Chg):Chg:=⟨x.kind,x.seq,x.day,x.table,none,0,x.row,x.key,x.column,x.val⟩
structure Qm (n:Nat) (x:Chg):Prop where
 tab:∃k:Nat,x.table=(k:Int)∧k<n
 row:x.kind=1→0<x.row.length
 seq:0≤x.seq∧x.seq≤1073741824
 key:bT (keyOf x)=true
 len:x.row.length≤8
end Go.Proofs.YtjidligipoldeaaGreat
