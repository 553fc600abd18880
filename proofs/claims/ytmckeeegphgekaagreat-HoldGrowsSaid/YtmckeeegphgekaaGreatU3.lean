/-
  Contracts and plain laws of this seat, part 3: Hold, Cover, Block, Until, HAwake, Src, Rec, SortSrc, CompSrc, RefHold, RefCov.
-/
import Derived.Test.YtmckeeegphgekaaGreatU2
set_option linter.unusedVariables false
set_option linter.unusedSimpArgs false
namespace Go.Proofs.YtmckeeegphgekaaGreat
open Go.RowKit
structure Hold where
 table:Int
 column:Int
 who:Ident
 seq:Int
 day0:Int
 day1:Int
def Hold.cells (x:Hold):List Value := [.int .i64 x.table, .int .i64 x.column, .string x.who.ns, .int .i64 x.who.val.kind, .int .i64 x.who.val.num, .string x.who.val.text, .int .i64 x.seq, .int .i64 x.day0, .int .i64 x.day1]
def noId:Ident:=⟨⟨#[]⟩,0,0,⟨#[]⟩⟩
def holdOk (x:Hold):Bool:=decide (-1≤x.table)&&decide (x.table ≤ 1000)&&decide (-1≤x.column)&&decide (x.column ≤ 1000) && !(decide (x.table = -1) && !decide (x.column = -1))&&decide (1≤x.seq)&&decide (x.seq ≤ 1073741824)&&(decide (x.who=noId)||validId x.who)&&decide (0≤x.day0)&&decide (x.day0<x.day1)&&decide (x.day1 ≤ 1048576)
def validHolds (l:List Hold):Bool:=decide (l.length ≤ 32)&&l.all holdOk
def SaneH (l:List Hold):Prop := ∀ x∈l,x.who.ns.size ≤ 1000000
theorem Hold.cells9 {w:World} {b o:Nat} {x:Hold} (h : ∀ j u,x.cells[j]? = some u→w.cell? ⟨b,o+j,none⟩=some u) :
 w.cell? ⟨b,o,none⟩=some (.int .i64 x.table)∧w.cell? ⟨b,o + 1,none⟩=some (.int .i64 x.column)∧(w.cell? ⟨b,o + 2,none⟩=some (.string x.who.ns)∧w.cell? ⟨b,o + 3,none⟩=some (.int .i64 x.who.val.kind)∧w.cell? ⟨b,o + 4,none⟩=some (.int .i64 x.who.val.num)∧w.cell? ⟨b,o + 5,none⟩=some (.string x.who.val.text))∧w.cell? ⟨b,o + 6,none⟩=some (.int .i64 x.seq)∧w.cell? ⟨b,o + 7,none⟩=some (.int .i64 x.day0)∧w.cell? ⟨b,o + 8,none⟩=some (.int .i64 x.day1) :=
 ⟨h 0 _ rfl,h 1 _ rfl,⟨h 2 _ rfl,h 3 _ rfl,h 4 _ rfl,h 5 _ rfl⟩,h 6 _ rfl,h 7 _ rfl,h 8 _ rfl⟩
theorem holdOk_iff (x:Hold):holdOk x=true↔(-1≤x.table∧x.table ≤ 1000 ∧ -1≤x.column∧x.column ≤ 1000∧(x.table = -1→x.column = -1) ∧ 1≤x.seq∧x.seq ≤ 1073741824∧(x.who=noId∨validId x.who=true) ∧ 0≤x.day0∧x.day0<x.day1∧x.day1 ≤ 1048576):=by
 simp [holdOk,and_assoc]
 intros
 exact Decidable.imp_iff_not_or.symm
theorem eqlNo {x:Ident} {b:Bool} (h:decide (x=noId)=b) : ∀ w:World,(Op.equalIn 10000 57 (.agg #[.string x.ns, .int .i64 x.val.kind, .int .i64 x.val.num, .string x.val.text]) (.agg #[.string ⟨#[]⟩, .int .i64 0, .int .i64 0, .string ⟨#[]⟩])).run Tryz.prog w = .ok b w :=
 by have h1:=eqlId_of h;simp only [noId] at h1;exact h1
set_option maxRecDepth 100000 in
set_option maxHeartbeats 2000000 in
theorem hold_invalid (x:Hold) (w:World) (hs:x.who.ns.size ≤ 1000000) :
 Calls Tryz.prog 77 #[.agg #[.int .i64 x.table, .int .i64 x.column, .string x.who.ns, .int .i64 x.who.val.kind, .int .i64 x.who.val.num, .string x.who.val.text, .int .i64 x.seq, .int .i64 x.day0, .int .i64 x.day1]] w fun e w'=>e = .returned (.bool (!holdOk x))∧Ext w w':=by
 have hgt:Tryz.prog.eqGuardType Tryz.prog.depth 57=false:=by kernel_rfl
 by_cases c1:x.table < -1
 ·go_enter Tryz.func77,Tryz.ntmps77
  go_wp2_with fail
  go_ret
  exact ⟨ret_bool (by rw [show holdOk x=false by (rw [Bool.eq_false_iff];intro h;obtain ⟨h1,h2,h3,h4,h5,h6,h7,_,h8,h9,h10⟩:=(holdOk_iff x).1 h;omega)];rfl),by exact extA⟩
 have d1:decide (x.table < -1)=false:=by simpa using c1
 by_cases c2 : 1000<x.table
 ·go_enter Tryz.func77,Tryz.ntmps77
  go_wp2_with fail
  go_ret
  exact ⟨ret_bool (by rw [show holdOk x=false by (rw [Bool.eq_false_iff];intro h;obtain ⟨h1,h2,h3,h4,h5,h6,h7,_,h8,h9,h10⟩:=(holdOk_iff x).1 h;omega)];rfl),by exact extA⟩
 have d2:decide (1000<x.table)=false:=by simpa using c2
 by_cases c3:x.column < -1
 ·go_enter Tryz.func77,Tryz.ntmps77
  go_wp2_with fail
  go_ret
  exact ⟨ret_bool (by rw [show holdOk x=false by (rw [Bool.eq_false_iff];intro h;obtain ⟨h1,h2,h3,h4,h5,h6,h7,_,h8,h9,h10⟩:=(holdOk_iff x).1 h;omega)];rfl),by exact extA⟩
 have d3:decide (x.column < -1)=false:=by simpa using c3
 by_cases c4 : 1000<x.column
 ·go_enter Tryz.func77,Tryz.ntmps77
  go_wp2_with fail
  go_ret
  exact ⟨ret_bool (by rw [show holdOk x=false by (rw [Bool.eq_false_iff];intro h;obtain ⟨h1,h2,h3,h4,h5,h6,h7,_,h8,h9,h10⟩:=(holdOk_iff x).1 h;omega)];rfl),by exact extA⟩
 have d4:decide (1000<x.column)=false:=by simpa using c4
 by_cases c5:x.table = -1
 ·have e5:(x.table == -1)=true:=by simpa using c5
  by_cases c6:x.column = -1
  ·have e6:(x.column == -1)=true:=by simpa using c6
   have hok:x.table = -1→x.column = -1:=fun _=>c6
   have HOK:=qh hok
   clear hok
   by_cases c7:x.seq < 1
   ·go_enter Tryz.func77,Tryz.ntmps77
    go_wp2_with fail
    go_ret
    exact ⟨ret_bool (by rw [show holdOk x=false by (rw [Bool.eq_false_iff];intro h;obtain ⟨h1,h2,h3,h4,h5,h6,h7,_,h8,h9,h10⟩:=(holdOk_iff x).1 h;omega)];rfl),by exact extA⟩
   have d7:decide (x.seq < 1)=false:=by simpa using c7
   by_cases c8 : 1073741824<x.seq
   ·go_enter Tryz.func77,Tryz.ntmps77
    go_wp2_with fail
    go_ret
    exact ⟨ret_bool (by rw [show holdOk x=false by (rw [Bool.eq_false_iff];intro h;obtain ⟨h1,h2,h3,h4,h5,h6,h7,_,h8,h9,h10⟩:=(holdOk_iff x).1 h;omega)];rfl),by exact extA⟩
   have d8:decide (1073741824<x.seq)=false:=by simpa using c8
   cases c9:decide (x.who=noId)
   ·have e9:=eqlNo c9
    cases c10:validId x.who
    ·have H9:=qh c9
     have H10:=qh c10
     clear c9 c10
     go_enter Tryz.func77,Tryz.ntmps77
     go_wp2_with (go_at_call 50;(with_reducible refine (identity_ValidId x.who _ hs H10.out).mono ?_);rintro e w1 ⟨rfl,hb1⟩;obtain ⟨k0,f0,z0⟩:=keepE hb1 w.heap.size ltA;have hx1:Ext w w1:=Ext.trans (by exact extA) hb1)
     go_ret
     exact ⟨ret_bool (by simp [holdOk,H9.out,H10.out]),by exact extA⟩
    ·have hw:x.who=noId∨validId x.who=true := .inr c10
     have HW:=qh hw
     have H9:=qh c9
     have H10:=qh c10
     clear hw c9 c10
     by_cases c11:x.day0 < 0
     ·go_enter Tryz.func77,Tryz.ntmps77
      go_wp2_with (go_at_call 50;(with_reducible refine (identity_ValidId x.who _ hs H10.out).mono ?_);rintro e w1 ⟨rfl,hb1⟩;obtain ⟨k0,f0,z0⟩:=keepE hb1 w.heap.size ltA;have hx1:Ext w w1:=Ext.trans (by exact extA) hb1)
      go_ret
      exact ⟨ret_bool (by rw [show holdOk x=false by (rw [Bool.eq_false_iff];intro h;obtain ⟨h1,h2,h3,h4,h5,h6,h7,_,h8,h9,h10⟩:=(holdOk_iff x).1 h;omega)];rfl),by exact extA⟩
     have d11:decide (x.day0 < 0)=false:=by simpa using c11
     by_cases c12:x.day1≤x.day0
     ·go_enter Tryz.func77,Tryz.ntmps77
      go_wp2_with (go_at_call 50;(with_reducible refine (identity_ValidId x.who _ hs H10.out).mono ?_);rintro e w1 ⟨rfl,hb1⟩;obtain ⟨k0,f0,z0⟩:=keepE hb1 w.heap.size ltA;have hx1:Ext w w1:=Ext.trans (by exact extA) hb1)
      go_ret
      exact ⟨ret_bool (by rw [show holdOk x=false by (rw [Bool.eq_false_iff];intro h;obtain ⟨h1,h2,h3,h4,h5,h6,h7,_,h8,h9,h10⟩:=(holdOk_iff x).1 h;omega)];rfl),by exact extA⟩
     have d12:decide (x.day1≤x.day0)=false:=by simpa using c12
     by_cases c13 : 1048576<x.day1
     ·go_enter Tryz.func77,Tryz.ntmps77
      go_wp2_with (go_at_call 50;(with_reducible refine (identity_ValidId x.who _ hs H10.out).mono ?_);rintro e w1 ⟨rfl,hb1⟩;obtain ⟨k0,f0,z0⟩:=keepE hb1 w.heap.size ltA;have hx1:Ext w w1:=Ext.trans (by exact extA) hb1)
      go_ret
      exact ⟨ret_bool (by rw [show holdOk x=false by (rw [Bool.eq_false_iff];intro h;obtain ⟨h1,h2,h3,h4,h5,h6,h7,_,h8,h9,h10⟩:=(holdOk_iff x).1 h;omega)];rfl),by exact extA⟩
     have d13:decide (1048576<x.day1)=false:=by simpa using c13
     go_enter Tryz.func77,Tryz.ntmps77
     go_wp2_with (go_at_call 50;(with_reducible refine (identity_ValidId x.who _ hs H10.out).mono ?_);rintro e w1 ⟨rfl,hb1⟩;obtain ⟨k0,f0,z0⟩:=keepE hb1 w.heap.size ltA;have hx1:Ext w w1:=Ext.trans (by exact extA) hb1)
     go_ret
     have hf:holdOk x=true:=(holdOk_iff x).2 ⟨by omega,by omega,by omega,by omega,HOK.out,by omega,by omega,HW.out,by omega,by omega,by omega⟩
     exact ⟨ret_bool (by rw [hf];rfl),by exact extA⟩
   ·have e9:=eqlNo c9
    have hw:x.who=noId∨validId x.who=true := .inl (by simpa using c9)
    have HW:=qh hw
    have H10:=qh (rfl:validId x.who=validId x.who)
    clear hw c9
    by_cases c11:x.day0 < 0
    ·go_enter Tryz.func77,Tryz.ntmps77
     go_wp2_with (go_at_call 50;(with_reducible refine (identity_ValidId x.who _ hs H10.out).mono ?_);rintro e w1 ⟨rfl,hb1⟩;obtain ⟨k0,f0,z0⟩:=keepE hb1 w.heap.size ltA;have hx1:Ext w w1:=Ext.trans (by exact extA) hb1)
     go_ret
     exact ⟨ret_bool (by rw [show holdOk x=false by (rw [Bool.eq_false_iff];intro h;obtain ⟨h1,h2,h3,h4,h5,h6,h7,_,h8,h9,h10⟩:=(holdOk_iff x).1 h;omega)];rfl),by exact extA⟩
    have d11:decide (x.day0 < 0)=false:=by simpa using c11
    by_cases c12:x.day1≤x.day0
    ·go_enter Tryz.func77,Tryz.ntmps77
     go_wp2_with (go_at_call 50;(with_reducible refine (identity_ValidId x.who _ hs H10.out).mono ?_);rintro e w1 ⟨rfl,hb1⟩;obtain ⟨k0,f0,z0⟩:=keepE hb1 w.heap.size ltA;have hx1:Ext w w1:=Ext.trans (by exact extA) hb1)
     go_ret
     exact ⟨ret_bool (by rw [show holdOk x=false by (rw [Bool.eq_false_iff];intro h;obtain ⟨h1,h2,h3,h4,h5,h6,h7,_,h8,h9,h10⟩:=(holdOk_iff x).1 h;omega)];rfl),by exact extA⟩
    have d12:decide (x.day1≤x.day0)=false:=by simpa using c12
    by_cases c13 : 1048576<x.day1
    ·go_enter Tryz.func77,Tryz.ntmps77
     go_wp2_with (go_at_call 50;(with_reducible refine (identity_ValidId x.who _ hs H10.out).mono ?_);rintro e w1 ⟨rfl,hb1⟩;obtain ⟨k0,f0,z0⟩:=keepE hb1 w.heap.size ltA;have hx1:Ext w w1:=Ext.trans (by exact extA) hb1)
     go_ret
     exact ⟨ret_bool (by rw [show holdOk x=false by (rw [Bool.eq_false_iff];intro h;obtain ⟨h1,h2,h3,h4,h5,h6,h7,_,h8,h9,h10⟩:=(holdOk_iff x).1 h;omega)];rfl),by exact extA⟩
    have d13:decide (1048576<x.day1)=false:=by simpa using c13
    go_enter Tryz.func77,Tryz.ntmps77
    go_wp2_with (go_at_call 50;(with_reducible refine (identity_ValidId x.who _ hs H10.out).mono ?_);rintro e w1 ⟨rfl,hb1⟩;obtain ⟨k0,f0,z0⟩:=keepE hb1 w.heap.size ltA;have hx1:Ext w w1:=Ext.trans (by exact extA) hb1)
    go_ret
    have hf:holdOk x=true:=(holdOk_iff x).2 ⟨by omega,by omega,by omega,by omega,HOK.out,by omega,by omega,HW.out,by omega,by omega,by omega⟩
    exact ⟨ret_bool (by rw [hf];rfl),by exact extA⟩
  ·have e6:(x.column == -1)=false:=by simpa using c6
   go_enter Tryz.func77,Tryz.ntmps77
   go_wp2_with fail
   go_ret
   exact ⟨ret_bool (by simp [holdOk,c5,c6]),by exact extA⟩
 ·have e5:(x.table == -1)=false:=by simpa using c5
  have hok:x.table = -1→x.column = -1:=fun h=>absurd h c5
  have HOK:=qh hok
  clear hok
  by_cases c7:x.seq < 1
  ·go_enter Tryz.func77,Tryz.ntmps77
   go_wp2_with fail
   go_ret
   exact ⟨ret_bool (by rw [show holdOk x=false by (rw [Bool.eq_false_iff];intro h;obtain ⟨h1,h2,h3,h4,h5,h6,h7,_,h8,h9,h10⟩:=(holdOk_iff x).1 h;omega)];rfl),by exact extA⟩
  have d7:decide (x.seq < 1)=false:=by simpa using c7
  by_cases c8 : 1073741824<x.seq
  ·go_enter Tryz.func77,Tryz.ntmps77
   go_wp2_with fail
   go_ret
   exact ⟨ret_bool (by rw [show holdOk x=false by (rw [Bool.eq_false_iff];intro h;obtain ⟨h1,h2,h3,h4,h5,h6,h7,_,h8,h9,h10⟩:=(holdOk_iff x).1 h;omega)];rfl),by exact extA⟩
  have d8:decide (1073741824<x.seq)=false:=by simpa using c8
  cases c9:decide (x.who=noId)
  ·have e9:=eqlNo c9
   cases c10:validId x.who
   ·have H9:=qh c9
    have H10:=qh c10
    clear c9 c10
    go_enter Tryz.func77,Tryz.ntmps77
    go_wp2_with (go_at_call 50;(with_reducible refine (identity_ValidId x.who _ hs H10.out).mono ?_);rintro e w1 ⟨rfl,hb1⟩;obtain ⟨k0,f0,z0⟩:=keepE hb1 w.heap.size ltA;have hx1:Ext w w1:=Ext.trans (by exact extA) hb1)
    go_ret
    exact ⟨ret_bool (by simp [holdOk,H9.out,H10.out]),by exact extA⟩
   ·have hw:x.who=noId∨validId x.who=true := .inr c10
    have HW:=qh hw
    have H9:=qh c9
    have H10:=qh c10
    clear hw c9 c10
    by_cases c11:x.day0 < 0
    ·go_enter Tryz.func77,Tryz.ntmps77
     go_wp2_with (go_at_call 50;(with_reducible refine (identity_ValidId x.who _ hs H10.out).mono ?_);rintro e w1 ⟨rfl,hb1⟩;obtain ⟨k0,f0,z0⟩:=keepE hb1 w.heap.size ltA;have hx1:Ext w w1:=Ext.trans (by exact extA) hb1)
     go_ret
     exact ⟨ret_bool (by rw [show holdOk x=false by (rw [Bool.eq_false_iff];intro h;obtain ⟨h1,h2,h3,h4,h5,h6,h7,_,h8,h9,h10⟩:=(holdOk_iff x).1 h;omega)];rfl),by exact extA⟩
    have d11:decide (x.day0 < 0)=false:=by simpa using c11
    by_cases c12:x.day1≤x.day0
    ·go_enter Tryz.func77,Tryz.ntmps77
     go_wp2_with (go_at_call 50;(with_reducible refine (identity_ValidId x.who _ hs H10.out).mono ?_);rintro e w1 ⟨rfl,hb1⟩;obtain ⟨k0,f0,z0⟩:=keepE hb1 w.heap.size ltA;have hx1:Ext w w1:=Ext.trans (by exact extA) hb1)
     go_ret
     exact ⟨ret_bool (by rw [show holdOk x=false by (rw [Bool.eq_false_iff];intro h;obtain ⟨h1,h2,h3,h4,h5,h6,h7,_,h8,h9,h10⟩:=(holdOk_iff x).1 h;omega)];rfl),by exact extA⟩
    have d12:decide (x.day1≤x.day0)=false:=by simpa using c12
    by_cases c13 : 1048576<x.day1
    ·go_enter Tryz.func77,Tryz.ntmps77
     go_wp2_with (go_at_call 50;(with_reducible refine (identity_ValidId x.who _ hs H10.out).mono ?_);rintro e w1 ⟨rfl,hb1⟩;obtain ⟨k0,f0,z0⟩:=keepE hb1 w.heap.size ltA;have hx1:Ext w w1:=Ext.trans (by exact extA) hb1)
     go_ret
     exact ⟨ret_bool (by rw [show holdOk x=false by (rw [Bool.eq_false_iff];intro h;obtain ⟨h1,h2,h3,h4,h5,h6,h7,_,h8,h9,h10⟩:=(holdOk_iff x).1 h;omega)];rfl),by exact extA⟩
    have d13:decide (1048576<x.day1)=false:=by simpa using c13
    go_enter Tryz.func77,Tryz.ntmps77
    go_wp2_with (go_at_call 50;(with_reducible refine (identity_ValidId x.who _ hs H10.out).mono ?_);rintro e w1 ⟨rfl,hb1⟩;obtain ⟨k0,f0,z0⟩:=keepE hb1 w.heap.size ltA;have hx1:Ext w w1:=Ext.trans (by exact extA) hb1)
    go_ret
    have hf:holdOk x=true:=(holdOk_iff x).2 ⟨by omega,by omega,by omega,by omega,HOK.out,by omega,by omega,HW.out,by omega,by omega,by omega⟩
    exact ⟨ret_bool (by rw [hf];rfl),by exact extA⟩
  ·have e9:=eqlNo c9
   have hw:x.who=noId∨validId x.who=true := .inl (by simpa using c9)
   have HW:=qh hw
   have H10:=qh (rfl:validId x.who=validId x.who)
   clear hw c9
   by_cases c11:x.day0 < 0
   ·go_enter Tryz.func77,Tryz.ntmps77
    go_wp2_with (go_at_call 50;(with_reducible refine (identity_ValidId x.who _ hs H10.out).mono ?_);rintro e w1 ⟨rfl,hb1⟩;obtain ⟨k0,f0,z0⟩:=keepE hb1 w.heap.size ltA;have hx1:Ext w w1:=Ext.trans (by exact extA) hb1)
    go_ret
    exact ⟨ret_bool (by rw [show holdOk x=false by (rw [Bool.eq_false_iff];intro h;obtain ⟨h1,h2,h3,h4,h5,h6,h7,_,h8,h9,h10⟩:=(holdOk_iff x).1 h;omega)];rfl),by exact extA⟩
   have d11:decide (x.day0 < 0)=false:=by simpa using c11
   by_cases c12:x.day1≤x.day0
   ·go_enter Tryz.func77,Tryz.ntmps77
    go_wp2_with (go_at_call 50;(with_reducible refine (identity_ValidId x.who _ hs H10.out).mono ?_);rintro e w1 ⟨rfl,hb1⟩;obtain ⟨k0,f0,z0⟩:=keepE hb1 w.heap.size ltA;have hx1:Ext w w1:=Ext.trans (by exact extA) hb1)
    go_ret
    exact ⟨ret_bool (by rw [show holdOk x=false by (rw [Bool.eq_false_iff];intro h;obtain ⟨h1,h2,h3,h4,h5,h6,h7,_,h8,h9,h10⟩:=(holdOk_iff x).1 h;omega)];rfl),by exact extA⟩
   have d12:decide (x.day1≤x.day0)=false:=by simpa using c12
   by_cases c13 : 1048576<x.day1
   ·go_enter Tryz.func77,Tryz.ntmps77
    go_wp2_with (go_at_call 50;(with_reducible refine (identity_ValidId x.who _ hs H10.out).mono ?_);rintro e w1 ⟨rfl,hb1⟩;obtain ⟨k0,f0,z0⟩:=keepE hb1 w.heap.size ltA;have hx1:Ext w w1:=Ext.trans (by exact extA) hb1)
    go_ret
    exact ⟨ret_bool (by rw [show holdOk x=false by (rw [Bool.eq_false_iff];intro h;obtain ⟨h1,h2,h3,h4,h5,h6,h7,_,h8,h9,h10⟩:=(holdOk_iff x).1 h;omega)];rfl),by exact extA⟩
   have d13:decide (1048576<x.day1)=false:=by simpa using c13
   go_enter Tryz.func77,Tryz.ntmps77
   go_wp2_with (go_at_call 50;(with_reducible refine (identity_ValidId x.who _ hs H10.out).mono ?_);rintro e w1 ⟨rfl,hb1⟩;obtain ⟨k0,f0,z0⟩:=keepE hb1 w.heap.size ltA;have hx1:Ext w w1:=Ext.trans (by exact extA) hb1)
   go_ret
   have hf:holdOk x=true:=(holdOk_iff x).2 ⟨by omega,by omega,by omega,by omega,HOK.out,by omega,by omega,HW.out,by omega,by omega,by omega⟩
   exact ⟨ret_bool (by rw [hf];rfl),by exact extA⟩
theorem hold_invalidB (x:Hold) (w:World) (hs:x.who.ns.size ≤ 1000000) {r:Bool} (hr:holdOk x=r) :
 Calls Tryz.prog 77 #[.agg #[.int .i64 x.table, .int .i64 x.column, .string x.who.ns, .int .i64 x.who.val.kind, .int .i64 x.who.val.num, .string x.who.val.text, .int .i64 x.seq, .int .i64 x.day0, .int .i64 x.day1]] w fun e w'=>e = .returned (.bool (!r))∧Ext w w':=by
 subst hr
 exact hold_invalid x w hs
set_option maxRecDepth 100000 in
set_option maxHeartbeats 1000000 in
theorem index_hold (A:Option Addr) (c:Nat) (l:List Hold) (w:World) (hl:SliceIs w w.heap.size Hold.cells 9 A l) (hn:l.length ≤ 1000000) (hs:SaneH l) :
 Calls Tryz.prog 123 #[.slice A l.length c, .func (.func 77) #[] #[]] w fun e w' =>
  (∃ k:Int,e = .returned (.int .i64 k)∧(0≤k↔l.all holdOk=false))∧Below w.heap.size w w':=by
 have HS:=qh hs
 clear hs
 go_enter Tryz.func123,Tryz.ntmps123
 go_wp2
 go_loopw [8] (fun vi wr => ∃ m:Nat,m≤l.length∧vi = .int .i64 m∧Below w.heap.size w wr∧(∀ i (h:i<l.length),i<m→holdOk l[i]=true)) (fun vi _=>l.length - (intOf vi).toNat)
 case atStart=>exact ⟨0,Nat.zero_le _,rfl,by exact belA,fun i _ h=>by omega⟩
 case round =>
  obtain ⟨m,hm,rfl,hbw,hok⟩:=hrel
  have HOK:=qh hok
  clear hok
  by_cases hlt:m<l.length
  ·obtain ⟨b,o,rfl,hb,hc⟩:=(hl.below hbw).get hlt
   obtain ⟨h0,h1,⟨h2,h3,h4,h5⟩,h6,h7,h8⟩:=Hold.cells9 hc
   have hsm:=HS.out l[m] (List.getElem_mem hlt)
   clear hc
   cases hk:holdOk l[m]
   ·have HK:=qh hk
    clear hk
    go_wp2_with (go_at_call 77;(with_reducible refine (hold_invalidB l[m] _ hsm HK.out).mono ?_);rintro e w1 ⟨rfl,hb1⟩;have hx1:Below w.heap.size w w1:=below_nextN hbw hb1.1 hbw.size)
    go_ret
    refine ⟨⟨_,rfl,fun _ => ?_,fun _=>by omega⟩,hx1⟩
    rw [List.all_eq_false]
    exact ⟨l[m],List.getElem_mem hlt,by rw [HK.out];decide⟩
   ·have HK:=qh hk
    clear hk
    go_wp2_with (go_at_call 77;(with_reducible refine (hold_invalidB l[m] _ hsm HK.out).mono ?_);rintro e w1 ⟨rfl,hb1⟩;have hx1:Below w.heap.size w w1:=below_nextN hbw hb1.1 hbw.size)
    go_roundw
    case rel=>exact ⟨m + 1,by omega,by go_num,hx1,fun i h hi=>by
     rcases Nat.lt_or_ge i m with h1|h1
     ·exact HOK.out i h h1
     ·obtain rfl:i=m:=by omega
      exact HK.out⟩
    case measure=>simp [intOf];omega
  ·have hlt':decide (m<l.length)=false:=by simpa using hlt
   go_wp2_with fail
   go_ret
   refine ⟨⟨_,rfl,fun h=>by omega,fun h => ?_⟩,hbw⟩
   rw [List.all_eq_false] at h
   obtain ⟨x,hx,hxx⟩:=h
   obtain ⟨i,hi,rfl⟩:=List.getElem_of_mem hx
   exact absurd (HOK.out i hi (by omega)) hxx
set_option maxRecDepth 100000 in
theorem contains_hold (A:Option Addr) (c:Nat) (l:List Hold) (w:World) (hl:SliceIs w w.heap.size Hold.cells 9 A l) (hn:l.length ≤ 1000000) (hs:SaneH l) :
 Calls Tryz.prog 76 #[.slice A l.length c, .func (.func 77) #[] #[]] w fun e w' =>
  e = .returned (.bool (!l.all holdOk))∧Below w.heap.size w w':=by
 have HL:=qh hl
 have HS:=qh hs
 clear hl hs
 go_enter Tryz.func76,Tryz.ntmps76
 go_wp2_with fail
 with_reducible refine (index_hold A c l _ HL.out hn HS.out).mono ?_
 rintro e w1 ⟨⟨k,rfl,hk⟩,hb1⟩
 have HK:=qh hk
 clear hk
 go_wp2_with fail
 go_ret
 refine ⟨ret_bool ?_,hb1⟩
 cases h:l.all holdOk
 ·simpa using HK.out.2 h
 ·have h1 : ¬ 0≤k:=fun h0=>by rw [HK.out.1 h0] at h;cases h
  simpa using h1
theorem idle_HValid (w:World):CallsD Tryz.prog 75 #[] .returning w fun e u' w'=>e = .returned (.tuple #[])∧u' = .returning∧w'=w:=by
 refine callsD_of_wpS Tryz.func75 rfl fun c₀ cs hu => ?_
 apply wpS_region
 cases c₀
 simp_all [wpOpsS,go_sem,recoverD,Tryz.ntmps75,bodyPostS,results,Tryz.results75]
set_option maxRecDepth 100000 in
theorem hold_Valid (A:Option Addr) (c:Nat) (l:List Hold) (w:World) (hl:SliceIs w w.heap.size Hold.cells 9 A l) (hn:l.length ≤ 1000000) (hs:SaneH l) :
 Calls Tryz.prog 42 #[.slice A l.length c] w fun e w'=>e = .returned (.bool (validHolds l))∧Below w.heap.size w w':=by
 have HL:=qh hl
 have HS:=qh hs
 clear hl hs
 by_cases h32:l.length ≤ 32
 ·go_enter_defers Tryz.func42,Tryz.ntmps42
  go_wp2_with (go_at_call 76;(with_reducible refine (contains_hold A c l _ HL.out hn HS.out).mono ?_);rintro e w1 ⟨rfl,hb1⟩)
  refine leaves_cons (f := 75) (args := #[]) (by simp) (by simp [go_sem]) ?_;refine (idle_HValid _).mono ?_;rintro e u' w'' ⟨rfl,rfl,rfl⟩;refine ⟨_,results_tmp rfl _ _ _,?_⟩
  exact ⟨ret_bool (by rw [validHolds,decide_eq_true h32];simp),hb1⟩
 ·have h32':decide (l.length ≤ 32)=false:=by simpa using h32
  go_enter_defers Tryz.func42,Tryz.ntmps42
  go_wp2_with fail
  refine leaves_cons (f := 75) (args := #[]) (by simp) (by simp [go_sem]) ?_;refine (idle_HValid _).mono ?_;rintro e u' w'' ⟨rfl,rfl,rfl⟩;refine ⟨_,results_tmp rfl _ _ _,?_⟩
  exact ⟨ret_bool (by rw [validHolds,h32'];rfl),by exact belA⟩
def activeOn (x:Hold) (day:Int):Bool:=decide (x.day0≤day)&&decide (day<x.day1)
set_option maxRecDepth 100000 in
theorem hold_Active (x:Hold) (day:Int) (w:World) :
 Calls Tryz.prog 45 #[.agg #[.int .i64 x.table, .int .i64 x.column, .string x.who.ns, .int .i64 x.who.val.kind, .int .i64 x.who.val.num, .string x.who.val.text, .int .i64 x.seq, .int .i64 x.day0, .int .i64 x.day1], .int .i64 day] w fun e w'=>e = .returned (.bool (activeOn x day))∧Ext w w':=by
 cases h:decide (x.day0≤day)
 ·go_enter Tryz.func45,Tryz.ntmps45
  go_wp2_with fail
  go_ret
  exact ⟨ret_bool (by simp [activeOn,h]),by exact extA⟩
 ·go_enter Tryz.func45,Tryz.ntmps45
  go_wp2_with fail
  go_ret
  exact ⟨ret_bool (by simp [activeOn,h]),by exact extA⟩
def scopeCells (x:Hold) (v:Value):Array Value:=(x.cells ++ [v]).toArray
theorem scope_blk {w:World} {g:Nat} {x:Hold} {v:Value} (h:Blk w g 146 (scopeCells x v)) :
 w.cell? ⟨g,0,none⟩=some (.int .i64 x.table)∧w.cell? ⟨g,1,none⟩=some (.int .i64 x.column)∧(w.cell? ⟨g,2,none⟩=some (.string x.who.ns)∧w.cell? ⟨g,3,none⟩=some (.int .i64 x.who.val.kind)∧w.cell? ⟨g,4,none⟩=some (.int .i64 x.who.val.num)∧w.cell? ⟨g,5,none⟩=some (.string x.who.val.text))∧w.cell? ⟨g,6,none⟩=some (.int .i64 x.seq)∧w.cell? ⟨g,7,none⟩=some (.int .i64 x.day0)∧w.cell? ⟨g,8,none⟩=some (.int .i64 x.day1)∧w.cell? ⟨g,9,none⟩=some v :=
 ⟨h.cell 0,h.cell 1,⟨h.cell 2,h.cell 3,h.cell 4,h.cell 5⟩,h.cell 6,h.cell 7,h.cell 8,h.cell 9⟩
def concernsB (x:Hold) (t c:Int):Bool:=(x.table == -1||x.table==t)&&(x.column == -1||x.column==c)
set_option maxRecDepth 100000 in
set_option maxHeartbeats 1000000 in
theorem scope_concerns (g:Nat) (x:Hold) (v:Value) (t c s:Int) (w:World) (hB:Blk w g 146 (scopeCells x v)) :
 Calls Tryz.prog 80 #[.pointer (some ⟨g,0,none⟩), .agg #[.int .i64 t, .int .i64 c, .int .i64 s]] w fun e w'=>e = .returned (.bool (concernsB x t c))∧Below w.heap.size w w':=by
 have hgl:=hB.lt
 have HB:=qh hB
 clear hB
 go_enter Tryz.func80,Tryz.ntmps80
 go_upto_region 1 with (fail)
 refine abs_world (P:=fun u=>Code.wp _ _ _ _ u) (R:=fun u=>Blk u g 146 (scopeCells x v)∧Blk u w.heap.size 47 #[.int .i64 t, .int .i64 c, .int .i64 s]∧Below w.heap.size w u) ⟨?_,?_,?_⟩ ?_
 ·exact HB.out.alloc _
 ·exact Blk.new _ _ _
 ·exact belA
 rintro W ⟨hb1,hb2,hbW⟩
 obtain ⟨a0,a1,_,_,_,_,_⟩:=scope_blk hb1
 have b0:=hb2.cell 0
 have b1:=hb2.cell 1
 simp only [List.getElem?_toArray,List.getElem?_cons_zero,List.getElem?_cons_succ] at b0 b1
 have hk0:=keepQ (w:=W) g hb1.lt
 have hk1:=keepQ (w:=W) w.heap.size hb2.lt
 have hz1:=hb1.lt
 have hz2:=hb2.lt
 clear hb1 hb2 HB
 cases hx:(x.table == -1) <;> cases ht:(x.table==t) <;> cases hc:(x.column == -1) <;> cases hd:(x.column==c)
 all_goals
  have HX:=qh hx
  have HT:=qh ht
  have HC:=qh hc
  have HD:=qh hd
  refine wp_region_bel (by kernel_rfl) (by kernel_rfl) ?_;(repeat (go_big_quiet_step (fail)));refine wpQuiet_nil ?_;intro wq hq
  go_wp2_with fail
  go_ret
  exact ⟨ret_bool (by simp only [concernsB,HX.out,HT.out,HC.out,HD.out];rfl),below_nextN hbW hq hbW.size⟩
theorem cmpId_eqL {x y:Ident} (hx:validId x=true) (h:cmpId x y = 0):x=y:=by
 unfold cmpId at h
 by_cases h1:cmpStr x.ns y.ns = 0
 ·simp [h1] at h
  rw [cmpVal_fields,clean_yes (validId_val hx)] at h
  have e:=cmpFields_eq h
  have hk:x.val.kind ≠ 0:=by
   simp only [validId,Bool.and_eq_true,bne_iff_ne,ne_eq] at hx
   exact hx.2.2
  obtain ⟨s,v⟩:=x
  obtain ⟨s',v'⟩:=y
  simp only at h1 e hk
  cases hv:valB v'
  ·rw [clean_no hv] at e
   rw [e] at hk
   exact absurd rfl hk
  ·rw [clean_yes hv] at e
   rw [cmpStr_eq h1,e]
 ·simp [h1] at h
theorem found_yes {l:List Ident} (hv:AllValid l) (ha:Asc l) {x:Ident} {i:Nat} (hi:i<l.length) (hlo : ∀ k (h:k<l.length),k<i→cmpId l[k] x < 0) (hhi : ∀ k (h:k<l.length),i≤k → 0≤cmpId l[k] x):(cmpId l[i] x == 0)=decide (x∈l):=by
 rw [Bool.eq_iff_iff,beq_iff_eq,decide_eq_true_iff]
 constructor
 ·intro h
  rw [← cmpId_eqL (hv _ (List.getElem_mem hi)) h]
  exact List.getElem_mem hi
 ·intro h
  obtain ⟨j,hj,rfl⟩:=List.getElem_of_mem h
  rcases Nat.lt_trichotomy j i with k|k|k
  ·have:=hlo j hj k
   rw [cmpId_refl] at this
   omega
  ·subst k
   exact cmpId_refl _
  ·have h1:=asc_get ha hi hj k
   have h2:=hhi i hi (Nat.le_refl _)
   omega
theorem found_no {l:List Ident} {x:Ident} (hlo : ∀ k (h:k<l.length),cmpId l[k] x < 0):decide (x∈l)=false:=by
 rw [decide_eq_false_iff_not]
 intro h
 obtain ⟨j,hj,rfl⟩:=List.getElem_of_mem h
 have:=hlo j hj
 rw [cmpId_refl] at this
 omega
set_option maxRecDepth 100000 in
set_option maxHeartbeats 1000000 in
theorem search_has (A:Option Addr) (c n:Nat) (l:List Ident) (x:Ident) (w:World) (hl:SliceIs w w.heap.size Ident.cells 4 A l) (hln:l.length=n) (hn:n ≤ 1000000) (ha:Asc l) (hv:AllValid l) {r:Bool} (hr:decide (x∈l)=r) :
 Calls Tryz.prog 129 #[.slice A n c, .agg #[.string x.ns, .int .i64 x.val.kind, .int .i64 x.val.num, .string x.val.text], .func (.func 79) #[] #[]] w fun e w' =>
  e = .returned (.tuple #[.int .i64 (insK l x), .bool r])∧Below w.heap.size w w':=by
 subst hln hr
 have HA:=qh ha
 have HV:=qh hv
 clear ha hv
 go_enter Tryz.func129,Tryz.ntmps129
 go_wp2
 go_loopw [9,10] (fun vi vj wr => ∃ i j:Nat,i≤j∧j≤l.length∧vi = .int .i64 i∧vj = .int .i64 j∧Below w.heap.size w wr∧(∀ y u,(Ident.cells x)[y]? = some u→wr.cell? ⟨w.heap.size,0+y,none⟩=some u)∧w.heap.size<wr.heap.size∧(∀ k (h:k<l.length),k<i→cmpId l[k] x < 0)∧(∀ k (h:k<l.length),j≤k → 0≤cmpId l[k] x)) (fun vi vj _=>(intOf vj).toNat - (intOf vi).toNat)
 case atStart=>exact ⟨0,l.length,Nat.zero_le _,Nat.le_refl _,rfl,rfl,by exact belA,fun j u hu=>by simpa [Ident.cells] using hu,by simp,fun k h hk=>by omega,fun k h hk=>by omega⟩
 case round =>
  obtain ⟨i,j,hij,hj,rfl,rfl,hbw,hx,hz,hlo,hhi⟩:=hrel
  obtain ⟨x0,x1,x2,x3⟩:=Ident.cells4 hx
  simp only [Nat.zero_add] at x1 x2 x3
  have HX:=qh hx
  have HLO:=qh hlo
  have HHI:=qh hhi
  clear hx hlo hhi
  have hk1:=keepQ (w:=wr) w.heap.size hz
  by_cases hlt:i<j
  ·obtain ⟨m,hme⟩ : ∃ m:Nat,m=(i+j) / 2:=⟨_,rfl⟩
   have hcast:((i:Int)+(j:Int)) / 2=(m:Int):=by omega
   have hm1:i≤m:=by omega
   have hm2:m<j:=by omega
   have hm:m<l.length:=by omega
   have HC:=qh hcast
   clear hcast hme
   obtain ⟨b,o,rfl,hb,hc⟩:=(hl.below hbw).get hm
   obtain ⟨h0,h1,h2,h3⟩:=Ident.cells4 hc
   have hk0:=keepQ (w:=wr) b (by have:=hbw.size;omega)
   clear hc
   go_wp2
   rw [HC.out]
   refine wp_region_bel (by kernel_rfl) (by kernel_rfl) ?_;(repeat (go_big_quiet_step ((go_at_call 79;with_reducible exact bel_of_ext (identity_CompareId l[m] x _)))));refine wpQuiet_nil ?_;intro wq hq
   have hq':=below_nextN hbw hq hbw.size
   have hz':w.heap.size<wq.heap.size:=by have:=hq.size;omega
   by_cases hcmp:cmpId l[m] x < 0
   ·go_wp2
    go_roundw
    case rel=>exact ⟨m + 1,j,by omega,hj,by go_num,rfl,hq',fun y u hu=>(hq.cell (by exact hz)).trans (HX.out y u hu),hz',fun k h hk=>by
     rcases Nat.lt_or_ge k m with hkm|hkm
     ·exact cmpId_ok.lt_le (asc_get HA.out h hm hkm) (by omega)
     ·obtain rfl:k=m:=by omega
      exact hcmp,HHI.out⟩
    case measure=>simp [intOf];omega
   ·have hge:decide (cmpId l[m] x < 0)=false:=by simpa using hcmp
    go_wp2
    go_roundw
    case rel=>exact ⟨i,m,by omega,by omega,rfl,rfl,hq',fun y u hu=>(hq.cell (by exact hz)).trans (HX.out y u hu),hz',HLO.out,fun k h hk=>by
     rcases Nat.lt_or_ge m k with hkm|hkm
     ·have h1:=asc_get HA.out hm h hkm
      rcases Int.lt_or_le (cmpId l[k] x) 0 with h2|h2
      ·have:=cmpId_ok.lt_le h1 (Int.le_of_lt h2)
       omega
      ·exact h2
     ·obtain rfl:k=m:=by omega
      omega⟩
    case measure=>simp [intOf];omega
  ·obtain rfl:i=j:=by omega
   have hK:insK l x=i:=insK_bound x i hj HLO.out (fun h=>HHI.out i h (Nat.le_refl _))
   have HK:=qh hK
   clear hK
   by_cases hil:i<l.length
   ·obtain ⟨b,o,rfl,hb,hc⟩:=(hl.below hbw).get hil
    obtain ⟨h0,h1,h2,h3⟩:=Ident.cells4 hc
    have hk0:=keepQ (w:=wr) b (by have:=hbw.size;omega)
    have HF:=qh (found_yes HV.out HA.out hil HLO.out HHI.out)
    clear hc
    go_wp2
    refine wp_region_bel (by kernel_rfl) (by kernel_rfl) ?_;(repeat (go_big_quiet_step ((go_at_call 79;with_reducible exact bel_of_ext (identity_CompareId l[i] x _)))));refine wpQuiet_nil ?_;intro wq hq
    go_wp2
    go_ret2
    rw [HK.out,← HF.out]
    exact ⟨rfl,below_nextN hbw hq hbw.size⟩
   ·have HF:=qh (found_no (l:=l) (x:=x) (fun k h=>HLO.out k h (by omega)))
    go_wp2
    refine wp_region_bel (by kernel_rfl) (by kernel_rfl) ?_;(repeat (go_big_quiet_step (fail)));refine wpQuiet_nil ?_;intro wq hq
    go_wp2
    go_ret2
    rw [HK.out,HF.out]
    exact ⟨rfl,below_nextN hbw hq hbw.size⟩
structure InScope (w:World) (p g:Nat) (x:Hold) (A:Option Addr) (c:Nat) (o:List Ident):Prop where
 ptr:Blk w p 165 #[.pointer (some ⟨g,0,none⟩)]
 scope:Blk w g 146 (scopeCells x (.slice A o.length c))
 subj:SliceIs w w.heap.size Ident.cells 4 A o
theorem InScope.next {w w':World} {p g:Nat} {x:Hold} {A:Option Addr} {c:Nat} {o:List Ident} (h:InScope w p g x A c o) (hb:Below w.heap.size w w'):InScope w' p g x A c o :=
 ⟨h.ptr.below hb h.ptr.lt,h.scope.below hb h.scope.lt,h.subj.next hb⟩
set_option maxRecDepth 100000 in
set_option maxHeartbeats 1000000 in
theorem includes_fn (p g:Nat) (h:Hold) (A:Option Addr) (c:Nat) (o:List Ident) (x:Ident) (w:World) (hI:InScope w p g h A c o) (hn:o.length ≤ 1000000) (ha:Asc o) (hv:AllValid o) {r:Bool} (hr:decide (x∈o)=r) :
 Calls Tryz.prog 128 #[.agg #[.string x.ns, .int .i64 x.val.kind, .int .i64 x.val.num, .string x.val.text], .pointer (some ⟨p,0,none⟩)] w fun e w' =>
  e = .returned (.bool r)∧Below w.heap.size w w':=by
 have hpl:=hI.ptr.lt
 have hgl:=hI.scope.lt
 have HI:=qh hI
 have HA:=qh ha
 have HV:=qh hv
 have HR:=qh hr
 clear hI ha hv hr
 go_enter Tryz.func128,Tryz.ntmps128
 go_upto_region 1 with (fail)
 refine abs_world (P:=fun u=>Code.wp _ _ _ _ u) (R:=fun u=>InScope u p g h A c o∧Blk u w.heap.size 57 x.cells.toArray∧Below w.heap.size w u) ⟨?_,?_,?_⟩ ?_
 ·exact HI.out.next (by exact belA)
 ·exact Blk.new _ _ _
 ·exact belA
 rintro W ⟨hi,hb2,hbW⟩
 obtain ⟨_,_,_,_,_,_,s9⟩:=scope_blk hi.scope
 have p0:=hi.ptr.cell 0
 simp only [List.getElem?_toArray,List.getElem?_cons_zero] at p0
 obtain ⟨q0,q1,q2,q3⟩:=Ident.blk hb2
 have hk0:=keepQ (w:=W) p hi.ptr.lt
 have hk1:=keepQ (w:=W) g hi.scope.lt
 have hk2:=keepQ (w:=W) w.heap.size hb2.lt
 have HSW:=qh hi.subj
 clear hi hb2 HI
 refine wp_region_bel (by kernel_rfl) (by kernel_rfl) ?_;(repeat (go_big_quiet_step ((go_at_call 129;with_reducible exact bel_of (search_has A c o.length o x _ (HSW.out.next (BelOf.h _)) rfl hn HA.out HV.out HR.out)))));refine wpQuiet_nil ?_;intro wq hq
 go_wp2_with fail
 go_ret
 exact ⟨rfl,below_nextN hbW hq hbW.size⟩
set_option maxRecDepth 100000 in
set_option maxHeartbeats 1000000 in
theorem index_in (p g:Nat) (h:Hold) (A:Option Addr) (c:Nat) (o:List Ident) (A':Option Addr) (c':Nat) (l:List Ident) (w:World) (hI:InScope w p g h A c o) (hn:o.length ≤ 1000000) (ha:Asc o) (hv:AllValid o) (hl:SliceIs w w.heap.size Ident.cells 4 A' l) (hn':l.length ≤ 1000000) :
 Calls Tryz.prog 170 #[.slice A' l.length c', .func (.func 128) #[] #[.pointer (some ⟨p,0,none⟩)]] w fun e w' =>
  (∃ k:Int,e = .returned (.int .i64 k)∧(0≤k↔l.any (fun y=>decide (y∈o))=true))∧Below w.heap.size w w':=by
 have HI:=qh hI
 have HA:=qh ha
 have HV:=qh hv
 clear hI ha hv
 go_enter Tryz.func170,Tryz.ntmps170
 go_wp2
 go_loopw [8] (fun vi wr => ∃ m:Nat,m≤l.length∧vi = .int .i64 m∧Below w.heap.size w wr∧(∀ i (h:i<l.length),i<m→decide (l[i]∈o)=false)) (fun vi _=>l.length - (intOf vi).toNat)
 case atStart=>exact ⟨0,Nat.zero_le _,rfl,by exact belA,fun i _ h=>by omega⟩
 case round =>
  obtain ⟨m,hm,rfl,hbw,hok⟩:=hrel
  have HOK:=qh hok
  clear hok
  by_cases hlt:m<l.length
  ·obtain ⟨b,of_,rfl,hb,hc⟩:=(hl.below hbw).get hlt
   obtain ⟨h0,h1,h2,h3⟩:=Ident.cells4 hc
   clear hc
   cases hk:decide (l[m]∈o)
   ·have HK:=qh hk
    clear hk
    go_wp2_with (go_at_call 128;(with_reducible refine (includes_fn p g h A c o l[m] _ (HI.out.next hbw) hn HA.out HV.out HK.out).mono ?_);rintro e w1 ⟨rfl,hb1⟩;have hx1:Below w.heap.size w w1:=below_nextN hbw hb1 hbw.size)
    go_roundw
    case rel=>exact ⟨m + 1,by omega,by go_num,hx1,fun i h hi=>by
     rcases Nat.lt_or_ge i m with h1|h1
     ·exact HOK.out i h h1
     ·obtain rfl:i=m:=by omega
      exact HK.out⟩
    case measure=>simp [intOf];omega
   ·have HK:=qh hk
    clear hk
    go_wp2_with (go_at_call 128;(with_reducible refine (includes_fn p g h A c o l[m] _ (HI.out.next hbw) hn HA.out HV.out HK.out).mono ?_);rintro e w1 ⟨rfl,hb1⟩;have hx1:Below w.heap.size w w1:=below_nextN hbw hb1 hbw.size)
    go_ret
    refine ⟨⟨_,rfl,fun _ => ?_,fun _=>by omega⟩,hx1⟩
    rw [List.any_eq_true]
    exact ⟨l[m],List.getElem_mem hlt,HK.out⟩
  ·have hlt':decide (m<l.length)=false:=by simpa using hlt
   go_wp2_with fail
   go_ret
   refine ⟨⟨_,rfl,fun h=>by omega,fun h => ?_⟩,hbw⟩
   rw [List.any_eq_true] at h
   obtain ⟨x,hx,hxx⟩:=h
   obtain ⟨i,hi,rfl⟩:=List.getElem_of_mem hx
   rw [HOK.out i hi (by omega)] at hxx
   cases hxx
set_option maxRecDepth 100000 in
theorem contains_in (p g:Nat) (h:Hold) (A:Option Addr) (c:Nat) (o:List Ident) (A':Option Addr) (c':Nat) (l:List Ident) (w:World) (hI:InScope w p g h A c o) (hn:o.length ≤ 1000000) (ha:Asc o) (hv:AllValid o) (hl:SliceIs w w.heap.size Ident.cells 4 A' l) (hn':l.length ≤ 1000000) :
 Calls Tryz.prog 127 #[.slice A' l.length c', .func (.func 128) #[] #[.pointer (some ⟨p,0,none⟩)]] w fun e w' =>
  e = .returned (.bool (l.any (fun y=>decide (y∈o))))∧Below w.heap.size w w':=by
 have HI:=qh hI
 have HA:=qh ha
 have HV:=qh hv
 have HL:=qh hl
 clear hI ha hv hl
 go_enter Tryz.func127,Tryz.ntmps127
 go_wp2_with fail
 with_reducible refine (index_in p g h A c o A' c' l _ HI.out hn HA.out HV.out HL.out hn').mono ?_
 rintro e w1 ⟨⟨k,rfl,hk⟩,hb1⟩
 have HK:=qh hk
 clear hk
 go_wp2_with fail
 go_ret
 refine ⟨ret_bool ?_,hb1⟩
 rw [Bool.eq_iff_iff,← HK.out]
 simp
set_option maxRecDepth 100000 in
set_option maxHeartbeats 1000000 in
theorem scope_includes (g:Nat) (x:Hold) (A:Option Addr) (c:Nat) (o:List Ident) (A':Option Addr) (c':Nat) (l:List Ident) (w:World) (hB:Blk w g 146 (scopeCells x (.slice A o.length c))) (hso:SliceIs w w.heap.size Ident.cells 4 A o) (hn:o.length ≤ 1000000) (ha:Asc o) (hv:AllValid o) (hl:SliceIs w w.heap.size Ident.cells 4 A' l) (hn':l.length ≤ 1000000) :
 Calls Tryz.prog 82 #[.pointer (some ⟨g,0,none⟩), .slice A' l.length c'] w fun e w' =>
  e = .returned (.bool (decide (x.who=noId)||l.any (fun y=>decide (y∈o))))∧Below w.heap.size w w':=by
 have hgt:Tryz.prog.eqGuardType Tryz.prog.depth 57=false:=by kernel_rfl
 have hgl:=hB.lt
 obtain ⟨_,_,⟨s2,s3,s4,s5⟩,_,_,_,_⟩:=scope_blk hB
 have HB:=qh hB
 have HO:=qh hso
 have HA:=qh ha
 have HV:=qh hv
 have HL:=qh hl
 clear hB ha hv hl hso
 cases hw:decide (x.who=noId)
 ·have heq:=eqlNo hw
  clear hw
  go_enter Tryz.func82,Tryz.ntmps82
  go_wp2_with fail
  with_reducible refine (contains_in w.heap.size g x A c o A' c' l _ ⟨Blk.new _ _ _,HB.out.alloc _,HO.out.next (by exact belA)⟩ hn HA.out HV.out (HL.out.next (by exact belA)) hn').mono ?_
  rintro e w1 ⟨rfl,hb1⟩
  go_wp2_with fail
  go_ret
  exact ⟨rfl,below_nextN (by exact belA) hb1 leA⟩
 ·have heq:=eqlNo hw
  clear hw
  go_enter Tryz.func82,Tryz.ntmps82
  go_wp2_with fail
  go_ret
  exact ⟨rfl,by exact belA⟩
theorem SliceIs.setSlice {w:World} {B g j n c:Nat} {a A:Option Addr} {l:List Ident} (h:SliceIs w B Ident.cells 4 A l) (hc:w.cell? ⟨g,j,none⟩=some (.slice a n c)) (v:Value):SliceIs (w.setCell ⟨g,j,none⟩ v) B Ident.cells 4 A l:=by
 intro hl
 obtain ⟨b,o,rfl,hB,hcl⟩:=h hl
 refine ⟨b,o,rfl,hB,fun i hi k u hu => ?_⟩
 have h1:=hcl i hi k u hu
 by_cases he:b=g∧o+(i * 4+k)=j
 ·obtain ⟨rfl,rfl⟩:=he
  rw [hc] at h1
  injection h1 with h1
  subst h1
  have hk:k < 4:=by have:=(List.getElem?_eq_some_iff.1 hu).1;simpa [Ident.cells] using this
  match k,hk,hu with
  | 0,_,hu=>simp [Ident.cells] at hu
  | 1,_,hu=>simp [Ident.cells] at hu
  | 2,_,hu=>simp [Ident.cells] at hu
  | 3,_,hu=>simp [Ident.cells] at hu
 ·rw [← h1]
  apply World.cell?_setCell_other
  intro e
  injection e with e1 e2
  exact he ⟨e1.symm,e2.symm⟩
set_option maxRecDepth 100000 in
set_option maxHeartbeats 1000000 in
theorem scope_limit (g:Nat) (x:Hold) (A:Option Addr) (c:Nat) (l:List Link) (w:World) (hB:Blk w g 146 (scopeCells x (.slice none 0 0))) (hl:SliceIs w w.heap.size Link.cells 10 A l) (hn:l.length ≤ 1000000) (hs:Sane l) (hsx:x.who.ns.size ≤ 1000000) (hseq:x.seq ≤ 9223372036854775807) :
 Calls Tryz.prog 81 #[.pointer (some ⟨g,0,none⟩), .slice A l.length c] w fun e w' =>
  e = .returned (.tuple #[])∧(∃ o A' c',(x.who=noId→o = [])∧(x.who≠noId→SubjectOut l x.who x.seq o)∧Blk w' g 146 (scopeCells x (.slice A' o.length c'))∧SliceIs w' w'.heap.size Ident.cells 4 A' o∧(∀ a,A'=some a→w.heap.size≤a.block))∧w.grownBy w' (some g):=by
 have hgt:Tryz.prog.eqGuardType Tryz.prog.depth 57=false:=by kernel_rfl
 have hgl:=hB.lt
 obtain ⟨_,_,⟨s2,s3,s4,s5⟩,s6,_,_,s9⟩:=scope_blk hB
 have fz0:=hB.frozen 9
 have HB:=qh hB
 have HS:=qh hs
 have HL:=qh hl
 clear hB hs hl
 cases hw:decide (x.who=noId)
 ·have heq:=eqlNo hw
  have hw':x.who≠noId:=by simpa using hw
  have HW:=qh hw'
  clear hw hw'
  go_enter Tryz.func81,Tryz.ntmps81
  go_upto_region 1 with (fail)
  refine wp_region_held_drew (S:=(fun w'=>w'.cell? ⟨g,2,none⟩=some (.string x.who.ns)∧w'.cell? ⟨g,3,none⟩=some (.int .i64 x.who.val.kind)∧w'.cell? ⟨g,4,none⟩=some (.int .i64 x.who.val.num)∧w'.cell? ⟨g,5,none⟩=some (.string x.who.val.text)∧w'.cell? ⟨g,6,none⟩=some (.int .i64 x.seq))) (by kernel_rfl) ⟨s2,s3,s4,s5,s6⟩ (fun hHeld => ?_)
  refine wpAnyH_take (i := 0) (v := ?_) rfl (by kernel_rfl) (by kernel_rfl) (by kernel_rfl) (fun _ _ _ h=>h) (Or.inl ⟨by kernel_rfl,?_⟩) hHeld ?_
  rotate_left
  ·(intro w hSw;(try dsimp only at hSw);go_simp;first|done|with_reducible rfl)
  (try simp only [Act.put,List.getElem_toArray,List.getElem_cons_zero,List.setIfInBounds_toArray,List.set_cons_zero,List.set_cons_succ])
  refine wpAnyH_take (i := 1) (v := ?_) rfl (by kernel_rfl) (by kernel_rfl) (by kernel_rfl) (fun _ _ _ h=>h) (Or.inl ⟨by kernel_rfl,?_⟩) hHeld ?_
  rotate_left
  ·(intro w hSw;(try dsimp only at hSw);go_simp;first|done|with_reducible rfl)
  (try simp only [Act.put,List.getElem_toArray,List.getElem_cons_zero,List.getElem_cons_succ,List.setIfInBounds_toArray,List.set_cons_zero,List.set_cons_succ])
  refine wpAnyH_take (i := 2) (v := ?_) rfl (by kernel_rfl) (by kernel_rfl) (by kernel_rfl) (fun _ _ _ h=>h) (Or.inl ⟨by kernel_rfl,?_⟩) hHeld ?_
  rotate_left
  ·(intro w hSw;(try dsimp only at hSw);go_simp;first|done|with_reducible rfl)
  (try simp only [Act.put,List.getElem_toArray,List.getElem_cons_zero,List.getElem_cons_succ,List.setIfInBounds_toArray,List.set_cons_zero,List.set_cons_succ])
  refine wpAnyH_take (i := 3) (v := ?_) rfl (by kernel_rfl) (by kernel_rfl) (by kernel_rfl) (fun _ _ _ h=>h) (Or.inl ⟨by kernel_rfl,?_⟩) hHeld ?_
  rotate_left
  ·(intro w hSw;(try dsimp only at hSw);go_simp;first|done|with_reducible rfl)
  (try simp only [Act.put,List.getElem_toArray,List.getElem_cons_zero,List.getElem_cons_succ,List.setIfInBounds_toArray,List.set_cons_zero,List.set_cons_succ])
  refine wpAnyH_take (i := 4) (v := ?_) rfl (by kernel_rfl) (by kernel_rfl) (by kernel_rfl) (fun _ _ _ h=>h) (Or.inl ⟨by kernel_rfl,?_⟩) hHeld ?_
  rotate_left
  ·(intro w hSw;(try dsimp only at hSw);go_simp;first|done|with_reducible rfl)
  (try simp only [Act.put,List.getElem_toArray,List.getElem_cons_zero,List.getElem_cons_succ,List.setIfInBounds_toArray,List.set_cons_zero,List.set_cons_succ])
  refine wpAnyH_take (i := 5) (v := ?_) rfl (by kernel_rfl) (by kernel_rfl) (by kernel_rfl) (fun _ _ _ h=>h) (Or.inl ⟨by kernel_rfl,?_⟩) hHeld ?_
  rotate_left
  ·(intro w hSw;(try dsimp only at hSw);go_simp;first|done|with_reducible rfl)
  (try simp only [Act.put,List.getElem_toArray,List.getElem_cons_zero,List.getElem_cons_succ,List.setIfInBounds_toArray,List.set_cons_zero,List.set_cons_succ])
  refine wpAnyH_take (i := 6) (v := ?_) rfl (by kernel_rfl) (by kernel_rfl) (by kernel_rfl) (fun _ _ _ h=>h) (Or.inl ⟨by kernel_rfl,?_⟩) hHeld ?_
  rotate_left
  ·(intro w hSw;(try dsimp only at hSw);go_simp;first|done|with_reducible rfl)
  (try simp only [Act.put,List.getElem_toArray,List.getElem_cons_zero,List.getElem_cons_succ,List.setIfInBounds_toArray,List.set_cons_zero,List.set_cons_succ])
  refine wpAnyH_take (i := 7) (v := ?_) rfl (by kernel_rfl) (by kernel_rfl) (by kernel_rfl) (fun _ _ _ h=>h) (Or.inl ⟨by kernel_rfl,?_⟩) hHeld ?_
  rotate_left
  ·(intro w hSw;(try dsimp only at hSw);go_simp;first|done|with_reducible rfl)
  (try simp only [Act.put,List.getElem_toArray,List.getElem_cons_zero,List.getElem_cons_succ,List.setIfInBounds_toArray,List.set_cons_zero,List.set_cons_succ])
  refine wpAnyH_take (i := 8) (v := ?_) rfl (by kernel_rfl) (by kernel_rfl) (by kernel_rfl) (fun _ _ _ h=>h) (Or.inl ⟨by kernel_rfl,?_⟩) hHeld ?_
  rotate_left
  ·(intro w hSw;(try dsimp only at hSw);go_simp;first|done|with_reducible rfl)
  (try simp only [Act.put,List.getElem_toArray,List.getElem_cons_zero,List.getElem_cons_succ,List.setIfInBounds_toArray,List.set_cons_zero,List.set_cons_succ])
  refine wpAnyH_take (i := 9) (v := ?_) rfl (by kernel_rfl) (by kernel_rfl) (by kernel_rfl) (fun _ _ _ h=>h) (Or.inl ⟨by kernel_rfl,?_⟩) hHeld ?_
  rotate_left
  ·(intro w hSw;(try dsimp only at hSw);go_simp;first|done|with_reducible rfl)
  (try simp only [Act.put,List.getElem_toArray,List.getElem_cons_zero,List.getElem_cons_succ,List.setIfInBounds_toArray,List.set_cons_zero,List.set_cons_succ])
  refine wpAnyH_take (i := 10) (v := ?_) rfl (by kernel_rfl) (by kernel_rfl) (by kernel_rfl) (fun _ _ _ h=>h) (Or.inl ⟨by kernel_rfl,?_⟩) hHeld ?_
  rotate_left
  ·(intro w hSw;(try dsimp only at hSw);go_simp;first|done|with_reducible rfl)
  (try simp only [Act.put,List.getElem_toArray,List.getElem_cons_zero,List.getElem_cons_succ,List.setIfInBounds_toArray,List.set_cons_zero,List.set_cons_succ])
  refine wpAnyH_take (i := 11) (v := ?_) rfl (by kernel_rfl) (by kernel_rfl) (by kernel_rfl) (fun _ _ _ h=>h) (Or.inl ⟨by kernel_rfl,?_⟩) hHeld ?_
  rotate_left
  ·(intro w hSw;(try dsimp only at hSw);go_simp;first|done|with_reducible rfl)
  (try simp only [Act.put,List.getElem_toArray,List.getElem_cons_zero,List.getElem_cons_succ,List.setIfInBounds_toArray,List.set_cons_zero,List.set_cons_succ])
  refine wpAnyH_ready (rs := [12]) (by kernel_rfl) (by simp) ?_
  refine AllReadyH.cons rfl (fun K hK => ?_) AllReadyH.nil
  go_simp
  (go_at_call 20;(with_reducible refine (identity_SubjectF A c l x.who x.seq _ (HL.out.next (by exact belA)) hn HS.out hsx hseq).mono ?_);rintro e w1 ⟨⟨o,A',c',ho,rfl,_,hso,hfr⟩,hb1⟩;have HFR:Hid (∀ a,A'=some a→w.heap.size≤a.block):=qh (fun a h=>hfr a h);clear hfr;have hx1:Below w.heap.size w w1:=(by exact belA);obtain ⟨k1,f1,z1⟩:=keepB hx1 g hgl;have fz1 : ∀ j,w1.frozen? ⟨g,j,none⟩=false:=fun j=>(f1 j).trans (HB.out.frozen j);have HO:=qh ho;have HSO:=qh hso;clear ho hso)
  go_wp2_with fail
  refine hK.out _ _ ⟨?_,?_,?_,?_,?_⟩ (fun hHeld => ?_)
  iterate 5 (simp only [*])
  clear hK K
  (try simp only [Act.put,List.getElem_toArray,List.getElem_cons_zero,List.getElem_cons_succ,List.setIfInBounds_toArray,List.set_cons_zero,List.set_cons_succ])
  refine wpAnyH_take (i := 13) (v := ?_) rfl (by kernel_rfl) (by kernel_rfl) (by kernel_rfl) (fun _ _ _ h=>h) (Or.inl ⟨by kernel_rfl,?_⟩) hHeld ?_
  rotate_left
  ·(intro w hSw;(try dsimp only at hSw);go_simp;first|done|with_reducible rfl)
  (try simp only [Act.put,List.getElem_toArray,List.getElem_cons_zero,List.getElem_cons_succ,List.setIfInBounds_toArray,List.set_cons_zero,List.set_cons_succ])
  refine wpAnyH_take (i := 14) (v := ?_) rfl (by kernel_rfl) (by kernel_rfl) (by kernel_rfl) (fun _ _ _ h=>h) (Or.inl ⟨by kernel_rfl,?_⟩) hHeld ?_
  rotate_left
  ·(intro w hSw;(try dsimp only at hSw);go_simp;first|done|with_reducible rfl)
  (try simp only [Act.put,List.getElem_toArray,List.getElem_cons_zero,List.getElem_cons_succ,List.setIfInBounds_toArray,List.set_cons_zero,List.set_cons_succ])
  refine wpAnyH_ready (rs := [15]) (by kernel_rfl) (by simp) ?_
  refine AllReadyH.cons rfl (fun K hK => ?_) AllReadyH.nil
  go_simp
  have k9:=(k1 9).trans s9
  have hB1:Blk w1 g 146 (scopeCells x (.slice none 0 0)):=HB.out.below hx1 hgl
  have hB2:Blk (w1.setCell ⟨g,9,none⟩ (.slice A' o.length c')) g 146 (scopeCells x (.slice A' o.length c')):=(hB1.set_ 9 _).eq (by simp [scopeCells,Hold.cells])
  obtain ⟨_,_,⟨r2,r3,r4,r5⟩,r6,_,_,_⟩:=scope_blk hB2
  have HB2:=qh hB2
  clear hB1 hB2
  go_wp2_with fail
  refine hK.out _ _ ⟨r2,r3,r4,r5,r6⟩ (fun hHeld => ?_)
  clear hK K
  (try simp only [Act.put,List.getElem_toArray,List.getElem_cons_zero,List.getElem_cons_succ,List.setIfInBounds_toArray,List.set_cons_zero,List.set_cons_succ])
  refine wpAnyH_done (by kernel_rfl) ?_ _
  go_wp2_with fail
  first|go_end0|(refine bodyPost_ret (results_none rfl _ _ _) rfl ?_)
  exact ⟨rfl,⟨o,A',c',fun h=>absurd h HW.out,fun _=>HO.out,HB2.out,SliceIs.mono (HSO.out.setSlice k9 _) (by simp [World.setCell]),HFR.out⟩,only_setCell (only_of_below hx1 _) (.inl rfl) _⟩
 ·have heq:=eqlNo hw
  have hw':x.who=noId:=by simpa using hw
  have HW:=qh hw'
  clear hw hw'
  go_enter Tryz.func81,Tryz.ntmps81
  go_wp2_with fail
  first|go_end0|(refine bodyPost_ret (results_none rfl _ _ _) rfl ?_)
  exact ⟨rfl,⟨[],none,0,fun _=>rfl,fun h=>absurd HW.out h,HB.out,SliceIs.nil,fun a h=>by cases h⟩,World.grownBy.refl _ _⟩
theorem named_valid {l:List Link} {a y:Ident} (hv:validLinks l=true) (ha:validId a=true) (hy:y∈named l a):validId y=true:=by
 unfold named at hy
 rcases List.mem_cons.1 hy with rfl|hy
 ·exact ha
 ·obtain ⟨x,hx,hxy⟩:=List.mem_flatMap.1 hy
  have h:=validLinks_mem hv x hx
  simp at hxy
  rcases hxy with rfl|rfl
  ·exact h.2.2.1
  ·exact h.2.2.2.1
theorem subject_good {l:List Link} {who:Ident} {seq:Int} {o:List Ident} (h:SubjectOut l who seq o):Asc o∧AllValid o:=by
 unfold SubjectOut at h
 split at h
 ·rename_i hh
  simp only [Bool.and_eq_true] at hh
  refine ⟨h.1,fun y hy => ?_⟩
  rcases (h.2 y).1 hy with h1|⟨_,_,_,h1⟩
  ·exact named_valid hh.1 hh.2 h1.named
  ·exact named_valid hh.1 hh.2 h1.named
 ·subst h
  exact ⟨List.Pairwise.nil,fun y hy=>by cases hy⟩
noncomputable def inSubject (l:List Link) (who:Ident) (seq:Int) (own:List Ident):Bool := @decide (∃ o,SubjectOut l who seq o∧own.any (fun y=>decide (y∈o))=true) (Classical.propDecidable _)
theorem inSubject_eq {l:List Link} {who:Ident} {seq:Int} {own o:List Ident} (h:SubjectOut l who seq o):inSubject l who seq own=own.any (fun y=>decide (y∈o)):=by
 rw [Bool.eq_iff_iff,inSubject,@decide_eq_true_iff _ (Classical.propDecidable _)]
 exact ⟨fun ⟨o',h',k⟩=>by rw [h.unique h'];exact k,fun k=>⟨o,h,k⟩⟩
noncomputable def coversB (x:Hold) (l:List Link) (t c:Int) (own:List Ident):Bool:=concernsB x t c&&(decide (x.who=noId)||inSubject l x.who x.seq own)
theorem covers_eq {x:Hold} {l:List Link} {t c:Int} {own o:List Ident} (hc:concernsB x t c=true) (h1:x.who=noId→o = []) (h2:x.who≠noId→SubjectOut l x.who x.seq o):(decide (x.who=noId)||own.any (fun y=>decide (y∈o)))=coversB x l t c own:=by
 unfold coversB
 rw [hc,Bool.true_and]
 by_cases h:x.who=noId
 ·simp [h]
 ·rw [inSubject_eq (h2 h)]
theorem scope_good {x:Hold} {l:List Link} {o:List Ident} (h1:x.who=noId→o = []) (h2:x.who≠noId→SubjectOut l x.who x.seq o):Asc o∧AllValid o∧o.length ≤ 1000000:=by
 by_cases h:x.who=noId
 ·rw [h1 h]
  exact ⟨List.Pairwise.nil,fun y hy=>(by cases hy),by simp⟩
 ·exact ⟨(subject_good (h2 h)).1,(subject_good (h2 h)).2,subject_len (h2 h)⟩
theorem SliceIs.grownL {α : Type} {w w':World} {B g:Nat} {enc : α → List Value} {k:Nat} {A:Option Addr} {l:List α} (h:SliceIs w B enc k A l) (hg:w.grownBy w' (some g)) (hB:B≤g) (hw:B≤w.heap.size):SliceIs w' B enc k A l:=by
 intro hl
 obtain ⟨b,o,rfl,hb,hc⟩:=h hl
 exact ⟨b,o,rfl,hb,fun i hi j u hu=>(World.cell?_of_block (hg.block b (by omega) (fun e=>by injection e with e;omega))).trans (hc i hi j u hu)⟩
set_option maxRecDepth 100000 in
set_option maxHeartbeats 1000000 in
theorem hold_covers (x:Hold) (A:Option Addr) (c n:Nat) (l:List Link) (t col sq rec day:Int) (A':Option Addr) (c' n':Nat) (own:List Ident) (nul lst:Bool) (w:World) (hl:SliceIs w w.heap.size Link.cells 10 A l) (hln:l.length=n) (hn:n ≤ 1000000) (hs:Sane l) (hsx:x.who.ns.size ≤ 1000000) (hseq:x.seq ≤ 9223372036854775807) (ho:SliceIs w w.heap.size Ident.cells 4 A' own) (hon:own.length=n') (hn':n' ≤ 1000000) {r:Bool} (hr:coversB x l t col own=r) :
 Calls Tryz.prog 44 #[.agg #[.int .i64 x.table, .int .i64 x.column, .string x.who.ns, .int .i64 x.who.val.kind, .int .i64 x.who.val.num, .string x.who.val.text, .int .i64 x.seq, .int .i64 x.day0, .int .i64 x.day1], .slice A n c, .agg #[.int .i64 t, .int .i64 col, .int .i64 sq, .int .i64 rec, .int .i64 day, .slice A' n' c', .bool nul, .bool lst]] w fun e w' =>
  e = .returned (.bool r)∧Below w.heap.size w w':=by
 subst hln hon hr
 have HS:=qh hs
 have HL:=qh hl
 have HO:=qh ho
 clear hs hl ho
 go_enter Tryz.func44,Tryz.ntmps44
 go_upto_region 2 with (fail)
 refine abs_world (P:=fun u=>Code.wp _ _ _ _ u) (R:=fun u=>Blk u (w.heap.size + 1) 50 #[.int .i64 t, .int .i64 col, .int .i64 sq, .int .i64 rec, .int .i64 day, .slice A' own.length c', .bool nul, .bool lst]∧Blk u (w.heap.size + 1 + 1) 146 (scopeCells x (.slice none 0 0))∧Below w.heap.size w u) ⟨?_,?_,?_⟩ ?_
 ·exact (Blk.new' (by simp)).alloc _
 ·exact Blk.new' (by simp)
 ·exact belA
 rintro W ⟨hb1,hb2,hbW⟩
 have b0:=hb1.cell 0
 have b1:=hb1.cell 1
 have b2:=hb1.cell 2
 simp only [List.getElem?_toArray,List.getElem?_cons_zero,List.getElem?_cons_succ] at b0 b1 b2
 have hz1:=hb1.lt
 have hz2:=hb2.lt
 have HB1:=qh hb1
 have HB2:=qh hb2
 clear hb1 hb2
 cases hc:concernsB x t col
 ·have HC:=qh hc
  clear hc
  go_wp2_with fail
  refine (scope_concerns _ x _ t col sq _ HB2.out).mono ?_
  rintro e w1 ⟨rfl,hb1⟩
  rw [HC.out]
  go_wp2_with fail
  go_ret
  exact ⟨ret_bool (by rw [coversB,HC.out];rfl),below_nextN hbW hb1 hbW.size⟩
 ·have HC:=qh hc
  clear hc
  go_wp2_with fail
  refine (scope_concerns _ x _ t col sq _ HB2.out).mono ?_
  rintro e w1 ⟨rfl,hb1⟩
  rw [HC.out]
  have hx1:=below_nextN hbW hb1 hbW.size
  go_wp2_with fail
  refine (scope_limit _ x A c l _ (HB2.out.below hb1 hz2) ((HL.out.below hx1).mono hx1.size) hn HS.out hsx hseq).mono ?_
  rintro e w2 ⟨rfl,⟨o,A6,c6,h1,h2,hB2,hso,_⟩,hg2⟩
  have hx2:Below w.heap.size w w2:=Below.grown hx1 hg2 hx1.size (fun q e=>by injection e with e;omega)
  have hO2:SliceIs w2 w.heap.size Ident.cells 4 A' own:=(HO.out.below hx1).grownL hg2 (by omega) hx1.size
  have hP2:Blk w2 (w.heap.size + 1) 50 #[.int .i64 t, .int .i64 col, .int .i64 sq, .int .i64 rec, .int .i64 day, .slice A' own.length c', .bool nul, .bool lst]:=(HB1.out.below hb1 hz1).grown hg2 (fun e=>by injection e with e;omega)
  have p5:=hP2.cell 5
  simp only [List.getElem?_toArray,List.getElem?_cons_zero,List.getElem?_cons_succ] at p5
  obtain ⟨ha,hv,hol⟩:=scope_good h1 h2
  have HE:=qh (covers_eq (own:=own) HC.out h1 h2)
  have HB:=qh hB2
  have HSO:=qh hso
  have HA:=qh ha
  have HV:=qh hv
  have HO2:=qh (hO2.mono hx2.size)
  clear h1 h2 hB2 hso ha hv hO2 b0 b1 b2 hP2 hg2
  go_wp2_with fail
  refine (scope_includes _ x A6 c6 o A' c' own _ HB.out HSO.out hol HA.out HV.out HO2.out hn').mono ?_
  rintro e w3 ⟨rfl,hb3⟩
  rw [HE.out]
  go_wp2_with fail
  go_ret
  exact ⟨rfl,below_nextN hx2 hb3 hx2.size⟩
noncomputable def blockTo (hs:List Hold) (l:List Link) (t c:Int) (own:List Ident) (day:Int) (m:Nat):List Int :=
 ((List.range m).filter (fun i=>match hs[i]? with|some x=>activeOn x day&&coversB x l t c own|none=>false)).map (fun i:Nat=>(i:Int))
theorem blockTo_len (hs:List Hold) (l:List Link) (t c:Int) (own:List Ident) (day:Int) (m:Nat):(blockTo hs l t c own day m).length≤m:=by
 unfold blockTo
 rw [List.length_map]
 exact Nat.le_trans (List.length_filter_le _ _) (by simp)
theorem blockTo_step {hs:List Hold} {l:List Link} {t c:Int} {own:List Ident} {day:Int} {m:Nat} (h:m<hs.length):blockTo hs l t c own day (m + 1)=if (activeOn hs[m] day&&coversB hs[m] l t c own)=true then blockTo hs l t c own day m ++ [(m:Int)] else blockTo hs l t c own day m:=by
 unfold blockTo
 rw [List.range_succ,List.filter_append]
 split
 ·rename_i hh
  rw [List.filter_cons_of_pos (by rw [List.getElem?_eq_getElem h];exact hh)]
  simp
 ·rename_i hh
  rw [List.filter_cons_of_neg (by rw [List.getElem?_eq_getElem h];exact hh)]
  simp
noncomputable def blocking (hs:List Hold) (l:List Link) (t c:Int) (own:List Ident) (day:Int):List Int :=
 if (validHolds hs&&validLinks l)=true then blockTo hs l t c own day hs.length else []
theorem hold_ValidB (A:Option Addr) (c n:Nat) (l:List Hold) (w:World) (hl:SliceIs w w.heap.size Hold.cells 9 A l) (hln:l.length=n) (hn:n ≤ 1000000) (hs:SaneH l) {r:Bool} (hr:validHolds l=r) :
 Calls Tryz.prog 42 #[.slice A n c] w fun e w'=>e = .returned (.bool r)∧Below w.heap.size w w':=by
 subst hln hr
 exact hold_Valid A c l w hl hn hs
theorem hold_ActiveB (x:Hold) (day:Int) (w:World) {r:Bool} (hr:activeOn x day=r) :
 Calls Tryz.prog 45 #[.agg #[.int .i64 x.table, .int .i64 x.column, .string x.who.ns, .int .i64 x.who.val.kind, .int .i64 x.who.val.num, .string x.who.val.text, .int .i64 x.seq, .int .i64 x.day0, .int .i64 x.day1], .int .i64 day] w fun e w'=>e = .returned (.bool r)∧Ext w w':=by
 subst hr
 exact hold_Active x day w
theorem Hold.blk {w:World} {g:Nat} {x:Hold} (h:Blk w g 61 x.cells.toArray) :
 w.cell? ⟨g,0,none⟩=some (.int .i64 x.table)∧w.cell? ⟨g,1,none⟩=some (.int .i64 x.column)∧(w.cell? ⟨g,2,none⟩=some (.string x.who.ns)∧w.cell? ⟨g,3,none⟩=some (.int .i64 x.who.val.kind)∧w.cell? ⟨g,4,none⟩=some (.int .i64 x.who.val.num)∧w.cell? ⟨g,5,none⟩=some (.string x.who.val.text))∧w.cell? ⟨g,6,none⟩=some (.int .i64 x.seq)∧w.cell? ⟨g,7,none⟩=some (.int .i64 x.day0)∧w.cell? ⟨g,8,none⟩=some (.int .i64 x.day1) :=
 ⟨h.cell 0,h.cell 1,⟨h.cell 2,h.cell 3,h.cell 4,h.cell 5⟩,h.cell 6,h.cell 7,h.cell 8⟩
theorem Owned.blk {w:World} {g:Nat} {a b c d e f g' h:Value} (k:Blk w g 50 #[a,b,c,d,e,f,g',h]) :
 w.cell? ⟨g,0,none⟩=some a∧w.cell? ⟨g,1,none⟩=some b∧w.cell? ⟨g,2,none⟩=some c∧w.cell? ⟨g,3,none⟩=some d∧w.cell? ⟨g,4,none⟩=some e∧w.cell? ⟨g,5,none⟩=some f∧w.cell? ⟨g,6,none⟩=some g'∧w.cell? ⟨g,7,none⟩=some h :=
 ⟨k.cell 0,k.cell 1,k.cell 2,k.cell 3,k.cell 4,k.cell 5,k.cell 6,k.cell 7⟩
theorem idle_Blocking (w:World):CallsD Tryz.prog 46 #[] .returning w fun e u' w'=>e = .returned (.tuple #[])∧u' = .returning∧w'=w:=by
 refine callsD_of_wpS Tryz.func46 rfl fun c₀ cs hu => ?_
 apply wpS_region
 cases c₀
 simp_all [wpOpsS,go_sem,recoverD,Tryz.ntmps46,bodyPostS,results,Tryz.results46]
set_option maxRecDepth 100000 in
set_option maxHeartbeats 2000000 in
theorem hold_Blocking (A:Option Addr) (c n:Nat) (hs:List Hold) (AL:Option Addr) (cL nL:Nat) (l:List Link) (t col sq rec dy:Int) (A':Option Addr) (c' n':Nat) (own:List Ident) (nul lst:Bool) (day:Int) (w:World)
 (hh:SliceIs w w.heap.size Hold.cells 9 A hs) (hnh:hs.length=n) (hn32:n ≤ 1000000) (hsh:SaneH hs) (hl:SliceIs w w.heap.size Link.cells 10 AL l) (hnl:l.length=nL) (hnl':nL ≤ 1000000) (hsl:Sane l) (ho:SliceIs w w.heap.size Ident.cells 4 A' own) (hon:own.length=n') (hn':n' ≤ 1000000) :
 Calls Tryz.prog 16 #[.slice A n c, .slice AL nL cL, .agg #[.int .i64 t, .int .i64 col, .int .i64 sq, .int .i64 rec, .int .i64 dy, .slice A' n' c', .bool nul, .bool lst], .int .i64 day] w fun e w' =>
  (∃ v,e = .returned v∧Owns w' w.heap.size 3 intCells 1 v (blocking hs l t col own day))∧Below w.heap.size w w':=by
 obtain ⟨i0,hi0,hz0,hz1,hz2⟩:=info_parts infoIntT
 have HH:=qh hh
 have HL:=qh hl
 have HO:=qh ho
 have HSH:=qh hsh
 have HSL:=qh hsl
 clear hh hl ho hsh hsl
 cases hvh:validHolds hs
 ·have HVH:=qh hvh
  clear hvh
  go_enter_defers Tryz.func16,Tryz.ntmps16
  go_wp2_with (first
   | (go_at_call 42;(with_reducible refine (hold_ValidB A c n hs _ ((HH.out.below (B:=w.heap.size) (by exact belA)).mono leA) hnh hn32 HSH.out HVH.out).mono ?_);rintro e w1 ⟨rfl,hb1⟩;have hx1:Below w.heap.size w w1:=below_nextN (by exact belA) hb1 leA;obtain ⟨k1,f1,z1⟩:=keepB hb1 w.heap.size ltA)
   | (go_at_call 43;(with_reducible refine (identity_ValidN AL cL nL l _ ((HL.out.below hx1).mono hx1.size) hnl hnl' HSL.out HVL.out).mono ?_);rintro e w2 ⟨rfl,hb2⟩;have hx2:Below w.heap.size w w2:=below_nextN hx1 hb2 hx1.size))
  refine leaves_cons (f := 46) (args := #[]) (by simp) (by simp [go_sem]) ?_;refine (idle_Blocking _).mono ?_;rintro e u' w'' ⟨rfl,rfl,rfl⟩;refine ⟨_,results_tmp rfl _ _ _,?_⟩
  refine ⟨⟨_,rfl,?_⟩,hx1⟩
  rw [blocking,HVH.out]
  exact Owns.nil
 cases hvl:validLinks l
 ·have HVH:=qh hvh
  have HVL:=qh hvl
  clear hvh hvl
  go_enter_defers Tryz.func16,Tryz.ntmps16
  go_wp2_with (first
   | (go_at_call 42;(with_reducible refine (hold_ValidB A c n hs _ ((HH.out.below (B:=w.heap.size) (by exact belA)).mono leA) hnh hn32 HSH.out HVH.out).mono ?_);rintro e w1 ⟨rfl,hb1⟩;have hx1:Below w.heap.size w w1:=below_nextN (by exact belA) hb1 leA;obtain ⟨k1,f1,z1⟩:=keepB hb1 w.heap.size ltA)
   | (go_at_call 43;(with_reducible refine (identity_ValidN AL cL nL l _ ((HL.out.below hx1).mono hx1.size) hnl hnl' HSL.out HVL.out).mono ?_);rintro e w2 ⟨rfl,hb2⟩;have hx2:Below w.heap.size w w2:=below_nextN hx1 hb2 hx1.size))
  refine leaves_cons (f := 46) (args := #[]) (by simp) (by simp [go_sem]) ?_;refine (idle_Blocking _).mono ?_;rintro e u' w'' ⟨rfl,rfl,rfl⟩;refine ⟨_,results_tmp rfl _ _ _,?_⟩
  refine ⟨⟨_,rfl,?_⟩,hx2⟩
  rw [blocking,HVH.out,HVL.out]
  exact Owns.nil
 have hn:=hvh
 have hok : ∀ x∈hs,holdOk x=true:=by
  simp only [validHolds,Bool.and_eq_true,List.all_eq_true] at hvh
  exact hvh.2
 have hle:hs.length ≤ 32:=by
  simp only [validHolds,Bool.and_eq_true,decide_eq_true_eq] at hvh
  exact hvh.1
 have HOK:=qh hok
 have HVH:=qh hvh
 have HVL:=qh hvl
 clear hvh hvl hok hn
 go_enter_defers Tryz.func16,Tryz.ntmps16
 go_upto_region 4 with (first
  | (go_at_call 42;(with_reducible refine (hold_ValidB A c n hs _ ((HH.out.below (B:=w.heap.size) (by exact belA)).mono leA) hnh hn32 HSH.out HVH.out).mono ?_);rintro e w1 ⟨rfl,hb1⟩;have hx1:Below w.heap.size w w1:=below_nextN (by exact belA) hb1 leA;obtain ⟨k1,f1,z1⟩:=keepB hb1 w.heap.size ltA)
  | (go_at_call 43;(with_reducible refine (identity_ValidN AL cL nL l _ ((HL.out.below hx1).mono hx1.size) hnl hnl' HSL.out HVL.out).mono ?_);rintro e w2 ⟨rfl,hb2⟩;have hx2:Below w.heap.size w w2:=below_nextN hx1 hb2 hx1.size))
 refine abs_world (P:=fun u=>Code.wp _ _ _ _ u) (R:=fun u=>Blk u w.heap.size 50 #[.int .i64 t, .int .i64 col, .int .i64 sq, .int .i64 rec, .int .i64 dy, .slice A' n' c', .bool nul, .bool lst]∧Below w.heap.size w u) ⟨?_,?_⟩ ?_
 ·exact ((Blk.new _ _ _).below hb1 (by simp)).below hb2 z1
 ·exact hx2
 clear k1 f1 z1 hb1 hb2 hx1 hx2
 rintro W ⟨hB,hbW⟩
 have hzW:=hB.lt
 have HB:=qh hB
 clear hB
 go_wp2_with fail
 go_loopw [9,22] (fun vo vi wr => ∃ m:Nat,m≤hs.length∧vi = .int .i64 m∧Owns wr W.heap.size 3 intCells 1 vo (blockTo hs l t col own day m)∧Below W.heap.size W wr) (fun _ vi _=>hs.length - (intOf vi).toNat)
 case atStart=>exact ⟨0,Nat.zero_le _,rfl,Owns.nil,Below.refl _ _⟩
 case round =>
  obtain ⟨m,hm,rfl,hown,hbr⟩:=hrel
  have hwz:=hbr.size
  have hxr:=below_nextN hbW hbr hbW.size
  have hzr:=hxr.size
  by_cases hlt:m<hs.length
  ·obtain ⟨b5,o5,rfl,hb5,hc5⟩:=(HH.out.below hxr).get hlt
   obtain ⟨h0,h1,⟨h2,h3,h4,h5⟩,h6,h7,h8⟩:=Hold.cells9 hc5
   obtain ⟨q0,q1,q2,q3,q4,q5,q6,q7⟩:=Owned.blk (HB.out.below hbr hzW)
   have hsm:=HSH.out hs[m] (List.getElem_mem hlt)
   have hsq:hs[m].seq ≤ 9223372036854775807:=by
    obtain ⟨_,_,_,_,_,_,h,_⟩:=(holdOk_iff _).1 (HOK.out hs[m] (List.getElem_mem hlt))
    omega
   have HOWN:=qh hown
   have hrow:=hown.row
   have hbl:=blockTo_len hs l t col own day m
   clear hc5 hown
   cases ha:activeOn hs[m] day
   ·have HA:=qh ha
    clear ha
    go_wp2_with (go_at_call 45;(with_reducible refine (hold_ActiveB hs[m] day _ HA.out).mono ?_);rintro e w1 ⟨rfl,hb1⟩;have hx1:Below wr.heap.size wr w1:=below_nextN (by exact belA) hb1.1 leA)
    go_roundw
    case rel=>exact ⟨m + 1,by omega,by go_num,by rw [blockTo_step hlt,HA.out];exact HOWN.out.below hx1 (Nat.le_refl _),below_nextN hbr hx1 hwz⟩
    case measure=>simp [intOf];omega
   ·cases hcv:coversB hs[m] l t col own
    ·have HA:=qh ha
     have HCV:=qh hcv
     clear ha hcv
     go_wp2_with (first
      | (go_at_call 45;(with_reducible refine (hold_ActiveB hs[m] day _ HA.out).mono ?_);rintro e w1 ⟨rfl,hb1⟩;have hx1:Below wr.heap.size wr w1:=below_nextN (by exact belA) hb1.1 leA;obtain ⟨k1,f1,z1⟩:=keepE hb1 wr.heap.size ltA;have ko1:=(keepB hx1 w.heap.size (by omega)).1;have hy1:=below_nextN hxr hx1 hzr;have hzz1:=hx1.size)
      | (go_at_call 44;(with_reducible refine (hold_covers hs[m] AL cL nL l t col sq rec dy A' c' n' own nul lst _ ((HL.out.below hy1).mono hy1.size) hnl hnl' HSL.out hsm hsq ((HO.out.below hy1).mono hy1.size) hon hn' HCV.out).mono ?_);rintro e w2 ⟨rfl,hb2⟩;have hx2:Below wr.heap.size wr w2:=below_nextN hx1 hb2 hx1.size;have hzz2:=hx2.size))
     go_roundw
     case rel=>exact ⟨m + 1,by omega,by go_num,by rw [blockTo_step hlt,HA.out,HCV.out];exact HOWN.out.below hx2 (Nat.le_refl _),below_nextN hbr hx2 hwz⟩
     case measure=>simp [intOf];omega
    ·have HA:=qh ha
     have HCV:=qh hcv
     clear ha hcv
     go_upto_region 9 with (first
      | (go_at_call 45;(with_reducible refine (hold_ActiveB hs[m] day _ HA.out).mono ?_);rintro e w1 ⟨rfl,hb1⟩;have hx1:Below wr.heap.size wr w1:=below_nextN (by exact belA) hb1.1 leA;obtain ⟨k1,f1,z1⟩:=keepE hb1 wr.heap.size ltA;have ko1:=(keepB hx1 w.heap.size (by omega)).1;have hy1:=below_nextN hxr hx1 hzr;have hzz1:=hx1.size)
      | (go_at_call 44;(with_reducible refine (hold_covers hs[m] AL cL nL l t col sq rec dy A' c' n' own nul lst _ ((HL.out.below hy1).mono hy1.size) hnl hnl' HSL.out hsm hsq ((HO.out.below hy1).mono hy1.size) hon hn' HCV.out).mono ?_);rintro e w2 ⟨rfl,hb2⟩;have hx2:Below wr.heap.size wr w2:=below_nextN hx1 hb2 hx1.size;have hzz2:=hx2.size))
     have hO2:Owns (w2.alloc (.cells #[.int .i64 (m:Int)] 3)) W.heap.size 3 intCells 1 u9 (blockTo hs l t col own day m):=(HOWN.out.below hx2 (Nat.le_refl _)).alloc _
     have hone:SliceIs (w2.alloc (.cells #[.int .i64 (m:Int)] 3)) (w2.alloc (.cells #[.int .i64 (m:Int)] 3)).heap.size intCells 1 (some ⟨w2.heap.size,0,none⟩) [(m:Int)]:=Blk.one (enc:=intCells) (x:=(m:Int)) (Blk.new' rfl) (by simp)
     have HO2:=qh hO2
     have HONE:=qh hone
     clear hO2 hone
     go_wp2_with (at_builtin;go_must ((refine wpList_append_list _ rfl (.tmp 36) (.tmp 38) 22 rfl 3 i0 _ intCells 1 8 Tryz.underlying22 hi0 hz0 hz1 hz2 rfl (by omega) int_len int_one W.heap.size u9 (blockTo hs l t col own day m) rfl HO2.out _ _ _ [(m:Int)] rfl rfl HONE.out (by simp;omega) (by simp [maxLen];omega) (by simp;omega) ?_);intro v' w3 hown' hg' hat';have HOWN':=qh hown';clear hown';have hbel:Below W.heap.size W w3:=Below.grown ((below_nextN hbr hx2 hwz).alloc (by omega) _) hg' (by simp;omega) (fun q e=>by have:=hrow q e;omega)))
     go_roundw
     case rel=>exact ⟨m + 1,by omega,by go_num,by rw [blockTo_step hlt,HA.out,HCV.out];exact HOWN'.out,hbel⟩
     case measure=>simp [intOf];omega
  ·have hlt':decide (m<hs.length)=false:=by simpa using hlt
   obtain rfl:m=hs.length:=by omega
   go_wp2_with fail
   refine leaves_cons (f := 46) (args := #[]) (by simp) (by simp [go_sem]) ?_;refine (idle_Blocking _).mono ?_;rintro e u' w'' ⟨rfl,rfl,rfl⟩;refine ⟨_,results_tmp rfl _ _ _,?_⟩
   refine ⟨⟨_,rfl,?_⟩,hxr⟩
   rw [blocking,HVH.out,HVL.out]
   exact hown.mono hbW.size
theorem infoHold:(Tryz.prog.info? 61).map (fun i=>(i.zero,i.size,i.bytes))=some (some (.agg #[.int .i64 0, .int .i64 0, .string ⟨#[]⟩, .int .i64 0, .int .i64 0, .string ⟨#[]⟩, .int .i64 0, .int .i64 0, .int .i64 0]),9,88):=by kernel_rfl
theorem hold_len : ∀ x:Hold,(Hold.cells x).length = 9:=fun _=>rfl
theorem hold_one : ∀ x:Hold,∀ u∈Hold.cells x,u.oneCell'=true:=by
 intro x u hu
 simp only [Hold.cells,List.mem_cons,List.not_mem_nil,or_false] at hu
 rcases hu with rfl|rfl|rfl|rfl|rfl|rfl|rfl|rfl|rfl <;> rfl
noncomputable def covering (hs:List Hold) (l:List Link) (t c:Int) (own:List Ident) (day:Int):List Hold:=hs.filter (fun x=>decide (day<x.day1)&&coversB x l t c own)
theorem covering_step {hs:List Hold} {l:List Link} {t c:Int} {own:List Ident} {day:Int} {m:Nat} (h:m<hs.length):covering (hs.take (m + 1)) l t c own day=if (decide (day<hs[m].day1)&&coversB hs[m] l t c own)=true then covering (hs.take m) l t c own day ++ [hs[m]] else covering (hs.take m) l t c own day:=by
 unfold covering
 rw [List.take_succ_eq_append_getElem h,List.filter_append]
 split
 ·rename_i hh
  rw [List.filter_cons_of_pos (by exact hh)]
  rfl
 ·rename_i hh
  rw [List.filter_cons_of_neg (by exact hh)]
  simp
theorem covering_len (hs:List Hold) (l:List Link) (t c:Int) (own:List Ident) (day:Int):(covering hs l t c own day).length≤hs.length:=List.length_filter_le _ _
structure UInv (cov:List Hold) (day u:Int):Prop where
 le:day≤u
 held : ∀ d,day≤d→d<u → ∃ x∈cov,activeOn x d=true
def UntilOut (cov:List Hold) (day r:Int):Prop := ∃ u,UInv cov day u∧(∀ x∈cov,activeOn x u=false)∧r=if u=day then 0 else u
structure EInv (cov:List Hold) (u e:Int) (m:Nat):Prop where
 le:u≤e
 at_:e=u ∨ ∃ x∈cov,activeOn x u=true∧x.day1=e
 all : ∀ i (h:i<cov.length),i<m→activeOn cov[i] u=true→cov[i].day1≤e
theorem EInv.skip {cov:List Hold} {u e:Int} {m:Nat} (h:EInv cov u e m) (hm:m<cov.length) (ha:activeOn cov[m] u=false):EInv cov u e (m + 1) :=
 ⟨h.le,h.at_,fun i hi him hai=>by
  rcases Nat.lt_or_ge i m with k|k
  ·exact h.all i hi k hai
  ·obtain rfl:i=m:=by omega
   rw [ha] at hai
   cases hai⟩
theorem EInv.take {cov:List Hold} {u e:Int} {m:Nat} (h:EInv cov u e m) (hm:m<cov.length) (ha:activeOn cov[m] u=true):EInv cov u (max e cov[m].day1) (m + 1):=by
 have hl:=h.le
 rcases Int.le_total e cov[m].day1 with hg|hg
 ·rw [Int.max_eq_right hg]
  refine ⟨by omega, .inr ⟨cov[m],List.getElem_mem hm,ha,rfl⟩,fun i hi him hai => ?_⟩
  rcases Nat.lt_or_ge i m with k|k
  ·have:=h.all i hi k hai
   omega
  ·obtain rfl:i=m:=by omega
   exact Int.le_refl _
 ·rw [Int.max_eq_left hg]
  refine ⟨hl,h.at_,fun i hi him hai => ?_⟩
  rcases Nat.lt_or_ge i m with k|k
  ·exact h.all i hi k hai
  ·obtain rfl:i=m:=by omega
   omega
theorem active_iff {x:Hold} {d:Int}:activeOn x d=true↔x.day0≤d∧d<x.day1:=by simp [activeOn]
theorem EInv.free {cov:List Hold} {u:Int} (h:EInv cov u u cov.length) : ∀ x∈cov,activeOn x u=false:=by
 intro x hx
 obtain ⟨i,hi,rfl⟩:=List.getElem_of_mem hx
 cases ha:activeOn cov[i] u
 ·rfl
 ·have h1:=h.all i hi hi ha
  have h2:=(active_iff.1 ha).2
  omega
theorem EInv.go {cov:List Hold} {day u e:Int} {m:Nat} (h:EInv cov u e m) (hu:UInv cov day u):UInv cov day e:=by
 have h1:=h.le
 have h2:=hu.le
 refine ⟨by omega,fun d hd hde => ?_⟩
 rcases Int.lt_or_le d u with k|k
 ·exact hu.held d hd k
 ·rcases h.at_ with e1|⟨x,hx,ha,hxe⟩
  ·omega
  ·have:=active_iff.1 ha
   exact ⟨x,hx,active_iff.2 ⟨by omega,by omega⟩⟩
theorem idle_Until (w:World):CallsD Tryz.prog 41 #[] .returning w fun e u' w'=>e = .returned (.tuple #[])∧u' = .returning∧w'=w:=by
 refine callsD_of_wpS Tryz.func41 rfl fun c₀ cs hu => ?_
 apply wpS_region
 cases c₀
 simp_all [wpOpsS,go_sem,recoverD,Tryz.ntmps41,bodyPostS,results,Tryz.results41]
set_option maxRecDepth 100000 in
set_option maxHeartbeats 2000000 in
theorem hold_Until (A:Option Addr) (c n:Nat) (hs:List Hold) (AL:Option Addr) (cL nL:Nat) (l:List Link) (t col sq rec dy:Int) (A':Option Addr) (c' n':Nat) (own:List Ident) (nul lst:Bool) (day:Int) (w:World)
 (hh:SliceIs w w.heap.size Hold.cells 9 A hs) (hnh:hs.length=n) (hn32:n ≤ 1000000) (hsh:SaneH hs) (hl:SliceIs w w.heap.size Link.cells 10 AL l) (hnl:l.length=nL) (hnl':nL ≤ 1000000) (hsl:Sane l) (ho:SliceIs w w.heap.size Ident.cells 4 A' own) (hon:own.length=n') (hn':n' ≤ 1000000) :
 Calls Tryz.prog 15 #[.slice A n c, .slice AL nL cL, .agg #[.int .i64 t, .int .i64 col, .int .i64 sq, .int .i64 rec, .int .i64 dy, .slice A' n' c', .bool nul, .bool lst], .int .i64 day] w fun e w' =>
  (∃ r,e = .returned (.int .i64 r)∧if (validHolds hs&&validLinks l)=true then UntilOut (covering hs l t col own day) day r else r = 0)∧Below w.heap.size w w':=by
 subst hnh hnl hon
 obtain ⟨i0,hi0,hz0,hz1,hz2⟩:=info_parts infoHold
 have HH:=qh hh
 have HL:=qh hl
 have HO:=qh ho
 have HSH:=qh hsh
 have HSL:=qh hsl
 clear hh hl ho hsh hsl
 cases hvh:validHolds hs
 ·have HVH:=qh hvh
  clear hvh
  go_enter_defers Tryz.func15,Tryz.ntmps15
  go_wp2_with (first
   | (go_at_call 42;(with_reducible refine (hold_ValidB A c hs.length hs _ ((HH.out.below (B:=w.heap.size) (by exact belA)).mono leA) rfl hn32 HSH.out HVH.out).mono ?_);rintro e w1 ⟨rfl,hb1⟩;have hx1:Below w.heap.size w w1:=below_nextN (by exact belA) hb1 leA;obtain ⟨k1,f1,z1⟩:=keepB hb1 w.heap.size ltA)
   | (go_at_call 43;(with_reducible refine (identity_ValidN AL cL l.length l _ ((HL.out.below hx1).mono hx1.size) rfl hnl' HSL.out HVL.out).mono ?_);rintro e w2 ⟨rfl,hb2⟩;have hx2:Below w.heap.size w w2:=below_nextN hx1 hb2 hx1.size))
  refine leaves_cons (f := 41) (args := #[]) (by simp) (by simp [go_sem]) ?_;refine (idle_Until _).mono ?_;rintro e u' w'' ⟨rfl,rfl,rfl⟩;refine ⟨_,results_tmp rfl _ _ _,?_⟩
  exact ⟨rfl,hx1⟩
 cases hvl:validLinks l
 ·have HVH:=qh hvh
  have HVL:=qh hvl
  clear hvh hvl
  go_enter_defers Tryz.func15,Tryz.ntmps15
  go_wp2_with (first
   | (go_at_call 42;(with_reducible refine (hold_ValidB A c hs.length hs _ ((HH.out.below (B:=w.heap.size) (by exact belA)).mono leA) rfl hn32 HSH.out HVH.out).mono ?_);rintro e w1 ⟨rfl,hb1⟩;have hx1:Below w.heap.size w w1:=below_nextN (by exact belA) hb1 leA;obtain ⟨k1,f1,z1⟩:=keepB hb1 w.heap.size ltA)
   | (go_at_call 43;(with_reducible refine (identity_ValidN AL cL l.length l _ ((HL.out.below hx1).mono hx1.size) rfl hnl' HSL.out HVL.out).mono ?_);rintro e w2 ⟨rfl,hb2⟩;have hx2:Below w.heap.size w w2:=below_nextN hx1 hb2 hx1.size))
  refine leaves_cons (f := 41) (args := #[]) (by simp) (by simp [go_sem]) ?_;refine (idle_Until _).mono ?_;rintro e u' w'' ⟨rfl,rfl,rfl⟩;refine ⟨_,results_tmp rfl _ _ _,?_⟩
  exact ⟨rfl,hx2⟩
 have hok : ∀ x∈hs,holdOk x=true:=by
  simp only [validHolds,Bool.and_eq_true,List.all_eq_true] at hvh
  exact hvh.2
 have hle:hs.length ≤ 32:=by
  simp only [validHolds,Bool.and_eq_true,decide_eq_true_eq] at hvh
  exact hvh.1
 have HOK:=qh hok
 have HVH:=qh hvh
 have HVL:=qh hvl
 clear hvh hvl hok
 go_enter_defers Tryz.func15,Tryz.ntmps15
 go_upto_region 4 with (first
  | (go_at_call 42;(with_reducible refine (hold_ValidB A c hs.length hs _ ((HH.out.below (B:=w.heap.size) (by exact belA)).mono leA) rfl hn32 HSH.out HVH.out).mono ?_);rintro e w1 ⟨rfl,hb1⟩;have hx1:Below w.heap.size w w1:=below_nextN (by exact belA) hb1 leA;obtain ⟨k1,f1,z1⟩:=keepB hb1 w.heap.size ltA)
  | (go_at_call 43;(with_reducible refine (identity_ValidN AL cL l.length l _ ((HL.out.below hx1).mono hx1.size) rfl hnl' HSL.out HVL.out).mono ?_);rintro e w2 ⟨rfl,hb2⟩;have hx2:Below w.heap.size w w2:=below_nextN hx1 hb2 hx1.size))
 refine abs_world (P:=fun u=>Code.wp _ _ _ _ u) (R:=fun u=>Blk u w.heap.size 50 #[.int .i64 t, .int .i64 col, .int .i64 sq, .int .i64 rec, .int .i64 dy, .slice A' own.length c', .bool nul, .bool lst]∧Below w.heap.size w u) ⟨?_,?_⟩ ?_
 ·exact ((Blk.new _ _ _).below hb1 (by simp)).below hb2 z1
 ·exact hx2
 clear k1 f1 z1 hb1 hb2 hx1 hx2
 rintro W ⟨hB,hbW⟩
 have hzW:=hB.lt
 have HB:=qh hB
 clear hB
 go_wp2_with fail
 go_loopw [9,26] (fun vo vi wr => ∃ m:Nat,m≤hs.length∧vi = .int .i64 m∧Owns wr W.heap.size 61 Hold.cells 9 vo (covering (hs.take m) l t col own day)∧Below W.heap.size W wr) (fun _ vi _=>hs.length - (intOf vi).toNat)
 case atStart=>exact ⟨0,Nat.zero_le _,rfl,Owns.nil,Below.refl _ _⟩
 case round =>
  obtain ⟨m,hm,rfl,hown,hbr⟩:=hrel
  have hwz:=hbr.size
  have hxr:=below_nextN hbW hbr hbW.size
  have hzr:=hxr.size
  by_cases hlt:m<hs.length
  ·obtain ⟨b5,o5,rfl,hb5,hc5⟩:=(HH.out.below hxr).get hlt
   obtain ⟨h0,h1,⟨h2,h3,h4,h5⟩,h6,h7,h8⟩:=Hold.cells9 hc5
   obtain ⟨q0,q1,q2,q3,q4,q5,q6,q7⟩:=Owned.blk (HB.out.below hbr hzW)
   have hsm:=HSH.out hs[m] (List.getElem_mem hlt)
   have hsq:hs[m].seq ≤ 9223372036854775807:=by
    obtain ⟨_,_,_,_,_,_,h,_⟩:=(holdOk_iff _).1 (HOK.out hs[m] (List.getElem_mem hlt))
    omega
   have hzw':w.heap.size<wr.heap.size:=by omega
   have HOWN:=qh hown
   have hrow:=hown.row
   have hbl:(covering (hs.take m) l t col own day).length≤m:=Nat.le_trans (covering_len _ _ _ _ _ _) (by simp;omega)
   clear hc5 hown
   cases ha:decide (day<hs[m].day1)
   ·have HA:=qh ha
    go_wp2_with fail
    clear ha
    go_roundw
    case rel=>exact ⟨m + 1,by omega,by go_num,by rw [covering_step hlt,HA.out];exact HOWN.out.alloc _,hbr.alloc hwz _⟩
    case measure=>simp [intOf];omega
   ·cases hcv:coversB hs[m] l t col own
    ·have HA:=qh ha
     have HCV:=qh hcv
     clear hcv
     go_wp2_with (go_at_call 44;(with_reducible refine (hold_covers hs[m] AL cL l.length l t col sq rec dy A' c' own.length own nul lst _ ((HL.out.below (B:=w.heap.size) (by exact belA)).mono leA) rfl hnl' HSL.out hsm hsq ((HO.out.below (B:=w.heap.size) (by exact belA)).mono leA) rfl hn' HCV.out).mono ?_);rintro e w2 ⟨rfl,hb2⟩;have hx2:Below wr.heap.size wr w2:=below_nextN (by exact belA) hb2 leA;have hzz2:=hx2.size;obtain ⟨k2,f2,z2⟩:=keepB hb2 wr.heap.size ltA)
     clear ha
     go_roundw
     case rel=>exact ⟨m + 1,by omega,by go_num,by rw [covering_step hlt,HA.out,HCV.out];exact HOWN.out.below hx2 (Nat.le_refl _),below_nextN hbr hx2 hwz⟩
     case measure=>simp [intOf];omega
    ·have HA:=qh ha
     have HCV:=qh hcv
     clear hcv
     go_upto_region 9 with (go_at_call 44;(with_reducible refine (hold_covers hs[m] AL cL l.length l t col sq rec dy A' c' own.length own nul lst _ ((HL.out.below (B:=w.heap.size) (by exact belA)).mono leA) rfl hnl' HSL.out hsm hsq ((HO.out.below (B:=w.heap.size) (by exact belA)).mono leA) rfl hn' HCV.out).mono ?_);rintro e w2 ⟨rfl,hb2⟩;have hx2:Below wr.heap.size wr w2:=below_nextN (by exact belA) hb2 leA;have hzz2:=hx2.size;obtain ⟨k2,f2,z2⟩:=keepB hb2 wr.heap.size ltA)
     have hO2:Owns (w2.alloc (.cells hs[m].cells.toArray 61)) W.heap.size 61 Hold.cells 9 u9 (covering (hs.take m) l t col own day):=(HOWN.out.below hx2 (Nat.le_refl _)).alloc _
     have hone:SliceIs (w2.alloc (.cells hs[m].cells.toArray 61)) (w2.alloc (.cells hs[m].cells.toArray 61)).heap.size Hold.cells 9 (some ⟨w2.heap.size,0,none⟩) [hs[m]]:=Blk.one (enc:=Hold.cells) (x:=hs[m]) (Blk.new' rfl) (by simp)
     have HO2:=qh hO2
     have HONE:=qh hone
     clear hO2 hone ha
     go_wp2_with (at_builtin;go_must ((refine wpList_append_list _ rfl (.tmp 40) (.tmp 42) 40 rfl 61 i0 _ Hold.cells 9 88 Tryz.underlying40 hi0 hz0 hz1 hz2 rfl (by omega) hold_len hold_one W.heap.size u9 (covering (hs.take m) l t col own day) rfl HO2.out _ _ _ [hs[m]] rfl rfl HONE.out (by simp;omega) (by simp [maxLen];omega) (by simp;omega) ?_);intro v' w3 hown' hg' hat';have HOWN':=qh hown';clear hown';have hbel:Below W.heap.size W w3:=Below.grown ((below_nextN hbr hx2 hwz).alloc (by omega) _) hg' (by simp;omega) (fun q e=>by have:=hrow q e;omega)))
     go_roundw
     case rel=>exact ⟨m + 1,by omega,by go_num,by rw [covering_step hlt,HA.out,HCV.out];exact HOWN'.out,hbel⟩
     case measure=>simp [intOf];omega
  ·have hlt':decide (m<hs.length)=false:=by simpa using hlt
   obtain rfl:m=hs.length:=by omega
   rw [List.take_length] at hown
   obtain ⟨A9,c9,rfl,hc9,hs9,hA9⟩:=hown.slice hold_len
   obtain ⟨cov,hcov⟩ : ∃ cov,covering hs l t col own day=cov:=⟨_,rfl⟩
   have hcl:cov.length ≤ 32:=by have:=covering_len hs l t col own day;rw [hcov] at this;omega
   have hend : ∀ x∈cov,x.day1 ≤ 1048576:=fun x hx=>by
    rw [← hcov] at hx
    have:=(holdOk_iff x).1 (HOK.out x (List.mem_filter.1 hx).1)
    exact this.2.2.2.2.2.2.2.2.2.2
   rw [hcov] at hs9
   rw [hcov]
   have HCOV:=qh hcov
   have HEND:=qh hend
   have HS9:=qh hs9
   clear hcov hend hs9 hown hA9 hlt'
   obtain ⟨wo,rfl⟩ : ∃ wo:World,wo=wr:=⟨_,rfl⟩
   go_wp2_with fail
   go_loopw [12] (fun vu wr => ∃ u:Int,vu = .int .i64 u∧UInv cov day u∧Below wo.heap.size wo wr) (fun vu _=>(1048576 - intOf vu).toNat)
   case atStart=>exact ⟨day,rfl,⟨Int.le_refl _,fun d h1 h2=>by omega⟩,Below.refl _ _⟩
   case round =>
    obtain ⟨u,rfl,hui,hbo⟩:=hrel
    have HUI:=qh hui
    clear hui
    obtain ⟨wp,rfl⟩ : ∃ wp:World,wp=wr:=⟨_,rfl⟩
    go_wp2_with fail
    go_loopw [13,49] (fun ve vi wr => ∃ (e:Int) (k:Nat),k≤cov.length∧vi = .int .i64 k∧ve = .int .i64 e∧EInv cov u e k∧Below wp.heap.size wp wr) (fun _ vi _=>cov.length - (intOf vi).toNat)
    case atStart=>exact ⟨u,0,Nat.zero_le _,rfl,rfl,⟨Int.le_refl _, .inl rfl,fun i _ h=>by omega⟩,Below.refl _ _⟩
    case round =>
     obtain ⟨e,k,hk,rfl,rfl,hei,hbi⟩:=hrel
     have HEI:=qh hei
     have hbx:=below_nextN hbo hbi hbo.size
     have hpz:=hbi.size
     clear hei
     by_cases hkl:k<cov.length
     ·obtain ⟨b5,o5,rfl,hb5,hc5⟩:=(HS9.out.next hbx).get hkl
      obtain ⟨h0,h1,⟨h2,h3,h4,h5⟩,h6,h7,h8⟩:=Hold.cells9 hc5
      clear hc5
      cases ha:activeOn cov[k] u
      ·have HA:=qh ha
       clear ha
       go_wp2_with (go_at_call 45;(with_reducible refine (hold_ActiveB cov[k] u _ HA.out).mono ?_);rintro e w1 ⟨rfl,hb1⟩;have hx1:Below wr.heap.size wr w1:=below_nextN (by exact belA) hb1.1 leA)
       go_roundw
       case rel=>exact ⟨e,k + 1,by omega,by go_num,rfl,HEI.out.skip hkl HA.out,below_nextN hbi hx1 hpz⟩
       case measure=>simp [intOf];omega
      ·have HA:=qh ha
       clear ha
       go_wp2_with (go_at_call 45;(with_reducible refine (hold_ActiveB cov[k] u _ HA.out).mono ?_);rintro e w1 ⟨rfl,hb1⟩;have hx1:Below wr.heap.size wr w1:=below_nextN (by exact belA) hb1.1 leA;obtain ⟨k1,f1,z1⟩:=keepE hb1 wr.heap.size ltA)
       go_roundw
       case rel=>exact ⟨max e cov[k].day1,k + 1,by omega,by go_num,rfl,HEI.out.take hkl HA.out,below_nextN hbi hx1 hpz⟩
       case measure=>simp [intOf];omega
     ·have hkl':decide (k<cov.length)=false:=by simpa using hkl
      obtain rfl:k=cov.length:=by omega
      by_cases heu:e=u
      ·subst heu
       by_cases hed:e=day
       ·have hed':(e==day)=true:=by simpa using hed
        go_wp2_with fail
        refine leaves_cons (f := 41) (args := #[]) (by simp) (by simp [go_sem]) ?_;refine (idle_Until _).mono ?_;rintro e u' w'' ⟨rfl,rfl,rfl⟩;refine ⟨_,results_tmp rfl _ _ _,?_⟩
        refine ⟨⟨_,rfl,?_⟩,below_nextN hxr hbx hzr⟩
        rw [HCOV.out]
        exact ⟨e,HUI.out,HEI.out.free,by rw [if_pos hed]⟩
       ·have hed':(e==day)=false:=by simpa using hed
        go_wp2_with fail
        refine leaves_cons (f := 41) (args := #[]) (by simp) (by simp [go_sem]) ?_;refine (idle_Until _).mono ?_;rintro e u' w'' ⟨rfl,rfl,rfl⟩;refine ⟨_,results_tmp rfl _ _ _,?_⟩
        refine ⟨⟨_,rfl,?_⟩,below_nextN hxr hbx hzr⟩
        rw [HCOV.out]
        exact ⟨e,HUI.out,HEI.out.free,by rw [if_neg hed]⟩
      ·have heu':(e==u)=false:=by simpa using heu
       have hlu:u<e:=by have:=HEI.out.le;omega
       have hle2:e ≤ 1048576:=by
        rcases HEI.out.at_ with h|⟨x,hx,_,h⟩
        ·omega
        ·rw [← h];exact HEND.out x hx
       go_wp2_with fail
       go_roundw
       case rel=>exact ⟨e,rfl,HEI.out.go HUI.out,hbx⟩
       case measure=>simp [intOf];omega
theorem Blk.all {α : Type} {w:World} {g B k:Nat} {t:TypeId} {enc : α → List Value} {l:List α} (hk : ∀ x,(enc x).length=k) (h:Blk w g t (l.flatMap enc).toArray) (hB:g<B):SliceIs w B enc k (some ⟨g,0,none⟩) l :=
 fun _=>⟨g,0,rfl,hB,fun i hi j u hu=>by rw [h.cell,Nat.zero_add];simpa using flat_get hk l i hi j u hu⟩
set_option maxRecDepth 100000 in
set_option maxHeartbeats 1000000 in
theorem sameInts (A A':Option Addr) (c c' n n':Nat) (a b:List Int) (w:World) (ha:SliceIs w w.heap.size intCells 1 A a) (hb:SliceIs w w.heap.size intCells 1 A' b) (hna:a.length=n) (hnb:b.length=n') (hn:n ≤ 1000000) (hn':n' ≤ 1000000) {r:Bool} (hr:decide (a=b)=r) :
 Calls Tryz.prog 47 #[.slice A n c, .slice A' n' c'] w fun e w'=>e = .returned (.bool r)∧Below w.heap.size w w':=by
 subst hna hnb hr
 have HA:=qh ha
 have HB:=qh hb
 clear ha hb
 by_cases hl:a.length=b.length
 ·have hl':((a.length:Int)==(b.length:Int))=true:=by rw [hl];simp
  have HLL:=qh hl
  go_enter Tryz.func47,Tryz.ntmps47
  go_wp2_with fail
  clear hl hl'
  go_loopw [5] (fun vi wr => ∃ m:Nat,m≤a.length∧vi = .int .i64 m∧Below w.heap.size w wr∧(∀ i (h:i<a.length) (h':i<b.length),i<m→a[i]=b[i])) (fun vi _=>a.length - (intOf vi).toNat)
  case atStart=>exact ⟨0,Nat.zero_le _,rfl,by exact belA,fun i _ _ h=>by omega⟩
  case round =>
   obtain ⟨m,hm,rfl,hbw,hok⟩:=hrel
   have HOK:=qh hok
   have hwz:=hbw.size
   clear hok
   by_cases hlt:m<a.length
   ·have hltb:m<b.length:=by have:=HLL.out;omega
    obtain ⟨b5,o5,rfl,hb5,hc5⟩:=(HA.out.below hbw).get hlt
    obtain ⟨b6,o6,rfl,hb6,hc6⟩:=(HB.out.below hbw).get hltb
    have x0:=hc5 0 _ rfl
    have y0:=hc6 0 _ rfl
    simp only [Nat.mul_one,Nat.add_zero] at x0 y0
    have hk0:=keepQ (w:=wr) b5 (by omega)
    have hk1:=keepQ (w:=wr) b6 (by omega)
    clear hc5 hc6
    cases he:(a[m] != b[m])
    ·have HE:=qh he
     go_upto_region 6 with (fail)
     refine wp_region_bel (by kernel_rfl) (by kernel_rfl) ?_;(repeat (go_big_quiet_step (fail)));refine wpQuiet_nil ?_;intro wq hq
     clear he
     go_wp2_with fail
     go_roundw
     case rel=>exact ⟨m + 1,by omega,by go_num,below_nextN hbw hq hwz,fun i h h' hi=>by
      rcases Nat.lt_or_ge i m with h1|h1
      ·exact HOK.out i h h' h1
      ·obtain rfl:i=m:=by omega
       exact by simpa using HE.out⟩
     case measure=>simp [intOf];omega
    ·have HE:=qh he
     go_upto_region 6 with (fail)
     refine wp_region_bel (by kernel_rfl) (by kernel_rfl) ?_;(repeat (go_big_quiet_step (fail)));refine wpQuiet_nil ?_;intro wq hq
     clear he
     go_wp2_with fail
     go_ret
     refine ⟨ret_bool ?_,below_nextN hbw hq hwz⟩
     symm
     rw [decide_eq_false_iff_not]
     rintro rfl
     have:=HE.out
     simp at this
   ·have hlt':decide (m<a.length)=false:=by simpa using hlt
    go_wp2_with fail
    go_ret
    refine ⟨ret_bool ?_,hbw⟩
    symm
    rw [decide_eq_true_iff]
    exact List.ext_getElem HLL.out fun i h h'=>HOK.out i h h' (by omega)
 ·have hl':((a.length:Int)==(b.length:Int))=false:=by rw [beq_eq_false_iff_ne];omega
  go_enter Tryz.func47,Tryz.ntmps47
  go_wp2_with fail
  go_ret
  refine ⟨ret_bool ?_,by exact belA⟩
  symm
  rw [decide_eq_false_iff_not]
  rintro rfl
  exact hl rfl
def hA:Hold:=⟨-1,-1,noId,1,3,5⟩
def hB:Hold:=⟨-1,-1,noId,1,5,9⟩
theorem ab_valid:validHolds [hA,hB]=true:=by
 have h1:holdOk hA=true:=(holdOk_iff _).2 ⟨by decide,by decide,by decide,by decide,fun _=>rfl,by decide,by decide, .inl rfl,by decide,by decide,by decide⟩
 have h2:holdOk hB=true:=(holdOk_iff _).2 ⟨by decide,by decide,by decide,by decide,fun _=>rfl,by decide,by decide, .inl rfl,by decide,by decide,by decide⟩
 simp [validHolds,h1,h2]
theorem ab_sane:SaneH [hA,hB]:=by
 intro x hx
 simp only [List.mem_cons,List.not_mem_nil,or_false] at hx
 rcases hx with rfl|rfl <;> exact Nat.zero_le _
theorem no_links:validLinks []=true:=by rfl
theorem all_covers {x:Hold} (h1:x.table = -1) (h2:x.column = -1) (h3:x.who=noId) (l:List Link) (t c:Int) (own:List Ident):coversB x l t c own=true:=by
 unfold coversB concernsB
 rw [h1,h2,h3]
 simp
theorem ab_blocking:blocking [hA,hB] [] 0 0 [] 4 = [0]:=by
 have c1:=all_covers (x:=hA) rfl rfl rfl [] 0 0 []
 have c2:=all_covers (x:=hB) rfl rfl rfl [] 0 0 []
 have a1:activeOn hA 4=true:=by decide
 have a2:activeOn hB 4=false:=by decide
 rw [blocking,ab_valid,no_links,if_pos (by rfl)]
 show blockTo [hA,hB] [] 0 0 [] 4 (0 + 1 + 1) = [0]
 rw [blockTo_step (by simp),blockTo_step (by simp)]
 simp [c1,a1,a2,blockTo]
theorem ab_until {r:Int} (h:UntilOut (covering [hA,hB] [] 0 0 [] 4) 4 r):r = 9:=by
 have c1:=all_covers (x:=hA) rfl rfl rfl [] 0 0 []
 have c2:=all_covers (x:=hB) rfl rfl rfl [] 0 0 []
 have e:covering [hA,hB] [] 0 0 [] 4 = [hA,hB]:=by
  unfold covering
  rw [List.filter_cons_of_pos (by rw [c1];rfl),List.filter_cons_of_pos (by rw [c2];rfl)]
  rfl
 rw [e] at h
 obtain ⟨u,hu,hf,hr⟩:=h
 have f1:=hf hA (by simp)
 have f2:=hf hB (by simp)
 have n1 : ¬ (3≤u∧u < 5):=fun k=>by rw [(active_iff (x:=hA)).2 k] at f1;cases f1
 have n2 : ¬ (5≤u∧u < 9):=fun k=>by rw [(active_iff (x:=hB)).2 k] at f2;cases f2
 have hl:=hu.le
 have h9:u ≤ 9:=by
  rcases Int.lt_or_le 9 u with k|k
  ·obtain ⟨x,hx,ha⟩:=hu.held 9 (by omega) k
   simp only [List.mem_cons,List.not_mem_nil,or_false] at hx
   rcases hx with rfl|rfl <;> exact absurd ha (by decide)
  ·exact k
 rw [hr,if_neg (by omega)]
 omega
theorem ab_over {r:Int} (h:UntilOut (covering [hA,hB] [] 0 0 [] 9) 9 r):r = 0:=by
 have e:covering [hA,hB] [] 0 0 [] 9 = []:=by
  unfold covering
  rw [List.filter_cons_of_neg (by rw [show decide ((9:Int)<hA.day1)=false by decide];simp),List.filter_cons_of_neg (by rw [show decide ((9:Int)<hB.day1)=false by decide];simp)]
  rfl
 rw [e] at h
 obtain ⟨u,hu,_,hr⟩:=h
 have hl:=hu.le
 rcases Int.lt_or_le 9 u with k|k
 ·obtain ⟨x,hx,_⟩:=hu.held 9 (by omega) k
  cases hx
 ·rw [hr,if_pos (by omega)]
set_option maxRecDepth 100000 in
set_option maxHeartbeats 2000000 in
theorem hawake_any (w:World):Calls Tryz.prog 17 #[] w fun e w'=>e = .returned (.bool true)∧Below w.heap.size w w':=by
 go_enter Tryz.func17,Tryz.ntmps17
 go_upto_region 2 with (fail)
 refine abs_world (P:=fun u=>Code.wp _ _ _ _ u) (R:=fun u=>SliceIs u (w.heap.size + 1) Hold.cells 9 (some ⟨w.heap.size,0,none⟩) [hA,hB]∧Below w.heap.size w u∧w.heap.size<u.heap.size) ⟨?_,?_,?_⟩ ?_
 ·exact Blk.all (t := 61) (l := [hA,hB]) hold_len (Blk.new _ _ _) (by simp)
 ·exact belA
 ·simp
 rintro W ⟨hsl,hbW,hzW⟩
 obtain ⟨b5,o5,e5,hb5,hc5⟩:=hsl.get (i := 0) (by simp)
 injection e5 with e5
 injection e5 with e51 e52
 subst e51 e52
 obtain ⟨g0,g1,⟨g2,g3,g4,g5⟩,g6,g7,g8⟩:=Hold.cells9 hc5
 simp only [List.getElem_cons_zero,hA,noId,Nat.zero_mul,Nat.add_zero,Nat.zero_add] at g0 g1 g2 g3 g4 g5 g6 g7 g8
 have HS:=qh (hsl.mono (show w.heap.size + 1≤W.heap.size by omega))
 have HVV:=qh ab_valid
 clear hc5 hsl
 go_wp2_with fail
 refine (hold_ValidB (some ⟨w.heap.size,0,none⟩) 2 2 [hA,hB] _ HS.out rfl (by omega) ab_sane ab_valid).mono ?_
 rintro e w1 ⟨rfl,hb1⟩
 have hx1:=below_nextN hbW hb1 hbW.size
 have k1:=(keepB hb1 w.heap.size hzW).1
 go_wp2_with fail
 refine (hold_ActiveB hA 4 _ (r:=true) (by decide)).mono ?_
 rintro e w2 ⟨rfl,hb2⟩
 have hy2:=below_nextN hb1 hb2.1 hb1.size
 have k2:=(keepB hy2 w.heap.size hzW).1
 go_wp2_with fail
 refine (hold_ActiveB hA 5 _ (r:=false) (by decide)).mono ?_
 rintro e w3 ⟨rfl,hb3⟩
 have hy3:=below_nextN hy2 hb3.1 hy2.size
 clear k1 k2 g0 g1 g2 g3 g4 g5 g6 g7 g8
 go_wp2_with fail
 refine (hold_Blocking (some ⟨w.heap.size,0,none⟩) 2 2 [hA,hB] none 0 0 [] 0 0 0 0 0 none 0 0 [] false false 4 _ (HS.out.next hy3) rfl (by omega) ab_sane SliceIs.nil rfl (by omega) (fun x hx=>by cases hx) SliceIs.nil rfl (by omega)).mono ?_
 rintro e w4 ⟨⟨v4,rfl,hown4⟩,hb4⟩
 have hy4:=below_nextN hy3 hb4 hy3.size
 rw [ab_blocking] at hown4
 obtain ⟨A4,c4,rfl,hc4,hs4,hA4⟩:=hown4.slice int_len
 have HS4:=qh hs4
 clear hs4 hown4 hA4
 go_wp2_with fail
 refine (sameInts A4 (some ⟨w4.heap.size,0,none⟩) c4 1 1 1 [0] [0] _ (HS4.out.next (by exact belA)) (Blk.one (enc:=intCells) (x:=(0:Int)) (Blk.new' (t := 3) rfl) (by simp)) rfl rfl (by omega) (by omega) (r:=true) (by decide)).mono ?_
 rintro e w5 ⟨rfl,hb5'⟩
 have hy5:Below W.heap.size W w5:=below_nextN (hy4.alloc hy4.size _) hb5' (by have:=hy4.size;simp;omega)
 go_wp2_with fail
 refine (hold_Until (some ⟨w.heap.size,0,none⟩) 2 2 [hA,hB] none 0 0 [] 0 0 0 0 0 none 0 0 [] false false 4 _ (HS.out.next hy5) rfl (by omega) ab_sane SliceIs.nil rfl (by omega) (fun x hx=>by cases hx) SliceIs.nil rfl (by omega)).mono ?_
 rintro e w6 ⟨⟨r6,rfl,h6⟩,hb6⟩
 rw [ab_valid,no_links,if_pos (by rfl)] at h6
 obtain rfl:=ab_until h6
 have hy6:=below_nextN hy5 hb6 hy5.size
 go_wp2_with fail
 refine (hold_Until (some ⟨w.heap.size,0,none⟩) 2 2 [hA,hB] none 0 0 [] 0 0 0 0 0 none 0 0 [] false false 9 _ (HS.out.next hy6) rfl (by omega) ab_sane SliceIs.nil rfl (by omega) (fun x hx=>by cases hx) SliceIs.nil rfl (by omega)).mono ?_
 rintro e w7 ⟨⟨r7,rfl,h7⟩,hb7⟩
 rw [ab_valid,no_links,if_pos (by rfl)] at h7
 obtain rfl:=ab_over h7
 have hy7:=below_nextN hy6 hb7 hy6.size
 go_wp2_with fail
 go_ret
 exact ⟨rfl,below_nextN hbW hy7 hbW.size⟩
structure Src where
 tab:Int
 seq:Int
instance:DecidableEq Src:=fun a b =>
 if h:a.tab=b.tab∧a.seq=b.seq then isTrue (by obtain ⟨_,_⟩:=a;obtain ⟨_,_⟩:=b;simp at h;simp [h])
 else isFalse (fun e=>h (by simp [e]))
instance:Inhabited Src:=⟨⟨0,0⟩⟩
def lessS (a b:Src):Prop:=a.tab<b.tab∨a.tab=b.tab∧a.seq<b.seq
instance (a b:Src):Decidable (lessS a b):=by unfold lessS;infer_instance
/-! A sorted list without its doubles. -/
section
variable {α : Type} [DecidableEq α]
end
end Go.Proofs.YtmckeeegphgekaaGreat
