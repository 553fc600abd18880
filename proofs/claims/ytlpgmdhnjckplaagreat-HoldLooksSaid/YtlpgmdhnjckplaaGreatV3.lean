/-
  Contracts and plain laws of this seat, part 3: Hold, Cover, Block, Until, HAwake, Src, Rec, SortSrc, CompSrc, RefHold, RefCov.
-/
import Derived.Test.YtlpgmdhnjckplaaGreatV2
import Derived.Test.YtlpgmdhnjckplaaGreatV1
set_option linter.unusedVariables false
set_option linter.unusedSimpArgs false
set_option maxRecDepth 100000
set_option maxHeartbeats 16000000
namespace Go.Proofs.YtlpgmdhnjckplaaGreat
open Go.RowKit
theorem lHold1 {P:Prop} (h:P:=by
 have HOK:=qh hok
 clear hok
 by_cases c7:x.seq < 1
 ·exact lHold3
 have d7:decide (x.seq < 1)=false:=by simpa using c7
 by_cases c8 : 1073741824<x.seq
 ·exact lHold4
 have d8:decide (1073741824<x.seq)=false:=by simpa using c8
 cases c9:decide (x.who=noId)
 ·have e9:=eqlNo c9
  cases c10:validId x.who
  ·have H9:=qh c9
   have H10:=qh c10
   clear c9 c10
   go_enter Tryz.func92,Tryz.ntmps92
   go_wp2_with (go_at_call 147;(with_reducible refine (identity_ValidId x.who _ hs H10.out).mono ?_);rintro e w1 ⟨rfl,hb1⟩;obtain ⟨k0,f0,z0⟩:=keepE hb1 w.heap.size ltA;have hx1:Ext w w1:=Ext.trans (by exact extA) hb1)
   go_ret
   exact ⟨ret_bool (by simp [holdOk,H9.out,H10.out]),by exact extA⟩
  ·have hw:x.who=noId∨validId x.who=true := .inr c10
   have HW:=qh hw
   have H9:=qh c9
   have H10:=qh c10
   clear hw c9 c10
   exact lHold2
 ·have e9:=eqlNo c9
  have hw:x.who=noId∨validId x.who=true := .inl (by simpa using c9)
  have HW:=qh hw
  have H10:=qh (rfl:validId x.who=validId x.who)
  clear hw c9
  exact lHold2):P:=h
theorem lHold2 {P:Prop} (h:P:=by
 by_cases c11:x.day0 < 0
 ·exact lHold9
 have d11:decide (x.day0 < 0)=false:=by simpa using c11
 by_cases c12:x.day1≤x.day0
 ·exact lHold10
 have d12:decide (x.day1≤x.day0)=false:=by simpa using c12
 by_cases c13 : 1048576<x.day1
 ·exact lHold11
 have d13:decide (1048576<x.day1)=false:=by simpa using c13
 go_enter Tryz.func92,Tryz.ntmps92
 go_wp2_with (go_at_call 147;(with_reducible refine (identity_ValidId x.who _ hs H10.out).mono ?_);rintro e w1 ⟨rfl,hb1⟩;obtain ⟨k0,f0,z0⟩:=keepE hb1 w.heap.size ltA;have hx1:Ext w w1:=Ext.trans (by exact extA) hb1)
 go_ret
 have hf:holdOk x=true:=(holdOk_iff x).2 ⟨by omega,by omega,by omega,by omega,HOK.out,by omega,by omega,HW.out,by omega,by omega,by omega⟩
 exact ⟨ret_bool (by rw [hf];rfl),by exact extA⟩):P:=h
theorem lHold3 {P:Prop} (h:P:=by
 go_enter Tryz.func92,Tryz.ntmps92
 go_wp2_with fail
 go_ret
 exact ⟨ret_bool (by rw [show holdOk x=false by (rw [Bool.eq_false_iff];intro h;obtain ⟨h1,h2,h3,h4,h5,h6,h7,_,h8,h9,h10⟩:=(holdOk_iff x).1 h;omega)];rfl),by exact extA⟩):P:=h
theorem lHold4 {P:Prop} (h:P:=by
 go_enter Tryz.func92,Tryz.ntmps92
 go_wp2_with fail
 go_ret
 exact ⟨ret_bool (by rw [show holdOk x=false by (rw [Bool.eq_false_iff];intro h;obtain ⟨h1,h2,h3,h4,h5,h6,h7,_,h8,h9,h10⟩:=(holdOk_iff x).1 h;omega)];rfl),by exact extA⟩):P:=h
theorem lHold5 {P:Prop} (h:P:=by
 go_enter Tryz.func92,Tryz.ntmps92
 go_wp2_with fail
 go_ret
 exact ⟨ret_bool (by rw [show holdOk x=false by (rw [Bool.eq_false_iff];intro h;obtain ⟨h1,h2,h3,h4,h5,h6,h7,_,h8,h9,h10⟩:=(holdOk_iff x).1 h;omega)];rfl),by exact extA⟩):P:=h
theorem lHold6 {P:Prop} (h:P:=by
 go_enter Tryz.func92,Tryz.ntmps92
 go_wp2_with fail
 go_ret
 exact ⟨ret_bool (by rw [show holdOk x=false by (rw [Bool.eq_false_iff];intro h;obtain ⟨h1,h2,h3,h4,h5,h6,h7,_,h8,h9,h10⟩:=(holdOk_iff x).1 h;omega)];rfl),by exact extA⟩):P:=h
theorem lHold7 {P:Prop} (h:P:=by
 go_enter Tryz.func92,Tryz.ntmps92
 go_wp2_with fail
 go_ret
 exact ⟨ret_bool (by rw [show holdOk x=false by (rw [Bool.eq_false_iff];intro h;obtain ⟨h1,h2,h3,h4,h5,h6,h7,_,h8,h9,h10⟩:=(holdOk_iff x).1 h;omega)];rfl),by exact extA⟩):P:=h
theorem lHold8 {P:Prop} (h:P:=by
 go_enter Tryz.func92,Tryz.ntmps92
 go_wp2_with fail
 go_ret
 exact ⟨ret_bool (by rw [show holdOk x=false by (rw [Bool.eq_false_iff];intro h;obtain ⟨h1,h2,h3,h4,h5,h6,h7,_,h8,h9,h10⟩:=(holdOk_iff x).1 h;omega)];rfl),by exact extA⟩):P:=h
theorem lHold9 {P:Prop} (h:P:=by
 go_enter Tryz.func92,Tryz.ntmps92
 go_wp2_with (go_at_call 147;(with_reducible refine (identity_ValidId x.who _ hs H10.out).mono ?_);rintro e w1 ⟨rfl,hb1⟩;obtain ⟨k0,f0,z0⟩:=keepE hb1 w.heap.size ltA;have hx1:Ext w w1:=Ext.trans (by exact extA) hb1)
 go_ret
 exact ⟨ret_bool (by rw [show holdOk x=false by (rw [Bool.eq_false_iff];intro h;obtain ⟨h1,h2,h3,h4,h5,h6,h7,_,h8,h9,h10⟩:=(holdOk_iff x).1 h;omega)];rfl),by exact extA⟩):P:=h
theorem lHold10 {P:Prop} (h:P:=by
 go_enter Tryz.func92,Tryz.ntmps92
 go_wp2_with (go_at_call 147;(with_reducible refine (identity_ValidId x.who _ hs H10.out).mono ?_);rintro e w1 ⟨rfl,hb1⟩;obtain ⟨k0,f0,z0⟩:=keepE hb1 w.heap.size ltA;have hx1:Ext w w1:=Ext.trans (by exact extA) hb1)
 go_ret
 exact ⟨ret_bool (by rw [show holdOk x=false by (rw [Bool.eq_false_iff];intro h;obtain ⟨h1,h2,h3,h4,h5,h6,h7,_,h8,h9,h10⟩:=(holdOk_iff x).1 h;omega)];rfl),by exact extA⟩):P:=h
theorem lHold11 {P:Prop} (h:P:=by
 go_enter Tryz.func92,Tryz.ntmps92
 go_wp2_with (go_at_call 147;(with_reducible refine (identity_ValidId x.who _ hs H10.out).mono ?_);rintro e w1 ⟨rfl,hb1⟩;obtain ⟨k0,f0,z0⟩:=keepE hb1 w.heap.size ltA;have hx1:Ext w w1:=Ext.trans (by exact extA) hb1)
 go_ret
 exact ⟨ret_bool (by rw [show holdOk x=false by (rw [Bool.eq_false_iff];intro h;obtain ⟨h1,h2,h3,h4,h5,h6,h7,_,h8,h9,h10⟩:=(holdOk_iff x).1 h;omega)];rfl),by exact extA⟩):P:=h
structure Hold where
 table:Int
 column:Int
 who:Ident
 seq:Int
 day0:Int
 day1:Int
def Hold.cells (x:Hold):List Value := [.int .i64 x.table, .int .i64 x.column, .string x.who.ns, .int .i64 x.who.val.kind, .int .i64 x.who.val.num, .string x.who.val.text, .int .i64 x.seq, .int .i64 x.day0, .int .i64 x.day1]
def noId:Ident:=⟨⟨#[]⟩,0,0,⟨#[]⟩⟩
def holdOk (x:Hold):Bool:=decide (-1≤x.table)&&decide (x.table ≤ 1000)&&decide (-1≤x.column)&&decide (x.column ≤ 1000) && !(decide (x.table = -1) && !decide (x.column = -1))&&decide (1≤x.seq)&&decide (x.seq ≤ 1073741824)&&(decide (x.who=noId)||validId x.who)&&decide (0≤x.day0)&&decide (x.day0<x.day1)&&decide (x.day1 ≤ 1048576)
def validHolds (l:List Hold):Bool:=decide (l.length ≤ 32)&&l.all holdOk
def SaneH (l:List Hold):Prop := ∀ x∈l,x.who.ns.size ≤ 1000000
theorem Hold.cells9 {w:World} {b o:Nat} {x:Hold} (h : ∀ j u,x.cells[j]? = some u→w.cell? ⟨b,o+j,none⟩=some u) :
 w.cell? ⟨b,o,none⟩=some (.int .i64 x.table)∧w.cell? ⟨b,o + 1,none⟩=some (.int .i64 x.column)∧(w.cell? ⟨b,o + 2,none⟩=some (.string x.who.ns)∧w.cell? ⟨b,o + 3,none⟩=some (.int .i64 x.who.val.kind)∧w.cell? ⟨b,o + 4,none⟩=some (.int .i64 x.who.val.num)∧w.cell? ⟨b,o + 5,none⟩=some (.string x.who.val.text))∧w.cell? ⟨b,o + 6,none⟩=some (.int .i64 x.seq)∧w.cell? ⟨b,o + 7,none⟩=some (.int .i64 x.day0)∧w.cell? ⟨b,o + 8,none⟩=some (.int .i64 x.day1) :=
 ⟨h 0 _ rfl,h 1 _ rfl,⟨h 2 _ rfl,h 3 _ rfl,h 4 _ rfl,h 5 _ rfl⟩,h 6 _ rfl,h 7 _ rfl,h 8 _ rfl⟩
theorem holdOk_iff (x:Hold):holdOk x=true↔(-1≤x.table∧x.table ≤ 1000 ∧ -1≤x.column∧x.column ≤ 1000∧(x.table = -1→x.column = -1) ∧ 1≤x.seq∧x.seq ≤ 1073741824∧(x.who=noId∨validId x.who=true) ∧ 0≤x.day0∧x.day0<x.day1∧x.day1 ≤ 1048576):=by
 simp [holdOk,and_assoc]
 intros
 exact Decidable.imp_iff_not_or.symm
theorem eqlNo {x:Ident} {b:Bool} (h:decide (x=noId)=b) : ∀ w:World,(Op.equalIn 10000 105 (.agg #[.string x.ns, .int .i64 x.val.kind, .int .i64 x.val.num, .string x.val.text]) (.agg #[.string ⟨#[]⟩, .int .i64 0, .int .i64 0, .string ⟨#[]⟩])).run Tryz.prog w = .ok b w :=
 by have h1:=eqlId_of h;simp only [noId] at h1;exact h1
theorem hold_invalid (x:Hold) (w:World) (hs:x.who.ns.size ≤ 1000000) :
 Calls Tryz.prog 92 #[.agg #[.int .i64 x.table, .int .i64 x.column, .string x.who.ns, .int .i64 x.who.val.kind, .int .i64 x.who.val.num, .string x.who.val.text, .int .i64 x.seq, .int .i64 x.day0, .int .i64 x.day1]] w fun e w'=>e = .returned (.bool (!holdOk x))∧Ext w w':=by
 have hgt:Tryz.prog.eqGuardType Tryz.prog.depth 105=false:=by kernel_rfl
 by_cases c1:x.table < -1
 ·exact lHold5
 have d1:decide (x.table < -1)=false:=by simpa using c1
 by_cases c2 : 1000<x.table
 ·exact lHold6
 have d2:decide (1000<x.table)=false:=by simpa using c2
 by_cases c3:x.column < -1
 ·exact lHold7
 have d3:decide (x.column < -1)=false:=by simpa using c3
 by_cases c4 : 1000<x.column
 ·exact lHold8
 have d4:decide (1000<x.column)=false:=by simpa using c4
 by_cases c5:x.table = -1
 ·have e5:(x.table == -1)=true:=by simpa using c5
  by_cases c6:x.column = -1
  ·have e6:(x.column == -1)=true:=by simpa using c6
   have hok:x.table = -1→x.column = -1:=fun _=>c6
   exact lHold1
  ·have e6:(x.column == -1)=false:=by simpa using c6
   go_enter Tryz.func92,Tryz.ntmps92
   go_wp2_with fail
   go_ret
   exact ⟨ret_bool (by simp [holdOk,c5,c6]),by exact extA⟩
 ·have e5:(x.table == -1)=false:=by simpa using c5
  have hok:x.table = -1→x.column = -1:=fun h=>absurd h c5
  exact lHold1
theorem hold_invalidB (x:Hold) (w:World) (hs:x.who.ns.size ≤ 1000000) {r:Bool} (hr:holdOk x=r) :
 Calls Tryz.prog 92 #[.agg #[.int .i64 x.table, .int .i64 x.column, .string x.who.ns, .int .i64 x.who.val.kind, .int .i64 x.who.val.num, .string x.who.val.text, .int .i64 x.seq, .int .i64 x.day0, .int .i64 x.day1]] w fun e w'=>e = .returned (.bool (!r))∧Ext w w':=by
 subst hr
 exact hold_invalid x w hs
theorem index_hold (A:Option Addr) (c:Nat) (l:List Hold) (w:World) (hl:SliceIs w w.heap.size Hold.cells 9 A l) (hn:l.length ≤ 1000000) (hs:SaneH l) :
 Calls Tryz.prog 146 #[.slice A l.length c, .func (.func 92) #[] #[]] w fun e w' =>
  (∃ k:Int,e = .returned (.int .i64 k)∧(0≤k↔l.all holdOk=false))∧Below w.heap.size w w':=by
 have HS:=qh hs
 clear hs
 go_enter Tryz.func146,Tryz.ntmps146
 go_wp2
 go_loopw [8] (fun vi wr => ∃ m:Nat,m≤l.length∧vi = .int .i64 m∧Below w.heap.size w wr∧(∀ i (h:i<l.length),i<m→holdOk l[i]=true)) (fun vi _=>l.length - (intOf vi).toNat)
 case atStart=>exact ⟨0,Nat.zero_le _,rfl,by exact belA,fun i _ h=>by omega⟩
 case round =>
  obtain ⟨m,hm,rfl,hbw,hok⟩:=hrel
  have HOK:=qh hok
  clear hok
  by_cases hlt:m<l.length
  ·obtain ⟨b,o,rfl,hb,hc⟩:=(hl.below hbw).get hlt
   obtain ⟨h0,h1,⟨h2,h3,h4,h5⟩,h6,h7,h8⟩:=Hold.cells9 hc
   have hsm:=HS.out l[m] (List.getElem_mem hlt)
   clear hc
   cases hk:holdOk l[m]
   ·have HK:=qh hk
    clear hk
    go_wp2_with (go_at_call 92;(with_reducible refine (hold_invalidB l[m] _ hsm HK.out).mono ?_);rintro e w1 ⟨rfl,hb1⟩;have hx1:Below w.heap.size w w1:=below_nextN hbw hb1.1 hbw.size)
    go_ret
    refine ⟨⟨_,rfl,fun _ => ?_,fun _=>by omega⟩,hx1⟩
    rw [List.all_eq_false]
    exact ⟨l[m],List.getElem_mem hlt,by rw [HK.out];decide⟩
   ·have HK:=qh hk
    clear hk
    go_wp2_with (go_at_call 92;(with_reducible refine (hold_invalidB l[m] _ hsm HK.out).mono ?_);rintro e w1 ⟨rfl,hb1⟩;have hx1:Below w.heap.size w w1:=below_nextN hbw hb1.1 hbw.size)
    go_roundw
    case rel=>exact ⟨m + 1,by omega,by go_num,hx1,fun i h hi=>by
     rcases Nat.lt_or_ge i m with h1|h1
     ·exact HOK.out i h h1
     ·obtain rfl:i=m:=by omega
      exact HK.out⟩
    case measure=>simp [intOf];omega
  ·have hlt':decide (m<l.length)=false:=by simpa using hlt
   go_wp2_with fail
   go_ret
   refine ⟨⟨_,rfl,fun h=>by omega,fun h => ?_⟩,hbw⟩
   rw [List.all_eq_false] at h
   obtain ⟨x,hx,hxx⟩:=h
   obtain ⟨i,hi,rfl⟩:=List.getElem_of_mem hx
   exact absurd (HOK.out i hi omA) hxx
theorem contains_hold (A:Option Addr) (c:Nat) (l:List Hold) (w:World) (hl:SliceIs w w.heap.size Hold.cells 9 A l) (hn:l.length ≤ 1000000) (hs:SaneH l) :
 Calls Tryz.prog 91 #[.slice A l.length c, .func (.func 92) #[] #[]] w fun e w' =>
  e = .returned (.bool (!l.all holdOk))∧Below w.heap.size w w':=by
 have HL:=qh hl
 have HS:=qh hs
 clear hl hs
 go_enter Tryz.func91,Tryz.ntmps91
 go_wp2_with fail
 with_reducible refine (index_hold A c l _ HL.out hn HS.out).mono ?_
 rintro e w1 ⟨⟨k,rfl,hk⟩,hb1⟩
 have HK:=qh hk
 clear hk
 go_wp2_with fail
 go_ret
 refine ⟨ret_bool ?_,hb1⟩
 cases h:l.all holdOk
 ·simpa using HK.out.2 h
 ·have h1 : ¬ 0≤k:=fun h0=>by rw [HK.out.1 h0] at h;cases h
  simpa using h1
theorem idle_HValid (w:World):CallsD Tryz.prog 90 #[] .returning w fun e u' w'=>e = .returned (.tuple #[])∧u' = .returning∧w'=w:=by
 refine callsD_of_wpS Tryz.func90 rfl fun c₀ cs hu => ?_
 apply wpS_region
 cases c₀
 simp_all [wpOpsS,go_sem,recoverD,Tryz.ntmps90,bodyPostS,results,Tryz.results90]
theorem hold_Valid (A:Option Addr) (c:Nat) (l:List Hold) (w:World) (hl:SliceIs w w.heap.size Hold.cells 9 A l) (hn:l.length ≤ 1000000) (hs:SaneH l) :
 Calls Tryz.prog 46 #[.slice A l.length c] w fun e w'=>e = .returned (.bool (validHolds l))∧Below w.heap.size w w':=by
 have HL:=qh hl
 have HS:=qh hs
 clear hl hs
 by_cases h32:l.length ≤ 32
 ·go_enter_defers Tryz.func46,Tryz.ntmps46
  go_wp2_with (go_at_call 91;(with_reducible refine (contains_hold A c l _ HL.out hn HS.out).mono ?_);rintro e w1 ⟨rfl,hb1⟩)
  refine leaves_cons (f := 90) (args := #[]) spA (by simp [go_sem]) ?_;refine (idle_HValid _).mono ?_;rintro e u' w'' ⟨rfl,rfl,rfl⟩;refine ⟨_,results_tmp rfl _ _ _,?_⟩
  exact ⟨ret_bool (by rw [validHolds,decide_eq_true h32];simp),hb1⟩
 ·have h32':decide (l.length ≤ 32)=false:=by simpa using h32
  go_enter_defers Tryz.func46,Tryz.ntmps46
  go_wp2_with fail
  refine leaves_cons (f := 90) (args := #[]) spA (by simp [go_sem]) ?_;refine (idle_HValid _).mono ?_;rintro e u' w'' ⟨rfl,rfl,rfl⟩;refine ⟨_,results_tmp rfl _ _ _,?_⟩
  exact ⟨ret_bool (by rw [validHolds,h32'];rfl),by exact belA⟩
def activeOn (x:Hold) (day:Int):Bool:=decide (x.day0≤day)&&decide (day<x.day1)
theorem hold_Active (x:Hold) (day:Int) (w:World) :
 Calls Tryz.prog 58 #[.agg #[.int .i64 x.table, .int .i64 x.column, .string x.who.ns, .int .i64 x.who.val.kind, .int .i64 x.who.val.num, .string x.who.val.text, .int .i64 x.seq, .int .i64 x.day0, .int .i64 x.day1], .int .i64 day] w fun e w'=>e = .returned (.bool (activeOn x day))∧Ext w w':=by
 cases h:decide (x.day0≤day)
 ·go_enter Tryz.func58,Tryz.ntmps58
  go_wp2_with fail
  go_ret
  exact ⟨ret_bool (by simp [activeOn,h]),by exact extA⟩
 ·go_enter Tryz.func58,Tryz.ntmps58
  go_wp2_with fail
  go_ret
  exact ⟨ret_bool (by simp [activeOn,h]),by exact extA⟩
def scopeCells (x:Hold) (v:Value):Array Value:=(x.cells ++ [v]).toArray
theorem scope_blk {w:World} {g:Nat} {x:Hold} {v:Value} (h:Blk w g 180 (scopeCells x v)) :
 w.cell? ⟨g,0,none⟩=some (.int .i64 x.table)∧w.cell? ⟨g,1,none⟩=some (.int .i64 x.column)∧(w.cell? ⟨g,2,none⟩=some (.string x.who.ns)∧w.cell? ⟨g,3,none⟩=some (.int .i64 x.who.val.kind)∧w.cell? ⟨g,4,none⟩=some (.int .i64 x.who.val.num)∧w.cell? ⟨g,5,none⟩=some (.string x.who.val.text))∧w.cell? ⟨g,6,none⟩=some (.int .i64 x.seq)∧w.cell? ⟨g,7,none⟩=some (.int .i64 x.day0)∧w.cell? ⟨g,8,none⟩=some (.int .i64 x.day1)∧w.cell? ⟨g,9,none⟩=some v :=
 ⟨h.cell 0,h.cell 1,⟨h.cell 2,h.cell 3,h.cell 4,h.cell 5⟩,h.cell 6,h.cell 7,h.cell 8,h.cell 9⟩
def concernsB (x:Hold) (t c:Int):Bool:=(x.table == -1||x.table==t)&&(x.column == -1||x.column==c)
theorem scope_concerns (g:Nat) (x:Hold) (v:Value) (t c s:Int) (w:World) (hB:Blk w g 180 (scopeCells x v)) :
 Calls Tryz.prog 99 #[.pointer (some ⟨g,0,none⟩), .agg #[.int .i64 t, .int .i64 c, .int .i64 s]] w fun e w'=>e = .returned (.bool (concernsB x t c))∧Below w.heap.size w w':=by
 have hgl:=hB.lt
 have HB:=qh hB
 clear hB
 go_enter Tryz.func99,Tryz.ntmps99
 go_upto_region 1 with (fail)
 refine abs_world (P:=fun u=>Code.wp _ _ _ _ u) (R:=fun u=>Blk u g 180 (scopeCells x v)∧Blk u w.heap.size 52 #[.int .i64 t, .int .i64 c, .int .i64 s]∧Below w.heap.size w u) ⟨?_,?_,?_⟩ ?_
 ·exact HB.out.alloc _
 ·exact Blk.new _ _ _
 ·exact belA
 rintro W ⟨hb1,hb2,hbW⟩
 obtain ⟨a0,a1,_,_,_,_,_⟩:=scope_blk hb1
 have b0:=hb2.cell 0
 have b1:=hb2.cell 1
 simp only [List.getElem?_toArray,List.getElem?_cons_zero,List.getElem?_cons_succ] at b0 b1
 have hk0:=keepQ (w:=W) g hb1.lt
 have hk1:=keepQ (w:=W) w.heap.size hb2.lt
 have hz1:=hb1.lt
 have hz2:=hb2.lt
 clear hb1 hb2 HB
 cases hx:(x.table == -1) <;> cases ht:(x.table==t) <;> cases hc:(x.column == -1) <;> cases hd:(x.column==c)
 all_goals
  have HX:=qh hx
  have HT:=qh ht
  have HC:=qh hc
  have HD:=qh hd
  refine wp_region_bel krA krA ?_;(repeat (go_big_quiet_step (fail)));refine wpQuiet_nil ?_;intro wq hq
  go_wp2_with fail
  go_ret
  exact ⟨ret_bool (by simp only [concernsB,HX.out,HT.out,HC.out,HD.out];rfl),below_nextN hbW hq hbW.size⟩
theorem cmpId_eqL {x y:Ident} (hx:validId x=true) (h:cmpId x y = 0):x=y:=by
 unfold cmpId at h
 by_cases h1:cmpStr x.ns y.ns = 0
 ·simp [h1] at h
  rw [cmpVal_fields,clean_yes (validId_val hx)] at h
  have e:=cmpFields_eq h
  have hk:x.val.kind ≠ 0:=by
   simp only [validId,Bool.and_eq_true,bne_iff_ne,ne_eq] at hx
   exact hx.2.2
  obtain ⟨s,v⟩:=x
  obtain ⟨s',v'⟩:=y
  simp only at h1 e hk
  cases hv:valB v'
  ·rw [clean_no hv] at e
   rw [e] at hk
   exact absurd rfl hk
  ·rw [clean_yes hv] at e
   rw [cmpStr_eq h1,e]
 ·simp [h1] at h
theorem found_yes {l:List Ident} (hv:AllValid l) (ha:Asc l) {x:Ident} {i:Nat} (hi:i<l.length) (hlo : ∀ k (h:k<l.length),k<i→cmpId l[k] x < 0) (hhi : ∀ k (h:k<l.length),i≤k → 0≤cmpId l[k] x):(cmpId l[i] x == 0)=decide (x∈l):=by
 rw [Bool.eq_iff_iff,beq_iff_eq,decide_eq_true_iff]
 constructor
 ·intro h
  rw [← cmpId_eqL (hv _ (List.getElem_mem hi)) h]
  exact List.getElem_mem hi
 ·intro h
  obtain ⟨j,hj,rfl⟩:=List.getElem_of_mem h
  rcases Nat.lt_trichotomy j i with k|k|k
  ·have:=hlo j hj k
   rw [cmpId_refl] at this
   omega
  ·subst k
   exact cmpId_refl _
  ·have h1:=asc_get ha hi hj k
   have h2:=hhi i hi (Nat.le_refl _)
   omega
theorem found_no {l:List Ident} {x:Ident} (hlo : ∀ k (h:k<l.length),cmpId l[k] x < 0):decide (x∈l)=false:=by
 rw [decide_eq_false_iff_not]
 intro h
 obtain ⟨j,hj,rfl⟩:=List.getElem_of_mem h
 have:=hlo j hj
 rw [cmpId_refl] at this
 omega
theorem search_has (A:Option Addr) (c n:Nat) (l:List Ident) (x:Ident) (w:World) (hl:SliceIs w w.heap.size Ident.cells 4 A l) (hln:l.length=n) (hn:n ≤ 1000000) (ha:Asc l) (hv:AllValid l) {r:Bool} (hr:decide (x∈l)=r) :
 Calls Tryz.prog 154 #[.slice A n c, .agg #[.string x.ns, .int .i64 x.val.kind, .int .i64 x.val.num, .string x.val.text], .func (.func 150) #[] #[]] w fun e w' =>
  e = .returned (.tuple #[.int .i64 (insK l x), .bool r])∧Below w.heap.size w w':=by
 subst hln hr
 have HA:=qh ha
 have HV:=qh hv
 clear ha hv
 go_enter Tryz.func154,Tryz.ntmps154
 go_wp2
 go_loopw [9,10] (fun vi vj wr => ∃ i j:Nat,i≤j∧j≤l.length∧vi = .int .i64 i∧vj = .int .i64 j∧Below w.heap.size w wr∧(∀ y u,(Ident.cells x)[y]? = some u→wr.cell? ⟨w.heap.size,0+y,none⟩=some u)∧w.heap.size<wr.heap.size∧(∀ k (h:k<l.length),k<i→cmpId l[k] x < 0)∧(∀ k (h:k<l.length),j≤k → 0≤cmpId l[k] x)) (fun vi vj _=>(intOf vj).toNat - (intOf vi).toNat)
 case atStart=>exact ⟨0,l.length,Nat.zero_le _,Nat.le_refl _,rfl,rfl,by exact belA,fun j u hu=>by simpa [Ident.cells] using hu,by simp,fun k h hk=>by omega,fun k h hk=>by omega⟩
 case round =>
  obtain ⟨i,j,hij,hj,rfl,rfl,hbw,hx,hz,hlo,hhi⟩:=hrel
  obtain ⟨x0,x1,x2,x3⟩:=Ident.cells4 hx
  simp only [Nat.zero_add] at x1 x2 x3
  have HX:=qh hx
  have HLO:=qh hlo
  have HHI:=qh hhi
  clear hx hlo hhi
  have hk1:=keepQ (w:=wr) w.heap.size hz
  by_cases hlt:i<j
  ·obtain ⟨m,hme⟩ : ∃ m:Nat,m=(i+j) / 2:=⟨_,rfl⟩
   have hcast:((i:Int)+(j:Int)) / 2=(m:Int):=by omega
   have hm1:i≤m:=by omega
   have hm2:m<j:=by omega
   have hm:m<l.length:=by omega
   have HC:=qh hcast
   clear hcast hme
   obtain ⟨b,o,rfl,hb,hc⟩:=(hl.below hbw).get hm
   obtain ⟨h0,h1,h2,h3⟩:=Ident.cells4 hc
   have hk0:=keepQ (w:=wr) b (by have:=hbw.size;omega)
   clear hc
   go_wp2
   rw [HC.out]
   refine wp_region_bel krA krA ?_;(repeat (go_big_quiet_step ((go_at_call 150;with_reducible exact bel_of_ext (identity_CompareId l[m] x _)))));refine wpQuiet_nil ?_;intro wq hq
   have hq':=below_nextN hbw hq hbw.size
   have hz':w.heap.size<wq.heap.size:=by have:=hq.size;omega
   by_cases hcmp:cmpId l[m] x < 0
   ·go_wp2
    go_roundw
    case rel=>exact ⟨m + 1,j,by omega,hj,by go_num,rfl,hq',fun y u hu=>(hq.cell (by exact hz)).trans (HX.out y u hu),hz',fun k h hk=>by
     rcases Nat.lt_or_ge k m with hkm|hkm
     ·exact cmpId_ok.lt_le (asc_get HA.out h hm hkm) omA
     ·obtain rfl:k=m:=by omega
      exact hcmp,HHI.out⟩
    case measure=>simp [intOf];omega
   ·have hge:decide (cmpId l[m] x < 0)=false:=by simpa using hcmp
    go_wp2
    go_roundw
    case rel=>exact ⟨i,m,by omega,by omega,rfl,rfl,hq',fun y u hu=>(hq.cell (by exact hz)).trans (HX.out y u hu),hz',HLO.out,fun k h hk=>by
     rcases Nat.lt_or_ge m k with hkm|hkm
     ·have h1:=asc_get HA.out hm h hkm
      rcases Int.lt_or_le (cmpId l[k] x) 0 with h2|h2
      ·have:=cmpId_ok.lt_le h1 (Int.le_of_lt h2)
       omega
      ·exact h2
     ·obtain rfl:k=m:=by omega
      omega⟩
    case measure=>simp [intOf];omega
  ·obtain rfl:i=j:=by omega
   have hK:insK l x=i:=insK_bound x i hj HLO.out (fun h=>HHI.out i h (Nat.le_refl _))
   have HK:=qh hK
   clear hK
   by_cases hil:i<l.length
   ·obtain ⟨b,o,rfl,hb,hc⟩:=(hl.below hbw).get hil
    obtain ⟨h0,h1,h2,h3⟩:=Ident.cells4 hc
    have hk0:=keepQ (w:=wr) b (by have:=hbw.size;omega)
    have HF:=qh (found_yes HV.out HA.out hil HLO.out HHI.out)
    clear hc
    go_wp2
    refine wp_region_bel krA krA ?_;(repeat (go_big_quiet_step ((go_at_call 150;with_reducible exact bel_of_ext (identity_CompareId l[i] x _)))));refine wpQuiet_nil ?_;intro wq hq
    go_wp2
    go_ret2
    rw [HK.out,← HF.out]
    exact ⟨rfl,below_nextN hbw hq hbw.size⟩
   ·have HF:=qh (found_no (l:=l) (x:=x) (fun k h=>HLO.out k h omA))
    go_wp2
    refine wp_region_bel krA krA ?_;(repeat (go_big_quiet_step (fail)));refine wpQuiet_nil ?_;intro wq hq
    go_wp2
    go_ret2
    rw [HK.out,HF.out]
    exact ⟨rfl,below_nextN hbw hq hbw.size⟩
structure InScope (w:World) (p g:Nat) (x:Hold) (A:Option Addr) (c:Nat) (o:List Ident):Prop where
 ptr:Blk w p 178 #[.pointer (some ⟨g,0,none⟩)]
 scope:Blk w g 180 (scopeCells x (.slice A o.length c))
 subj:SliceIs w w.heap.size Ident.cells 4 A o
theorem InScope.next {w w':World} {p g:Nat} {x:Hold} {A:Option Addr} {c:Nat} {o:List Ident} (h:InScope w p g x A c o) (hb:Below w.heap.size w w'):InScope w' p g x A c o :=
 ⟨h.ptr.below hb h.ptr.lt,h.scope.below hb h.scope.lt,h.subj.next hb⟩
theorem includes_fn (p g:Nat) (h:Hold) (A:Option Addr) (c:Nat) (o:List Ident) (x:Ident) (w:World) (hI:InScope w p g h A c o) (hn:o.length ≤ 1000000) (ha:Asc o) (hv:AllValid o) {r:Bool} (hr:decide (x∈o)=r) :
 Calls Tryz.prog 153 #[.agg #[.string x.ns, .int .i64 x.val.kind, .int .i64 x.val.num, .string x.val.text], .pointer (some ⟨p,0,none⟩)] w fun e w' =>
  e = .returned (.bool r)∧Below w.heap.size w w':=by
 have hpl:=hI.ptr.lt
 have hgl:=hI.scope.lt
 have HI:=qh hI
 have HA:=qh ha
 have HV:=qh hv
 have HR:=qh hr
 clear hI ha hv hr
 go_enter Tryz.func153,Tryz.ntmps153
 go_upto_region 1 with (fail)
 refine abs_world (P:=fun u=>Code.wp _ _ _ _ u) (R:=fun u=>InScope u p g h A c o∧Blk u w.heap.size 105 x.cells.toArray∧Below w.heap.size w u) ⟨?_,?_,?_⟩ ?_
 ·exact HI.out.next belA
 ·exact Blk.new _ _ _
 ·exact belA
 rintro W ⟨hi,hb2,hbW⟩
 obtain ⟨_,_,_,_,_,_,s9⟩:=scope_blk hi.scope
 have p0:=hi.ptr.cell 0
 simp only [List.getElem?_toArray,List.getElem?_cons_zero] at p0
 obtain ⟨q0,q1,q2,q3⟩:=Ident.blk hb2
 have hk0:=keepQ (w:=W) p hi.ptr.lt
 have hk1:=keepQ (w:=W) g hi.scope.lt
 have hk2:=keepQ (w:=W) w.heap.size hb2.lt
 have HSW:=qh hi.subj
 clear hi hb2 HI
 refine wp_region_bel krA krA ?_;(repeat (go_big_quiet_step ((go_at_call 154;with_reducible exact bel_of (search_has A c o.length o x _ (HSW.out.next (BelOf.h _)) rfl hn HA.out HV.out HR.out)))));refine wpQuiet_nil ?_;intro wq hq
 go_wp2_with fail
 go_ret
 exact ⟨rfl,below_nextN hbW hq hbW.size⟩
theorem index_in (p g:Nat) (h:Hold) (A:Option Addr) (c:Nat) (o:List Ident) (A':Option Addr) (c':Nat) (l:List Ident) (w:World) (hI:InScope w p g h A c o) (hn:o.length ≤ 1000000) (ha:Asc o) (hv:AllValid o) (hl:SliceIs w w.heap.size Ident.cells 4 A' l) (hn':l.length ≤ 1000000) :
 Calls Tryz.prog 218 #[.slice A' l.length c', .func (.func 153) #[] #[.pointer (some ⟨p,0,none⟩)]] w fun e w' =>
  (∃ k:Int,e = .returned (.int .i64 k)∧(0≤k↔l.any (fun y=>decide (y∈o))=true))∧Below w.heap.size w w':=by
 have HI:=qh hI
 have HA:=qh ha
 have HV:=qh hv
 clear hI ha hv
 go_enter Tryz.func218,Tryz.ntmps218
 go_wp2
 go_loopw [8] (fun vi wr => ∃ m:Nat,m≤l.length∧vi = .int .i64 m∧Below w.heap.size w wr∧(∀ i (h:i<l.length),i<m→decide (l[i]∈o)=false)) (fun vi _=>l.length - (intOf vi).toNat)
 case atStart=>exact ⟨0,Nat.zero_le _,rfl,by exact belA,fun i _ h=>by omega⟩
 case round =>
  obtain ⟨m,hm,rfl,hbw,hok⟩:=hrel
  have HOK:=qh hok
  clear hok
  by_cases hlt:m<l.length
  ·obtain ⟨b,of_,rfl,hb,hc⟩:=(hl.below hbw).get hlt
   obtain ⟨h0,h1,h2,h3⟩:=Ident.cells4 hc
   clear hc
   cases hk:decide (l[m]∈o)
   ·have HK:=qh hk
    clear hk
    go_wp2_with (go_at_call 153;(with_reducible refine (includes_fn p g h A c o l[m] _ (HI.out.next hbw) hn HA.out HV.out HK.out).mono ?_);rintro e w1 ⟨rfl,hb1⟩;have hx1:Below w.heap.size w w1:=below_nextN hbw hb1 hbw.size)
    go_roundw
    case rel=>exact ⟨m + 1,by omega,by go_num,hx1,fun i h hi=>by
     rcases Nat.lt_or_ge i m with h1|h1
     ·exact HOK.out i h h1
     ·obtain rfl:i=m:=by omega
      exact HK.out⟩
    case measure=>simp [intOf];omega
   ·have HK:=qh hk
    clear hk
    go_wp2_with (go_at_call 153;(with_reducible refine (includes_fn p g h A c o l[m] _ (HI.out.next hbw) hn HA.out HV.out HK.out).mono ?_);rintro e w1 ⟨rfl,hb1⟩;have hx1:Below w.heap.size w w1:=below_nextN hbw hb1 hbw.size)
    go_ret
    refine ⟨⟨_,rfl,fun _ => ?_,fun _=>by omega⟩,hx1⟩
    rw [List.any_eq_true]
    exact ⟨l[m],List.getElem_mem hlt,HK.out⟩
  ·have hlt':decide (m<l.length)=false:=by simpa using hlt
   go_wp2_with fail
   go_ret
   refine ⟨⟨_,rfl,fun h=>by omega,fun h => ?_⟩,hbw⟩
   rw [List.any_eq_true] at h
   obtain ⟨x,hx,hxx⟩:=h
   obtain ⟨i,hi,rfl⟩:=List.getElem_of_mem hx
   rw [HOK.out i hi omA] at hxx
   cases hxx
theorem contains_in (p g:Nat) (h:Hold) (A:Option Addr) (c:Nat) (o:List Ident) (A':Option Addr) (c':Nat) (l:List Ident) (w:World) (hI:InScope w p g h A c o) (hn:o.length ≤ 1000000) (ha:Asc o) (hv:AllValid o) (hl:SliceIs w w.heap.size Ident.cells 4 A' l) (hn':l.length ≤ 1000000) :
 Calls Tryz.prog 152 #[.slice A' l.length c', .func (.func 153) #[] #[.pointer (some ⟨p,0,none⟩)]] w fun e w' =>
  e = .returned (.bool (l.any (fun y=>decide (y∈o))))∧Below w.heap.size w w':=by
 have HI:=qh hI
 have HA:=qh ha
 have HV:=qh hv
 have HL:=qh hl
 clear hI ha hv hl
 go_enter Tryz.func152,Tryz.ntmps152
 go_wp2_with fail
 with_reducible refine (index_in p g h A c o A' c' l _ HI.out hn HA.out HV.out HL.out hn').mono ?_
 rintro e w1 ⟨⟨k,rfl,hk⟩,hb1⟩
 have HK:=qh hk
 clear hk
 go_wp2_with fail
 go_ret
 refine ⟨ret_bool ?_,hb1⟩
 rw [Bool.eq_iff_iff,← HK.out]
 simp
theorem scope_includes (g:Nat) (x:Hold) (A:Option Addr) (c:Nat) (o:List Ident) (A':Option Addr) (c':Nat) (l:List Ident) (w:World) (hB:Blk w g 180 (scopeCells x (.slice A o.length c))) (hso:SliceIs w w.heap.size Ident.cells 4 A o) (hn:o.length ≤ 1000000) (ha:Asc o) (hv:AllValid o) (hl:SliceIs w w.heap.size Ident.cells 4 A' l) (hn':l.length ≤ 1000000) :
 Calls Tryz.prog 100 #[.pointer (some ⟨g,0,none⟩), .slice A' l.length c'] w fun e w' =>
  e = .returned (.bool (decide (x.who=noId)||l.any (fun y=>decide (y∈o))))∧Below w.heap.size w w':=by
 have hgt:Tryz.prog.eqGuardType Tryz.prog.depth 105=false:=by kernel_rfl
 have hgl:=hB.lt
 obtain ⟨_,_,⟨s2,s3,s4,s5⟩,_,_,_,_⟩:=scope_blk hB
 have HB:=qh hB
 have HO:=qh hso
 have HA:=qh ha
 have HV:=qh hv
 have HL:=qh hl
 clear hB ha hv hl hso
 cases hw:decide (x.who=noId)
 ·have heq:=eqlNo hw
  clear hw
  go_enter Tryz.func100,Tryz.ntmps100
  go_wp2_with fail
  with_reducible refine (contains_in w.heap.size g x A c o A' c' l _ ⟨Blk.new _ _ _,HB.out.alloc _,HO.out.next belA⟩ hn HA.out HV.out (HL.out.next belA) hn').mono ?_
  rintro e w1 ⟨rfl,hb1⟩
  go_wp2_with fail
  go_ret
  exact ⟨rfl,below_nextN belA hb1 leA⟩
 ·have heq:=eqlNo hw
  clear hw
  go_enter Tryz.func100,Tryz.ntmps100
  go_wp2_with fail
  go_ret
  exact ⟨rfl,by exact belA⟩
theorem SliceIs.setSlice {w:World} {B g j n c:Nat} {a A:Option Addr} {l:List Ident} (h:SliceIs w B Ident.cells 4 A l) (hc:w.cell? ⟨g,j,none⟩=some (.slice a n c)) (v:Value):SliceIs (w.setCell ⟨g,j,none⟩ v) B Ident.cells 4 A l:=by
 intro hl
 obtain ⟨b,o,rfl,hB,hcl⟩:=h hl
 refine ⟨b,o,rfl,hB,fun i hi k u hu => ?_⟩
 have h1:=hcl i hi k u hu
 by_cases he:b=g∧o+(i * 4+k)=j
 ·obtain ⟨rfl,rfl⟩:=he
  rw [hc] at h1
  injection h1 with h1
  subst h1
  have hk:k < 4:=by have:=(List.getElem?_eq_some_iff.1 hu).1;simpa [Ident.cells] using this
  match k,hk,hu with
  | 0,_,hu=>simp [Ident.cells] at hu
  | 1,_,hu=>simp [Ident.cells] at hu
  | 2,_,hu=>simp [Ident.cells] at hu
  | 3,_,hu=>simp [Ident.cells] at hu
 ·rw [← h1]
  apply World.cell?_setCell_other
  intro e
  injection e with e1 e2
  exact he ⟨e1.symm,e2.symm⟩
theorem scope_limit (g:Nat) (x:Hold) (A:Option Addr) (c:Nat) (l:List Link) (w:World) (hB:Blk w g 180 (scopeCells x (.slice none 0 0))) (hl:SliceIs w w.heap.size Link.cells 10 A l) (hn:l.length ≤ 1000000) (hs:Sane l) (hsx:x.who.ns.size ≤ 1000000) (hseq:x.seq ≤ 9223372036854775807) :
 Calls Tryz.prog 97 #[.pointer (some ⟨g,0,none⟩), .slice A l.length c] w fun e w' =>
  e = .returned (.tuple #[])∧(∃ o A' c',(x.who=noId→o = [])∧(x.who≠noId→SubjectOut l x.who x.seq o)∧Blk w' g 180 (scopeCells x (.slice A' o.length c'))∧SliceIs w' w'.heap.size Ident.cells 4 A' o∧(∀ a,A'=some a→w.heap.size≤a.block))∧w.grownBy w' (some g):=by
 have hgt:Tryz.prog.eqGuardType Tryz.prog.depth 105=false:=by kernel_rfl
 have hgl:=hB.lt
 obtain ⟨_,_,⟨s2,s3,s4,s5⟩,s6,_,_,s9⟩:=scope_blk hB
 have fz0:=hB.frozen 9
 have HB:=qh hB
 have HS:=qh hs
 have HL:=qh hl
 clear hB hs hl
 cases hw:decide (x.who=noId)
 ·have heq:=eqlNo hw
  have hw':x.who≠noId:=by simpa using hw
  have HW:=qh hw'
  clear hw hw'
  go_enter Tryz.func97,Tryz.ntmps97
  go_upto_region 1 with (fail)
  refine wp_region_held_drew (S:=(fun w'=>w'.cell? ⟨g,2,none⟩=some (.string x.who.ns)∧w'.cell? ⟨g,3,none⟩=some (.int .i64 x.who.val.kind)∧w'.cell? ⟨g,4,none⟩=some (.int .i64 x.who.val.num)∧w'.cell? ⟨g,5,none⟩=some (.string x.who.val.text)∧w'.cell? ⟨g,6,none⟩=some (.int .i64 x.seq))) krA ⟨s2,s3,s4,s5,s6⟩ (fun hHeld => ?_)
  refine tkH 0 hHeld ?_
  refine tkH 1 hHeld ?_
  refine tkH 2 hHeld ?_
  refine tkH 3 hHeld ?_
  refine tkH 4 hHeld ?_
  refine tkH 5 hHeld ?_
  refine tkH 6 hHeld ?_
  refine tkH 7 hHeld ?_
  refine tkH 8 hHeld ?_
  refine tkH 9 hHeld ?_
  refine tkH 10 hHeld ?_
  refine tkH 11 hHeld ?_
  refine wpAnyH_ready (rs := [12]) krA spA ?_
  refine AllReadyH.cons rfl (fun K hK => ?_) AllReadyH.nil
  go_simp
  (go_at_call 151;(with_reducible refine (identity_SubjectF A c l x.who x.seq _ (HL.out.next belA) hn HS.out hsx hseq).mono ?_);rintro e w1 ⟨⟨o,A',c',ho,rfl,_,hso,hfr⟩,hb1⟩;have HFR:Hid (∀ a,A'=some a→w.heap.size≤a.block):=qh (fun a h=>hfr a h);clear hfr;have hx1:Below w.heap.size w w1:=belA;obtain ⟨k1,f1,z1⟩:=keepB hx1 g hgl;have fz1 : ∀ j,w1.frozen? ⟨g,j,none⟩=false:=fun j=>(f1 j).trans (HB.out.frozen j);have HO:=qh ho;have HSO:=qh hso;clear ho hso)
  go_wp2_with fail
  refine hK.out _ _ ⟨?_,?_,?_,?_,?_⟩ (fun hHeld => ?_)
  iterate 5 (simp only [*])
  clear hK K
  (try simp only [Act.put,List.getElem_toArray,List.getElem_cons_zero,List.getElem_cons_succ,List.setIfInBounds_toArray,List.set_cons_zero,List.set_cons_succ])
  refine tkH 13 hHeld ?_
  refine tkH 14 hHeld ?_
  refine wpAnyH_ready (rs := [15]) krA spA ?_
  refine AllReadyH.cons rfl (fun K hK => ?_) AllReadyH.nil
  go_simp
  have k9:=(k1 9).trans s9
  have hB1:Blk w1 g 180 (scopeCells x (.slice none 0 0)):=HB.out.below hx1 hgl
  have hB2:Blk (w1.setCell ⟨g,9,none⟩ (.slice A' o.length c')) g 180 (scopeCells x (.slice A' o.length c')):=(hB1.set_ 9 _).eq (by simp [scopeCells,Hold.cells])
  obtain ⟨_,_,⟨r2,r3,r4,r5⟩,r6,_,_,_⟩:=scope_blk hB2
  have HB2:=qh hB2
  clear hB1 hB2
  go_wp2_with fail
  refine hK.out _ _ ⟨r2,r3,r4,r5,r6⟩ (fun hHeld => ?_)
  clear hK K
  (try simp only [Act.put,List.getElem_toArray,List.getElem_cons_zero,List.getElem_cons_succ,List.setIfInBounds_toArray,List.set_cons_zero,List.set_cons_succ])
  refine wpAnyH_done krA ?_ _
  go_wp2_with fail
  first|go_end0|(refine bodyPost_ret (results_none rfl _ _ _) rfl ?_)
  exact ⟨rfl,⟨o,A',c',fun h=>absurd h HW.out,fun _=>HO.out,HB2.out,SliceIs.mono (HSO.out.setSlice k9 _) (by simp [World.setCell]),HFR.out⟩,only_setCell (only_of_below hx1 _) (.inl rfl) _⟩
 ·have heq:=eqlNo hw
  have hw':x.who=noId:=by simpa using hw
  have HW:=qh hw'
  clear hw hw'
  go_enter Tryz.func97,Tryz.ntmps97
  go_wp2_with fail
  first|go_end0|(refine bodyPost_ret (results_none rfl _ _ _) rfl ?_)
  exact ⟨rfl,⟨[],none,0,fun _=>rfl,fun h=>absurd HW.out h,HB.out,SliceIs.nil,fun a h=>by cases h⟩,World.grownBy.refl _ _⟩
theorem named_valid {l:List Link} {a y:Ident} (hv:validLinks l=true) (ha:validId a=true) (hy:y∈named l a):validId y=true:=by
 unfold named at hy
 rcases List.mem_cons.1 hy with rfl|hy
 ·exact ha
 ·obtain ⟨x,hx,hxy⟩:=List.mem_flatMap.1 hy
  have h:=validLinks_mem hv x hx
  simp at hxy
  rcases hxy with rfl|rfl
  ·exact h.2.2.1
  ·exact h.2.2.2.1
theorem subject_good {l:List Link} {who:Ident} {seq:Int} {o:List Ident} (h:SubjectOut l who seq o):Asc o∧AllValid o:=by
 unfold SubjectOut at h
 split at h
 ·rename_i hh
  simp only [Bool.and_eq_true] at hh
  refine ⟨h.1,fun y hy => ?_⟩
  rcases (h.2 y).1 hy with h1|⟨_,_,_,h1⟩
  ·exact named_valid hh.1 hh.2 h1.named
  ·exact named_valid hh.1 hh.2 h1.named
 ·subst h
  exact ⟨List.Pairwise.nil,fun y hy=>by cases hy⟩
noncomputable def inSubject (l:List Link) (who:Ident) (seq:Int) (own:List Ident):Bool := @decide (∃ o,SubjectOut l who seq o∧own.any (fun y=>decide (y∈o))=true) (Classical.propDecidable _)
theorem inSubject_eq {l:List Link} {who:Ident} {seq:Int} {own o:List Ident} (h:SubjectOut l who seq o):inSubject l who seq own=own.any (fun y=>decide (y∈o)):=by
 rw [Bool.eq_iff_iff,inSubject,@decide_eq_true_iff _ (Classical.propDecidable _)]
 exact ⟨fun ⟨o',h',k⟩=>by rw [h.unique h'];exact k,fun k=>⟨o,h,k⟩⟩
noncomputable def coversB (x:Hold) (l:List Link) (t c:Int) (own:List Ident):Bool:=concernsB x t c&&(decide (x.who=noId)||inSubject l x.who x.seq own)
theorem covers_eq {x:Hold} {l:List Link} {t c:Int} {own o:List Ident} (hc:concernsB x t c=true) (h1:x.who=noId→o = []) (h2:x.who≠noId→SubjectOut l x.who x.seq o):(decide (x.who=noId)||own.any (fun y=>decide (y∈o)))=coversB x l t c own:=by
 unfold coversB
 rw [hc,Bool.true_and]
 by_cases h:x.who=noId
 ·simp [h]
 ·rw [inSubject_eq (h2 h)]
theorem scope_good {x:Hold} {l:List Link} {o:List Ident} (h1:x.who=noId→o = []) (h2:x.who≠noId→SubjectOut l x.who x.seq o):Asc o∧AllValid o∧o.length ≤ 1000000:=by
 by_cases h:x.who=noId
 ·rw [h1 h]
  exact ⟨List.Pairwise.nil,fun y hy=>(by cases hy),by simp⟩
 ·exact ⟨(subject_good (h2 h)).1,(subject_good (h2 h)).2,subject_len (h2 h)⟩
theorem SliceIs.grownL {α : Type} {w w':World} {B g:Nat} {enc : α → List Value} {k:Nat} {A:Option Addr} {l:List α} (h:SliceIs w B enc k A l) (hg:w.grownBy w' (some g)) (hB:B≤g) (hw:B≤w.heap.size):SliceIs w' B enc k A l:=by
 intro hl
 obtain ⟨b,o,rfl,hb,hc⟩:=h hl
 exact ⟨b,o,rfl,hb,fun i hi j u hu=>(World.cell?_of_block (hg.block b omA (fun e=>by injection e with e;omega))).trans (hc i hi j u hu)⟩
theorem hold_covers (x:Hold) (A:Option Addr) (c n:Nat) (l:List Link) (t col sq rec day:Int) (A':Option Addr) (c' n':Nat) (own:List Ident) (nul lst:Bool) (w:World) (hl:SliceIs w w.heap.size Link.cells 10 A l) (hln:l.length=n) (hn:n ≤ 1000000) (hs:Sane l) (hsx:x.who.ns.size ≤ 1000000) (hseq:x.seq ≤ 9223372036854775807) (ho:SliceIs w w.heap.size Ident.cells 4 A' own) (hon:own.length=n') (hn':n' ≤ 1000000) {r:Bool} (hr:coversB x l t col own=r) :
 Calls Tryz.prog 105 #[.agg #[.int .i64 x.table, .int .i64 x.column, .string x.who.ns, .int .i64 x.who.val.kind, .int .i64 x.who.val.num, .string x.who.val.text, .int .i64 x.seq, .int .i64 x.day0, .int .i64 x.day1], .slice A n c, .agg #[.int .i64 t, .int .i64 col, .int .i64 sq, .int .i64 rec, .int .i64 day, .slice A' n' c', .bool nul, .bool lst]] w fun e w' =>
  e = .returned (.bool r)∧Below w.heap.size w w':=by
 subst hln hon hr
 have HS:=qh hs
 have HL:=qh hl
 have HO:=qh ho
 clear hs hl ho
 go_enter Tryz.func105,Tryz.ntmps105
 go_upto_region 2 with (fail)
 refine abs_world (P:=fun u=>Code.wp _ _ _ _ u) (R:=fun u=>Blk u (w.heap.size + 1) 55 #[.int .i64 t, .int .i64 col, .int .i64 sq, .int .i64 rec, .int .i64 day, .slice A' own.length c', .bool nul, .bool lst]∧Blk u (w.heap.size + 1 + 1) 180 (scopeCells x (.slice none 0 0))∧Below w.heap.size w u) ⟨?_,?_,?_⟩ ?_
 ·exact (Blk.new' spA).alloc _
 ·exact Blk.new' spA
 ·exact belA
 rintro W ⟨hb1,hb2,hbW⟩
 have b0:=hb1.cell 0
 have b1:=hb1.cell 1
 have b2:=hb1.cell 2
 simp only [List.getElem?_toArray,List.getElem?_cons_zero,List.getElem?_cons_succ] at b0 b1 b2
 have hz1:=hb1.lt
 have hz2:=hb2.lt
 have HB1:=qh hb1
 have HB2:=qh hb2
 clear hb1 hb2
 cases hc:concernsB x t col
 ·have HC:=qh hc
  clear hc
  go_wp2_with fail
  refine (scope_concerns _ x _ t col sq _ HB2.out).mono ?_
  rintro e w1 ⟨rfl,hb1⟩
  rw [HC.out]
  go_wp2_with fail
  go_ret
  exact ⟨ret_bool (by rw [coversB,HC.out];rfl),below_nextN hbW hb1 hbW.size⟩
 ·have HC:=qh hc
  clear hc
  go_wp2_with fail
  refine (scope_concerns _ x _ t col sq _ HB2.out).mono ?_
  rintro e w1 ⟨rfl,hb1⟩
  rw [HC.out]
  have hx1:=below_nextN hbW hb1 hbW.size
  go_wp2_with fail
  refine (scope_limit _ x A c l _ (HB2.out.below hb1 hz2) ((HL.out.below hx1).mono hx1.size) hn HS.out hsx hseq).mono ?_
  rintro e w2 ⟨rfl,⟨o,A6,c6,h1,h2,hB2,hso,_⟩,hg2⟩
  have hx2:Below w.heap.size w w2:=Below.grown hx1 hg2 hx1.size (fun q e=>by injection e with e;omega)
  have hO2:SliceIs w2 w.heap.size Ident.cells 4 A' own:=(HO.out.below hx1).grownL hg2 omA hx1.size
  have hP2:Blk w2 (w.heap.size + 1) 55 #[.int .i64 t, .int .i64 col, .int .i64 sq, .int .i64 rec, .int .i64 day, .slice A' own.length c', .bool nul, .bool lst]:=(HB1.out.below hb1 hz1).grown hg2 (fun e=>by injection e with e;omega)
  have p5:=hP2.cell 5
  simp only [List.getElem?_toArray,List.getElem?_cons_zero,List.getElem?_cons_succ] at p5
  obtain ⟨ha,hv,hol⟩:=scope_good h1 h2
  have HE:=qh (covers_eq (own:=own) HC.out h1 h2)
  have HB:=qh hB2
  have HSO:=qh hso
  have HA:=qh ha
  have HV:=qh hv
  have HO2:=qh (hO2.mono hx2.size)
  clear h1 h2 hB2 hso ha hv hO2 b0 b1 b2 hP2 hg2
  go_wp2_with fail
  refine (scope_includes _ x A6 c6 o A' c' own _ HB.out HSO.out hol HA.out HV.out HO2.out hn').mono ?_
  rintro e w3 ⟨rfl,hb3⟩
  rw [HE.out]
  go_wp2_with fail
  go_ret
  exact ⟨rfl,below_nextN hx2 hb3 hx2.size⟩
noncomputable def blockTo (hs:List Hold) (l:List Link) (t c:Int) (own:List Ident) (day:Int) (m:Nat):List Int :=
 ((List.range m).filter (fun i=>match hs[i]? with|some x=>activeOn x day&&coversB x l t c own|none=>false)).map (fun i:Nat=>(i:Int))
theorem blockTo_len (hs:List Hold) (l:List Link) (t c:Int) (own:List Ident) (day:Int) (m:Nat):(blockTo hs l t c own day m).length≤m:=by
 unfold blockTo
 rw [List.length_map]
 exact Nat.le_trans (List.length_filter_le _ _) spA
theorem blockTo_step {hs:List Hold} {l:List Link} {t c:Int} {own:List Ident} {day:Int} {m:Nat} (h:m<hs.length):blockTo hs l t c own day (m + 1)=if (activeOn hs[m] day&&coversB hs[m] l t c own)=true then blockTo hs l t c own day m ++ [(m:Int)] else blockTo hs l t c own day m:=by
 unfold blockTo
 rw [List.range_succ,List.filter_append]
 split
 ·rename_i hh
  rw [List.filter_cons_of_pos (by rw [List.getElem?_eq_getElem h];exact hh)]
  simp
 ·rename_i hh
  rw [List.filter_cons_of_neg (by rw [List.getElem?_eq_getElem h];exact hh)]
  simp
noncomputable def blocking (hs:List Hold) (l:List Link) (t c:Int) (own:List Ident) (day:Int):List Int :=
 if (validHolds hs&&validLinks l)=true then blockTo hs l t c own day hs.length else []
theorem hold_ValidB (A:Option Addr) (c n:Nat) (l:List Hold) (w:World) (hl:SliceIs w w.heap.size Hold.cells 9 A l) (hln:l.length=n) (hn:n ≤ 1000000) (hs:SaneH l) {r:Bool} (hr:validHolds l=r) :
 Calls Tryz.prog 46 #[.slice A n c] w fun e w'=>e = .returned (.bool r)∧Below w.heap.size w w':=by
 subst hln hr
 exact hold_Valid A c l w hl hn hs
theorem hold_ActiveB (x:Hold) (day:Int) (w:World) {r:Bool} (hr:activeOn x day=r) :
 Calls Tryz.prog 58 #[.agg #[.int .i64 x.table, .int .i64 x.column, .string x.who.ns, .int .i64 x.who.val.kind, .int .i64 x.who.val.num, .string x.who.val.text, .int .i64 x.seq, .int .i64 x.day0, .int .i64 x.day1], .int .i64 day] w fun e w'=>e = .returned (.bool r)∧Ext w w':=by
 subst hr
 exact hold_Active x day w
theorem Hold.blk {w:World} {g:Nat} {x:Hold} (h:Blk w g 107 x.cells.toArray) :
 w.cell? ⟨g,0,none⟩=some (.int .i64 x.table)∧w.cell? ⟨g,1,none⟩=some (.int .i64 x.column)∧(w.cell? ⟨g,2,none⟩=some (.string x.who.ns)∧w.cell? ⟨g,3,none⟩=some (.int .i64 x.who.val.kind)∧w.cell? ⟨g,4,none⟩=some (.int .i64 x.who.val.num)∧w.cell? ⟨g,5,none⟩=some (.string x.who.val.text))∧w.cell? ⟨g,6,none⟩=some (.int .i64 x.seq)∧w.cell? ⟨g,7,none⟩=some (.int .i64 x.day0)∧w.cell? ⟨g,8,none⟩=some (.int .i64 x.day1) :=
 ⟨h.cell 0,h.cell 1,⟨h.cell 2,h.cell 3,h.cell 4,h.cell 5⟩,h.cell 6,h.cell 7,h.cell 8⟩
theorem Owned.blk {w:World} {g:Nat} {a b c d e f g' h:Value} (k:Blk w g 55 #[a,b,c,d,e,f,g',h]) :
 w.cell? ⟨g,0,none⟩=some a∧w.cell? ⟨g,1,none⟩=some b∧w.cell? ⟨g,2,none⟩=some c∧w.cell? ⟨g,3,none⟩=some d∧w.cell? ⟨g,4,none⟩=some e∧w.cell? ⟨g,5,none⟩=some f∧w.cell? ⟨g,6,none⟩=some g'∧w.cell? ⟨g,7,none⟩=some h :=
 ⟨k.cell 0,k.cell 1,k.cell 2,k.cell 3,k.cell 4,k.cell 5,k.cell 6,k.cell 7⟩
theorem idle_Blocking (w:World):CallsD Tryz.prog 104 #[] .returning w fun e u' w'=>e = .returned (.tuple #[])∧u' = .returning∧w'=w:=by
 refine callsD_of_wpS Tryz.func104 rfl fun c₀ cs hu => ?_
 apply wpS_region
 cases c₀
 simp_all [wpOpsS,go_sem,recoverD,Tryz.ntmps104,bodyPostS,results,Tryz.results104]
theorem hold_Blocking (A:Option Addr) (c n:Nat) (hs:List Hold) (AL:Option Addr) (cL nL:Nat) (l:List Link) (t col sq rec dy:Int) (A':Option Addr) (c' n':Nat) (own:List Ident) (nul lst:Bool) (day:Int) (w:World)
 (hh:SliceIs w w.heap.size Hold.cells 9 A hs) (hnh:hs.length=n) (hn32:n ≤ 1000000) (hsh:SaneH hs) (hl:SliceIs w w.heap.size Link.cells 10 AL l) (hnl:l.length=nL) (hnl':nL ≤ 1000000) (hsl:Sane l) (ho:SliceIs w w.heap.size Ident.cells 4 A' own) (hon:own.length=n') (hn':n' ≤ 1000000) :
 Calls Tryz.prog 52 #[.slice A n c, .slice AL nL cL, .agg #[.int .i64 t, .int .i64 col, .int .i64 sq, .int .i64 rec, .int .i64 dy, .slice A' n' c', .bool nul, .bool lst], .int .i64 day] w fun e w' =>
  (∃ v,e = .returned v∧Owns w' w.heap.size 3 intCells 1 v (blocking hs l t col own day))∧Below w.heap.size w w':=by
 obtain ⟨i0,hi0,hz0,hz1,hz2⟩:=info_parts infoIntT
 have HH:=qh hh
 have HL:=qh hl
 have HO:=qh ho
 have HSH:=qh hsh
 have HSL:=qh hsl
 clear hh hl ho hsh hsl
 cases hvh:validHolds hs
 ·have HVH:=qh hvh
  clear hvh
  go_enter_defers Tryz.func52,Tryz.ntmps52
  go_wp2_with (first
   | (go_at_call 46;(with_reducible refine (hold_ValidB A c n hs _ ((HH.out.below (B:=w.heap.size) belA).mono leA) hnh hn32 HSH.out HVH.out).mono ?_);rintro e w1 ⟨rfl,hb1⟩;have hx1:Below w.heap.size w w1:=below_nextN belA hb1 leA;obtain ⟨k1,f1,z1⟩:=keepB hb1 w.heap.size ltA)
   | (go_at_call 96;(with_reducible refine (identity_ValidN AL cL nL l _ ((HL.out.below hx1).mono hx1.size) hnl hnl' HSL.out HVL.out).mono ?_);rintro e w2 ⟨rfl,hb2⟩;have hx2:Below w.heap.size w w2:=below_nextN hx1 hb2 hx1.size))
  refine leaves_cons (f := 104) (args := #[]) spA (by simp [go_sem]) ?_;refine (idle_Blocking _).mono ?_;rintro e u' w'' ⟨rfl,rfl,rfl⟩;refine ⟨_,results_tmp rfl _ _ _,?_⟩
  refine ⟨⟨_,rfl,?_⟩,hx1⟩
  rw [blocking,HVH.out]
  exact Owns.nil
 cases hvl:validLinks l
 ·have HVH:=qh hvh
  have HVL:=qh hvl
  clear hvh hvl
  go_enter_defers Tryz.func52,Tryz.ntmps52
  go_wp2_with (first
   | (go_at_call 46;(with_reducible refine (hold_ValidB A c n hs _ ((HH.out.below (B:=w.heap.size) belA).mono leA) hnh hn32 HSH.out HVH.out).mono ?_);rintro e w1 ⟨rfl,hb1⟩;have hx1:Below w.heap.size w w1:=below_nextN belA hb1 leA;obtain ⟨k1,f1,z1⟩:=keepB hb1 w.heap.size ltA)
   | (go_at_call 96;(with_reducible refine (identity_ValidN AL cL nL l _ ((HL.out.below hx1).mono hx1.size) hnl hnl' HSL.out HVL.out).mono ?_);rintro e w2 ⟨rfl,hb2⟩;have hx2:Below w.heap.size w w2:=below_nextN hx1 hb2 hx1.size))
  refine leaves_cons (f := 104) (args := #[]) spA (by simp [go_sem]) ?_;refine (idle_Blocking _).mono ?_;rintro e u' w'' ⟨rfl,rfl,rfl⟩;refine ⟨_,results_tmp rfl _ _ _,?_⟩
  refine ⟨⟨_,rfl,?_⟩,hx2⟩
  rw [blocking,HVH.out,HVL.out]
  exact Owns.nil
 have hn:=hvh
 have hok : ∀ x∈hs,holdOk x=true:=by
  simp only [validHolds,Bool.and_eq_true,List.all_eq_true] at hvh
  exact hvh.2
 have hle:hs.length ≤ 32:=by
  simp only [validHolds,Bool.and_eq_true,decide_eq_true_eq] at hvh
  exact hvh.1
 have HOK:=qh hok
 have HVH:=qh hvh
 have HVL:=qh hvl
 clear hvh hvl hok hn
 go_enter_defers Tryz.func52,Tryz.ntmps52
 go_upto_region 4 with (first
  | (go_at_call 46;(with_reducible refine (hold_ValidB A c n hs _ ((HH.out.below (B:=w.heap.size) belA).mono leA) hnh hn32 HSH.out HVH.out).mono ?_);rintro e w1 ⟨rfl,hb1⟩;have hx1:Below w.heap.size w w1:=below_nextN belA hb1 leA;obtain ⟨k1,f1,z1⟩:=keepB hb1 w.heap.size ltA)
  | (go_at_call 96;(with_reducible refine (identity_ValidN AL cL nL l _ ((HL.out.below hx1).mono hx1.size) hnl hnl' HSL.out HVL.out).mono ?_);rintro e w2 ⟨rfl,hb2⟩;have hx2:Below w.heap.size w w2:=below_nextN hx1 hb2 hx1.size))
 refine abs_world (P:=fun u=>Code.wp _ _ _ _ u) (R:=fun u=>Blk u w.heap.size 55 #[.int .i64 t, .int .i64 col, .int .i64 sq, .int .i64 rec, .int .i64 dy, .slice A' n' c', .bool nul, .bool lst]∧Below w.heap.size w u) ⟨?_,?_⟩ ?_
 ·exact ((Blk.new _ _ _).below hb1 spA).below hb2 z1
 ·exact hx2
 clear k1 f1 z1 hb1 hb2 hx1 hx2
 rintro W ⟨hB,hbW⟩
 have hzW:=hB.lt
 have HB:=qh hB
 clear hB
 go_wp2_with fail
 go_loopw [9,22] (fun vo vi wr => ∃ m:Nat,m≤hs.length∧vi = .int .i64 m∧Owns wr W.heap.size 3 intCells 1 vo (blockTo hs l t col own day m)∧Below W.heap.size W wr) (fun _ vi _=>hs.length - (intOf vi).toNat)
 case atStart=>exact ⟨0,Nat.zero_le _,rfl,Owns.nil,Below.refl _ _⟩
 case round =>
  obtain ⟨m,hm,rfl,hown,hbr⟩:=hrel
  have hwz:=hbr.size
  have hxr:=below_nextN hbW hbr hbW.size
  have hzr:=hxr.size
  by_cases hlt:m<hs.length
  ·obtain ⟨b5,o5,rfl,hb5,hc5⟩:=(HH.out.below hxr).get hlt
   obtain ⟨h0,h1,⟨h2,h3,h4,h5⟩,h6,h7,h8⟩:=Hold.cells9 hc5
   obtain ⟨q0,q1,q2,q3,q4,q5,q6,q7⟩:=Owned.blk (HB.out.below hbr hzW)
   have hsm:=HSH.out hs[m] (List.getElem_mem hlt)
   have hsq:hs[m].seq ≤ 9223372036854775807:=by
    obtain ⟨_,_,_,_,_,_,h,_⟩:=(holdOk_iff _).1 (HOK.out hs[m] (List.getElem_mem hlt))
    omega
   have HOWN:=qh hown
   have hrow:=hown.row
   have hbl:=blockTo_len hs l t col own day m
   clear hc5 hown
   cases ha:activeOn hs[m] day
   ·have HA:=qh ha
    clear ha
    go_wp2_with (go_at_call 58;(with_reducible refine (hold_ActiveB hs[m] day _ HA.out).mono ?_);rintro e w1 ⟨rfl,hb1⟩;have hx1:Below wr.heap.size wr w1:=below_nextN belA hb1.1 leA)
    go_roundw
    case rel=>exact ⟨m + 1,by omega,by go_num,by rw [blockTo_step hlt,HA.out];exact HOWN.out.below hx1 (Nat.le_refl _),below_nextN hbr hx1 hwz⟩
    case measure=>simp [intOf];omega
   ·cases hcv:coversB hs[m] l t col own
    ·have HA:=qh ha
     have HCV:=qh hcv
     clear ha hcv
     go_wp2_with (first
      | (go_at_call 58;(with_reducible refine (hold_ActiveB hs[m] day _ HA.out).mono ?_);rintro e w1 ⟨rfl,hb1⟩;have hx1:Below wr.heap.size wr w1:=below_nextN belA hb1.1 leA;obtain ⟨k1,f1,z1⟩:=keepE hb1 wr.heap.size ltA;have ko1:=(keepB hx1 w.heap.size omA).1;have hy1:=below_nextN hxr hx1 hzr;have hzz1:=hx1.size)
      | (go_at_call 105;(with_reducible refine (hold_covers hs[m] AL cL nL l t col sq rec dy A' c' n' own nul lst _ ((HL.out.below hy1).mono hy1.size) hnl hnl' HSL.out hsm hsq ((HO.out.below hy1).mono hy1.size) hon hn' HCV.out).mono ?_);rintro e w2 ⟨rfl,hb2⟩;have hx2:Below wr.heap.size wr w2:=below_nextN hx1 hb2 hx1.size;have hzz2:=hx2.size))
     go_roundw
     case rel=>exact ⟨m + 1,by omega,by go_num,by rw [blockTo_step hlt,HA.out,HCV.out];exact HOWN.out.below hx2 (Nat.le_refl _),below_nextN hbr hx2 hwz⟩
     case measure=>simp [intOf];omega
    ·have HA:=qh ha
     have HCV:=qh hcv
     clear ha hcv
     go_upto_region 9 with (first
      | (go_at_call 58;(with_reducible refine (hold_ActiveB hs[m] day _ HA.out).mono ?_);rintro e w1 ⟨rfl,hb1⟩;have hx1:Below wr.heap.size wr w1:=below_nextN belA hb1.1 leA;obtain ⟨k1,f1,z1⟩:=keepE hb1 wr.heap.size ltA;have ko1:=(keepB hx1 w.heap.size omA).1;have hy1:=below_nextN hxr hx1 hzr;have hzz1:=hx1.size)
      | (go_at_call 105;(with_reducible refine (hold_covers hs[m] AL cL nL l t col sq rec dy A' c' n' own nul lst _ ((HL.out.below hy1).mono hy1.size) hnl hnl' HSL.out hsm hsq ((HO.out.below hy1).mono hy1.size) hon hn' HCV.out).mono ?_);rintro e w2 ⟨rfl,hb2⟩;have hx2:Below wr.heap.size wr w2:=below_nextN hx1 hb2 hx1.size;have hzz2:=hx2.size))
     have hO2:Owns (w2.alloc (.cells #[.int .i64 (m:Int)] 3)) W.heap.size 3 intCells 1 u9 (blockTo hs l t col own day m):=(HOWN.out.below hx2 (Nat.le_refl _)).alloc _
     have hone:SliceIs (w2.alloc (.cells #[.int .i64 (m:Int)] 3)) (w2.alloc (.cells #[.int .i64 (m:Int)] 3)).heap.size intCells 1 (some ⟨w2.heap.size,0,none⟩) [(m:Int)]:=Blk.one (enc:=intCells) (x:=(m:Int)) (Blk.new' rfl) spA
     have HO2:=qh hO2
     have HONE:=qh hone
     clear hO2 hone
     go_wp2_with (at_builtin;go_must ((refine wpList_append_list _ rfl (.tmp 36) (.tmp 38) 22 rfl 3 i0 _ intCells 1 8 Tryz.underlying22 hi0 hz0 hz1 hz2 rfl omA int_len int_one W.heap.size u9 (blockTo hs l t col own day m) rfl HO2.out _ _ _ [(m:Int)] rfl rfl HONE.out smA mxA smA ?_);intro v' w3 hown' hg' hat';have HOWN':=qh hown';clear hown';have hbel:Below W.heap.size W w3:=Below.grown ((below_nextN hbr hx2 hwz).alloc omA _) hg' smA (fun q e=>by have:=hrow q e;omega)))
     go_roundw
     case rel=>exact ⟨m + 1,by omega,by go_num,by rw [blockTo_step hlt,HA.out,HCV.out];exact HOWN'.out,hbel⟩
     case measure=>simp [intOf];omega
  ·have hlt':decide (m<hs.length)=false:=by simpa using hlt
   obtain rfl:m=hs.length:=by omega
   go_wp2_with fail
   refine leaves_cons (f := 104) (args := #[]) spA (by simp [go_sem]) ?_;refine (idle_Blocking _).mono ?_;rintro e u' w'' ⟨rfl,rfl,rfl⟩;refine ⟨_,results_tmp rfl _ _ _,?_⟩
   refine ⟨⟨_,rfl,?_⟩,hxr⟩
   rw [blocking,HVH.out,HVL.out]
   exact hown.mono hbW.size
theorem infoHold:(Tryz.prog.info? 107).map (fun i=>(i.zero,i.size,i.bytes))=some (some (.agg #[.int .i64 0, .int .i64 0, .string ⟨#[]⟩, .int .i64 0, .int .i64 0, .string ⟨#[]⟩, .int .i64 0, .int .i64 0, .int .i64 0]),9,88):=by kernel_rfl
theorem hold_len : ∀ x:Hold,(Hold.cells x).length = 9:=fun _=>rfl
theorem hold_one : ∀ x:Hold,∀ u∈Hold.cells x,u.oneCell'=true:=by
 intro x u hu
 simp only [Hold.cells,List.mem_cons,List.not_mem_nil,or_false] at hu
 rcases hu with rfl|rfl|rfl|rfl|rfl|rfl|rfl|rfl|rfl <;> rfl
noncomputable def covering (hs:List Hold) (l:List Link) (t c:Int) (own:List Ident) (day:Int):List Hold:=hs.filter (fun x=>decide (day<x.day1)&&coversB x l t c own)
theorem covering_step {hs:List Hold} {l:List Link} {t c:Int} {own:List Ident} {day:Int} {m:Nat} (h:m<hs.length):covering (hs.take (m + 1)) l t c own day=if (decide (day<hs[m].day1)&&coversB hs[m] l t c own)=true then covering (hs.take m) l t c own day ++ [hs[m]] else covering (hs.take m) l t c own day:=by
 unfold covering
 rw [List.take_succ_eq_append_getElem h,List.filter_append]
 split
 ·rename_i hh
  rw [List.filter_cons_of_pos (by exact hh)]
  rfl
 ·rename_i hh
  rw [List.filter_cons_of_neg (by exact hh)]
  simp
theorem covering_len (hs:List Hold) (l:List Link) (t c:Int) (own:List Ident) (day:Int):(covering hs l t c own day).length≤hs.length:=List.length_filter_le _ _
structure UInv (cov:List Hold) (day u:Int):Prop where
 le:day≤u
 held : ∀ d,day≤d→d<u → ∃ x∈cov,activeOn x d=true
def UntilOut (cov:List Hold) (day r:Int):Prop := ∃ u,UInv cov day u∧(∀ x∈cov,activeOn x u=false)∧r=if u=day then 0 else u
structure EInv (cov:List Hold) (u e:Int) (m:Nat):Prop where
 le:u≤e
 at_:e=u ∨ ∃ x∈cov,activeOn x u=true∧x.day1=e
 all : ∀ i (h:i<cov.length),i<m→activeOn cov[i] u=true→cov[i].day1≤e
theorem EInv.skip {cov:List Hold} {u e:Int} {m:Nat} (h:EInv cov u e m) (hm:m<cov.length) (ha:activeOn cov[m] u=false):EInv cov u e (m + 1) :=
 ⟨h.le,h.at_,fun i hi him hai=>by
  rcases Nat.lt_or_ge i m with k|k
  ·exact h.all i hi k hai
  ·obtain rfl:i=m:=by omega
   rw [ha] at hai
   cases hai⟩
theorem EInv.take {cov:List Hold} {u e:Int} {m:Nat} (h:EInv cov u e m) (hm:m<cov.length) (ha:activeOn cov[m] u=true):EInv cov u (max e cov[m].day1) (m + 1):=by
 have hl:=h.le
 rcases Int.le_total e cov[m].day1 with hg|hg
 ·rw [Int.max_eq_right hg]
  refine ⟨by omega, .inr ⟨cov[m],List.getElem_mem hm,ha,rfl⟩,fun i hi him hai => ?_⟩
  rcases Nat.lt_or_ge i m with k|k
  ·have:=h.all i hi k hai
   omega
  ·obtain rfl:i=m:=by omega
   exact Int.le_refl _
 ·rw [Int.max_eq_left hg]
  refine ⟨hl,h.at_,fun i hi him hai => ?_⟩
  rcases Nat.lt_or_ge i m with k|k
  ·exact h.all i hi k hai
  ·obtain rfl:i=m:=by omega
   omega
theorem active_iff {x:Hold} {d:Int}:activeOn x d=true↔x.day0≤d∧d<x.day1:=by simp [activeOn]
theorem EInv.free {cov:List Hold} {u:Int} (h:EInv cov u u cov.length) : ∀ x∈cov,activeOn x u=false:=by
 intro x hx
 obtain ⟨i,hi,rfl⟩:=List.getElem_of_mem hx
 cases ha:activeOn cov[i] u
 ·rfl
 ·have h1:=h.all i hi hi ha
  have h2:=(active_iff.1 ha).2
  omega
theorem EInv.go {cov:List Hold} {day u e:Int} {m:Nat} (h:EInv cov u e m) (hu:UInv cov day u):UInv cov day e:=by
 have h1:=h.le
 have h2:=hu.le
 refine ⟨by omega,fun d hd hde => ?_⟩
 rcases Int.lt_or_le d u with k|k
 ·exact hu.held d hd k
 ·rcases h.at_ with e1|⟨x,hx,ha,hxe⟩
  ·omega
  ·have:=active_iff.1 ha
   exact ⟨x,hx,active_iff.2 ⟨by omega,by omega⟩⟩
theorem idle_Until (w:World):CallsD Tryz.prog 108 #[] .returning w fun e u' w'=>e = .returned (.tuple #[])∧u' = .returning∧w'=w:=by
 refine callsD_of_wpS Tryz.func108 rfl fun c₀ cs hu => ?_
 apply wpS_region
 cases c₀
 simp_all [wpOpsS,go_sem,recoverD,Tryz.ntmps108,bodyPostS,results,Tryz.results108]
theorem hold_Until (A:Option Addr) (c n:Nat) (hs:List Hold) (AL:Option Addr) (cL nL:Nat) (l:List Link) (t col sq rec dy:Int) (A':Option Addr) (c' n':Nat) (own:List Ident) (nul lst:Bool) (day:Int) (w:World)
 (hh:SliceIs w w.heap.size Hold.cells 9 A hs) (hnh:hs.length=n) (hn32:n ≤ 1000000) (hsh:SaneH hs) (hl:SliceIs w w.heap.size Link.cells 10 AL l) (hnl:l.length=nL) (hnl':nL ≤ 1000000) (hsl:Sane l) (ho:SliceIs w w.heap.size Ident.cells 4 A' own) (hon:own.length=n') (hn':n' ≤ 1000000) :
 Calls Tryz.prog 54 #[.slice A n c, .slice AL nL cL, .agg #[.int .i64 t, .int .i64 col, .int .i64 sq, .int .i64 rec, .int .i64 dy, .slice A' n' c', .bool nul, .bool lst], .int .i64 day] w fun e w' =>
  (∃ r,e = .returned (.int .i64 r)∧if (validHolds hs&&validLinks l)=true then UntilOut (covering hs l t col own day) day r else r = 0)∧Below w.heap.size w w':=by
 subst hnh hnl hon
 obtain ⟨i0,hi0,hz0,hz1,hz2⟩:=info_parts infoHold
 have HH:=qh hh
 have HL:=qh hl
 have HO:=qh ho
 have HSH:=qh hsh
 have HSL:=qh hsl
 clear hh hl ho hsh hsl
 cases hvh:validHolds hs
 ·have HVH:=qh hvh
  clear hvh
  go_enter_defers Tryz.func54,Tryz.ntmps54
  go_wp2_with (first
   | (go_at_call 46;(with_reducible refine (hold_ValidB A c hs.length hs _ ((HH.out.below (B:=w.heap.size) belA).mono leA) rfl hn32 HSH.out HVH.out).mono ?_);rintro e w1 ⟨rfl,hb1⟩;have hx1:Below w.heap.size w w1:=below_nextN belA hb1 leA;obtain ⟨k1,f1,z1⟩:=keepB hb1 w.heap.size ltA)
   | (go_at_call 96;(with_reducible refine (identity_ValidN AL cL l.length l _ ((HL.out.below hx1).mono hx1.size) rfl hnl' HSL.out HVL.out).mono ?_);rintro e w2 ⟨rfl,hb2⟩;have hx2:Below w.heap.size w w2:=below_nextN hx1 hb2 hx1.size))
  refine leaves_cons (f := 108) (args := #[]) spA (by simp [go_sem]) ?_;refine (idle_Until _).mono ?_;rintro e u' w'' ⟨rfl,rfl,rfl⟩;refine ⟨_,results_tmp rfl _ _ _,?_⟩
  exact ⟨rfl,hx1⟩
 cases hvl:validLinks l
 ·have HVH:=qh hvh
  have HVL:=qh hvl
  clear hvh hvl
  go_enter_defers Tryz.func54,Tryz.ntmps54
  go_wp2_with (first
   | (go_at_call 46;(with_reducible refine (hold_ValidB A c hs.length hs _ ((HH.out.below (B:=w.heap.size) belA).mono leA) rfl hn32 HSH.out HVH.out).mono ?_);rintro e w1 ⟨rfl,hb1⟩;have hx1:Below w.heap.size w w1:=below_nextN belA hb1 leA;obtain ⟨k1,f1,z1⟩:=keepB hb1 w.heap.size ltA)
   | (go_at_call 96;(with_reducible refine (identity_ValidN AL cL l.length l _ ((HL.out.below hx1).mono hx1.size) rfl hnl' HSL.out HVL.out).mono ?_);rintro e w2 ⟨rfl,hb2⟩;have hx2:Below w.heap.size w w2:=below_nextN hx1 hb2 hx1.size))
  refine leaves_cons (f := 108) (args := #[]) spA (by simp [go_sem]) ?_;refine (idle_Until _).mono ?_;rintro e u' w'' ⟨rfl,rfl,rfl⟩;refine ⟨_,results_tmp rfl _ _ _,?_⟩
  exact ⟨rfl,hx2⟩
 have hok : ∀ x∈hs,holdOk x=true:=by
  simp only [validHolds,Bool.and_eq_true,List.all_eq_true] at hvh
  exact hvh.2
 have hle:hs.length ≤ 32:=by
  simp only [validHolds,Bool.and_eq_true,decide_eq_true_eq] at hvh
  exact hvh.1
 have HOK:=qh hok
 have HVH:=qh hvh
 have HVL:=qh hvl
 clear hvh hvl hok
 go_enter_defers Tryz.func54,Tryz.ntmps54
 go_upto_region 4 with (first
  | (go_at_call 46;(with_reducible refine (hold_ValidB A c hs.length hs _ ((HH.out.below (B:=w.heap.size) belA).mono leA) rfl hn32 HSH.out HVH.out).mono ?_);rintro e w1 ⟨rfl,hb1⟩;have hx1:Below w.heap.size w w1:=below_nextN belA hb1 leA;obtain ⟨k1,f1,z1⟩:=keepB hb1 w.heap.size ltA)
  | (go_at_call 96;(with_reducible refine (identity_ValidN AL cL l.length l _ ((HL.out.below hx1).mono hx1.size) rfl hnl' HSL.out HVL.out).mono ?_);rintro e w2 ⟨rfl,hb2⟩;have hx2:Below w.heap.size w w2:=below_nextN hx1 hb2 hx1.size))
 refine abs_world (P:=fun u=>Code.wp _ _ _ _ u) (R:=fun u=>Blk u w.heap.size 55 #[.int .i64 t, .int .i64 col, .int .i64 sq, .int .i64 rec, .int .i64 dy, .slice A' own.length c', .bool nul, .bool lst]∧Below w.heap.size w u) ⟨?_,?_⟩ ?_
 ·exact ((Blk.new _ _ _).below hb1 spA).below hb2 z1
 ·exact hx2
 clear k1 f1 z1 hb1 hb2 hx1 hx2
 rintro W ⟨hB,hbW⟩
 have hzW:=hB.lt
 have HB:=qh hB
 clear hB
 go_wp2_with fail
 go_loopw [9,26] (fun vo vi wr => ∃ m:Nat,m≤hs.length∧vi = .int .i64 m∧Owns wr W.heap.size 107 Hold.cells 9 vo (covering (hs.take m) l t col own day)∧Below W.heap.size W wr) (fun _ vi _=>hs.length - (intOf vi).toNat)
 case atStart=>exact ⟨0,Nat.zero_le _,rfl,Owns.nil,Below.refl _ _⟩
 case round =>
  obtain ⟨m,hm,rfl,hown,hbr⟩:=hrel
  have hwz:=hbr.size
  have hxr:=below_nextN hbW hbr hbW.size
  have hzr:=hxr.size
  by_cases hlt:m<hs.length
  ·obtain ⟨b5,o5,rfl,hb5,hc5⟩:=(HH.out.below hxr).get hlt
   obtain ⟨h0,h1,⟨h2,h3,h4,h5⟩,h6,h7,h8⟩:=Hold.cells9 hc5
   obtain ⟨q0,q1,q2,q3,q4,q5,q6,q7⟩:=Owned.blk (HB.out.below hbr hzW)
   have hsm:=HSH.out hs[m] (List.getElem_mem hlt)
   have hsq:hs[m].seq ≤ 9223372036854775807:=by
    obtain ⟨_,_,_,_,_,_,h,_⟩:=(holdOk_iff _).1 (HOK.out hs[m] (List.getElem_mem hlt))
    omega
   have hzw':w.heap.size<wr.heap.size:=by omega
   have HOWN:=qh hown
   have hrow:=hown.row
   have hbl:(covering (hs.take m) l t col own day).length≤m:=Nat.le_trans (covering_len _ _ _ _ _ _) smA
   clear hc5 hown
   cases ha:decide (day<hs[m].day1)
   ·have HA:=qh ha
    go_wp2_with fail
    clear ha
    go_roundw
    case rel=>exact ⟨m + 1,by omega,by go_num,by rw [covering_step hlt,HA.out];exact HOWN.out.alloc _,hbr.alloc hwz _⟩
    case measure=>simp [intOf];omega
   ·cases hcv:coversB hs[m] l t col own
    ·have HA:=qh ha
     have HCV:=qh hcv
     clear hcv
     go_wp2_with (go_at_call 105;(with_reducible refine (hold_covers hs[m] AL cL l.length l t col sq rec dy A' c' own.length own nul lst _ ((HL.out.below (B:=w.heap.size) belA).mono leA) rfl hnl' HSL.out hsm hsq ((HO.out.below (B:=w.heap.size) belA).mono leA) rfl hn' HCV.out).mono ?_);rintro e w2 ⟨rfl,hb2⟩;have hx2:Below wr.heap.size wr w2:=below_nextN belA hb2 leA;have hzz2:=hx2.size;obtain ⟨k2,f2,z2⟩:=keepB hb2 wr.heap.size ltA)
     clear ha
     go_roundw
     case rel=>exact ⟨m + 1,by omega,by go_num,by rw [covering_step hlt,HA.out,HCV.out];exact HOWN.out.below hx2 (Nat.le_refl _),below_nextN hbr hx2 hwz⟩
     case measure=>simp [intOf];omega
    ·have HA:=qh ha
     have HCV:=qh hcv
     clear hcv
     go_upto_region 9 with (go_at_call 105;(with_reducible refine (hold_covers hs[m] AL cL l.length l t col sq rec dy A' c' own.length own nul lst _ ((HL.out.below (B:=w.heap.size) belA).mono leA) rfl hnl' HSL.out hsm hsq ((HO.out.below (B:=w.heap.size) belA).mono leA) rfl hn' HCV.out).mono ?_);rintro e w2 ⟨rfl,hb2⟩;have hx2:Below wr.heap.size wr w2:=below_nextN belA hb2 leA;have hzz2:=hx2.size;obtain ⟨k2,f2,z2⟩:=keepB hb2 wr.heap.size ltA)
     have hO2:Owns (w2.alloc (.cells hs[m].cells.toArray 107)) W.heap.size 107 Hold.cells 9 u9 (covering (hs.take m) l t col own day):=(HOWN.out.below hx2 (Nat.le_refl _)).alloc _
     have hone:SliceIs (w2.alloc (.cells hs[m].cells.toArray 107)) (w2.alloc (.cells hs[m].cells.toArray 107)).heap.size Hold.cells 9 (some ⟨w2.heap.size,0,none⟩) [hs[m]]:=Blk.one (enc:=Hold.cells) (x:=hs[m]) (Blk.new' rfl) spA
     have HO2:=qh hO2
     have HONE:=qh hone
     clear hO2 hone ha
     go_wp2_with (at_builtin;go_must ((refine wpList_append_list _ rfl (.tmp 40) (.tmp 42) 40 rfl 107 i0 _ Hold.cells 9 88 Tryz.underlying40 hi0 hz0 hz1 hz2 rfl omA hold_len hold_one W.heap.size u9 (covering (hs.take m) l t col own day) rfl HO2.out _ _ _ [hs[m]] rfl rfl HONE.out smA mxA smA ?_);intro v' w3 hown' hg' hat';have HOWN':=qh hown';clear hown';have hbel:Below W.heap.size W w3:=Below.grown ((below_nextN hbr hx2 hwz).alloc omA _) hg' smA (fun q e=>by have:=hrow q e;omega)))
     go_roundw
     case rel=>exact ⟨m + 1,by omega,by go_num,by rw [covering_step hlt,HA.out,HCV.out];exact HOWN'.out,hbel⟩
     case measure=>simp [intOf];omega
  ·have hlt':decide (m<hs.length)=false:=by simpa using hlt
   obtain rfl:m=hs.length:=by omega
   rw [List.take_length] at hown
   obtain ⟨A9,c9,rfl,hc9,hs9,hA9⟩:=hown.slice hold_len
   obtain ⟨cov,hcov⟩ : ∃ cov,covering hs l t col own day=cov:=⟨_,rfl⟩
   have hcl:cov.length ≤ 32:=by have:=covering_len hs l t col own day;rw [hcov] at this;omega
   have hend : ∀ x∈cov,x.day1 ≤ 1048576:=fun x hx=>by
    rw [← hcov] at hx
    have:=(holdOk_iff x).1 (HOK.out x (List.mem_filter.1 hx).1)
    exact this.2.2.2.2.2.2.2.2.2.2
   rw [hcov] at hs9
   rw [hcov]
   have HCOV:=qh hcov
   have HEND:=qh hend
   have HS9:=qh hs9
   clear hcov hend hs9 hown hA9 hlt'
   obtain ⟨wo,rfl⟩ : ∃ wo:World,wo=wr:=⟨_,rfl⟩
   go_wp2_with fail
   go_loopw [12] (fun vu wr => ∃ u:Int,vu = .int .i64 u∧UInv cov day u∧Below wo.heap.size wo wr) (fun vu _=>(1048576 - intOf vu).toNat)
   case atStart=>exact ⟨day,rfl,⟨Int.le_refl _,fun d h1 h2=>by omega⟩,Below.refl _ _⟩
   case round =>
    obtain ⟨u,rfl,hui,hbo⟩:=hrel
    have HUI:=qh hui
    clear hui
    obtain ⟨wp,rfl⟩ : ∃ wp:World,wp=wr:=⟨_,rfl⟩
    go_wp2_with fail
    go_loopw [13,49] (fun ve vi wr => ∃ (e:Int) (k:Nat),k≤cov.length∧vi = .int .i64 k∧ve = .int .i64 e∧EInv cov u e k∧Below wp.heap.size wp wr) (fun _ vi _=>cov.length - (intOf vi).toNat)
    case atStart=>exact ⟨u,0,Nat.zero_le _,rfl,rfl,⟨Int.le_refl _, .inl rfl,fun i _ h=>by omega⟩,Below.refl _ _⟩
    case round =>
     obtain ⟨e,k,hk,rfl,rfl,hei,hbi⟩:=hrel
     have HEI:=qh hei
     have hbx:=below_nextN hbo hbi hbo.size
     have hpz:=hbi.size
     clear hei
     by_cases hkl:k<cov.length
     ·obtain ⟨b5,o5,rfl,hb5,hc5⟩:=(HS9.out.next hbx).get hkl
      obtain ⟨h0,h1,⟨h2,h3,h4,h5⟩,h6,h7,h8⟩:=Hold.cells9 hc5
      clear hc5
      cases ha:activeOn cov[k] u
      ·have HA:=qh ha
       clear ha
       go_wp2_with (go_at_call 58;(with_reducible refine (hold_ActiveB cov[k] u _ HA.out).mono ?_);rintro e w1 ⟨rfl,hb1⟩;have hx1:Below wr.heap.size wr w1:=below_nextN belA hb1.1 leA)
       go_roundw
       case rel=>exact ⟨e,k + 1,by omega,by go_num,rfl,HEI.out.skip hkl HA.out,below_nextN hbi hx1 hpz⟩
       case measure=>simp [intOf];omega
      ·have HA:=qh ha
       clear ha
       go_wp2_with (go_at_call 58;(with_reducible refine (hold_ActiveB cov[k] u _ HA.out).mono ?_);rintro e w1 ⟨rfl,hb1⟩;have hx1:Below wr.heap.size wr w1:=below_nextN belA hb1.1 leA;obtain ⟨k1,f1,z1⟩:=keepE hb1 wr.heap.size ltA)
       go_roundw
       case rel=>exact ⟨max e cov[k].day1,k + 1,by omega,by go_num,rfl,HEI.out.take hkl HA.out,below_nextN hbi hx1 hpz⟩
       case measure=>simp [intOf];omega
     ·have hkl':decide (k<cov.length)=false:=by simpa using hkl
      obtain rfl:k=cov.length:=by omega
      by_cases heu:e=u
      ·subst heu
       by_cases hed:e=day
       ·have hed':(e==day)=true:=by simpa using hed
        go_wp2_with fail
        refine leaves_cons (f := 108) (args := #[]) spA (by simp [go_sem]) ?_;refine (idle_Until _).mono ?_;rintro e u' w'' ⟨rfl,rfl,rfl⟩;refine ⟨_,results_tmp rfl _ _ _,?_⟩
        refine ⟨⟨_,rfl,?_⟩,below_nextN hxr hbx hzr⟩
        rw [HCOV.out]
        exact ⟨e,HUI.out,HEI.out.free,by rw [if_pos hed]⟩
       ·have hed':(e==day)=false:=by simpa using hed
        go_wp2_with fail
        refine leaves_cons (f := 108) (args := #[]) spA (by simp [go_sem]) ?_;refine (idle_Until _).mono ?_;rintro e u' w'' ⟨rfl,rfl,rfl⟩;refine ⟨_,results_tmp rfl _ _ _,?_⟩
        refine ⟨⟨_,rfl,?_⟩,below_nextN hxr hbx hzr⟩
        rw [HCOV.out]
        exact ⟨e,HUI.out,HEI.out.free,by rw [if_neg hed]⟩
      ·have heu':(e==u)=false:=by simpa using heu
       have hlu:u<e:=by have:=HEI.out.le;omega
       have hle2:e ≤ 1048576:=by
        rcases HEI.out.at_ with h|⟨x,hx,_,h⟩
        ·omega
        ·rw [← h];exact HEND.out x hx
       go_wp2_with fail
       go_roundw
       case rel=>exact ⟨e,rfl,HEI.out.go HUI.out,hbx⟩
       case measure=>simp [intOf];omega
theorem Blk.all {α : Type} {w:World} {g B k:Nat} {t:TypeId} {enc : α → List Value} {l:List α} (hk : ∀ x,(enc x).length=k) (h:Blk w g t (l.flatMap enc).toArray) (hB:g<B):SliceIs w B enc k (some ⟨g,0,none⟩) l :=
 fun _=>⟨g,0,rfl,hB,fun i hi j u hu=>by rw [h.cell,Nat.zero_add];simpa using flat_get hk l i hi j u hu⟩
theorem sameInts (A A':Option Addr) (c c' n n':Nat) (a b:List Int) (w:World) (ha:SliceIs w w.heap.size intCells 1 A a) (hb:SliceIs w w.heap.size intCells 1 A' b) (hna:a.length=n) (hnb:b.length=n') (hn:n ≤ 1000000) (hn':n' ≤ 1000000) {r:Bool} (hr:decide (a=b)=r) :
 Calls Tryz.prog 51 #[.slice A n c, .slice A' n' c'] w fun e w'=>e = .returned (.bool r)∧Below w.heap.size w w':=by
 subst hna hnb hr
 have HA:=qh ha
 have HB:=qh hb
 clear ha hb
 by_cases hl:a.length=b.length
 ·have hl':((a.length:Int)==(b.length:Int))=true:=by rw [hl];simp
  have HLL:=qh hl
  go_enter Tryz.func51,Tryz.ntmps51
  go_wp2_with fail
  clear hl hl'
  go_loopw [5] (fun vi wr => ∃ m:Nat,m≤a.length∧vi = .int .i64 m∧Below w.heap.size w wr∧(∀ i (h:i<a.length) (h':i<b.length),i<m→a[i]=b[i])) (fun vi _=>a.length - (intOf vi).toNat)
  case atStart=>exact ⟨0,Nat.zero_le _,rfl,by exact belA,fun i _ _ h=>by omega⟩
  case round =>
   obtain ⟨m,hm,rfl,hbw,hok⟩:=hrel
   have HOK:=qh hok
   have hwz:=hbw.size
   clear hok
   by_cases hlt:m<a.length
   ·have hltb:m<b.length:=by have:=HLL.out;omega
    obtain ⟨b5,o5,rfl,hb5,hc5⟩:=(HA.out.below hbw).get hlt
    obtain ⟨b6,o6,rfl,hb6,hc6⟩:=(HB.out.below hbw).get hltb
    have x0:=hc5 0 _ rfl
    have y0:=hc6 0 _ rfl
    simp only [Nat.mul_one,Nat.add_zero] at x0 y0
    have hk0:=keepQ (w:=wr) b5 omA
    have hk1:=keepQ (w:=wr) b6 omA
    clear hc5 hc6
    cases he:(a[m] != b[m])
    ·have HE:=qh he
     go_upto_region 6 with (fail)
     refine wp_region_bel krA krA ?_;(repeat (go_big_quiet_step (fail)));refine wpQuiet_nil ?_;intro wq hq
     clear he
     go_wp2_with fail
     go_roundw
     case rel=>exact ⟨m + 1,by omega,by go_num,below_nextN hbw hq hwz,fun i h h' hi=>by
      rcases Nat.lt_or_ge i m with h1|h1
      ·exact HOK.out i h h' h1
      ·obtain rfl:i=m:=by omega
       exact by simpa using HE.out⟩
     case measure=>simp [intOf];omega
    ·have HE:=qh he
     go_upto_region 6 with (fail)
     refine wp_region_bel krA krA ?_;(repeat (go_big_quiet_step (fail)));refine wpQuiet_nil ?_;intro wq hq
     clear he
     go_wp2_with fail
     go_ret
     refine ⟨ret_bool ?_,below_nextN hbw hq hwz⟩
     symm
     rw [decide_eq_false_iff_not]
     rintro rfl
     have:=HE.out
     simp at this
   ·have hlt':decide (m<a.length)=false:=by simpa using hlt
    go_wp2_with fail
    go_ret
    refine ⟨ret_bool ?_,hbw⟩
    symm
    rw [decide_eq_true_iff]
    exact List.ext_getElem HLL.out fun i h h'=>HOK.out i h h' omA
 ·have hl':((a.length:Int)==(b.length:Int))=false:=by rw [beq_eq_false_iff_ne];omega
  go_enter Tryz.func51,Tryz.ntmps51
  go_wp2_with fail
  go_ret
  refine ⟨ret_bool ?_,by exact belA⟩
  symm
  rw [decide_eq_false_iff_not]
  rintro rfl
  exact hl rfl
def hA:Hold:=⟨-1,-1,noId,1,3,5⟩
def hB:Hold:=⟨-1,-1,noId,1,5,9⟩
theorem ab_valid:validHolds [hA,hB]=true:=by
 have h1:holdOk hA=true:=(holdOk_iff _).2 ⟨by decide,by decide,by decide,by decide,fun _=>rfl,by decide,by decide, .inl rfl,by decide,by decide,by decide⟩
 have h2:holdOk hB=true:=(holdOk_iff _).2 ⟨by decide,by decide,by decide,by decide,fun _=>rfl,by decide,by decide, .inl rfl,by decide,by decide,by decide⟩
 simp [validHolds,h1,h2]
theorem ab_sane:SaneH [hA,hB]:=by
 intro x hx
 simp only [List.mem_cons,List.not_mem_nil,or_false] at hx
 rcases hx with rfl|rfl <;> exact Nat.zero_le _
theorem no_links:validLinks []=true:=by rfl
theorem all_covers {x:Hold} (h1:x.table = -1) (h2:x.column = -1) (h3:x.who=noId) (l:List Link) (t c:Int) (own:List Ident):coversB x l t c own=true:=by
 unfold coversB concernsB
 rw [h1,h2,h3]
 simp
theorem ab_blocking:blocking [hA,hB] [] 0 0 [] 4 = [0]:=by
 have c1:=all_covers (x:=hA) rfl rfl rfl [] 0 0 []
 have c2:=all_covers (x:=hB) rfl rfl rfl [] 0 0 []
 have a1:activeOn hA 4=true:=by decide
 have a2:activeOn hB 4=false:=by decide
 rw [blocking,ab_valid,no_links,if_pos (by rfl)]
 show blockTo [hA,hB] [] 0 0 [] 4 (0 + 1 + 1) = [0]
 rw [blockTo_step spA,blockTo_step spA]
 simp [c1,a1,a2,blockTo]
theorem ab_until {r:Int} (h:UntilOut (covering [hA,hB] [] 0 0 [] 4) 4 r):r = 9:=by
 have c1:=all_covers (x:=hA) rfl rfl rfl [] 0 0 []
 have c2:=all_covers (x:=hB) rfl rfl rfl [] 0 0 []
 have e:covering [hA,hB] [] 0 0 [] 4 = [hA,hB]:=by
  unfold covering
  rw [List.filter_cons_of_pos (by rw [c1];rfl),List.filter_cons_of_pos (by rw [c2];rfl)]
  rfl
 rw [e] at h
 obtain ⟨u,hu,hf,hr⟩:=h
 have f1:=hf hA spA
 have f2:=hf hB spA
 have n1 : ¬ (3≤u∧u < 5):=fun k=>by rw [(active_iff (x:=hA)).2 k] at f1;cases f1
 have n2 : ¬ (5≤u∧u < 9):=fun k=>by rw [(active_iff (x:=hB)).2 k] at f2;cases f2
 have hl:=hu.le
 have h9:u ≤ 9:=by
  rcases Int.lt_or_le 9 u with k|k
  ·obtain ⟨x,hx,ha⟩:=hu.held 9 omA k
   simp only [List.mem_cons,List.not_mem_nil,or_false] at hx
   rcases hx with rfl|rfl <;> exact absurd ha (by decide)
  ·exact k
 rw [hr,if_neg omA]
 omega
theorem ab_over {r:Int} (h:UntilOut (covering [hA,hB] [] 0 0 [] 9) 9 r):r = 0:=by
 have e:covering [hA,hB] [] 0 0 [] 9 = []:=by
  unfold covering
  rw [List.filter_cons_of_neg (by rw [show decide ((9:Int)<hA.day1)=false by decide];simp),List.filter_cons_of_neg (by rw [show decide ((9:Int)<hB.day1)=false by decide];simp)]
  rfl
 rw [e] at h
 obtain ⟨u,hu,_,hr⟩:=h
 have hl:=hu.le
 rcases Int.lt_or_le 9 u with k|k
 ·obtain ⟨x,hx,_⟩:=hu.held 9 omA k
  cases hx
 ·rw [hr,if_pos omA]
theorem hawake_any (w:World):Calls Tryz.prog 19 #[] w fun e w'=>e = .returned (.bool true)∧Below w.heap.size w w':=by
 go_enter Tryz.func19,Tryz.ntmps19
 go_upto_region 2 with (fail)
 refine abs_world (P:=fun u=>Code.wp _ _ _ _ u) (R:=fun u=>SliceIs u (w.heap.size + 1) Hold.cells 9 (some ⟨w.heap.size,0,none⟩) [hA,hB]∧Below w.heap.size w u∧w.heap.size<u.heap.size) ⟨?_,?_,?_⟩ ?_
 ·exact Blk.all (t := 107) (l := [hA,hB]) hold_len (Blk.new _ _ _) spA
 ·exact belA
 ·simp
 rintro W ⟨hsl,hbW,hzW⟩
 obtain ⟨b5,o5,e5,hb5,hc5⟩:=hsl.get (i := 0) spA
 injection e5 with e5
 injection e5 with e51 e52
 subst e51 e52
 obtain ⟨g0,g1,⟨g2,g3,g4,g5⟩,g6,g7,g8⟩:=Hold.cells9 hc5
 simp only [List.getElem_cons_zero,hA,noId,Nat.zero_mul,Nat.add_zero,Nat.zero_add] at g0 g1 g2 g3 g4 g5 g6 g7 g8
 have HS:=qh (hsl.mono (show w.heap.size + 1≤W.heap.size by omega))
 have HVV:=qh ab_valid
 clear hc5 hsl
 go_wp2_with fail
 refine (hold_ValidB (some ⟨w.heap.size,0,none⟩) 2 2 [hA,hB] _ HS.out rfl omA ab_sane ab_valid).mono ?_
 rintro e w1 ⟨rfl,hb1⟩
 have hx1:=below_nextN hbW hb1 hbW.size
 have k1:=(keepB hb1 w.heap.size hzW).1
 go_wp2_with fail
 refine (hold_ActiveB hA 4 _ (r:=true) (by decide)).mono ?_
 rintro e w2 ⟨rfl,hb2⟩
 have hy2:=below_nextN hb1 hb2.1 hb1.size
 have k2:=(keepB hy2 w.heap.size hzW).1
 go_wp2_with fail
 refine (hold_ActiveB hA 5 _ (r:=false) (by decide)).mono ?_
 rintro e w3 ⟨rfl,hb3⟩
 have hy3:=below_nextN hy2 hb3.1 hy2.size
 clear k1 k2 g0 g1 g2 g3 g4 g5 g6 g7 g8
 go_wp2_with fail
 refine (hold_Blocking (some ⟨w.heap.size,0,none⟩) 2 2 [hA,hB] none 0 0 [] 0 0 0 0 0 none 0 0 [] false false 4 _ (HS.out.next hy3) rfl omA ab_sane SliceIs.nil rfl omA (fun x hx=>by cases hx) SliceIs.nil rfl omA).mono ?_
 rintro e w4 ⟨⟨v4,rfl,hown4⟩,hb4⟩
 have hy4:=below_nextN hy3 hb4 hy3.size
 rw [ab_blocking] at hown4
 obtain ⟨A4,c4,rfl,hc4,hs4,hA4⟩:=hown4.slice int_len
 have HS4:=qh hs4
 clear hs4 hown4 hA4
 go_wp2_with fail
 refine (sameInts A4 (some ⟨w4.heap.size,0,none⟩) c4 1 1 1 [0] [0] _ (HS4.out.next belA) (Blk.one (enc:=intCells) (x:=(0:Int)) (Blk.new' (t := 3) rfl) spA) rfl rfl omA omA (r:=true) (by decide)).mono ?_
 rintro e w5 ⟨rfl,hb5'⟩
 have hy5:Below W.heap.size W w5:=below_nextN (hy4.alloc hy4.size _) hb5' (by have:=hy4.size;simp;omega)
 go_wp2_with fail
 refine (hold_Until (some ⟨w.heap.size,0,none⟩) 2 2 [hA,hB] none 0 0 [] 0 0 0 0 0 none 0 0 [] false false 4 _ (HS.out.next hy5) rfl omA ab_sane SliceIs.nil rfl omA (fun x hx=>by cases hx) SliceIs.nil rfl omA).mono ?_
 rintro e w6 ⟨⟨r6,rfl,h6⟩,hb6⟩
 rw [ab_valid,no_links,if_pos (by rfl)] at h6
 obtain rfl:=ab_until h6
 have hy6:=below_nextN hy5 hb6 hy5.size
 go_wp2_with fail
 refine (hold_Until (some ⟨w.heap.size,0,none⟩) 2 2 [hA,hB] none 0 0 [] 0 0 0 0 0 none 0 0 [] false false 9 _ (HS.out.next hy6) rfl omA ab_sane SliceIs.nil rfl omA (fun x hx=>by cases hx) SliceIs.nil rfl omA).mono ?_
 rintro e w7 ⟨⟨r7,rfl,h7⟩,hb7⟩
 rw [ab_valid,no_links,if_pos (by rfl)] at h7
 obtain rfl:=ab_over h7
 have hy7:=below_nextN hy6 hb7 hy6.size
 go_wp2_with fail
 go_ret
 exact ⟨rfl,below_nextN hbW hy7 hbW.size⟩
structure Src where
 tab:Int
 seq:Int
instance:DecidableEq Src:=fun a b =>
 if h:a.tab=b.tab∧a.seq=b.seq then isTrue (by obtain ⟨_,_⟩:=a;obtain ⟨_,_⟩:=b;simp at h;simp [h])
 else isFalse (fun e=>h (by simp [e]))
instance:Inhabited Src:=⟨⟨0,0⟩⟩
def Src.cells (x:Src):List Value := [.int .i64 x.tab, .int .i64 x.seq]
theorem src_len : ∀ x:Src,(Src.cells x).length = 2:=fun _=>rfl
theorem src_one : ∀ x:Src,∀ u∈Src.cells x,u.oneCell'=true:=by
 intro x u hu
 simp only [Src.cells,List.mem_cons,List.not_mem_nil,or_false] at hu
 rcases hu with rfl|rfl <;> rfl
theorem infoSrc:(Tryz.prog.info? 68).map (fun i=>(i.zero,i.size,i.bytes))=some (some (.agg #[.int .i64 0, .int .i64 0]),2,16):=by kernel_rfl
theorem Src.cells2 {w:World} {b o:Nat} {x:Src} (h : ∀ j u,x.cells[j]? = some u→w.cell? ⟨b,o+j,none⟩=some u) :
 w.cell? ⟨b,o,none⟩=some (.int .i64 x.tab)∧w.cell? ⟨b,o + 1,none⟩=some (.int .i64 x.seq):=⟨h 0 _ rfl,h 1 _ rfl⟩
def lessS (a b:Src):Prop:=a.tab<b.tab∨a.tab=b.tab∧a.seq<b.seq
instance (a b:Src):Decidable (lessS a b):=by unfold lessS;infer_instance
def cmpSrc (a b:Src):Int:=if cmpInt a.tab b.tab = 0 then cmpInt a.seq b.seq else cmpInt a.tab b.tab
theorem lessS_trans {a b c:Src} (h:lessS a b) (k:lessS b c):lessS a c:=by unfold lessS at *;omega
theorem lessS_irrefl (a:Src) : ¬ lessS a a:=by unfold lessS;omega
theorem src_ext {a b:Src} (h1:a.tab=b.tab) (h2:a.seq=b.seq):a=b:=by
 obtain ⟨_,_⟩:=a
 obtain ⟨_,_⟩:=b
 simp at h1 h2
 simp [h1,h2]
theorem lessS_tri (a b:Src):lessS a b∨a=b∨lessS b a:=by
 by_cases h:a=b
 ·exact .inr (.inl h)
 ·have : ¬ (a.tab=b.tab∧a.seq=b.seq):=fun e=>h (src_ext e.1 e.2)
  unfold lessS
  omega
theorem cmpInt_neg {a b:Int}:cmpInt a b < 0↔a<b:=by unfold cmpInt;split <;> (try split) <;> omega
theorem cmpInt_zero {a b:Int}:cmpInt a b = 0↔a=b:=by unfold cmpInt;split <;> (try split) <;> omega
theorem cmpSrc_lt {a b:Src}:cmpSrc a b < 0↔lessS a b:=by
 unfold cmpSrc lessS
 split
 ·rename_i h
  rw [cmpInt_zero] at h
  rw [cmpInt_neg]
  omega
 ·rename_i h
  rw [cmpInt_zero] at h
  rw [cmpInt_neg]
  omega
theorem Blk.two {w:World} {g B:Nat} {t:TypeId} {a b:Int} (h:Blk w g t #[.int .i64 a, .int .i64 b]) (hB:g<B):SliceIs w B intCells 1 (some ⟨g,0,none⟩) [a,b]:=Blk.all int_len (l := [a,b]) h hB
/-! A sorted list without its doubles. -/
section
variable {α : Type} [DecidableEq α]
def ddE (l:List α):Nat→List α
 | 0 => []
 | m + 1=>match l[m]? with
   | none=>ddE l m
   | some x=>if m = 0 then [x] else if l[m - 1]? = some x then ddE l m else ddE l m ++ [x]
theorem ddE_one {l:List α} (h : 0<l.length):ddE l 1 = [l[0]]:=by
 simp [ddE,List.getElem?_eq_getElem h]
theorem ddE_same {l:List α} {m:Nat} (h:m<l.length) (h0 : 0<m) (hc:l[m]=l[m - 1]):ddE l (m + 1)=ddE l m:=by
 have h1:m - 1<l.length:=by omega
 rw [ddE,List.getElem?_eq_getElem h]
 simp only [List.getElem?_eq_getElem h1]
 rw [if_neg omA,if_pos (by rw [hc])]
theorem ddE_more {l:List α} {m:Nat} (h:m<l.length) (h0 : 0<m) (hc : ¬ l[m]=l[m - 1]):ddE l (m + 1)=ddE l m ++ [l[m]]:=by
 have h1:m - 1<l.length:=by omega
 rw [ddE,List.getElem?_eq_getElem h]
 simp only [List.getElem?_eq_getElem h1]
 rw [if_neg omA,if_neg (fun e=>hc (Option.some.inj e).symm)]
theorem ddE_take {l:List α} : ∀ {m:Nat},m≤l.length→(∀ k (h:k<l.length),0<k→k<m → ¬ l[k]=l[k - 1])→ddE l m=l.take m
 | 0,_,_=>by simp [ddE]
 | m + 1,hm,h=>by
   have ih:=ddE_take (m:=m) omA (fun k hk h0 hl=>h k hk h0 omA)
   rw [List.take_succ_eq_append_getElem (by omega:m<l.length)]
   rcases Nat.eq_zero_or_pos m with rfl|h0
   ·rw [ddE_one hm];simp
   ·rw [ddE_more (l:=l) (m:=m) omA h0 (h m omA h0 omA),ih]
theorem ddE_spec {lt : α → α → Prop} (htr : ∀ {a b c},lt a b→lt b c→lt a c) {l:List α} (hs:l.Pairwise (fun a b=>lt a b∨a=b)) : ∀ {m:Nat},m≤l.length →
 (ddE l m).Pairwise lt∧(∀ x,x∈ddE l m↔x∈l.take m)∧(∀ h:m - 1<l.length,0<m → ∃ i,ddE l m=i ++ [l[m - 1]])
 | 0,_=>⟨by simp [ddE],by simp [ddE],fun _ h=>absurd h omA⟩
 | m + 1,hm=>by
   obtain ⟨ih1,ih2,ih3⟩:=ddE_spec (lt:=lt) htr hs (m:=m) omA
   have hml:m<l.length:=by omega
   rw [List.take_succ_eq_append_getElem hml]
   rcases Nat.eq_zero_or_pos m with rfl|h0
   ·rw [ddE_one hml]
    exact ⟨by simp,by simp,fun h _=>⟨[],rfl⟩⟩
   ·have h1:m - 1<l.length:=by omega
    obtain ⟨i,hi⟩:=ih3 h1 h0
    by_cases hc:l[m]=l[m - 1]
    ·rw [ddE_same hml h0 hc]
     refine ⟨ih1,fun x => ?_,fun _ _=>⟨i,by simpa [hc] using hi⟩⟩
     rw [ih2,List.mem_append,List.mem_singleton]
     refine ⟨.inl,fun h=>h.elim id fun h => ?_⟩
     rw [h,hc]
     have:l[m - 1]∈ddE l m:=by rw [hi];simp
     exact (ih2 _).1 this
    ·rw [ddE_more hml h0 hc]
     refine ⟨?_,fun x=>by rw [List.mem_append,List.mem_append,ih2],fun _ _=>⟨ddE l m,rfl⟩⟩
     have hlt:lt l[m - 1] l[m]:=by
      rcases List.pairwise_iff_getElem.1 hs (m - 1) m h1 hml omA with h|h
      ·exact h
      ·exact absurd h.symm hc
     refine List.pairwise_append.2 ⟨ih1,by simp,fun a ha b hb => ?_⟩
     rw [List.mem_singleton] at hb
     subst hb
     rw [hi] at ha ih1
     rcases List.mem_append.1 ha with h|h
     ·exact htr ((List.pairwise_append.1 ih1).2.2 a h _ spA) hlt
     ·rw [List.mem_singleton] at h
      rw [h];exact hlt
def dedupE (l:List α):List α := ddE l l.length
theorem dedupE_short {l:List α} (h:l.length < 2):dedupE l=l:=by
 match l,h with
 | [],_=>rfl
 | [x],_=>exact ddE_one spA
theorem dedupE_asc {lt : α → α → Prop} (htr : ∀ {a b c},lt a b→lt b c→lt a c) {l:List α} (hs:l.Pairwise (fun a b=>lt a b∨a=b)):(dedupE l).Pairwise lt:=(ddE_spec (lt:=lt) htr hs (Nat.le_refl _)).1
theorem dedupE_mem {lt : α → α → Prop} (htr : ∀ {a b c},lt a b→lt b c→lt a c) {l:List α} (hs:l.Pairwise (fun a b=>lt a b∨a=b)) (x : α):x∈dedupE l↔x∈l:=by
 have:=(ddE_spec (lt:=lt) htr hs (Nat.le_refl _)).2.1 x
 rwa [List.take_length] at this
end
theorem asc_unique {α : Type} {lt : α → α → Prop} (hirr : ∀ a,¬ lt a a) (htr : ∀ {a b c},lt a b→lt b c→lt a c) : ∀ {l l':List α},l.Pairwise lt→l'.Pairwise lt→(∀ x,x∈l↔x∈l')→l=l'
 | [],[],_,_,_=>rfl
 | [],y::l',_,_,h=>absurd ((h y).2 spA) spA
 | x::l,[],_,_,h=>absurd ((h x).1 spA) spA
 | x::l,y::l',h1,h2,h=>by
   rw [List.pairwise_cons] at h1 h2
   have e:x=y:=by
    rcases List.mem_cons.1 ((h x).1 spA) with e|hx
    ·exact e
    ·rcases List.mem_cons.1 ((h y).2 spA) with e|hy
     ·exact e.symm
     ·exact absurd (htr (h1.1 y hy) (h2.1 x hx)) (hirr x)
   subst e
   congr 1
   refine asc_unique hirr htr h1.2 h2.2 fun z => ?_
   constructor
   ·intro hz
    rcases List.mem_cons.1 ((h z).1 (by simp [hz])) with e|hz'
    ·subst e
     exact absurd (h1.1 z hz) (hirr z)
    ·exact hz'
   ·intro hz
    rcases List.mem_cons.1 ((h z).2 (by simp [hz])) with e|hz'
    ·subst e
     exact absurd (h2.1 z hz) (hirr z)
    ·exact hz'
def AscS (l:List Src):Prop:=l.Pairwise lessS
theorem AscS.unique {l l':List Src} (h:AscS l) (k:AscS l') (e : ∀ x,x∈l↔x∈l'):l=l':=asc_unique lessS_irrefl lessS_trans h k e
def orOf:List Int→Int
 | [] => 0
 | x::l=>if x = 0 then orOf l else x
theorem orOf_at : ∀ {l:List Int} {m:Nat} (h:m<l.length),(∀ i (h:i<l.length),i<m→l[i] = 0)→l[m] ≠ 0→orOf l=l[m]
 | x::l,0,_,_,hx=>by simp only [orOf];rw [if_neg (by simpa using hx)];rfl
 | x::l,m + 1,h,h0,hx=>by
   have e:x = 0:=h0 0 spA omA
   simp only [orOf]
   rw [if_pos e]
   have:=orOf_at (l:=l) (m:=m) (by simpa using h) (fun i hi hm=>h0 (i + 1) (by simpa using hi) omA) (by simpa using hx)
   simpa using this
theorem orOf_none : ∀ {l:List Int},(∀ i (h:i<l.length),l[i] = 0)→orOf l = 0
 | [],_=>rfl
 | x::l,h=>by
   have e:x = 0:=h 0 spA
   simp only [orOf]
   rw [if_pos e]
   exact orOf_none (fun i hi=>h (i + 1) (by simpa using hi))
theorem orOf_two (a b:Int):orOf [a,b]=if a = 0 then b else a:=by
 simp only [orOf]
 by_cases h:a = 0
 ·rw [if_pos h,if_pos h]
  by_cases k:b = 0
  ·rw [if_pos k,k]
  ·rw [if_neg k]
 ·rw [if_neg h,if_neg h]
theorem cmp_Or (A:Option Addr) (c n:Nat) (l:List Int) (w:World) (hl:SliceIs w w.heap.size intCells 1 A l) (hln:l.length=n) (hn:n ≤ 1000000) :
 Calls Tryz.prog 132 #[.slice A n c] w fun e w'=>e = .returned (.int .i64 (orOf l))∧w=w':=by
 subst hln
 have HL:=qh hl
 clear hl
 go_enter Tryz.func132,Tryz.ntmps132
 go_wp2_with fail
 go_loopw [8] (fun vi wr => ∃ m:Nat,m≤l.length∧vi = .int .i64 m∧w=wr∧(∀ i (h:i<l.length),i<m→l[i] = 0)) (fun vi _=>l.length - (intOf vi).toNat)
 case atStart=>exact ⟨0,Nat.zero_le _,rfl,rfl,fun i _ h=>by omega⟩
 case round =>
  obtain ⟨m,hm,rfl,rfl,hok⟩:=hrel
  have HOK:=qh hok
  clear hok
  by_cases hlt:m<l.length
  ·obtain ⟨b5,o5,rfl,hb5,hc5⟩:=HL.out.get hlt
   have x0:=hc5 0 _ rfl
   simp only [Nat.mul_one,Nat.add_zero] at x0
   clear hc5
   by_cases hz:l[m] = 0
   ·have hz':(l[m] != 0)=false:=by simpa using hz
    have HZ:=qh hz
    clear hz
    go_wp2_with fail
    go_roundw
    case rel=>exact ⟨m + 1,by omega,by go_num,trivial,fun i h hi=>by
     rcases Nat.lt_or_ge i m with h1|h1
     ·exact HOK.out i h h1
     ·obtain rfl:i=m:=by omega
      exact HZ.out⟩
    case measure=>simp [intOf];omega
   ·have hz':(l[m] != 0)=true:=by simpa using hz
    have HF:=qh (orOf_at hlt HOK.out hz)
    clear hz
    go_wp2_with fail
    go_ret
    exact ⟨ret_int HF.out.symm,rfl⟩
  ·have hlt':decide (m<l.length)=false:=by simpa using hlt
   have HF:=qh (orOf_none (l:=l) (fun i h=>HOK.out i h omA))
   go_wp2_with fail
   go_ret
   exact ⟨ret_int HF.out.symm,rfl⟩
theorem records_cmp (x y:Src) (w:World) :
 Calls Tryz.prog 157 #[.agg #[.int .i64 x.tab, .int .i64 x.seq], .agg #[.int .i64 y.tab, .int .i64 y.seq]] w fun e w' =>
  e = .returned (.int .i64 (cmpSrc x y))∧Ext w w':=by
 go_enter Tryz.func157,Tryz.ntmps157
 go_upto_region 1 with (fail)
 obtain ⟨W,hW⟩ : ∃ W,W=(w.alloc (.cells #[.int .i64 x.tab, .int .i64 x.seq] 68)).alloc (.cells #[.int .i64 y.tab, .int .i64 y.seq] 68):=⟨_,rfl⟩
 rw [← hW]
 have hb0:Blk W w.heap.size 68 #[.int .i64 x.tab, .int .i64 x.seq]:=by rw [hW];exact (Blk.new _ _ _).alloc _
 have hb1:Blk W (w.heap.size + 1) 68 #[.int .i64 y.tab, .int .i64 y.seq]:=by rw [hW];exact Blk.new' spA
 have hxW:Ext w W:=by rw [hW];exact extA
 have e0:=hb0.cell 0
 have e1:=hb0.cell 1
 have e2:=hb1.cell 0
 have e3:=hb1.cell 1
 simp only [List.getElem?_toArray,List.getElem?_cons_zero,List.getElem?_cons_succ] at e0 e1 e2 e3
 have mz0:=hb0.lt
 have mz1:=hb1.lt
 clear hb0 hb1 hW
 refine wp_region_held_drew (S:=(fun w'=>w'.cell? ⟨w.heap.size,0,none⟩=some (.int .i64 x.tab)∧w'.cell? ⟨w.heap.size,1,none⟩=some (.int .i64 x.seq)∧w'.cell? ⟨w.heap.size + 1,0,none⟩=some (.int .i64 y.tab)∧w'.cell? ⟨w.heap.size + 1,1,none⟩=some (.int .i64 y.seq))) krA ⟨e0,e1,e2,e3⟩ (fun hHeld => ?_)
 refine tkH 0 hHeld ?_
 refine tkH 1 hHeld ?_
 refine tkH 2 hHeld ?_
 refine tkH 3 hHeld ?_
 refine tkH 5 hHeld ?_
 refine tkH 6 hHeld ?_
 refine tkH 7 hHeld ?_
 refine tkH 8 hHeld ?_
 refine wpAnyH_ready (rs := [4]) krA spA ?_
 refine AllReadyH.cons rfl (fun K hK => ?_) AllReadyH.nil
 go_simp
 (go_at_call 133;(with_reducible refine (cmp_int _ _ _).mono ?_);rintro e w1 ⟨rfl,rfl⟩)
 go_wp2_with fail
 refine hK.out _ _ ⟨?_,?_,?_,?_⟩ (fun hHeld => ?_)
 iterate 4 (simp only [*])
 clear hK K
 (try simp only [Act.put,List.getElem_toArray,List.getElem_cons_zero,List.getElem_cons_succ,List.setIfInBounds_toArray,List.set_cons_zero,List.set_cons_succ])
 refine wpAnyH_ready (rs := [9]) krA spA ?_
 refine AllReadyH.cons rfl (fun K hK => ?_) AllReadyH.nil
 go_simp
 (go_at_call 133;(with_reducible refine (cmp_int _ _ _).mono ?_);rintro e w1 ⟨rfl,rfl⟩)
 go_wp2_with fail
 refine hK.out _ _ ⟨?_,?_,?_,?_⟩ (fun hHeld => ?_)
 iterate 4 (simp only [*])
 clear hK K
 (try simp only [Act.put,List.getElem_toArray,List.getElem_cons_zero,List.getElem_cons_succ,List.setIfInBounds_toArray,List.set_cons_zero,List.set_cons_succ])
 refine wpAnyH_ready (rs := [10]) krA spA ?_
 refine AllReadyH.cons rfl (fun K hK => ?_) AllReadyH.nil
 go_simp
 go_wp2_with fail
 refine hK.out _ _ ⟨?_,?_,?_,?_⟩ (fun hHeld => ?_)
 iterate 4 (go_simp)
 clear hK K
 (try simp only [Act.put,List.getElem_toArray,List.getElem_cons_zero,List.getElem_cons_succ,List.setIfInBounds_toArray,List.set_cons_zero,List.set_cons_succ])
 refine wpAnyH_ready (rs := [11]) krA spA ?_
 refine AllReadyH.cons rfl (fun K hK => ?_) AllReadyH.nil
 go_simp
 (go_at_call 132;(with_reducible refine (cmp_Or _ 2 2 [cmpInt x.tab y.tab,cmpInt x.seq y.seq] _ ?_ spA omA).mono ?_);(exact Blk.two (t := 3) (by with_reducible first|exact (Blk.new' spA).drew|exact Blk.new' spA) spA);rintro e w2 ⟨rfl,rfl⟩)
 go_wp2_with fail
 refine hK.out _ _ ⟨?_,?_,?_,?_⟩ (fun hHeld => ?_)
 iterate 4 (simp only [*])
 clear hK K
 (try simp only [Act.put,List.getElem_toArray,List.getElem_cons_zero,List.getElem_cons_succ,List.setIfInBounds_toArray,List.set_cons_zero,List.set_cons_succ])
 refine tkH 12 hHeld ?_
 refine wpAnyH_done krA ?_ _
 go_wp2_with fail
 go_ret
 exact ⟨ret_int (by rw [orOf_two];rfl),by exact extA⟩
open Go.RowKit Go.Shelf Go.Sort
theorem cmpSrc_swo:SWO (ltOf cmpSrc) where
 irrefl x:=by simp only [ltOf,decide_eq_false_iff_not];rw [cmpSrc_lt];exact lessS_irrefl x
 trans x y z h1 h2:=by
  simp only [ltOf,decide_eq_true_eq,cmpSrc_lt] at *
  exact lessS_trans h1 h2
 ntrans x y z h1 h2:=by
  simp only [ltOf,decide_eq_false_iff_not,cmpSrc_lt] at *
  unfold lessS at *
  omega
theorem sort_src (base g c:Nat) (l:List Src) (w:World) (h:Owns w base 68 Src.cells 2 (.slice (some ⟨g,0,none⟩) l.length c) l) (hn:l.length ≤ 1000000) :
 Calls Tryz.prog 75 #[.slice (some ⟨g,0,none⟩) l.length c, .func (.func 157) #[] #[]] w fun e w' =>
  e = .returned (.tuple #[]) ∧ ∃ l':List Src,l'.Perm l∧l'.Pairwise (fun a b=>lessS a b∨a=b)∧Owns w' base 68 Src.cells 2 (.slice (some ⟨g,0,none⟩) l.length c) l'∧w.grownBy w' (some g):=by
 have eg : ∀ args w,(callFunc 157 args).run Tryz.prog w = .ok (.enter 157 args) w:=enters_of Tryz.func157 krA rfl
 have hcmp:CmpLays Tryz.prog 157 #[] Src.cells 2 cmpSrc g 0 l.toArray.size w:=fun m os dk _ x y =>
  (records_cmp x y _).mono fun e w' ⟨he,hx⟩=>⟨he,hx.grow⟩
 have hg:=h.blk_lt
 have hH:HoldsK Src.cells 2 w g 0 l.toArray:=by
  intro j hj
  rw [flatK_eq src_len] at hj ⊢
  have hj:j<(l.flatMap Src.cells).length:=by simpa using hj
  refine ⟨?_,h.frz _⟩
  rw [Nat.zero_add,World.ownsRow.cellAt h _ (by rw [← flat_length src_len];exact hj),List.getElem?_eq_getElem hj,getElem!_pos _ _ (by simpa using hj)]
  simp
 have hcon:=AnyQ.slices_SortFunc Tryz.sortSrcL 2 Tryz.isAgg68 Tryz.sizeOf68 Src.cells src_len (fun x v hv=>src_one x v hv) cmpSrc cmpSrc_swo 157 #[] g 0 c l.toArray w eg hcmp hH hg.2 smA
 change Calls Tryz.prog 75 _ _ _ at hcon
 refine hcon.mono ?_
 rintro e w' ⟨rfl,d',n,os,⟨hp1,_,hp2⟩,hs,rfl⟩
 have hlen:d'.toList.length=l.length:=by simpa using hp1
 refine ⟨rfl,d'.toList,?_,?_,?_,?_⟩
 ·have e1:(d'.extract 0 l.toArray.size).toList=d'.toList:=by rw [← hp1];simp
  have e2:(l.toArray.extract 0 l.toArray.size).toList=l:=by simp
  rw [e1,e2] at hp2
  exact hp2
 ·refine List.pairwise_iff_getElem.2 fun i j hi hj hij => ?_
  have h1:=hs i j (Nat.zero_le _) hij (by rw [List.size_toArray,← hlen];exact hj)
  rw [getElem!_pos d' j (by simpa using hj),getElem!_pos d' i (by simpa using hi)] at h1
  simp only [ltOf,decide_eq_false_iff_not,cmpSrc_lt] at h1
  rcases lessS_tri d'[i] d'[j] with h2|h2|h2
  ·exact .inl h2
  ·exact .inr h2
  ·exact absurd h2 h1
 ·rcases h.2 with ⟨h',_⟩|⟨g',cap',cur,h',hb,hgb,hnc,hcm,hcs,ht⟩
  ·simp at h'
  ·injection h' with h1 _ h3
   injection h1 with h1
   injection h1 with h1
   subst h1 h3
   have hfl:(d'.toList.flatMap Src.cells).length=l.length * 2:=by rw [flat_length src_len,hlen]
   refine ⟨by rw [flat_length src_len], .inr ⟨g,c,putCells id 0 (flatK Src.cells 2 d') cur,by rw [hlen],hb,?_,by omega,hcm,by simp [putCells,hcs],?_⟩⟩
   ·unfold sortWorldK putRowK
    rw [heap_grow_old _ _ (by simpa using hg.2)]
    simp [putRow,mapBlock,Sort.ahead,Array.getElem?_modify,hgb,onCells]
   ·have e3:flatK Src.cells 2 d'=(d'.toList.flatMap Src.cells).toArray:=flatK_eq src_len d'.toList
    rw [e3,hlen,← hfl]
    exact take_putId _ _ (by rw [hfl,hcs];omega)
 ·unfold sortWorldK putRowK
  refine ⟨rfl,rfl,rfl,by simp,fun k hk hne => ?_⟩
  rw [heap_grow_old _ _ (by simpa using hk)]
  have:g≠k:=fun e=>hne (by rw [e])
  simp [putRow,mapBlock,Sort.ahead,Array.getElem?_modify,this]
theorem eqlSrc (x y:Src) (w:World):(Op.equalIn 10000 68 (.agg #[.int .i64 x.tab, .int .i64 x.seq]) (.agg #[.int .i64 y.tab, .int .i64 y.seq])).run Tryz.prog w = .ok (decide (x=y)) w:=by
 have hS:Tryz.prog.underlying 68=some (.struct (Tryz.prog.fieldsOf 68)):=by kernel_rfl
 have hp:Tryz.prog.stoodInHeld 68=false:=by kernel_rfl
 have u3:=Tryz.underlying3
 rw [show (10000:Nat) = 9999 + 1 from rfl,run_equalIn_agg w _ 68 _ _ hS hp]
 simp only [Program.fieldsOf,Tryz.underlying68]
 go_simp
 obtain ⟨a,b⟩:=x
 obtain ⟨a',b'⟩:=y
 simp only [Src.mk.injEq]
 by_cases h0:a=a' <;> by_cases h1:b=b' <;> simp [h0,h1]
theorem eqlSrc_of {x y:Src} {b:Bool} (h:decide (x=y)=b) : ∀ w:World,(Op.equalIn 10000 68 (.agg #[.int .i64 x.tab, .int .i64 x.seq]) (.agg #[.int .i64 y.tab, .int .i64 y.seq])).run Tryz.prog w = .ok b w :=
 fun w=>by rw [eqlSrc,h]
theorem Owns.store2 {α : Type} {w:World} {base:Nat} {e:TypeId} {enc : α → List Value} {g cap:Nat} {l:List α} (hk : ∀ x,(enc x).length = 2) (h:Owns w base e enc 2 (.slice (some ⟨g,0,none⟩) l.length cap) l) {i:Nat} (hi:i<l.length) {x : α} {a0 a1:Value} (hx:enc x = [a0,a1]) :
 Owns ((w.setCell ⟨g,i * 2,none⟩ a0).setCell ⟨g,i * 2 + 1,none⟩ a1) base e enc 2 (.slice (some ⟨g,0,none⟩) l.length cap) (l.set i x) ∧
 w.grownBy ((w.setCell ⟨g,i * 2,none⟩ a0).setCell ⟨g,i * 2 + 1,none⟩ a1) (some g):=by
 obtain ⟨h0,g0⟩:=World.ownsRow.stored h (i * 2) a0
 obtain ⟨h1,g1⟩:=World.ownsRow.stored h0 (i * 2 + 1) a1
 refine ⟨?_,grown_trans g0 g1⟩
 have e2:((l.flatMap enc).set (i * 2) a0).set (i * 2 + 1) a1=(l.set i x).flatMap enc:=by
  clear h h0 h1 g0 g1
  induction l generalizing i with
  | nil=>simp at hi
  | cons y l ih =>
    obtain ⟨b0,b1,hy⟩ : ∃ b0 b1,enc y = [b0,b1]:=by
     have:=hk y
     match h:enc y,this with
     | [b0,b1],_=>exact ⟨b0,b1,rfl⟩
    cases i with
    | zero=>simp [hy,hx]
    | succ i =>
      have:=ih (i:=i) (by simpa using hi)
      rw [List.set_cons_succ,List.flatMap_cons,List.flatMap_cons,← this,hy]
      simp only [Nat.add_mul,Nat.one_mul,List.cons_append,List.nil_append,Nat.add_right_comm (i * 2) 2 1,List.set_cons_succ]
 rw [e2] at h1
 unfold Owns
 rw [List.length_set]
 exact h1
theorem clear_src (g k n c:Nat) (cur:List Src) (base cap:Nat) (w:World) (h:Owns w base 68 Src.cells 2 (.slice (some ⟨g,0,none⟩) cur.length cap) cur) (hn:k+n=cur.length) (h0 : 0<n) :
 ∃ vs,(Builtin.clear_ #[64] 0 #[.slice (some ⟨g,k * 2,none⟩) n c]).run Tryz.prog w = .ok (.tuple #[]) (w.setCells g (k * 2) vs):=by
 obtain ⟨i0,hi0,hz0,hz1,hz2⟩:=info_parts infoSrc
 refine ⟨_,run_clear_cells w 64 68 0 (.agg #[.int .i64 0, .int .i64 0]) Tryz.underlying64 (fun w=>by simp [zeroValue,Tryz.t68]) (fun u hu => ?_) g (k * 2) c h0 (fun j hj => ?_) (fun j hj=>h.frz _)⟩
 ·have hu:=mem_zeroCells (by simp [Value.cells]) hu
  simp [Value.cells] at hu
  rcases hu with rfl|rfl <;> rfl
 ·rw [Array.length_toList,size_zeroCells] at hj
  have hj:j<n * 2:=by simpa [Value.cells] using hj
  have hlt:k * 2+j<cur.length * 2:=by omega
  rw [World.ownsRow.cellAt h _ hlt]
  have hfl:=flat_length src_len cur
  rw [List.getElem?_eq_getElem omA]
  rfl
theorem compact_src (base g c:Nat) (l:List Src) (w:World) (h:Owns w base 68 Src.cells 2 (.slice (some ⟨g,0,none⟩) l.length c) l) (hn:l.length ≤ 1000000) :
 Calls Tryz.prog 158 #[.slice (some ⟨g,0,none⟩) l.length c] w fun e w' =>
  (∃ v,e = .returned v∧Owns w' base 68 Src.cells 2 v (dedupE l))∧w.grownBy w' (some g):=by
 have HO:=qh h
 have hgb:=h.blk_lt
 have hcl:=h.cap_le
 clear h
 go_enter Tryz.func158,Tryz.ntmps158
 by_cases h2:l.length < 2
 ·go_wp2
  go_ret
  refine ⟨⟨_,rfl,?_⟩,World.grownBy.refl _ _⟩
  rw [dedupE_short h2]
  exact HO.out
 ·have hd2:decide ((l.length:Int) < 2)=false:=by simp;omega
  go_wp2
  go_loopw [3] (fun vk wr => ∃ k:Nat,1≤k∧k≤l.length∧vk = .int .i64 k∧(∀ j (h:j<l.length),0<j→j<k → ¬ l[j]=l[j - 1])∧Below w.heap.size w wr) (fun vk _=>l.length - (intOf vk).toNat)
  case atStart=>exact ⟨1,Nat.le_refl _,by omega,rfl,fun j _ h0 h1=>by omega,by exact belA⟩
  case round =>
   obtain ⟨k,hk1,hk,rfl,hno,hbw⟩:=hrel
   have HNO:=qh hno
   clear hno
   have hO:=HO.out.below hbw (Nat.le_refl _)
   have HOW:=qh hO
   by_cases hlt:k<l.length
   ·obtain ⟨q,rfl⟩ : ∃ q,k=q + 1:=⟨k - 1,by omega⟩
    obtain ⟨h0,h1⟩:=Src.cells2 (fun j u hu=>hO.getc src_len hlt hu)
    obtain ⟨g0,g1⟩:=Src.cells2 (fun j u hu=>hO.getc src_len (show q<l.length by omega) hu)
    have hk0:=keepQ (w:=wr) g (by have:=hbw.size;omega)
    clear hO
    by_cases hcmp:l[q + 1]=l[q]
    ·have heq:=eqlSrc_of (decide_eq_true hcmp)
     have HCM:=qh hcmp
     clear hcmp
     go_wp2
     refine wp_region_bel krA krA ?_;(repeat (go_big_quiet_step (fail)));refine wpQuiet_nil ?_;intro wq hq
     have hq':=below_nextN hbw hq hbw.size
     go_wp2
     have hdd:ddE l (q + 1 + 1)=l.take (q + 1):=by
      rw [ddE_same hlt omA (by simpa using HCM.out)]
      exact ddE_take omA HNO.out
     have HDD:=qh hdd
     have hOq:=HOW.out.below hq (Nat.le_refl _)
     have HOQ:=qh hOq
     clear hdd h0 h1 g0 g1 hk0 HOW hOq
     go_loopw [3,5] (fun vk vm wi => ∃ (k p:Nat) (cur:List Src),vk = .int .i64 k∧vm = .int .i64 (p + 1:Nat)∧q + 1+(p + 1)≤l.length∧k≤q + 1+p∧cur.length=l.length∧Owns wi base 68 Src.cells 2 (.slice (some ⟨g,0,none⟩) l.length c) cur∧cur.take k=ddE l (q + 1+(p + 1))∧(∀ j (h:j<l.length) (h':j<cur.length),q + 1+p≤j→cur[j]=l[j])∧w.grownBy wi (some g)) (fun _ vm _=>l.length - (intOf vm).toNat)
     case atStart=>exact ⟨q + 1,0,l,rfl,rfl,by omega,by omega,rfl,HOQ.out,HDD.out.symm,fun _ _ _ _=>rfl,only_of_below hq' _⟩
     case round =>
      obtain ⟨k,p,cur,rfl,rfl,hp,hkp,hcur,hO,htk,hsame,hgr⟩:=hrel
      have HO':=qh hO
      have HTK:=qh htk
      have HSA:=qh hsame
      have hgz:=hgr.size
      clear htk hsame
      by_cases hltp:q + 1+(p + 1)<l.length
      ·have hOc:Owns wr base 68 Src.cells 2 (.slice (some ⟨g,0,none⟩) cur.length c) cur:=by rw [hcur];exact hO
       obtain ⟨h0,h1⟩:=Src.cells2 (b:=g) (o:=(q + 1) * 2+(p + 1) * 2) (x:=l[q + 1+(p + 1)]) (fun j u hu=>by
        have h:=hOc.getc src_len (i:=q + 1+(p + 1)) omA (j:=j) (u:=u) (by rw [HSA.out _ hltp _ omA];exact hu)
        rw [Nat.add_mul (q + 1) (p + 1) 2] at h
        exact h)
       obtain ⟨g0,g1⟩:=Src.cells2 (b:=g) (o:=(q + 1) * 2+p * 2) (x:=l[q + 1+p]) (fun j u hu=>by
        have h:=hOc.getc src_len (i:=q + 1+p) omA (j:=j) (u:=u) (by rw [HSA.out _ omA _ omA];exact hu)
        rw [Nat.add_mul (q + 1) p 2] at h
        exact h)
       have hk0:=keepQ (w:=wr) g omA
       have HOC:=qh hOc
       have hd4:(((p + 1:Nat):Int)<((l.length - (q + 1):Nat):Int)):=by omega
       clear hO hOc
       cases hbb:decide (l[q + 1+(p + 1)]=l[q + 1+p]) with
       | true =>
         have hcm2:l[q + 1+(p + 1)]=l[q + 1+p]:=by simpa using hbb
         have HE2:=qh hcm2
         have heq:=eqlSrc_of hbb
         clear hcm2 hbb
         go_wp2
         refine wp_region_bel krA krA ?_;(repeat (go_big_quiet_step (fail)));refine wpQuiet_nil ?_;intro wq2 hq2
         have hg2:w.grownBy wq2 (some g):=grown_trans hgr (only_of_below hq2 _)
         have HO2:=qh (HOC.out.below hq2 (Nat.le_refl _))
         go_wp2
         go_roundw
         case rel=>exact ⟨k,p + 1,cur,rfl,by go_num,by omega,by omega,hcur,by rw [← hcur];exact HO2.out,by
          rw [HTK.out]
          exact (ddE_same hltp omA (by simpa using HE2.out)).symm,fun j h h' hj=>HSA.out j h h' omA,hg2⟩
         case measure=>simp [intOf];omega
       | false =>
         have hcm2 : ¬ l[q + 1+(p + 1)]=l[q + 1+p]:=by simpa using hbb
         have HE2:=qh hcm2
         have heq:=eqlSrc_of hbb
         clear hcm2 hbb
         go_wp2
         refine wp_region_bel krA krA ?_;(repeat (go_big_quiet_step (fail)));refine wpQuiet_nil ?_;intro wq2 hq2
         have hg2:w.grownBy wq2 (some g):=grown_trans hgr (only_of_below hq2 _)
         have hO2:=HOC.out.below hq2 (Nat.le_refl _)
         clear h0 h1 g0 g1 hk0
         obtain ⟨h0,h1⟩:=Src.cells2 (b:=g) (o:=(q + 1) * 2+(p + 1) * 2) (x:=l[q + 1+(p + 1)]) (fun j u hu=>by
          have h:=hO2.getc src_len (i:=q + 1+(p + 1)) omA (j:=j) (u:=u) (by rw [HSA.out _ hltp _ omA];exact hu)
          rw [Nat.add_mul (q + 1) (p + 1) 2] at h
          exact h)
         have hkl:k<cur.length:=by omega
         obtain ⟨g0,g1⟩:=Src.cells2 (b:=g) (o:=k * 2) (fun j u hu=>hO2.getc src_len (i:=k) hkl hu)
         have hfz : ∀ j,wq2.frozen? ⟨g,j,none⟩=false:=fun j=>hO2.frz j
         have HO2:=qh hO2
         clear hO2
         go_wp2
         obtain ⟨hs1,hs2⟩:=HO2.out.store2 src_len hkl (x:=l[q + 1+(p + 1)]) rfl
         go_roundw
         case rel=>exact ⟨k + 1,p + 1,cur.set k l[q + 1+(p + 1)],by go_num,by go_num,by omega,by omega,by rw [List.length_set];exact hcur,by rw [← hcur];exact hs1,by
          rw [List.take_succ_eq_append_getElem (by simpa using hkl),List.getElem_set_self,List.take_set_of_le (Nat.le_refl _),HTK.out]
          exact (ddE_more hltp omA (by simpa using HE2.out)).symm,fun j h h' hj=>by
          rw [List.getElem_set_ne omA]
          exact HSA.out j h (by simpa using h') omA,grown_trans hg2 hs2⟩
         case measure=>simp [intOf];omega
      ·have hd4:decide (((p + 1:Nat):Int)<((l.length - (q + 1):Nat):Int))=false:=by simp;omega
       have hOc:Owns wr base 68 Src.cells 2 (.slice (some ⟨g,0,none⟩) cur.length c) cur:=by rw [hcur];exact hO
       obtain ⟨vs,hclr⟩:=clear_src g k (l.length - k) (c - k) cur base c wr hOc omA omA
       have HOC:=qh hOc
       clear hO hOc
       go_wp2
       go_ret
       have htake:(cur.take k).length=k:=by simp;omega
       have hcut:=HOC.out.cut src_len (m:=k) omA
       have hcut':Owns wr base 68 Src.cells 2 (.slice (some ⟨g,0,none⟩) (cur.take k).length c) (cur.take k):=by rw [htake];exact hcut
       obtain ⟨hb1,hb2⟩:=hcut'.beyonds vs (o:=k * 2) (by rw [htake];exact Nat.le_refl _)
       refine ⟨⟨_,rfl,?_⟩,grown_trans hgr hb2⟩
       rw [htake,HTK.out] at hb1
       have e:q + 1+(p + 1)=l.length:=by omega
       rw [e] at hb1
       exact hb1
    ·have heq:=eqlSrc_of (decide_eq_false hcmp)
     have HCM:=qh hcmp
     clear hcmp
     go_wp2
     refine wp_region_bel krA krA ?_;(repeat (go_big_quiet_step (fail)));refine wpQuiet_nil ?_;intro wq hq
     have hq':=below_nextN hbw hq hbw.size
     go_wp2
     go_roundw
     case rel=>exact ⟨q + 1 + 1,by omega,by omega,by go_num,fun j h h0 hj=>by
      rcases Nat.lt_or_ge j (q + 1) with hjq|hjq
      ·exact HNO.out j h h0 hjq
      ·obtain rfl:j=q + 1:=by omega
       exact by simpa using HCM.out,hq'⟩
     case measure=>simp [intOf];omega
   ·obtain rfl:k=l.length:=by omega
    go_wp2
    go_ret
    refine ⟨⟨_,rfl,?_⟩,only_of_below hbw _⟩
    have e:dedupE l=l:=by
     have h:=ddE_take (l:=l) (Nat.le_refl _) HNO.out
     rwa [List.take_length] at h
    rw [e]
    exact HOW.out
theorem lRefHold1 {P:Prop} (h:P:=by
 have HOK:=qh hok
 clear hok
 by_cases c7:x.seq < 1
 ·exact lRefHold3
 have d7:decide (x.seq < 1)=false:=by simpa using c7
 by_cases c8 : 1073741824<x.seq
 ·exact lRefHold3
 have d8:decide (1073741824<x.seq)=false:=by simpa using c8
 cases c9:decide (x.who=noId)
 ·have e9:=eqlNo c9
  cases c10:validId x.who
  ·have H9:=qh c9
   have H10:=qh c10
   clear c9 c10
   go_enter Tryz.func93,Tryz.ntmps93
   go_wp2_with (go_at_call 148;(with_reducible refine (ref16_ValidId x.who _ hs H10.out).mono ?_);rintro e w1 ⟨rfl,hb1⟩;obtain ⟨k0,f0,z0⟩:=keepE hb1 w.heap.size ltA;have hx1:Ext w w1:=Ext.trans (by exact extA) hb1)
   go_ret
   exact ⟨ret_bool (by simp [holdOk,H9.out,H10.out]),by exact extA⟩
  ·have hw:x.who=noId∨validId x.who=true := .inr c10
   have HW:=qh hw
   have H9:=qh c9
   have H10:=qh c10
   clear hw c9 c10
   exact lRefHold2
 ·have e9:=eqlNo c9
  have hw:x.who=noId∨validId x.who=true := .inl (by simpa using c9)
  have HW:=qh hw
  have H10:=qh (rfl:validId x.who=validId x.who)
  clear hw c9
  exact lRefHold2):P:=h
theorem lRefHold2 {P:Prop} (h:P:=by
 cases d11:decide (0≤x.day0)
 ·have c11 : ¬ 0≤x.day0:=by simpa using d11
  exact lRefHold4
 have c11 : 0≤x.day0:=by simpa using d11
 cases d12:decide (x.day0<x.day1)
 ·have c12 : ¬ x.day0<x.day1:=by simpa using d12
  exact lRefHold4
 have c12:x.day0<x.day1:=by simpa using d12
 cases d13:decide (x.day1 ≤ 1048576)
 ·have c13 : ¬ x.day1 ≤ 1048576:=by simpa using d13
  exact lRefHold4
 have c13:x.day1 ≤ 1048576:=by simpa using d13
 go_enter Tryz.func93,Tryz.ntmps93
 go_wp2_with (go_at_call 148;(with_reducible refine (ref16_ValidId x.who _ hs H10.out).mono ?_);rintro e w1 ⟨rfl,hb1⟩;obtain ⟨k0,f0,z0⟩:=keepE hb1 w.heap.size ltA;have hx1:Ext w w1:=Ext.trans (by exact extA) hb1)
 go_ret
 have hf:holdOk x=true:=(holdOk_iff x).2 ⟨by omega,by omega,by omega,by omega,HOK.out,by omega,by omega,HW.out,by omega,by omega,by omega⟩
 exact ⟨ret_bool (by rw [hf]),by exact extA⟩):P:=h
theorem lRefHold3 {P:Prop} (h:P:=by
 go_enter Tryz.func93,Tryz.ntmps93
 go_wp2_with fail
 go_ret
 exact ⟨ret_bool (by rw [show holdOk x=false by (rw [Bool.eq_false_iff];intro h;obtain ⟨h1,h2,h3,h4,h5,h6,h7,_,h8,h9,h10⟩:=(holdOk_iff x).1 h;omega)]),by exact extA⟩):P:=h
theorem lRefHold4 {P:Prop} (h:P:=by
 go_enter Tryz.func93,Tryz.ntmps93
 go_wp2_with (go_at_call 148;(with_reducible refine (ref16_ValidId x.who _ hs H10.out).mono ?_);rintro e w1 ⟨rfl,hb1⟩;obtain ⟨k0,f0,z0⟩:=keepE hb1 w.heap.size ltA;have hx1:Ext w w1:=Ext.trans (by exact extA) hb1)
 go_ret
 exact ⟨ret_bool (by rw [show holdOk x=false by (rw [Bool.eq_false_iff];intro h;obtain ⟨h1,h2,h3,h4,h5,h6,h7,_,h8,h9,h10⟩:=(holdOk_iff x).1 h;omega)]),by exact extA⟩):P:=h
theorem ref19_one (x:Hold) (w:World) (hs:x.who.ns.size ≤ 1000000) :
 Calls Tryz.prog 93 #[.agg #[.int .i64 x.table, .int .i64 x.column, .string x.who.ns, .int .i64 x.who.val.kind, .int .i64 x.who.val.num, .string x.who.val.text, .int .i64 x.seq, .int .i64 x.day0, .int .i64 x.day1]] w fun e w'=>e = .returned (.bool (holdOk x))∧Ext w w':=by
 have hgt:Tryz.prog.eqGuardType Tryz.prog.depth 105=false:=by kernel_rfl
 by_cases c1:x.table < -1
 ·exact lRefHold3
 have d1:decide (x.table < -1)=false:=by simpa using c1
 by_cases c2 : 1000<x.table
 ·exact lRefHold3
 have d2:decide (1000<x.table)=false:=by simpa using c2
 by_cases c3:x.column < -1
 ·exact lRefHold3
 have d3:decide (x.column < -1)=false:=by simpa using c3
 by_cases c4 : 1000<x.column
 ·exact lRefHold3
 have d4:decide (1000<x.column)=false:=by simpa using c4
 by_cases c5:x.table = -1
 ·have e5:(x.table == -1)=true:=by simpa using c5
  by_cases c6:x.column = -1
  ·have e6:(x.column != -1)=false:=by simpa using c6
   have hok:x.table = -1→x.column = -1:=fun _=>c6
   exact lRefHold1
  ·have e6:(x.column != -1)=true:=by simpa using c6
   go_enter Tryz.func93,Tryz.ntmps93
   go_wp2_with fail
   go_ret
   exact ⟨ret_bool (by simp [holdOk,c5,c6]),by exact extA⟩
 ·have e5:(x.table == -1)=false:=by simpa using c5
  have hok:x.table = -1→x.column = -1:=fun h=>absurd h c5
  exact lRefHold1
theorem ref19_oneB (x:Hold) (w:World) (hs:x.who.ns.size ≤ 1000000) {r:Bool} (hr:holdOk x=r) :
 Calls Tryz.prog 93 #[.agg #[.int .i64 x.table, .int .i64 x.column, .string x.who.ns, .int .i64 x.who.val.kind, .int .i64 x.who.val.num, .string x.who.val.text, .int .i64 x.seq, .int .i64 x.day0, .int .i64 x.day1]] w fun e w'=>e = .returned (.bool r)∧Ext w w':=by
 subst hr
 exact ref19_one x w hs
theorem ref19_Valid (A:Option Addr) (c n:Nat) (l:List Hold) (w:World) (hl:SliceIs w w.heap.size Hold.cells 9 A l) (hln:l.length=n) (hn:n ≤ 1000000) (hs:SaneH l) {r:Bool} (hr:validHolds l=r) :
 Calls Tryz.prog 47 #[.slice A n c] w fun e w'=>e = .returned (.bool r)∧Below w.heap.size w w':=by
 subst hln hr
 have HS:=qh hs
 clear hs
 go_enter Tryz.func47,Tryz.ntmps47
 go_wp2
 go_loopw [3] (fun vi wr => ∃ m:Nat,m≤l.length∧vi = .int .i64 m∧Below w.heap.size w wr∧(∀ i (h:i<l.length),i<m→holdOk l[i]=true)) (fun vi _=>l.length - (intOf vi).toNat)
 case atStart=>exact ⟨0,Nat.zero_le _,rfl,by exact belA,fun i _ h=>by omega⟩
 case round =>
  obtain ⟨m,hm,rfl,hbw,hok⟩:=hrel
  have HOK:=qh hok
  clear hok
  by_cases hlt:m<l.length
  ·obtain ⟨b,o,rfl,hb,hc⟩:=(hl.below hbw).get hlt
   obtain ⟨h0,h1,⟨h2,h3,h4,h5⟩,h6,h7,h8⟩:=Hold.cells9 hc
   have hsm:=HS.out l[m] (List.getElem_mem hlt)
   clear hc
   cases hk:holdOk l[m]
   ·have HK:=qh hk
    clear hk
    go_wp2_with (go_at_call 93;(with_reducible refine (ref19_oneB l[m] _ hsm HK.out).mono ?_);rintro e w1 ⟨rfl,hb1⟩;have hx1:Below w.heap.size w w1:=below_nextN hbw hb1.1 hbw.size)
    go_ret
    refine ⟨ret_bool ?_,hx1⟩
    have h:l.all holdOk=false:=by
     rw [List.all_eq_false]
     exact ⟨l[m],List.getElem_mem hlt,by rw [HK.out];decide⟩
    rw [validHolds,h,Bool.and_false]
   ·have HK:=qh hk
    clear hk
    go_wp2_with (go_at_call 93;(with_reducible refine (ref19_oneB l[m] _ hsm HK.out).mono ?_);rintro e w1 ⟨rfl,hb1⟩;have hx1:Below w.heap.size w w1:=below_nextN hbw hb1.1 hbw.size)
    go_roundw
    case rel=>exact ⟨m + 1,by omega,by go_num,hx1,fun i h hi=>by
     rcases Nat.lt_or_ge i m with h1|h1
     ·exact HOK.out i h h1
     ·obtain rfl:i=m:=by omega
      exact HK.out⟩
    case measure=>simp [intOf];omega
  ·have hlt':decide (m<l.length)=false:=by simpa using hlt
   go_wp2_with fail
   go_ret
   refine ⟨ret_bool ?_,hbw⟩
   have h:l.all holdOk=true:=by
    rw [List.all_eq_true]
    intro x hx
    obtain ⟨i,hi,rfl⟩:=List.getElem_of_mem hx
    exact HOK.out i hi omA
   rw [validHolds,h,Bool.and_true]
   simp only [decide_eq_decide]
   omega
theorem ref19_Active (x:Hold) (day:Int) (w:World) {r:Bool} (hr:activeOn x day=r) :
 Calls Tryz.prog 59 #[.agg #[.int .i64 x.table, .int .i64 x.column, .string x.who.ns, .int .i64 x.who.val.kind, .int .i64 x.who.val.num, .string x.who.val.text, .int .i64 x.seq, .int .i64 x.day0, .int .i64 x.day1], .int .i64 day] w fun e w'=>e = .returned (.bool r)∧Ext w w':=by
 subst hr
 cases h:decide (x.day0≤day)
 ·go_enter Tryz.func59,Tryz.ntmps59
  go_wp2_with fail
  go_ret
  exact ⟨ret_bool (by simp [activeOn,h]),by exact extA⟩
 ·go_enter Tryz.func59,Tryz.ntmps59
  go_wp2_with fail
  go_ret
  exact ⟨ret_bool (by simp [activeOn,h]),by exact extA⟩
theorem lRefCov1 {P:Prop} (h:P:=by
 cases hw:decide (x.who=noId)
 ·have heq:=eqlNo hw
  have hw':x.who≠noId:=by simpa using hw
  have HW:=qh hw'
  have HW2:=qh hw
  clear hw hw'
  go_wp2_with fail
  refine (ref16_SubjectN A c l.length l x.who x.seq _ (HL.out.next hbW) rfl hn HS.out hsx).mono ?_
  rintro e w1 ⟨⟨o,A6,c6,ho,rfl,hso⟩,hb1⟩
  have hx1:=below_nextN hbW hb1 hbW.size
  have HE:=qh (covers_eq (own:=own) HC.out (fun h=>absurd h HW.out) (fun _=>ho))
  have hol:=subject_len ho
  have hP1:=HP.out.below hb1 hz2
  obtain ⟨_,_,_,_,_,p5,_,_⟩:=Owned.blk hP1
  have HSO:=qh hso
  clear hso ho hP1 heq
  obtain ⟨wo,rfl⟩ : ∃ wo:World,wo=w1:=⟨_,rfl⟩
  go_wp2_with fail
  go_loopw [8] (fun vi wr => ∃ m:Nat,m≤own.length∧vi = .int .i64 m∧Below wo.heap.size wo wr∧(∀ i (h:i<own.length),i<m→decide (own[i]∈o)=false)) (fun vi _=>own.length - (intOf vi).toNat)
  case atStart=>exact ⟨0,Nat.zero_le _,rfl,Below.refl _ _,fun i _ h=>by omega⟩
  case round =>
   obtain ⟨m,hm,rfl,hbr,hok⟩:=hrel
   have HOK:=qh hok
   have hxr:=below_nextN hx1 hbr hx1.size
   have hpr:=((keepB hbr (w.heap.size + 1) (by have:=hb1.size;omega)).1 5).trans p5
   clear hok
   by_cases hlt:m<own.length
   ·obtain ⟨b5,o5,rfl,hb5,hc5⟩:=(HO.out.below hxr).get hlt
    obtain ⟨h0,h1,h2,h3⟩:=Ident.cells4 hc5
    clear hc5
    cases hk:decide (own[m]∈o)
    ·have HK:=qh hk
     clear hk
     go_wp2_with (go_at_call 160;(with_reducible refine (ref16_HasId own[m] (HSO.out.next hbr) hol HK.out).mono ?_);rintro e w2 ⟨rfl,hb2⟩;have hx2:Below wo.heap.size wo w2:=below_nextN hbr hb2 hbr.size)
     go_roundw
     case rel=>exact ⟨m + 1,by omega,by go_num,hx2,fun i h hi=>by
      rcases Nat.lt_or_ge i m with h1|h1
      ·exact HOK.out i h h1
      ·obtain rfl:i=m:=by omega
       exact HK.out⟩
     case measure=>simp [intOf];omega
    ·have HK:=qh hk
     clear hk
     go_wp2_with (go_at_call 160;(with_reducible refine (ref16_HasId own[m] (HSO.out.next hbr) hol HK.out).mono ?_);rintro e w2 ⟨rfl,hb2⟩;have hx2:Below wo.heap.size wo w2:=below_nextN hbr hb2 hbr.size)
     go_ret
     refine ⟨ret_bool ?_,below_nextN hx1 hx2 hx1.size⟩
     rw [← HE.out,HW2.out,Bool.false_or]
     symm
     rw [List.any_eq_true]
     exact ⟨own[m],List.getElem_mem hlt,HK.out⟩
   ·have hlt':decide (m<own.length)=false:=by simpa using hlt
    go_wp2_with fail
    go_ret
    refine ⟨ret_bool ?_,hxr⟩
    rw [← HE.out,HW2.out,Bool.false_or]
    exact (subj_has hm HOK.out omA).symm
 ·have heq:=eqlNo hw
  have hw':x.who=noId:=by simpa using hw
  have HW:=qh hw'
  clear hw hw'
  go_wp2_with fail
  go_ret
  exact ⟨ret_bool (by rw [coversB,HC.out,HW.out];simp),hbW⟩):P:=h
theorem concerns_ref {x:Hold} (hok:holdOk x=true) (t c:Int):concernsB x t c = !(decide (0≤x.table)&&(x.table != t)||decide (0≤x.column)&&(x.column != c)):=by
 have h:=(holdOk_iff x).1 hok
 obtain ⟨h1,_,h2,_⟩:=h
 rw [Bool.eq_iff_iff]
 simp [concernsB]
 omega
theorem subj_has {l:List Ident} {o:List Ident} {m:Nat} (h:m≤l.length) (hm : ∀ i (h:i<l.length),i<m→decide (l[i]∈o)=false) (h2:m=l.length):l.any (fun y=>decide (y∈o))=false:=by
 subst h2
 rw [List.any_eq_false]
 intro y hy
 obtain ⟨i,hi,rfl⟩:=List.getElem_of_mem hy
 rw [hm i hi hi]
 decide
theorem ref19_covers (x:Hold) (A:Option Addr) (c n:Nat) (l:List Link) (t col sq rec dy:Int) (A':Option Addr) (c' n':Nat) (own:List Ident) (nul lst:Bool) (w:World) (hok:holdOk x=true) (hl:SliceIs w w.heap.size Link.cells 10 A l) (hln:l.length=n) (hn:n ≤ 1000000) (hs:Sane l) (hsx:x.who.ns.size ≤ 1000000) (ho:SliceIs w w.heap.size Ident.cells 4 A' own) (hon:own.length=n') (hn':n' ≤ 1000000) {r:Bool} (hr:coversB x l t col own=r) :
 Calls Tryz.prog 107 #[.agg #[.int .i64 x.table, .int .i64 x.column, .string x.who.ns, .int .i64 x.who.val.kind, .int .i64 x.who.val.num, .string x.who.val.text, .int .i64 x.seq, .int .i64 x.day0, .int .i64 x.day1], .slice A n c, .agg #[.int .i64 t, .int .i64 col, .int .i64 sq, .int .i64 rec, .int .i64 dy, .slice A' n' c', .bool nul, .bool lst]] w fun e w'=>e = .returned (.bool r)∧Below w.heap.size w w':=by
 have hgt:Tryz.prog.eqGuardType Tryz.prog.depth 105=false:=by kernel_rfl
 subst hln hon hr
 have HS:=qh hs
 have HL:=qh hl
 have HO:=qh ho
 have HR:=qh (concerns_ref hok t col)
 clear hs hl ho hok
 go_enter Tryz.func107,Tryz.ntmps107
 go_upto_region 1 with (fail)
 refine abs_world (P:=fun u=>Code.wp _ _ _ _ u) (R:=fun u=>Blk u w.heap.size 107 x.cells.toArray∧Blk u (w.heap.size + 1) 55 #[.int .i64 t, .int .i64 col, .int .i64 sq, .int .i64 rec, .int .i64 dy, .slice A' own.length c', .bool nul, .bool lst]∧Below w.heap.size w u) ⟨?_,?_,?_⟩ ?_
 ·exact (Blk.new _ _ _).alloc _
 ·exact Blk.new' spA
 ·exact belA
 rintro W ⟨hb1,hb2,hbW⟩
 obtain ⟨a0,a1,⟨a2,a3,a4,a5⟩,a6,_,_⟩:=Hold.blk hb1
 obtain ⟨q0,q1,q2,q3,q4,q5,q6,q7⟩:=Owned.blk hb2
 have hz1:=hb1.lt
 have hz2:=hb2.lt
 have HP:=qh hb2
 clear hb1 hb2
 cases h1:decide (0≤x.table)
 ·cases h2:decide (0≤x.column)
  ·have HC:Hid (concernsB x t col=true):=qh (by rw [HR.out,h1,h2];rfl)
   exact lRefCov1
  ·cases h3:(x.column != col)
   ·have HC:Hid (concernsB x t col=true):=qh (by rw [HR.out,h1,h2,h3];rfl)
    exact lRefCov1
   ·have HC:Hid (concernsB x t col=false):=qh (by rw [HR.out,h1,h2,h3];rfl)
    go_wp2_with fail
    go_ret
    exact ⟨ret_bool (by rw [coversB,HC.out];rfl),hbW⟩
 ·cases h4:(x.table != t)
  ·cases h2:decide (0≤x.column)
   ·have HC:Hid (concernsB x t col=true):=qh (by rw [HR.out,h1,h4,h2];rfl)
    exact lRefCov1
   ·cases h3:(x.column != col)
    ·have HC:Hid (concernsB x t col=true):=qh (by rw [HR.out,h1,h4,h2,h3];rfl)
     exact lRefCov1
    ·have HC:Hid (concernsB x t col=false):=qh (by rw [HR.out,h1,h4,h2,h3];rfl)
     go_wp2_with fail
     go_ret
     exact ⟨ret_bool (by rw [coversB,HC.out];rfl),hbW⟩
  ·have HC:Hid (concernsB x t col=false):=qh (by rw [HR.out,h1,h4];rfl)
   go_wp2_with fail
   go_ret
   exact ⟨ret_bool (by rw [coversB,HC.out];rfl),hbW⟩
end Go.Proofs.YtlpgmdhnjckplaaGreat
