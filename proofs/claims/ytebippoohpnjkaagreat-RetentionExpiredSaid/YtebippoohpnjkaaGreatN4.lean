/-
  Contracts and plain laws of this seat, part 4.
-/
import Derived.Test.YtebippoohpnjkaaGreatN3
set_option linter.unusedVariables false
set_option linter.unusedSimpArgs false
set_option maxRecDepth 100000
set_option maxHeartbeats 16000000
namespace Go.Proofs.YtebippoohpnjkaaGreat
open Go.RowKit
structure aF where
 table:Int
 col:Int
 seq:Int
 record:Int
 day:Int
 A:Option Addr
 cap:Nat
 own:List Ident
 null:Bool
 last:Bool
def aF.cells(x:aF):List Value:= [.int .i64 x.table,.int .i64 x.col,.int .i64 x.seq,.int .i64 x.record,.int .i64 x.day,.slice x.A x.own.length x.cap,.bool x.null,.bool x.last]
theorem aX:∀x:aF,(aF.cells x).length=8:=fun _=>rfl
theorem gH:∀x:aF,∀u∈aF.cells x,u.oneCell'=true:=by
 intro x u hu
 simp only[aF.cells,List.mem_cons,List.not_mem_nil,or_false]at hu
 rcases hu with rfl|rfl|rfl|rfl|rfl|rfl|rfl|rfl<;>rfl
theorem Ab:(Tryz.prog.info? 27).map (fun i=>(i.zero,i.size,i.bytes))=some (some (.agg #[.int .i64 0,.int .i64 0,.int .i64 0,.int .i64 0,.int .i64 0,.slice none 0 0,.bool false,.bool false]),8,72):=by kernel_rfl
theorem aF.iQ{w:World}{b o:Nat}{x:aF}(h:∀j u,x.cells[j]?=some u→w.cell? ⟨b,o+j,none⟩=some u):
 w.cell? ⟨b,o,none⟩=some (.int .i64 x.table)∧w.cell? ⟨b,o+1,none⟩=some (.int .i64 x.col)∧w.cell? ⟨b,o+2,none⟩=some (.int .i64 x.seq)∧w.cell? ⟨b,o+3,none⟩=some (.int .i64 x.record)∧w.cell? ⟨b,o+4,none⟩=some (.int .i64 x.day)∧w.cell? ⟨b,o+5,none⟩=some (.slice x.A x.own.length x.cap)∧w.cell? ⟨b,o+6,none⟩=some (.bool x.null)∧w.cell? ⟨b,o+7,none⟩=some (.bool x.last):=
 ⟨h 0 _ rfl,h 1 _ rfl,h 2 _ rfl,h 3 _ rfl,h 4 _ rfl,h 5 _ rfl,h 6 _ rfl,h 7 _ rfl⟩
def Ed(w:World)(B:Nat)(l:List aF):Prop:= ∀x∈l,ah w B Ident.cells 4 x.A x.own∧x.own.length≤1000000
theorem zo(f:Value)(w:World):
 Calls Tryz.prog 203 #[.slice none 0 0,.int .i64 0,.int .i64 0,f] w fun e w'=>e=.returned (.tuple #[])∧w=w':=by
 go_enter Tryz.func203,Tryz.ntmps203
 go_wp2_with fail
 go_loopw [8] (fun vi wr=>vi=.int .i64 1∧w=wr) (fun _ _ =>0)
 case atStart=>exact⟨rfl,rfl⟩
 case round =>
  obtain⟨rfl,rfl⟩:=hrel
  go_wp2_with fail
  first|go_end0|(refine bodyPost_ret (results_none rfl _ _ _) rfl ?_)
  exact⟨rfl,rfl⟩
theorem Mc(f:Value)(w:World):
 Calls Tryz.prog 146 #[.slice none 0 0,.int .i64 0,.int .i64 0,.int .i64 0,f] w fun e w'=>e=.returned (.tuple #[])∧w=w':=by
 go_enter Tryz.func146,Tryz.ntmps146
 go_wp2_with fail
 go_loopw [1,2,3,10,11] (fun va vb vc vd ve wr=>va=.int .i64 0∧vb=.int .i64 0∧vc=.int .i64 0∧vd=.bool true∧ve=.bool true∧w=wr) (fun _ _ _ _ _ _ =>0)
 case atStart=>exact⟨rfl,rfl,rfl,rfl,rfl,rfl⟩
 case round =>
  obtain⟨rfl,rfl,rfl,rfl,rfl,rfl⟩:=hrel
  go_wp2_with (go_at_call 203;(with_reducible refine(zo _ _).mono ?_);rintro e w1 ⟨rfl,rfl⟩)
  first|go_end0|(refine bodyPost_ret (results_none rfl _ _ _) rfl ?_)
  exact⟨rfl,rfl⟩
theorem xz(a b:Src)(w:World){r:Bool}(hr:decide (dK a b)=r):
 Calls Tryz.prog 153 #[.agg #[.int .i64 a.tab,.int .i64 a.seq],.agg #[.int .i64 b.tab,.int .i64 b.seq]] w fun e w'=>e=.returned (.bool r)∧Ext w w':=by
 subst hr
 cases h1:decide (a.tab<b.tab)
 ·cases h2:(a.tab==b.tab)
  ·have h2':a.tab≠b.tab:=by simpa using h2
   go_enter Tryz.func153,Tryz.ntmps153
   go_wp2_with fail
   go_ret
   exact⟨aC (by symm;rw[decide_eq_false_iff_not];unfold dK;have:=of_decide_eq_false h1;omega),by exact qi⟩
  ·have h2':a.tab=b.tab:=by simpa using h2
   have H2:=qh h2'
   clear h2'
   cases h3:decide (a.seq<b.seq)
   ·go_enter Tryz.func153,Tryz.ntmps153
    go_wp2_with fail
    go_ret
    exact⟨aC (by symm;rw[decide_eq_false_iff_not];unfold dK;have:=of_decide_eq_false h1;have:=of_decide_eq_false h3;omega),by exact qi⟩
   ·go_enter Tryz.func153,Tryz.ntmps153
    go_wp2_with fail
    go_ret
    exact⟨aC (by symm;rw[decide_eq_true_iff];exact .inr ⟨H2.out,of_decide_eq_true h3⟩),by exact qi⟩
 ·go_enter Tryz.func153,Tryz.ntmps153
  go_wp2_with fail
  go_ret
  exact⟨aC (by symm;rw[decide_eq_true_iff];exact .inl (of_decide_eq_true h1)),by exact qi⟩
theorem FY{α:Type}(p:α→Bool):∀l:List α,l.take (l.takeWhile p).length=l.takeWhile p
 | []=>rfl
 | x::l=>by
   cases h:p x
   ·rw[List.takeWhile_cons_of_neg (by rw[h];decide)]
    rfl
   ·rw[List.takeWhile_cons_of_pos h,List.length_cons,List.take_succ_cons,FY p l]
theorem Nf{α:Type}(p:α→Bool):∀(l:List α) (h:(l.takeWhile p).length<l.length),p l[(l.takeWhile p).length]=false
 | [],h=>by simp at h
 | x::l,h=>by
   cases hx:p x
   ·have e:((x::l).takeWhile p).length=0:=by rw[List.takeWhile_cons_of_neg (by rw[hx];decide)];rfl
    simp only[e]
    exact hx
   ·have e:((x::l).takeWhile p).length=(l.takeWhile p).length+1:=by rw[List.takeWhile_cons_of_pos hx];rfl
    have h':(l.takeWhile p).length<l.length:=by rw[e]at h;simpa using h
    have:=Nf p l h'
    simp only[e]
    exact this
/-! A source put into an ascending list. -/
end Go.Proofs.YtebippoohpnjkaaGreat
