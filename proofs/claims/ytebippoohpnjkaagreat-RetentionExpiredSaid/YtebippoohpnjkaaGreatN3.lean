/-
  Contracts and plain laws of this seat, part 3.
-/
import Derived.Test.YtebippoohpnjkaaGreatN2
set_option linter.unusedVariables false
set_option linter.unusedSimpArgs false
set_option maxRecDepth 100000
set_option maxHeartbeats 16000000
namespace Go.Proofs.YtebippoohpnjkaaGreat
open Go.RowKit
structure Sd where
 table:Int
 column:Int
 who:Ident
 seq:Int
 Xp:Int
 Xo:Int
def Qj:Ident:=⟨⟨#[]⟩,0,0,⟨#[]⟩⟩
theorem aF.blk{w:World}{g:Nat}{a b c d e f g' h:Value}(k:Blk w g 27 #[a,b,c,d,e,f,g',h]):
 w.cell? ⟨g,0,none⟩=some a∧w.cell? ⟨g,1,none⟩=some b∧w.cell? ⟨g,2,none⟩=some c∧w.cell? ⟨g,3,none⟩=some d∧w.cell? ⟨g,4,none⟩=some e∧w.cell? ⟨g,5,none⟩=some f∧w.cell? ⟨g,6,none⟩=some g'∧w.cell? ⟨g,7,none⟩=some h:=
 ⟨k.cell 0,k.cell 1,k.cell 2,k.cell 3,k.cell 4,k.cell 5,k.cell 6,k.cell 7⟩
theorem Blk.all{α:Type}{w:World}{g B k:Nat}{t:TypeId}{enc:α→List Value}{l:List α}(hk:∀x,(enc x).length=k)(h:Blk w g t (l.flatMap enc).toArray)(hB:g<B):ah w B enc k (some ⟨g,0,none⟩) l:=
 fun _=>⟨g,0,rfl,hB,fun i hi j u hu=>by rw[h.cell,Nat.zero_add];simpa using flat_get hk l i hi j u hu⟩
def hA:Sd:=⟨-1,-1,Qj,1,3,5⟩
def hB:Sd:=⟨-1,-1,Qj,1,5,9⟩
structure Src where
 tab:Int
 seq:Int
instance:DecidableEq Src:=fun a b =>
 if h:a.tab=b.tab∧a.seq=b.seq then isTrue (by obtain⟨_,_⟩:=a;obtain⟨_,_⟩:=b;simp at h;simp[h])
 else isFalse (fun e=>h (by simp[e]))
instance:Inhabited Src:=⟨⟨0,0⟩⟩
def Src.cells(x:Src):List Value:= [.int .i64 x.tab,.int .i64 x.seq]
theorem dw:∀x:Src,(Src.cells x).length=2:=fun _=>rfl
theorem fU:∀x:Src,∀u∈Src.cells x,u.oneCell'=true:=by
 intro x u hu
 simp only[Src.cells,List.mem_cons,List.not_mem_nil,or_false]at hu
 rcases hu with rfl|rfl<;>rfl
theorem Bw:(Tryz.prog.info? 170).map (fun i=>(i.zero,i.size,i.bytes))=some (some (.agg #[.int .i64 0,.int .i64 0]),2,16):=by kernel_rfl
theorem Src.Po{w:World}{b o:Nat}{x:Src}(h:∀j u,x.cells[j]?=some u→w.cell? ⟨b,o+j,none⟩=some u):
 w.cell? ⟨b,o,none⟩=some (.int .i64 x.tab)∧w.cell? ⟨b,o+1,none⟩=some (.int .i64 x.seq):=⟨h 0 _ rfl,h 1 _ rfl⟩
def dK(a b:Src):Prop:=a.tab<b.tab∨a.tab=b.tab∧a.seq<b.seq
instance (a b:Src):Decidable (dK a b):=by unfold dK;infer_instance
def vw(a b:Src):Int:=if gP a.tab b.tab=0 then gP a.seq b.seq else gP a.tab b.tab
theorem jo{a b c:Src}(h:dK a b)(k:dK b c):dK a c:=by unfold dK at *;omega
theorem tV(a:Src):¬ dK a a:=by unfold dK;omega
theorem LW{a b:Src}(h1:a.tab=b.tab)(h2:a.seq=b.seq):a=b:=by
 obtain⟨_,_⟩:=a
 obtain⟨_,_⟩:=b
 simp at h1 h2
 simp[h1,h2]
theorem uU(a b:Src):dK a b∨a=b∨dK b a:=by
 by_cases h:a=b
 ·exact .inr (.inl h)
 ·have:¬ (a.tab=b.tab∧a.seq=b.seq):=fun e=>h (LW e.1 e.2)
  unfold dK
  omega
theorem yI{a b:Int}:gP a b<0↔a<b:=by unfold gP;split<;>(try split)<;>omega
theorem vX{a b:Int}:gP a b=0↔a=b:=by unfold gP;split<;>(try split)<;>omega
theorem qN{a b:Src}:vw a b<0↔dK a b:=by
 unfold vw dK
 split
 ·rename_i h
  rw[vX]at h
  rw[yI]
  omega
 ·rename_i h
  rw[vX]at h
  rw[yI]
  omega
theorem Blk.two{w:World}{g B:Nat}{t:TypeId}{a b:Int}(h:Blk w g t #[.int .i64 a,.int .i64 b])(hB:g<B):ah w B intCells 1 (some ⟨g,0,none⟩) [a,b]:=Blk.all bn (l:= [a,b]) h hB
/-! A sorted list without its doubles. -/
section
variable {α:Type} [DecidableEq α]
end
def orOf:List Int→Int
 | [] =>0
 | x::l=>if x=0 then orOf l else x
theorem F6:∀ {l:List Int}{m:Nat}(h:m<l.length),(∀i (h:i<l.length),i<m→l[i]=0)→l[m]≠0→orOf l=l[m]
 | x::l,0,_,_,hx=>by simp only[orOf];rw[if_neg (by simpa using hx)];rfl
 | x::l,m + 1,h,h0,hx=>by
   have e:x=0:=h0 0 spA omA
   simp only[orOf]
   rw[if_pos e]
   have:=F6 (l:=l) (m:=m) (by simpa using h) (fun i hi hm=>h0 (i+1) (by simpa using hi) omA) (by simpa using hx)
   simpa using this
theorem z8:∀ {l:List Int},(∀i (h:i<l.length),l[i]=0)→orOf l=0
 | [],_=>rfl
 | x::l,h=>by
   have e:x=0:=h 0 spA
   simp only[orOf]
   rw[if_pos e]
   exact z8 (fun i hi=>h (i+1) (by simpa using hi))
theorem JI(a b:Int):orOf [a,b]=if a=0 then b else a:=by
 simp only[orOf]
 by_cases h:a=0
 ·rw[if_pos h,if_pos h]
  by_cases k:b=0
  ·rw[if_pos k,k]
  ·rw[if_neg k]
 ·rw[if_neg h,if_neg h]
theorem Pn(A:Option Addr)(c n:Nat)(l:List Int)(w:World)(hl:ah w w.heap.size intCells 1 A l)(hln:l.length=n)(hn:n≤1000000):
 Calls Tryz.prog 148 #[.slice A n c] w fun e w'=>e=.returned (.int .i64 (orOf l))∧w=w':=by
 subst hln
 have HL:=qh hl
 clear hl
 go_enter Tryz.func148,Tryz.ntmps148
 go_wp2_with fail
 go_loopw [8] (fun vi wr =>∃m:Nat,m≤l.length∧vi=.int .i64 m∧w=wr∧(∀i (h:i<l.length),i<m→l[i]=0)) (fun vi _=>l.length-(intOf vi).toNat)
 case atStart=>exact⟨0,Nat.zero_le _,rfl,rfl,fun i _ h=>by omega⟩
 case round =>
  obtain⟨m,hm,rfl,rfl,hok⟩:=hrel
  have HOK:=qh hok
  clear hok
  by_cases hlt:m<l.length
  ·obtain⟨b5,o5,rfl,hb5,hc5⟩:=HL.out.get hlt
   have x0:=hc5 0 _ rfl
   simp only[Nat.mul_one,Nat.add_zero]at x0
   clear hc5
   by_cases hz:l[m]=0
   ·have hz':(l[m] != 0)=false:=by simpa using hz
    have HZ:=qh hz
    clear hz
    go_wp2_with fail
    go_roundw
    case rel=>exact⟨m+1,by omega,by go_num,trivial,fun i h hi=>by
     rcases Nat.lt_or_ge i m with h1|h1
     ·exact HOK.out i h h1
     ·obtain rfl:i=m:=by omega
      exact HZ.out⟩
    case measure=>exact meA
   ·have hz':(l[m] != 0)=true:=by simpa using hz
    have HF:=qh (F6 hlt HOK.out hz)
    clear hz
    go_wp2_with fail
    go_ret
    exact⟨az HF.out.symm,rfl⟩
  ·have hlt':decide (m<l.length)=false:=by simpa using hlt
   have HF:=qh (z8 (l:=l) (fun i h=>HOK.out i h omA))
   go_wp2_with fail
   go_ret
   exact⟨az HF.out.symm,rfl⟩
open Go.RowKit Go.Shelf Go.Sort
theorem Pm(x y:Src)(w:World):(Op.equalIn 10000 170 (.agg #[.int .i64 x.tab,.int .i64 x.seq]) (.agg #[.int .i64 y.tab,.int .i64 y.seq])).run Tryz.prog w=.ok (decide (x=y)) w:=by
 have hS:Tryz.prog.underlying 170=some (.struct (Tryz.prog.fieldsOf 170)):=by kernel_rfl
 have hp:Tryz.prog.stoodInHeld 170=false:=by kernel_rfl
 have u3:=Tryz.underlying3
 rw[show (10000:Nat)=9999+1 from rfl,run_equalIn_agg w _ 170 _ _ hS hp]
 simp only[Program.fieldsOf,Tryz.underlying170]
 go_simp
 obtain⟨a,b⟩:=x
 obtain⟨a',b'⟩:=y
 simp only[Src.mk.injEq]
 by_cases h0:a=a'<;>by_cases h1:b=b'<;>simp[h0,h1]
theorem IM{x y:Src}{b:Bool}(h:decide (x=y)=b):∀w:World,(Op.equalIn 10000 170 (.agg #[.int .i64 x.tab,.int .i64 x.seq]) (.agg #[.int .i64 y.tab,.int .i64 y.seq])).run Tryz.prog w=.ok b w:=
 fun w=>by rw[Pm,h]
end Go.Proofs.YtebippoohpnjkaaGreat
