/-
  Contracts and plain laws of this seat, part 4.
-/
import Derived.Test.YtjidligipoldeaaGreatS2
set_option linter.unusedVariables false
set_option linter.unusedSimpArgs false
set_option maxRecDepth 100000
set_option maxHeartbeats 16000000
namespace Go.Proofs.YtjidligipoldeaaGreat
open Go.RowKit
structure wC where
 table:Int
 column:Int
 who:Ident
 seq:Int
 R7:Int
 tT:Int
def wC.cells(x:wC):List Value:= [.int .i64 x.table,.int .i64 x.column,.string x.who.ns,.int .i64 x.who.val.kind,.int .i64 x.who.val.num,.string x.who.val.text,.int .i64 x.seq,.int .i64 x.R7,.int .i64 x.tT]
def SL:Ident:=⟨⟨#[]⟩,0,0,⟨#[]⟩⟩
def iH(x:wC)(day:Int):Bool:=decide (x.R7≤day)&&decide (day<x.tT)
structure ED (cov:List wC) (u e:Int) (m:Nat):Prop where
 le:u≤e
 at_:e=u ∨ ∃x∈cov,iH x u=true∧x.tT=e
 all:∀i (h:i<cov.length),i<m→iH cov[i] u=true→cov[i].tT≤e
theorem ED.skip{cov:List wC}{u e:Int}{m:Nat}(h:ED cov u e m)(hm:m<cov.length)(ha:iH cov[m] u=false):ED cov u e (m+1):=
 ⟨h.le,h.at_,fun i hi him hai=>by
  rcases Nat.lt_or_ge i m with k|k
  ·exact h.all i hi k hai
  ·obtain rfl:i=m:=by omega
   rw[ha]at hai
   cases hai⟩
theorem ED.take{cov:List wC}{u e:Int}{m:Nat}(h:ED cov u e m)(hm:m<cov.length)(ha:iH cov[m] u=true):ED cov u (max e cov[m].tT) (m+1):=by
 have hl:=h.le
 rcases Int.le_total e cov[m].tT with hg|hg
 ·rw[Int.max_eq_right hg]
  refine⟨by omega,.inr ⟨cov[m],lgm hm,ha,rfl⟩,fun i hi him hai =>?_⟩
  rcases Nat.lt_or_ge i m with k|k
  ·have:=h.all i hi k hai
   omega
  ·obtain rfl:i=m:=by omega
   exact Int.le_refl _
 ·rw[Int.max_eq_left hg]
  refine⟨hl,h.at_,fun i hi him hai =>?_⟩
  rcases Nat.lt_or_ge i m with k|k
  ·exact h.all i hi k hai
  ·obtain rfl:i=m:=by omega
   omega
theorem Gx{x:wC}{d:Int}:iH x d=true↔x.R7≤d∧d<x.tT:=by simp[iH]
theorem ED.free{cov:List wC}{u:Int}(h:ED cov u u cov.length):∀x∈cov,iH x u=false:=by
 intro x hx
 obtain⟨i,hi,rfl⟩:=List.getElem_of_mem hx
 cases ha:iH cov[i] u
 ·rfl
 ·have h1:=h.all i hi hi ha
  have h2:=(Gx.1 ha).2
  omega
theorem Blk.all{α:Type}{w:World}{g B k:Nat}{t:TypeId}{enc:α→List Value}{l:List α}(hk:∀x,(enc x).length=k)(h:Blk w g t (l.flatMap enc).toArray)(hB:g<B):ag w B enc k (some ⟨g,0,none⟩) l:=
 fun _=>⟨g,0,rfl,hB,fun i hi j u hu=>by rw[h.cell,Nat.zero_add];simpa using flat_get hk l i hi j u hu⟩
def hA:wC:=⟨-1,-1,SL,1,3,5⟩
def hB:wC:=⟨-1,-1,SL,1,5,9⟩
structure Src where
 tab:Int
 seq:Int
instance:DecidableEq Src:=fun a b =>
 if h:a.tab=b.tab∧a.seq=b.seq then isTrue (by obtain⟨_,_⟩:=a;obtain⟨_,_⟩:=b;simp at h;simp[h])
 else isFalse (fun e=>h (by simp[e]))
instance:Inhabited Src:=⟨⟨0,0⟩⟩
def Src.cells(x:Src):List Value:= [.int .i64 x.tab,.int .i64 x.seq]
def oO(a b:Src):Prop:=a.tab<b.tab∨a.tab=b.tab∧a.seq<b.seq
instance (a b:Src):Decidable (oO a b):=by unfold oO;infer_instance
theorem Dh{a b c:Src}(h:oO a b)(k:oO b c):oO a c:=by unfold oO at *;omega
theorem BB(a:Src):¬ oO a a:=by unfold oO;omega
/-! A sorted list without its doubles. -/
section
variable {α:Type} [DecidableEq α]
def ddE(l:List α):Nat→List α
 | 0 =>[]
 | m + 1=>match l[m]? with
   | none=>ddE l m
   | some x=>if m=0 then [x] else if l[m-1]?=some x then ddE l m else ddE l m ++ [x]
theorem Cj{l:List α}(h:0<l.length):ddE l 1=[l[0]]:=by
 simp[ddE,List.getElem?_eq_getElem h]
theorem yV{l:List α}{m:Nat}(h:m<l.length)(h0:0<m)(hc:l[m]=l[m-1]):ddE l (m+1)=ddE l m:=by
 have h1:m-1<l.length:=by omega
 rw[ddE,List.getElem?_eq_getElem h]
 simp only[List.getElem?_eq_getElem h1]
 rw[if_neg omA,if_pos (by rw[hc])]
theorem yX{l:List α}{m:Nat}(h:m<l.length)(h0:0<m)(hc:¬ l[m]=l[m-1]):ddE l (m+1)=ddE l m ++ [l[m]]:=by
 have h1:m-1<l.length:=by omega
 rw[ddE,List.getElem?_eq_getElem h]
 simp only[List.getElem?_eq_getElem h1]
 rw[if_neg omA,if_neg (fun e=>hc (Option.some.inj e).symm)]
theorem yT{l:List α}:∀ {m:Nat},m≤l.length→(∀k (h:k<l.length),0<k→k<m→¬ l[k]=l[k-1])→ddE l m=l.take m
 | 0,_,_=>by simp[ddE]
 | m + 1,hm,h=>by
   have ih:=yT (m:=m) omA (fun k hk h0 hl=>h k hk h0 omA)
   rw[List.take_succ_eq_append_getElem (by omega:m<l.length)]
   rcases Nat.eq_zero_or_pos m with rfl|h0
   ·rw[Cj hm];simp
   ·rw[yX (l:=l) (m:=m) omA h0 (h m omA h0 omA),ih]
theorem yU{lt:α→α→Prop}(htr:∀ {a b c},lt a b→lt b c→lt a c){l:List α}(hs:l.Pairwise (fun a b=>lt a b∨a=b)):∀ {m:Nat},m≤l.length →
 (ddE l m).Pairwise lt∧(∀x,x∈ddE l m↔x∈l.take m)∧(∀h:m-1<l.length,0<m→∃i,ddE l m=i ++ [l[m-1]])
 | 0,_=>⟨by simp[ddE],by simp[ddE],fun _ h=>absurd h omA⟩
 | m + 1,hm=>by
   obtain⟨ih1,ih2,ih3⟩:=yU (lt:=lt) htr hs (m:=m) omA
   have hml:m<l.length:=by omega
   rw[List.take_succ_eq_append_getElem hml]
   rcases Nat.eq_zero_or_pos m with rfl|h0
   ·rw[Cj hml]
    exact⟨by simp,by simp,fun h _=>⟨[],rfl⟩⟩
   ·have h1:m-1<l.length:=by omega
    obtain⟨i,hi⟩:=ih3 h1 h0
    by_cases hc:l[m]=l[m-1]
    ·rw[yV hml h0 hc]
     refine⟨ih1,fun x =>?_,fun _ _=>⟨i,by simpa[hc]using hi⟩⟩
     rw[ih2,List.mem_append,List.mem_singleton]
     refine⟨.inl,fun h=>h.elim id fun h =>?_⟩
     rw[h,hc]
     have:l[m-1]∈ddE l m:=by rw[hi];simp
     exact(ih2 _).1 this
    ·rw[yX hml h0 hc]
     refine⟨?_,fun x=>by rw[List.mem_append,List.mem_append,ih2],fun _ _=>⟨ddE l m,rfl⟩⟩
     have hlt:lt l[m-1] l[m]:=by
      rcases List.pairwise_iff_getElem.1 hs (m-1) m h1 hml omA with h|h
      ·exact h
      ·exact absurd h.symm hc
     refine List.pairwise_append.2 ⟨ih1,by simp,fun a ha b hb =>?_⟩
     rw[List.mem_singleton]at hb
     subst hb
     rw[hi]at ha ih1
     rcases List.mem_append.1 ha with h|h
     ·exact htr ((List.pairwise_append.1 ih1).2.2 a h _ spA) hlt
     ·rw[List.mem_singleton]at h
      rw[h];exact hlt
def yR(l:List α):List α:= ddE l l.length
theorem Ci{l:List α}(h:l.length<2):yR l=l:=by
 match l,h with
 | [],_=>rfl
 | [x],_=>exact Cj spA
theorem FY{lt:α→α→Prop}(htr:∀ {a b c},lt a b→lt b c→lt a c){l:List α}(hs:l.Pairwise (fun a b=>lt a b∨a=b)):(yR l).Pairwise lt:=(yU (lt:=lt) htr hs nlr).1
theorem FX{lt:α→α→Prop}(htr:∀ {a b c},lt a b→lt b c→lt a c){l:List α}(hs:l.Pairwise (fun a b=>lt a b∨a=b))(x:α):x∈yR l↔x∈l:=by
 have:=(yU (lt:=lt) htr hs nlr).2.1 x
 rwa [List.take_length]at this
end
structure SE (hs cov:List wC) (bl:List Int) (u e:Int) (m:Nat):Prop where
 le:u≤e
 at_:e=u ∨ ∃x∈cov,iH x u=true∧x.tT=e
 all:∀i (h:i<bl.length),i<m→∀k:Nat,∀hk:k<hs.length,bl[i]=(k:Int)→hs[k].tT≤e
theorem SE.take{hs cov:List wC}{bl:List Int}{u e:Int}{m k:Nat}(h:SE hs cov bl u e m)(hm:m<bl.length)(hk:k<hs.length)(hb:bl[m]=(k:Int))(hc:hs[k]∈cov)(ha:iH hs[k] u=true):SE hs cov bl u (max e hs[k].tT) (m+1):=by
 have hl:=h.le
 have hall:∀i (h:i<bl.length),i<m+1→∀k':Nat,∀hk:k'<hs.length,bl[i]=(k':Int)→hs[k'].tT≤e∨hs[k'].tT=hs[k].tT:=by
  intro i hi him k' hk' hb'
  rcases Nat.lt_or_ge i m with q|q
  ·exact .inl (h.all i hi q k' hk' hb')
  ·obtain rfl:i=m:=by omega
   have:k'=k:=by rw[hb]at hb';omega
   subst this
   exact .inr rfl
 rcases Int.le_total e hs[k].tT with hg|hg
 ·rw[Int.max_eq_right hg]
  refine⟨by omega,.inr ⟨hs[k],hc,ha,rfl⟩,fun i hi him k' hk' hb' =>?_⟩
  rcases hall i hi him k' hk' hb' with q|q<;>omega
 ·rw[Int.max_eq_left hg]
  refine⟨hl,h.at_,fun i hi him k' hk' hb' =>?_⟩
  rcases hall i hi him k' hk' hb' with q|q<;>omega
structure AL where
 table:Int
 col:Int
 seq:Int
 record:Int
 day:Int
 A:Option Addr
 cap:Nat
 own:List Ident
 null:Bool
 last:Bool
def AL.cells(x:AL):List Value:= [.int .i64 x.table,.int .i64 x.col,.int .i64 x.seq,.int .i64 x.record,.int .i64 x.day,.slice x.A x.own.length x.cap,.bool x.null,.bool x.last]
def ji(w:World)(B:Nat)(l:List AL):Prop:= ∀x∈l,ag w B Ident.cells 4 x.A x.own∧x.own.length≤1000000
theorem ji.below{w w':World}{B:Nat}{l:List AL}(h:ji w B l)(hb:Below B w w'):ji w' B l:=fun x hx=>⟨(h x hx).1.below hb,(h x hx).2⟩
theorem ji.mono{w:World}{B B':Nat}{l:List AL}(h:ji w B l)(hb:B≤B'):ji w B' l:=fun x hx=>⟨(h x hx).1.mono hb,(h x hx).2⟩
theorem ji.next{w w':World}{l:List AL}(h:ji w w.heap.size l)(hb:Below w.heap.size w w'):ji w' w'.heap.size l:=(h.below hb).mono hb.size
theorem GQ{α:Type}(p:α→Bool):∀l:List α,l.take (l.takeWhile p).length=l.takeWhile p
 | []=>rfl
 | x::l=>by
   cases h:p x
   ·rw[List.takeWhile_cons_of_neg (by rw[h];decide)]
    rfl
   ·rw[List.takeWhile_cons_of_pos h,List.length_cons,List.take_succ_cons,GQ p l]
theorem PI{α:Type}(p:α→Bool):∀(l:List α) (h:(l.takeWhile p).length<l.length),p l[(l.takeWhile p).length]=false
 | [],h=>by simp at h
 | x::l,h=>by
   cases hx:p x
   ·have e:((x::l).takeWhile p).length=0:=by rw[List.takeWhile_cons_of_neg (by rw[hx];decide)];rfl
    simp only[e]
    exact hx
   ·have e:((x::l).takeWhile p).length=(l.takeWhile p).length+1:=by rw[List.takeWhile_cons_of_pos hx];rfl
    have h':(l.takeWhile p).length<l.length:=by rw[e]at h;simpa using h
    have:=PI p l h'
    simp only[e]
    exact this
/-! A source put into an ascending list. -/
end Go.Proofs.YtjidligipoldeaaGreat
