/-
  Contracts and plain laws of this seat, part 4.
-/
import Derived.Test.YtjidligipoldeaaGreatT2
set_option linter.unusedVariables false
set_option linter.unusedSimpArgs false
set_option maxRecDepth 100000
set_option maxHeartbeats 16000000
namespace Go.Proofs.YtjidligipoldeaaGreat
open Go.RowKit
structure VB where
 table:Int
 column:Int
 who:Ident
 seq:Int
 aau:Int
 aat:Int
def Tf:Ident:=⟨⟨#[]⟩,0,0,⟨#[]⟩⟩
theorem Blk.all{α:Type}{w:World}{g B k:Nat}{t:TypeId}{enc:α→List Value}{l:List α}(hk:∀x,(enc x).length=k)(h:Blk w g t (l.flatMap enc).toArray)(hB:g<B):ag w B enc k (some ⟨g,0,none⟩) l:=
 fun _=>⟨g,0,rfl,hB,fun i hi j u hu=>by rw[h.cell,Nat.zero_add];simpa using flat_get hk l i hi j u hu⟩
def hA:VB:=⟨-1,-1,Tf,1,3,5⟩
def hB:VB:=⟨-1,-1,Tf,1,5,9⟩
structure Src where
 tab:Int
 seq:Int
instance:DecidableEq Src:=fun a b =>
 if h:a.tab=b.tab∧a.seq=b.seq then isTrue (by obtain⟨_,_⟩:=a;obtain⟨_,_⟩:=b;simp at h;simp[h])
 else isFalse (fun e=>h (by simp[e]))
instance:Inhabited Src:=⟨⟨0,0⟩⟩
def PZ(a b:Src):Prop:=a.tab<b.tab∨a.tab=b.tab∧a.seq<b.seq
instance (a b:Src):Decidable (PZ a b):=by unfold PZ;infer_instance
/-! A sorted list without its doubles. -/
section
variable {α:Type} [DecidableEq α]
def ddE(l:List α):Nat→List α
 | 0 =>[]
 | m + 1=>match l[m]? with
   | none=>ddE l m
   | some x=>if m=0 then [x] else if l[m-1]?=some x then ddE l m else ddE l m ++ [x]
theorem BP{l:List α}(h:0<l.length):ddE l 1=[l[0]]:=by
 simp[ddE,List.getElem?_eq_getElem h]
theorem yT{l:List α}{m:Nat}(h:m<l.length)(h0:0<m)(hc:l[m]=l[m-1]):ddE l (m+1)=ddE l m:=by
 have h1:m-1<l.length:=by omega
 rw[ddE,List.getElem?_eq_getElem h]
 simp only[List.getElem?_eq_getElem h1]
 rw[if_neg omA,if_pos (by rw[hc])]
theorem yU{l:List α}{m:Nat}(h:m<l.length)(h0:0<m)(hc:¬ l[m]=l[m-1]):ddE l (m+1)=ddE l m ++ [l[m]]:=by
 have h1:m-1<l.length:=by omega
 rw[ddE,List.getElem?_eq_getElem h]
 simp only[List.getElem?_eq_getElem h1]
 rw[if_neg omA,if_neg (fun e=>hc (Option.some.inj e).symm)]
theorem yQ{l:List α}:∀ {m:Nat},m≤l.length→(∀k (h:k<l.length),0<k→k<m→¬ l[k]=l[k-1])→ddE l m=l.take m
 | 0,_,_=>by simp[ddE]
 | m + 1,hm,h=>by
   have ih:=yQ (m:=m) omA (fun k hk h0 hl=>h k hk h0 omA)
   rw[List.take_succ_eq_append_getElem (by omega:m<l.length)]
   rcases Nat.eq_zero_or_pos m with rfl|h0
   ·rw[BP hm];simp
   ·rw[yU (l:=l) (m:=m) omA h0 (h m omA h0 omA),ih]
theorem yR{lt:α→α→Prop}(htr:∀ {a b c},lt a b→lt b c→lt a c){l:List α}(hs:l.Pairwise (fun a b=>lt a b∨a=b)):∀ {m:Nat},m≤l.length →
 (ddE l m).Pairwise lt∧(∀x,x∈ddE l m↔x∈l.take m)∧(∀h:m-1<l.length,0<m→∃i,ddE l m=i ++ [l[m-1]])
 | 0,_=>⟨by simp[ddE],by simp[ddE],fun _ h=>absurd h omA⟩
 | m + 1,hm=>by
   obtain⟨ih1,ih2,ih3⟩:=yR (lt:=lt) htr hs (m:=m) omA
   have hml:m<l.length:=by omega
   rw[List.take_succ_eq_append_getElem hml]
   rcases Nat.eq_zero_or_pos m with rfl|h0
   ·rw[BP hml]
    exact⟨by simp,by simp,fun h _=>⟨[],rfl⟩⟩
   ·have h1:m-1<l.length:=by omega
    obtain⟨i,hi⟩:=ih3 h1 h0
    by_cases hc:l[m]=l[m-1]
    ·rw[yT hml h0 hc]
     refine⟨ih1,fun x =>?_,fun _ _=>⟨i,by simpa[hc]using hi⟩⟩
     rw[ih2,List.mem_append,List.mem_singleton]
     refine⟨.inl,fun h=>h.elim id fun h =>?_⟩
     rw[h,hc]
     have:l[m-1]∈ddE l m:=by rw[hi];simp
     exact(ih2 _).1 this
    ·rw[yU hml h0 hc]
     refine⟨?_,fun x=>by rw[List.mem_append,List.mem_append,ih2],fun _ _=>⟨ddE l m,rfl⟩⟩
     have hlt:lt l[m-1] l[m]:=by
      rcases List.pairwise_iff_getElem.1 hs (m-1) m h1 hml omA with h|h
      ·exact h
      ·exact absurd h.symm hc
     refine List.pairwise_append.2 ⟨ih1,by simp,fun a ha b hb =>?_⟩
     rw[List.mem_singleton]at hb
     subst hb
     rw[hi]at ha ih1
     rcases List.mem_append.1 ha with h|h
     ·exact htr ((List.pairwise_append.1 ih1).2.2 a h _ spA) hlt
     ·rw[List.mem_singleton]at h
      rw[h];exact hlt
def yP(l:List α):List α:= ddE l l.length
theorem BO{l:List α}(h:l.length<2):yP l=l:=by
 match l,h with
 | [],_=>rfl
 | [x],_=>exact BP spA
theorem FM{lt:α→α→Prop}(htr:∀ {a b c},lt a b→lt b c→lt a c){l:List α}(hs:l.Pairwise (fun a b=>lt a b∨a=b)):(yP l).Pairwise lt:=(yR (lt:=lt) htr hs nlr).1
theorem FL{lt:α→α→Prop}(htr:∀ {a b c},lt a b→lt b c→lt a c){l:List α}(hs:l.Pairwise (fun a b=>lt a b∨a=b))(x:α):x∈yP l↔x∈l:=by
 have:=(yR (lt:=lt) htr hs nlr).2.1 x
 rwa [List.take_length]at this
end
theorem Gv{α:Type}(p:α→Bool):∀l:List α,l.take (l.takeWhile p).length=l.takeWhile p
 | []=>rfl
 | x::l=>by
   cases h:p x
   ·rw[List.takeWhile_cons_of_neg (by rw[h];decide)]
    rfl
   ·rw[List.takeWhile_cons_of_pos h,List.length_cons,List.take_succ_cons,Gv p l]
theorem PT{α:Type}(p:α→Bool):∀(l:List α) (h:(l.takeWhile p).length<l.length),p l[(l.takeWhile p).length]=false
 | [],h=>by simp at h
 | x::l,h=>by
   cases hx:p x
   ·have e:((x::l).takeWhile p).length=0:=by rw[List.takeWhile_cons_of_neg (by rw[hx];decide)];rfl
    simp only[e]
    exact hx
   ·have e:((x::l).takeWhile p).length=(l.takeWhile p).length+1:=by rw[List.takeWhile_cons_of_pos hx];rfl
    have h':(l.takeWhile p).length<l.length:=by rw[e]at h;simpa using h
    have:=PT p l h'
    simp only[e]
    exact this
/-! A source put into an ascending list. -/
end Go.Proofs.YtjidligipoldeaaGreat
