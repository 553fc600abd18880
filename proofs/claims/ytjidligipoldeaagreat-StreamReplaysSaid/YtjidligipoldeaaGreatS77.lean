/-
  Contracts and plain laws of this seat, part 77.
-/
import Derived.Test.YtjidligipoldeaaGreatS76
set_option linter.unusedVariables false
set_option linter.unusedSimpArgs false
set_option maxRecDepth 100000
set_option maxHeartbeats 16000000
namespace Go.Proofs.YtjidligipoldeaaGreat
open Go.RowKit Go
theorem M9(T:List aJ)(x:Chg):il T x=[] ∨ ∃y,il T x=[y]:=by
 unfold il
 split
 ·split
  ·exact .inr ⟨_,rfl⟩
  ·exact .inl rfl
 ·split
  ·split
   ·split
    ·exact .inr ⟨_,rfl⟩
    ·exact .inl rfl
   ·exact .inl rfl
  ·exact .inl rfl
theorem Nb{ts:List Tab}{k:Nat}{q:Int}{a b:List Chg}(h:pM ts k q (a++b)):pM ts k q a:=⟨fun x hx=>h.form x (List.mem_append_left _ hx),fun x hx=>h.tab x (List.mem_append_left _ hx),fun x hx=>h.low x (List.mem_append_left _ hx),(List.pairwise_append.1 h.asc).1⟩
open Go.RowKit Go
theorem kT{ts:List Tab}{l:List Chg}(h:dh ts l):∀x∈l,aY ts x=0:=fun x hx=>by
 obtain⟨i,hi,rfl⟩:=List.getElem_of_mem hx
 exact(h.at_ i hi).form
theorem Ba{ts:List Tab}{k:Nat}{l:List Chg}(h:dh ts l)(ht:∀x∈l,x.table=(k:Int)):pM ts k 0 l:=
 ⟨kT h,ht,fun x hx=>by have:=(FR h.cat (kT h x hx)).seq;omega,(sK h).imp fun h=>h.1⟩
theorem CL{ts:List Tab}{k:Nat}:∀(l:List Chg) (pl:List (List aJ)) (hk:k<pl.length),(∀x∈l,aY ts x=0)→(∀x∈l,x.table=(k:Int))→xB ts pl l=pl.set k (Bd pl[k] l)
 | [],pl,hk,_,_=>by
   show pl=pl.set k pl[k]
   rw[List.set_getElem_self]
 | x::l,pl,hk,hf,ht=>by
   have htx:=ht x spA
   have e:aK pl x=pl.set k (bB pl[k] x):=by
    unfold aK
    rw[htx,Int.toNat_natCast,iV hk]
   show xB ts (if aY ts x=0 then aK pl x else pl) l=_
   rw[if_pos (hf x spA),e,CL l (pl.set k (bB pl[k] x)) (by simpa using hk) (fun y hy=>hf y (by simp[hy])) (fun y hy=>ht y (by simp[hy]))]
   rw[List.set_set]
   congr 1
   rw[List.getElem_set_self]
   rfl
theorem EN{ts:List Tab}{k:Nat}(hk:k<ts.length){l:List Chg}(hf:∀x∈l,aY ts x=0)(ht:∀x∈l,x.table=(k:Int)):bH ts l=(List.replicate ts.length []).set k (Bd [] l):=by
 have h:=CL (ts:=ts) l (List.replicate ts.length []) (by simpa using hk) hf ht
 rw[List.getElem_replicate]at h
 exact h
theorem KO{ts:List Tab}{k:Nat}(hk:k<ts.length){l:List Chg}(hf:∀x∈l,aY ts x=0)(ht:∀x∈l,x.table=(k:Int)):(bH ts l)[k]?=some (Bd [] l):=by
 rw[EN hk hf ht,List.getElem?_set_self (by simpa using hk)]
theorem G6{ts:List Tab}{l l':List Chg}(h:dh ts l)(hs:l'.Sublist l):dh ts l':=
 iO h.cat (Nat.le_trans hs.length_le h.len) (fun x hx=>kT h x (hs.subset hx)) ((sK h).sublist hs)
theorem E5{ts:List Tab}{l:List Chg}(h:dh ts l)(p:Chg→Bool):dh ts (l.filter p):=G6 h List.filter_sublist
theorem oL{ts:List Tab}{l:List Chg}(h:dh ts l)(n:Nat):dh ts (l.take n):=G6 h (List.take_sublist n l)
open Go.RowKit Go
abbrev lG:=Int × Chg
structure XM (low next:Int) (es:List lG):Prop where
 NU:0≤low
 NT:low≤next
 off:∀e∈es,0≤e.1∧e.1<next
 asc:es.Pairwise (fun a b=>a.1<b.1)
def pz(b:Int)(es:List lG):Nat:=(es.takeWhile fun e=>decide (e.1<b)).length
theorem O6(b:Int)(es:List lG):pz b es≤es.length:=(List.takeWhile_sublist _).length_le
theorem O5{es:List lG}(h:es.Pairwise (fun a b=>a.1<b.1)){b:Int}{i:Nat}(hi:i<es.length):i<pz b es↔es[i].1<b:=by
 induction es generalizing i with
 | nil=>simp at hi
 | cons e es ih =>
   have h1:=List.pairwise_cons.1 h
   unfold pz
   rw[List.takeWhile_cons]
   by_cases he:e.1<b
   ·rw[if_pos (decide_eq_true he)]
    cases i with
    | zero=>simp[he]
    | succ i =>
      have:=ih h1.2 (i:=i) (by simpa using hi)
      simp only[List.length_cons,List.getElem_cons_succ]
      rw[←this]
      unfold pz
      omega
   ·rw[if_neg (by simpa using he)]
    constructor
    ·intro h;simp at h
    ·intro h2
     exfalso
     cases i with
     | zero=>exact he h2
     | succ i =>
       have:=h1.1 _ (List.getElem_mem (n:=i) (by simpa using hi))
       simp only[List.getElem_cons_succ]at h2
       omega
def nW(es:List lG)(p:Nat):List aJ:=Bd [] ((es.take p).map Prod.snd)
theorem xH{ts:List Tab}{k:Nat}(hok:aR ts)(hk:k<ts.length){es:List lG}{q:Int}(ha:pM ts k q (es.map Prod.snd))(p:Nat):∃q',Good ts[k].ae (nW es p) q':=by
 have e:es.map Prod.snd=(es.take p).map Prod.snd++(es.drop p).map Prod.snd:=by rw[←List.map_append,List.take_append_drop]
 rw[e]at ha
 exact(yI hok hk _ [] q (Good.nil _ _) (Nb ha)).1
open Go.RowKit Go
def tY(T:List aJ)(es:List lG):List lG:=es.flatMap fun e=>(il T e.2).map fun y=>(e.1,y)
theorem uV(T:List aJ):∀(es:List lG),((tY T es).map Prod.fst).Sublist (es.map Prod.fst)
 | []=>List.Sublist.refl _
 | e::es=>by
   have ih:=uV T es
   show ((((il T e.2).map fun y=>(e.1,y))++tY T es).map Prod.fst).Sublist (e.1::es.map Prod.fst)
   rcases M9 T e.2 with h|⟨y,h⟩
   ·rw[h]
    exact ih.cons _
   ·rw[h]
    exact ih.cons_cons _
def yZ(tO:Int)(es:List lG):List lG:=tY (nW es (pz tO es)) (es.take (pz tO es))++es.drop (pz tO es)
open Go.RowKit Go
structure dS (ts:List Tab) (k:Nat) (low next:Int) (ps:List lG):Prop where
 log:XM low next ps
 top:next≤1099511627776
 ord:dh ts (ps.map Prod.snd)
 tab:∀x∈ps.map Prod.snd,x.table=(k:Int)
 lt:k<ts.length
 len:ps.length≤256
theorem G5{ts:List Tab}{l:List Chg}(h:dh ts l):dh ts (l.map unC):=
 iO h.cat (by rw[List.length_map];exact h.len) (fun x hx=>by
  obtain⟨y,hy,rfl⟩:=List.mem_map.1 hx
  exact tK (kT h y hy)) (by rw[List.pairwise_map];exact(sK h).imp fun h=>h)
section
variable {ts:List Tab}{k:Nat}{low next:Int}{ps:List lG}
theorem dS.cat(h:dS ts k low next ps):aR ts:=h.ord.cat
theorem dS.nil(hok:aR ts)(hk:k<ts.length):dS ts k 0 0 []:=
 ⟨⟨Int.le_refl _,Int.le_refl _,(fun e h=>by cases h),List.Pairwise.nil⟩,by decide,iO hok spA (fun x h=>by cases h) List.Pairwise.nil,(fun x h=>by cases h),hk,by simp⟩
theorem dS.app(h:dS ts k low next ps){x:Chg}(ht:x.table=(k:Int))(ho:dh ts (ps.map Prod.snd ++ [x]))(hl:ps.length<256)(hn:next<1099511627776):dS ts k low (next+1) (ps ++ [(next,x)]):=by
 have h1:=h.log.NU
 have h2:=h.log.NT
 refine⟨⟨h1,by omega,fun e he =>?_,List.pairwise_append.2 ⟨h.log.asc,by simp,fun a ha b hb =>?_⟩⟩,by omega,by simpa using ho,fun y hy =>?_,h.lt,by simp;omega⟩
 ·rcases List.mem_append.1 he with he|he
  ·have:=h.log.off e he;omega
  ·rw[List.mem_singleton.1 he];exact⟨by show 0≤next;omega,by show next<next+1;omega⟩
 ·rw[List.mem_singleton.1 hb];exact(h.log.off a ha).2
 ·rw[List.map_append]at hy
  rcases List.mem_append.1 hy with hy|hy
  ·exact h.tab y hy
  ·rw[List.map_singleton,List.mem_singleton]at hy
   rw[hy];exact ht
theorem dS.take(h:dS ts k low next ps)(n:Nat):dh ts ((ps.take n).map Prod.snd):=by
 rw[List.map_take];exact oL h.ord n
theorem dS.recs(h:dS ts k low next ps){l:List Chg}(hl:l.map unC=ps.map Prod.snd):(bH ts l)[k]?=some (Bd [] (ps.map Prod.snd)):=by
 rw[←xz,hl]
 exact KO h.lt (kT h.ord) h.tab
theorem dS.SI(h:dS ts k low next ps)(n:Nat){l:List Chg}(hl:l.map unC=(ps.take n).map Prod.snd):(bH ts l)[k]?=some (nW ps n):=by
 rw[←xz,hl]
 exact KO h.lt (kT (h.take n)) fun x hx=>h.tab x (by rw[List.map_take]at hx;exact List.mem_of_mem_take hx)
end
end Go.Proofs.YtjidligipoldeaaGreat
