/-
  Contracts and plain laws of this seat, part 2.
-/
import Derived.Test.YtjidligipoldeaaGreatS1
import Derived.Sort.OwnSortedInts
set_option linter.unusedVariables false
set_option linter.unusedSimpArgs false
set_option maxRecDepth 100000
set_option maxHeartbeats 16000000
namespace Go.Proofs.YtjidligipoldeaaGreat
open Go.RowKit
section
variable {α:Type}{w w':World}{base:Nat}{e:TypeId}{enc:α→List Value}{k g cap:Nat}{l:List α}
theorem ah.U6(hk:∀x,(enc x).length=k)(h:ah w base e enc k (.slice (some ⟨g,0,none⟩) l.length cap) l){i:Nat}(hi:i<l.length){j:Nat}{u:Value}(hu:(enc l[i])[j]?=some u):w.cell? ⟨g,i*k+j,none⟩=some u:=by
 have hj:j<k:=by rw[←hk l[i]];exact(List.getElem?_eq_some_iff.1 hu).1
 have hlt:i*k+j<l.length*k:=by
  have:(i+1)*k≤l.length*k:=Nat.mul_le_mul_right k hi
  rw[Nat.add_mul,Nat.one_mul]at this
  omega
 rw[World.ownsRow.cellAt h _ hlt]
 exact flat_get hk l i hi j u hu
theorem ah.frz(h:ah w base e enc k (.slice (some ⟨g,0,none⟩) l.length cap) l)(j:Nat):w.frozen? ⟨g,j,none⟩=false:=World.ownsRow.frozenAt h j
theorem ah.Sb(h:ah w base e enc k (.slice (some ⟨g,0,none⟩) l.length cap) l):base≤g∧g<w.heap.size:=by
 obtain⟨A,c,hv,_,hA⟩:=h.form
 injection hv with h1
 exact hA _ h1.symm
theorem ah.Sa(h:ah w base e enc k (.slice (some ⟨g,0,none⟩) l.length cap) l):l.length≤cap:=by
 rcases h.2 with ⟨h',_⟩|⟨g',cap',cur,h',_,_,hn,_⟩
 ·simp at h'
 ·injection h' with _ _ h3
  omega
theorem ah.beyond(h:ah w base e enc k (.slice (some ⟨g,0,none⟩) l.length cap) l){o:Nat}(ho:l.length*k≤o)(u:Value):ah (w.setCell ⟨g,o,none⟩ u) base e enc k (.slice (some ⟨g,0,none⟩) l.length cap) l∧w.grownBy (w.setCell ⟨g,o,none⟩ u) (some g):=by
 obtain⟨h1,h2⟩:=World.ownsRow.stored h o u
 refine⟨?_,h2⟩
 have e:(l.flatMap enc).set o u=l.flatMap enc:=List.set_eq_of_length_le (by rw[h.1];exact ho)
 unfold ah
 rw[←e]
 exact h1
theorem ah.Co:∀(vs:List Value) {w:World}{o:Nat},ah w base e enc k (.slice (some ⟨g,0,none⟩) l.length cap) l→l.length*k≤o→ah (w.setCells g o vs) base e enc k (.slice (some ⟨g,0,none⟩) l.length cap) l∧w.grownBy (w.setCells g o vs) (some g)
 | [],w,o,h,_=>⟨h,World.grownBy.refl _ _⟩
 | v::vs,w,o,h,ho=>by
   obtain⟨h1,h2⟩:=h.beyond ho v
   obtain⟨h3,h4⟩:=ah.Co vs h1 (by omega:l.length*k≤o+1)
   exact⟨h3,au h2 h4⟩
theorem ah.cut(hk:∀x,(enc x).length=k)(h:ah w base e enc k (.slice (some ⟨g,0,none⟩) l.length cap) l){m:Nat}(hm:m≤l.length):ah w base e enc k (.slice (some ⟨g,0,none⟩) m cap) (l.take m):=by
 have hlen:(l.take m).length=m:=by simp;omega
 rcases h.2 with ⟨h',_⟩|⟨g',cap',cur,h',hb,hg,hn,hcm,hcs,ht⟩
 ·simp at h'
 ·injection h' with h1 _ h3
  injection h1 with h1
  injection h1 with h1
  subst h1 h3
  refine⟨by rw[cB hk],.inr ⟨g,cap,cur,by rw[hlen],hb,hg,by omega,hcm,hcs,?_⟩⟩
  have e1:(l.take m).flatMap enc=(l.flatMap enc).take (m*k):=by
   have e2:l.flatMap enc=(l.take m).flatMap enc++(l.drop m).flatMap enc:=by rw[←List.flatMap_append,List.take_append_drop]
   rw[e2,List.take_left' (by rw[cB hk,hlen])]
  rw[e1,←ht,List.take_take,hlen]
  congr 1
  have:m*k≤l.length*k:=Nat.mul_le_mul_right k hm
  omega
end
theorem nV{P:Program}{n:Nat}(w:World)(t e ty:TypeId)(z:Value)(ht:P.underlying t=some (.slice e))(hv:∀w,(zeroValue e).run P w=.ok z w)(hz1:∀u∈(Builtin.zeroCells z.cells n).toList,u.oneCell'=true)(b o c:Nat)(hn:0<n)
 (hc:∀j,j<(Builtin.zeroCells z.cells n).toList.length→(w.cell? ⟨b,o+j,none⟩).isSome=true) (hf:∀j,j<(Builtin.zeroCells z.cells n).toList.length→w.frozen? ⟨b,o+j,none⟩=false):
 (Builtin.clear_ #[t] ty #[.slice (some ⟨b,o,none⟩) n c]).run P w=.ok (.tuple #[]) (w.setCells b o (Builtin.zeroCells z.cells n).toList):=by
 have hst:=run_storeCells_cells (P:=P) b o (Builtin.zeroCells z.cells n).toList 0 w (by simpa using hc) (by simpa using hf) hz1
 simp only[Nat.add_zero]at hst
 obtain⟨m,rfl⟩:∃m,n=m+1:=⟨n-1,by omega⟩
 simp[Builtin.clear_,run_underlying ht,hv,hst]
def O4(l:List Ident):Nat→List Ident
 | 0 =>[]
 | m + 1=>match l[m]? with
   | none=>O4 l m
   | some x=>if m = 0 then [x] else match l[m - 1]? with
     | none=>O4 l m
     | some y=>if fZ x y=0 then O4 l m else O4 l m ++ [x]
theorem qG{z:Array Value}{n:Nat}{u:Value}(hz:0<z.size)(h:u∈(Builtin.zeroCells z n).toList):u∈z.toList:=by
 unfold Builtin.zeroCells at h
 rw[Array.toList_map,List.mem_map]at h
 obtain⟨i,_,rfl⟩:=h
 have hi:i % z.size<z.size:=Nat.mod_lt _ hz
 rw[getElem!_pos z _ hi]
 exact Array.getElem_mem_toList hi
open Go.RowKit Go.Shelf Go.Sort
instance:Inhabited Ident:=⟨⟨⟨#[]⟩,⟨0,0,⟨#[]⟩⟩⟩⟩
def pX(x:Nat × Nat):List Value:= [.int .i64 x.1,.int .i64 x.2]
theorem K6:∀x:Nat × Nat,(pX x).length=2:=fun _=>rfl
def fO(ns:List Ident)(x:Link):Nat × Nat:=(min (eO ns x.a) (eO ns x.b),max (eO ns x.a) (eO ns x.b))
def Hm(ns:List Ident)(x:Link)(l:List Link):Int:=
 match l.find? (fun y=>fO ns y==fO ns x) with
 | some y=>y.seq-1
 | none =>9223372036854775807
def MW(ns:List Ident)(x:Link)(l:List Link):Edge:=⟨(fO ns x).1,(fO ns x).2,x.seq,Hm ns x l⟩
def jO(ns:List Ident):List Link→List Edge
 | [] =>[]
 | x::l=>if x.rev then jO ns l else MW ns x l::jO ns l
theorem De{s:Int}{y:Link}:∀ {l:List Link},l.Pairwise (fun x y=>x.seq<y.seq)→(y∈l.takeWhile (fun z=>decide (z.seq≤s))↔y∈l∧y.seq≤s)
 | [],_=>by simp
 | x::l,h=>by
   have h':=List.pairwise_cons.1 h
   by_cases hx:x.seq≤s
   ·rw[List.takeWhile_cons_of_pos (by simpa using hx),List.mem_cons,List.mem_cons,De h'.2]
    constructor
    ·rintro(rfl|⟨h1,h2⟩)
     ·exact⟨.inl rfl,hx⟩
     ·exact⟨.inr h1,h2⟩
    ·rintro⟨rfl|h1,h2⟩
     ·exact .inl rfl
     ·exact .inr ⟨h1,h2⟩
   ·rw[List.takeWhile_cons_of_neg (by simpa using hx)]
    constructor
    ·intro h;cases h
    ·rintro⟨h1,h2⟩
     rcases List.mem_cons.1 h1 with rfl|h1
     ·exact absurd h2 hx
     ·have:=h'.1 y h1
      omega
theorem yK{P:Link→Bool}{y:Link}:∀ {l:List Link},l.Pairwise (fun x y=>x.seq<y.seq)→l.find? P=some y→y∈l∧P y=true ∧ ∀z∈l,P z=true→y.seq≤z.seq
 | [],_,h=>by simp at h
 | x::l,hp,h=>by
   have h':=List.pairwise_cons.1 hp
   by_cases hx:P x=true
   ·rw[List.find?_cons_of_pos hx]at h
    injection h with h
    subst h
    refine⟨by simp,hx,fun z hz _ =>?_⟩
    rcases List.mem_cons.1 hz with rfl|hz
    ·exact Int.le_refl _
    ·exact Int.le_of_lt (h'.1 z hz)
   ·rw[List.find?_cons_of_neg hx]at h
    obtain⟨h1,h2,h3⟩:=yK h'.2 h
    refine⟨by simp[h1],h2,fun z hz hz' =>?_⟩
    rcases List.mem_cons.1 hz with rfl|hz
    ·exact absurd hz' hx
    ·exact h3 z hz hz'
structure Names (ns:List Ident) (ls:List Link):Prop where
 asc:Asc ns
 valid:ib ns
 ends:∀x∈ls,x.a∈ns∧x.b∈ns
theorem mP{ns:List Ident}(ha:Asc ns)(hv:ib ns){x y:Ident}(hx:x∈ns)(hy:y∈ns)(h:eO ns x=eO ns y):x=y:=by
 have h1:=(xZ ha hv hx).2
 have h2:=(xZ ha hv hy).2
 rw[h,h2]at h1
 injection h1 with h1
 exact h1.symm
theorem nD{ns:List Ident}(ha:Asc ns)(hv:ib ns){x y:Link}(hx:x.a∈ns∧x.b∈ns)(hy:y.a∈ns∧y.b∈ns):rT y x=true↔fO ns y=fO ns x:=by
 unfold rT fO
 simp only[Bool.or_eq_true,Bool.and_eq_true,decide_eq_true_eq,Prod.mk.injEq]
 constructor
 ·rintro(⟨h1,h2⟩|⟨h1,h2⟩)
  ·rw[h1,h2];exact⟨rfl,rfl⟩
  ·rw[h1,h2];omega
 ·intro h
  by_cases h1:eO ns y.a=eO ns x.a
  ·exact .inl ⟨mP ha hv hy.1 hx.1 h1,mP ha hv hy.2 hx.2 omA⟩
  ·exact .inr ⟨mP ha hv hy.1 hx.2 omA,mP ha hv hy.2 hx.1 omA⟩
theorem oN{es:List Edge}{s:Int}{p:Nat × Nat}:p∈lT es s ↔ ∃e∈es,e.first≤s∧s≤e.last∧(e.a,e.b)=p:=by
 unfold lT
 simp only[List.mem_map,List.mem_filter,Bool.and_eq_true,decide_eq_true_eq]
 constructor
 ·rintro⟨e,⟨h1,h2,h3⟩,h4⟩
  exact⟨e,h1,h2,h3,h4⟩
 ·rintro⟨e,h1,h2,h3,h4⟩
  exact⟨e,⟨h1,h2,h3⟩,h4⟩
theorem BZ{ns:List Ident}(ha:Asc ns)(hv:ib ns){x:Link}{l:List Link}(hx:x.a∈ns∧x.b∈ns)(hl:∀y∈l,y.a∈ns∧y.b∈ns)(hp:l.Pairwise (fun x y=>x.seq<y.seq)){s:Int}(hs:s≤9223372036854775807):
 gL (x::l) x 0 s=true↔x.rev=false∧x.seq≤s∧s≤Hm ns x l:=by
 unfold gL
 simp only[List.drop_succ_cons,List.drop_zero,Nat.zero_add,Bool.and_eq_true,decide_eq_true_eq,Bool.not_eq_true',List.any_eq_false,De hp]
 have key:(∀y,y∈l∧y.seq≤s→¬ rT y x=true)↔s≤Hm ns x l:=by
  unfold Hm
  cases hf:l.find? (fun y=>fO ns y==fO ns x) with
  | none =>
    rw[List.find?_eq_none]at hf
    refine⟨fun _=>hs,fun _ y hy h =>?_⟩
    rw[nD ha hv hx (hl y hy.1)]at h
    exact hf y hy.1 (by simp[h])
  | some y =>
    obtain⟨h1,h2,h3⟩:=yK hp hf
    have h2':fO ns y=fO ns x:=by simpa using h2
    constructor
    ·intro h
     have:=h y
     rw[nD ha hv hx (hl y h1)]at this
     have h4:¬ y.seq≤s:=fun h5=>this ⟨h1,h5⟩ h2'
     show s≤y.seq-1
     omega
    ·intro h z hz hzp
     have h:s≤y.seq-1:=h
     rw[nD ha hv hx (hl z hz.1)]at hzp
     have:=h3 z hz.1 (by simp[hzp])
     omega
 rw[key]
 constructor
 ·rintro⟨⟨h1,h2⟩,h3⟩;exact⟨h2,h1,h3⟩
 ·rintro⟨h2,h1,h3⟩;exact⟨⟨h1,h2⟩,h3⟩
theorem qK{ns:List Ident}(ha:Asc ns)(hv:ib ns){s:Int}(hs:s≤9223372036854775807){p:Nat × Nat}:∀ {l:List Link},(∀y∈l,y.a∈ns∧y.b∈ns)→l.Pairwise (fun x y=>x.seq<y.seq) →
 (p∈lT (jO ns l) s ↔ ∃i,∃h:i<l.length,gL l l[i] i s=true∧fO ns l[i]=p)
 | [],_,_=>by simp[jO,oN]
 | x::l,hl,hp=>by
   have hp':=List.pairwise_cons.1 hp
   have hx:=hl x spA
   have hl':∀y∈l,y.a∈ns∧y.b∈ns:=fun y hy=>hl y (by simp[hy])
   have ih:=qK ha hv hs (p:=p) hl' hp'.2
   have hh:=BZ ha hv hx hl' hp'.2 hs
   have hsplit:(∃i,∃h:i<(x::l).length,gL (x::l) (x::l)[i] i s=true∧fO ns (x::l)[i]=p)↔(gL (x::l) x 0 s=true∧fO ns x=p) ∨ ∃i,∃h:i<l.length,gL l l[i] i s=true∧fO ns l[i]=p:=by
    constructor
    ·rintro⟨i,hi,h1,h2⟩
     cases i with
     | zero=>exact .inl ⟨h1,h2⟩
     | succ i=>exact .inr ⟨i,by simpa using hi,by simpa[gL]using h1,by simpa using h2⟩
    ·rintro(⟨h1,h2⟩|⟨i,hi,h1,h2⟩)
     ·exact⟨0,by simp,h1,h2⟩
     ·exact⟨i+1,by simpa using hi,by simpa[gL]using h1,by simpa using h2⟩
   rw[hsplit,←ih,hh,jO]
   cases hr:x.rev
   ·rw[if_neg spA,oN,oN]
    constructor
    ·rintro⟨e,he,h1,h2,h3⟩
     rcases List.mem_cons.1 he with rfl|he
     ·exact .inl ⟨⟨rfl,h1,h2⟩,h3⟩
     ·exact .inr ⟨e,he,h1,h2,h3⟩
    ·rintro(⟨⟨_,h1,h2⟩,h3⟩|⟨e,he,h1,h2,h3⟩)
     ·exact⟨MW ns x l,by simp,h1,h2,h3⟩
     ·exact⟨e,by simp[he],h1,h2,h3⟩
   ·rw[if_pos rfl]
    constructor
    ·exact .inr
    ·rintro(⟨⟨h,_⟩,_⟩|h)
     ·cases h
     ·exact h
theorem F3{ns:List Ident}{ls:List Link}(hn:Names ns ls)(hp:ls.Pairwise (fun x y=>x.seq<y.seq)){s:Int}(hs:s≤9223372036854775807){u:Ident}(hu:u∈ns){i:Nat}(hi:i<ns.length):
 lH (lT (jO ns ls) s) (eO ns u) i↔Reach ls s u ns[i]:=by
 have hE:∀p,p∈lT (jO ns ls) s ↔ ∃i,∃h:i<ls.length,gL ls ls[i] i s=true∧fO ns ls[i]=p:=fun p=>qK hn.asc hn.valid hs hn.ends hp
 have hmem:∀v,Reach ls s u v→v∈ns:=by
  intro v hv
  cases hv with
  | refl=>exact hu
  | step _ e =>
    obtain⟨j,hj,_,h⟩:=e
    have:=hn.ends ls[j] (lgm hj)
    rcases h with ⟨_,h⟩|⟨_,h⟩
    ·rw[←h];exact this.2
    ·rw[←h];exact this.1
 have step:∀j (hj:j<ls.length),gL ls ls[j] j s=true→∀k,(k=eO ns ls[j].a∨k=eO ns ls[j].b)→(∃v,Reach ls s u v∧eO ns v=k)→Reach ls s u ls[j].a∧Reach ls s u ls[j].b:=by
  rintro j hj hd k hk ⟨v,hv,e⟩
  have hm:=hn.ends ls[j] (lgm hj)
  have hvn:=hmem v hv
  rcases hk with hk|hk
  ·have e':v=ls[j].a:=mP hn.asc hn.valid hvn hm.1 omA
   rw[e']at hv
   exact⟨hv,.step hv ⟨j,hj,hd,.inl ⟨rfl,rfl⟩⟩⟩
  ·have e':v=ls[j].b:=mP hn.asc hn.valid hvn hm.2 omA
   rw[e']at hv
   exact⟨.step hv ⟨j,hj,hd,.inr ⟨rfl,rfl⟩⟩,hv⟩
 have fwd:∀k,lH (lT (jO ns ls) s) (eO ns u) k→∃v,Reach ls s u v∧eO ns v=k:=by
  intro k hk
  induction hk with
  | refl=>exact⟨u,.refl,rfl⟩
  | @right a b _ hm ih =>
    obtain⟨j,hj,hd,e⟩:=(hE _).1 hm
    unfold fO at e
    injection e with e1 e2
    obtain⟨h1,h2⟩:=step j hj hd a omA ih
    rcases Nat.le_total (eO ns ls[j].a) (eO ns ls[j].b) with hle|hle
    ·exact⟨_,h2,by omega⟩
    ·exact⟨_,h1,by omega⟩
  | @left a b _ hm ih =>
    obtain⟨j,hj,hd,e⟩:=(hE _).1 hm
    unfold fO at e
    injection e with e1 e2
    obtain⟨h1,h2⟩:=step j hj hd b omA ih
    rcases Nat.le_total (eO ns ls[j].a) (eO ns ls[j].b) with hle|hle
    ·exact⟨_,h1,by omega⟩
    ·exact⟨_,h2,by omega⟩
 have bwd:∀v,Reach ls s u v→lH (lT (jO ns ls) s) (eO ns u) (eO ns v):=by
  intro v hv
  induction hv with
  | refl=>exact .refl
  | @step v z _ e ih =>
    obtain⟨j,hj,hd,h⟩:=e
    have hm:=(hE (fO ns ls[j])).2 ⟨j,hj,hd,rfl⟩
    unfold fO at hm
    rcases Nat.le_total (eO ns ls[j].a) (eO ns ls[j].b) with hle|hle
    ·rw[Nat.min_eq_left hle,Nat.max_eq_right hle]at hm
     rcases h with ⟨h1,h2⟩|⟨h1,h2⟩
     ·rw[h1,h2]at hm;exact .right ih hm
     ·rw[h1,h2]at hm;exact .left ih hm
    ·rw[Nat.min_eq_right hle,Nat.max_eq_left hle]at hm
     rcases h with ⟨h1,h2⟩|⟨h1,h2⟩
     ·rw[h1,h2]at hm;exact .left ih hm
     ·rw[h1,h2]at hm;exact .right ih hm
 have hself:eO ns ns[i]=i:=yg _ i omA (fun k h hk=>Hu hn.asc h hi hk) (fun _=>by rw[lg];omega)
 constructor
 ·intro h
  obtain⟨v,hv,e⟩:=fwd i h
  have h1:=(xZ hn.asc hn.valid (hmem v hv)).2
  rw[e,List.getElem?_eq_getElem hi]at h1
  injection h1 with h1
  rw[h1]
  exact hv
 ·intro h
  have:=bwd _ h
  rw[hself]at this
  exact this
theorem ah.oF{α:Type}{w:World}{base:Nat}{e:TypeId}{enc:α→List Value}{k:Nat}{v:Value}{l:List α}(h:ah w base e enc k v l)(h0:0<l.length):∃g cap,v=.slice (some ⟨g,0,none⟩) l.length cap∧base≤g:=by
 rcases h.2 with ⟨_,h1⟩|⟨g,cap,cur,rfl,hb,_⟩
 ·omega
 ·exact⟨g,cap,rfl,hb⟩
def wN(w:World)(g:Nat)(ps:List (Nat × Nat)):Prop:=Blk w g 266 (ps.flatMap pX).toArray
theorem wN.slice{w:World}{g B:Nat}{ps:List (Nat × Nat)}(h:wN w g ps)(hB:g<B):ag w B pX 2 (some ⟨g,0,none⟩) ps:=fun _ =>
 ⟨g,0,rfl,hB,fun i hi j u hu=>by
  have h0:=flat_get K6 ps i hi j u hu
  rw[Blk.cell h,Nat.zero_add]
  simpa using h0⟩
theorem wN.rest{w:World}{g B n:Nat}{ps:List (Nat × Nat)}(h:wN w g ps)(hB:g<B)(m:Nat)(hn:ps.length=n):ag w B pX 2 (if n=m then some ⟨g,0,none⟩ else some ⟨g,m*2,none⟩) (ps.drop m):=by
 have h1:=(h.slice hB).cut (c:=n) m omA
 simpa using h1
theorem ah.far{α:Type}{w:World}{base:Nat}{e:TypeId}{enc:α→List Value}{k:Nat}{v:Value}{l:List α}(h:ah w base e enc k v l){p:Addr}(hp:∀g,v.ownBlock=some g→g≠p.block)(u:Value):ah (w.setCell p u) base e enc k v l:=by
 refine⟨h.1,?_⟩
 rcases h.2 with h1|⟨g,cap,cur,rfl,hbs,hg,hr⟩
 ·exact .inl h1
 ·refine .inr ⟨g,cap,cur,rfl,hbs,?_,hr⟩
  rw[Below.heap_setCell w p u g (hp g rfl)]
  exact hg
theorem ah.lt{α:Type}{w:World}{base:Nat}{e:TypeId}{enc:α→List Value}{k:Nat}{v:Value}{l:List α}(h:ah w base e enc k v l):∀g,v.ownBlock=some g→g<w.heap.size:=by
 intro g hg
 obtain⟨A,c,rfl,_,hA⟩:=h.form
 cases A with
 | none=>simp[Value.ownBlock]at hg
 | some a =>
   have:a.block=g:=by simpa[Value.ownBlock]using hg
   rw[←this]
   exact(hA a rfl).2
theorem ag.far{α:Type}{w:World}{B:Nat}{enc:α→List Value}{k:Nat}{A:Option Addr}{l:List α}(h:ag w B enc k A l){p:Addr}(hp:∀a,A=some a→a.block≠p.block)(u:Value):ag (w.setCell p u) B enc k A l:=by
 intro hl
 obtain⟨b,o,rfl,hB,hc⟩:=h hl
 exact⟨b,o,rfl,hB,fun i hi j u' hu=>(World.cell?_of_block (Below.heap_setCell w p u b (hp _ rfl))).trans (hc i hi j u' hu)⟩
def uX(l:List Link)(x:Ident)(seq:Int)(ns:List Ident)(bs:List Bool)(m:Nat):Prop:=
 bs.length=ns.length ∧ ∀i (h:i<ns.length),bs[i]?=some true↔(Reach l seq x ns[i] ∨ ∃y∈l.take m,seq<y.seq∧Reach l y.seq x ns[i])
theorem uX.skip{l:List Link}{x:Ident}{seq:Int}{ns:List Ident}{bs:List Bool}{m:Nat}(h:uX l x seq ns bs m)(hm:m<l.length)(hs:¬ seq<l[m].seq):uX l x seq ns bs (m+1):=by
 refine⟨h.1,fun i hi =>?_⟩
 rw[h.2 i hi,List.take_succ_eq_append_getElem hm]
 constructor
 ·rintro(h|⟨y,hy,h⟩)
  ·exact .inl h
  ·exact .inr ⟨y,List.mem_append_left _ hy,h⟩
 ·rintro(h|⟨y,hy,h⟩)
  ·exact .inl h
  ·rcases List.mem_append.1 hy with hy|hy
   ·exact .inr ⟨y,hy,h⟩
   ·simp at hy;subst hy;exact absurd h.1 hs
theorem uX.more{l:List Link}{x:Ident}{seq:Int}{ns:List Ident}{bs bs':List Bool}{m:Nat}(h:uX l x seq ns bs m)(hn:Names ns l)(hv:gN l=true)(hx:x∈ns)(hm:m<l.length)(hs:seq<l[m].seq)
 (hk:Sd bs bs' (fun i=>lH (lT (jO ns l) l[m].seq) (eO ns x) i) ns.length):uX l x seq ns bs' (m+1):=by
 have hq:l[m].seq≤9223372036854775807:=by have:=(kP hv l[m] (lgm hm)).2.1;omega
 refine⟨hk.1.trans h.1,fun i hi =>?_⟩
 rw[hk.2 i (by rw[h.1];exact hi),h.2 i hi]
 simp only[F3 hn (wS hv) hq hx hi]
 rw[List.take_succ_eq_append_getElem hm]
 constructor
 ·rintro((h|⟨y,hy,h⟩)|h)
  ·exact .inl h
  ·exact .inr ⟨y,List.mem_append_left _ hy,h⟩
  ·exact .inr ⟨l[m],List.mem_append_right _ spA,hs,h.2⟩
 ·rintro(h|⟨y,hy,h⟩)
  ·exact .inl (.inl h)
  ·rcases List.mem_append.1 hy with hy|hy
   ·exact .inl (.inr ⟨y,hy,h⟩)
   ·simp at hy;subst hy;exact .inr ⟨hi,h.2⟩
structure Sc (w:World) (g:Nat) (f:List Nat) where
 u:World
 h:pJ w g f→∃f',pJ u g f'∧eQ f f'
 k:w.grownBy u (some g)
theorem gp(w:World)(row:Option Nat):w.grownBy w row:=⟨rfl,rfl,rfl,Nat.le_refl _,fun _ _ _=>rfl⟩
instance (w:World) (g:Nat) (f:List Nat):Inhabited (Sc w g f):=⟨⟨w,fun h=>⟨f,h,eQ.refl f⟩,gp w _⟩⟩
theorem Blk.list{α:Type}{w:World}{g B:Nat}{t:TypeId}{enc:α→List Value}{k:Nat}{l:List α}(hk:∀x,(enc x).length=k)(h:Blk w g t (l.flatMap enc).toArray)(hB:g<B):ag w B enc k (some ⟨g,0,none⟩) l:=fun _ =>
 ⟨g,0,rfl,hB,fun i hi j u hu=>by
  have h0:=flat_get hk l i hi j u hu
  rw[Blk.cell h,Nat.zero_add]
  simpa using h0⟩
def Hq(i:Nat):Ident:=⟨⟨#[110]⟩,⟨1,i,⟨#[]⟩⟩⟩
def Jm(i:Nat):Link:=⟨Hq i,Hq (i+1),((i+1:Nat):Int),false⟩
def chain(n:Nat):List Link:=(List.range n).map Jm
structure aL (w:World) (g b:Nat):Prop where
 ne:b≠g
 lt:b<w.heap.size
 is:∃(n c at_:Nat) (zs:List Int),Blk w g 114 #[.slice (some ⟨b,0,none⟩) n c,.int .i64 at_]∧n≤20000000000000∧at_≤4*n∧zs.length=n ∧ ∀i (h:i<zs.length),w.cell? ⟨b,i,none⟩=some (.int .i64 zs[i])
theorem aL.ltg{w:World}{g b:Nat}(h:aL w g b):g<w.heap.size:=by
 obtain⟨_,_,_,_,hB,_⟩:=h.is
 exact hB.lt
theorem aL.below{w w':World}{g b:Nat}(h:aL w g b)(hb:Below w.heap.size w w'):aL w' g b:=by
 obtain⟨n,c,a,zs,hB,h1,h2,h3,h4⟩:=h.is
 exact⟨h.ne,Nat.lt_of_lt_of_le h.lt hb.size,n,c,a,zs,hB.below hb hB.lt,h1,h2,h3,fun i hi=>(hb.cell (p:=⟨b,i,none⟩) h.lt).trans (h4 i hi)⟩
theorem aL.grown{w w':World}{g b r:Nat}(h:aL w g b)(hb:w.grownBy w' (some r))(hg:r≠g)(hr:r≠b):aL w' g b:=by
 obtain⟨n,c,a,zs,hB,h1,h2,h3,h4⟩:=h.is
 exact⟨h.ne,Nat.lt_of_lt_of_le h.lt hb.size,n,c,a,zs,hB.grown hb (fun e=>by injection e with e;exact hg e.symm),h1,h2,h3,fun i hi=>(World.cell?_of_block (hb.block b h.lt (fun e=>by injection e with e;exact hr e.symm))).trans (h4 i hi)⟩
theorem ag.grown{α:Type}{w w':World}{enc:α→List Value}{k:Nat}{A:Option Addr}{l:List α}{row:Option Nat}(h:ag w w.heap.size enc k A l)(hg:w.grownBy w' row)(hA:∀a,A=some a→some a.block≠row):ag w' w'.heap.size enc k A l:=by
 intro hl
 obtain⟨b,o,rfl,hB,hc⟩:=h hl
 exact⟨b,o,rfl,Nat.lt_of_lt_of_le hB hg.size,fun i hi j u hu=>(World.cell?_of_block (hg.block b hB (hA _ rfl))).trans (hc i hi j u hu)⟩
def intCells(x:Int):List Value:= [.int .i64 x]
theorem bq:∀x:Int,(intCells x).length=1:=fun _=>rfl
theorem dQ:∀x:Int,∀u∈intCells x,u.oneCell'=true:=by
 intro x u hu
 simp only[intCells,List.mem_singleton]at hu
 subst hu
 rfl
theorem kV:(Tryz.prog.info? 3).map (fun i=>(i.zero,i.size,i.bytes))=some (some (.int .i64 0),1,8):=by kernel_rfl
theorem ah.zZ{α:Type}{w:World}{base:Nat}{e:TypeId}{enc:α→List Value}{k:Nat}{v:Value}{l:List α}(h:ah w base e enc k v l){q:Nat}(hv:v.ownBlock=some q):∃g cap,v=.slice (some ⟨g,0,none⟩) l.length cap∧base≤g:=by
 rcases h.2 with ⟨rfl,_⟩|⟨g,cap,cur,rfl,hb,_⟩
 ·simp[Value.ownBlock]at hv
 ·exact⟨g,cap,rfl,hb⟩
theorem KJ(A:Option Addr)(c:Nat)(l:List Int)(w:World)(hl:ag w w.heap.size intCells 1 A l)(hn:l.length*8≤140737488351232):
 Calls Tryz.prog 24 #[.slice A l.length c] w fun e w' =>
  (∃g b,e=.returned (.pointer (some ⟨g,0,none⟩))∧w.heap.size≤g∧w.heap.size≤b∧aL w' g b)∧Below w.heap.size w w':=by
 obtain⟨i0,hi0,hz0,hz1,hz2⟩:=info_parts kV
 go_enter Tryz.func24,Tryz.ntmps24
 go_wp2_with ((at_builtin;go_must (refine aP _ rfl (.tmp 3) (.tmp 4) 22 rfl 3 i0 _ intCells 1 8 Tryz.underlying22 hi0 hz0 hz1 hz2 rfl omA bq dQ w.heap.size (.slice (some ⟨w.heap.size,0,none⟩) 0 0) [] rfl (ah.empty (Blk.new' rfl) nlr) _ _ _ l rfl rfl (hl.next ak) smA mxA spA ?_);intro v' w1 hown' hg' hat';have hbel:Below w.heap.size w w1:=Below.grown ak hg' spA (cu nlr);rw[List.nil_append]at hown';obtain⟨b,cap,rfl,hbb⟩:=hat'.elim (fun h=>hown'.zZ h) (fun h=>hown'.zZ h);have HOWN':=qh hown';clear hown'))
 go_ret
 obtain⟨A2,c2,e2,_,hs2,hA2⟩:=HOWN'.out.slice bq
 injection e2 with e2 _ _
 subst e2
 refine⟨⟨w1.heap.size,b,rfl,hbel.size,hbb,⟨?_,?_,l.length,cap,0,l,Blk.new _ _ _,by omega,by omega,rfl,fun i hi =>?_⟩⟩,hbel.alloc hbel.size _⟩
 ·have:=(hA2 _ rfl).2;simp at this;omega
 ·have:=(hA2 _ rfl).2;simp at this ⊢;omega
 ·obtain⟨b',o',e',hb',hc'⟩:=hs2 omA
  injection e' with e'
  injection e' with e1 e2
  subst e1 e2
  have:=hc' i hi 0 _ rfl
  have hlt:=(hA2 _ rfl).2
  have h2:=(Below.refl w1.heap.size w1).alloc nlr (.cells #[.slice (some ⟨b,0,none⟩) l.length cap,.int .i64 0] 114)
  refine(h2.cell (p:=⟨b,i,none⟩) hlt).trans ?_
  simpa using this
def Ng(n:Int)(r:Nat):Prop:=r=0∨(r:Int)<n
theorem KI(x n:Int)(hn:2≤n):∃r:Nat,(x.tmod n+n).tmod n=r∧(r:Int)<n:=by
 have h1:=Int.tmod_lt_of_pos x (show 0<n by omega)
 have h2:- n<x.tmod n:=by
  have h5:=Int.tmod_lt_of_pos (-x) (show 0<n by omega)
  rw[Int.neg_tmod]at h5
  omega
 have h3:=Int.tmod_lt_of_pos (x.tmod n+n) (show 0<n by omega)
 have h4:=Int.tmod_nonneg n (show 0≤x.tmod n+n by omega)
 exact⟨((x.tmod n+n).tmod n).toNat,by omega,by omega⟩
theorem Ic(x n:Int)(hn:2≤n)(hn2:n≤1000000):∃r:Nat,(wrap64 (x.tmod n+n)).tmod n=r∧(r:Int)<n:=by
 have h1:=Int.tmod_lt_of_pos x (show 0<n by omega)
 have h2:=Int.lt_tmod_of_pos x (show 0<n by omega)
 rw[show wrap64 (x.tmod n+n)=x.tmod n+n by unfold wrap64;omega]
 exact KI x n hn
theorem KG{w:World}{g b n c at_:Nat}{zs:List Int}(hne:b≠g)(hlt:b<w.heap.size)(hB:Blk w g 114 #[.slice (some ⟨b,0,none⟩) n c,.int .i64 at_])(hn:n≤20000000000000)(ha:at_+1≤4*n)(hz:zs.length=n)
 (hc:∀i (h:i<zs.length),w.cell? ⟨b,i,none⟩=some (.int .i64 zs[i])):aL (w.setCell ⟨g,1,none⟩ (.int .i64 (at_+1))) g b:=by
 refine⟨hne,by simpa using hlt,n,c,at_+1,zs,?_,hn,ha,hz,fun i hi=>(World.cell?_of_block (Below.heap_setCell w _ _ b (by simpa using hne))).trans (hc i hi)⟩
 have:=hB.aH 1 (.int .i64 (at_+1))
 simpa using this
theorem aG(g b:Nat)(n:Int)(w:World)(hk:aL w g b)(hn1:-1000000≤n)(hn2:n≤1000000):
 Calls Tryz.prog 26 #[.pointer (some ⟨g,0,none⟩),.int .i64 n] w fun e w' =>
  ∃r:Nat,e=.returned (.int .i64 r)∧Ng n r∧aL w' g b∧w.grownBy w' (some g):=by
 obtain⟨hne,hbl,len,c,at_,zs,hB,hlen,hat,hzs,hcell⟩:=hk
 have k0:=hB.cell 0
 have k1:=hB.cell 1
 have kf:=hB.frozen 1
 simp only[gE3]at k0 k1
 have hq0:=aD (w:=w) g hB.lt
 have hq1:=aD (w:=w) b hbl
 have HB:=qh hB
 have HC:=qh hcell
 have hgl:=hB.lt
 have hz:∀wq,Below w.heap.size w wq→aL wq g b:=fun wq hq=>aL.below ⟨hne,hbl,len,c,at_,zs,HB.out,hlen,hat,hzs,HC.out⟩ hq
 have HZ:=qh hz
 clear hB hcell hz
 by_cases h2:n<2
 ·go_enter Tryz.func26,Tryz.ntmps26
  go_wp2
  refine af krA krA ?_;(repeat(go_big_quiet_step (fail)));refine wpQuiet_nil ?_;intro wq hq
  go_wp2
  go_ret
  exact⟨0,rfl,.inl rfl,HZ.out _ hq,aI hq _⟩
 ·have h2':decide (n<2)=false:=by simpa using h2
  by_cases hl0:len=0
  ·subst hl0
   go_enter Tryz.func26,Tryz.ntmps26
   go_wp2
   refine af krA krA ?_;(repeat(go_big_quiet_step (fail)));refine wpQuiet_nil ?_;intro wq hq
   go_wp2
   go_ret
   exact⟨0,rfl,.inl rfl,HZ.out _ hq,aI hq _⟩
  ·have hl0':((len:Int) == 0)=false:=by simp;omega
   by_cases ha4:4*len≤at_
   ·have Xu:(4:Int)*(len:Int)≤(at_:Int):=by omega
    go_enter Tryz.func26,Tryz.ntmps26
    go_wp2
    refine af krA krA ?_;(repeat(go_big_quiet_step (fail)));refine wpQuiet_nil ?_;intro wq hq
    go_wp2
    go_ret
    exact⟨0,rfl,.inl rfl,HZ.out _ hq,aI hq _⟩
   ·have Xu:decide ((4:Int)*(len:Int)≤(at_:Int))=false:=by simp;omega
    go_enter Tryz.func26,Tryz.ntmps26
    go_wp2
    refine af krA krA ?_;(repeat(go_big_quiet_step (fail)));refine wpQuiet_nil ?_;intro wq hq
    go_wp2
    have hTq:=HZ.out _ hq
    clear hq0 hq1 k0 k1 kf
    have hBq:Blk wq g 114 #[.slice (some ⟨b,0,none⟩) len c,.int .i64 at_]:=HB.out.below hq hgl
    have hbq:b<wq.heap.size:=hTq.lt
    have k0:=hBq.cell 0
    have k1:=hBq.cell 1
    have kf:=hBq.frozen 1
    simp only[gE3]at k0 k1
    have hml:at_ % len<zs.length:=by rw[hzs];exact Nat.mod_lt _ omA
    have kz:wq.cell? ⟨b,at_ % len,none⟩=some (.int .i64 zs[at_ % len]):=(hq.cell (p:=⟨b,at_ % len,none⟩) hbl).trans (HC.out _ hml)
    have Y8:at_ % len<len:=by omega
    have hq0:=aD (w:=wq) g hBq.lt
    have hq1:=aD (w:=wq) b hbq
    have HBq:=qh hBq
    clear hBq
    obtain⟨z,hz⟩:∃z,zs[at_ % len]=z:=⟨_,rfl⟩
    rw[hz]at kz
    clear hz
    refine af krA krA ?_;(repeat(go_big_quiet_step (fail)));refine wpQuiet_nil ?_;intro wq2 hq2
    go_wp2
    clear hq0 hq1 k0 k1 kf kz
    have hqq:=lq hq hq2
    have ZN:=HZ.out _ hqq
    have OT:Blk wq2 g 114 #[.slice (some ⟨b,0,none⟩) len c,.int .i64 at_]:=HB.out.below hqq hgl
    have k0:=OT.cell 0
    have k1:=OT.cell 1
    simp only[gE3]at k0 k1
    have hq0:=aD (w:=wq2) g OT.lt
    clear OT
    refine af krA krA ?_;(repeat(go_big_quiet_step (fail)));refine wpQuiet_nil ?_;intro wq3 hq3
    have hqr:=lq hqq hq3
    have UR:=HZ.out _ hqr
    have OQ:Blk wq3 g 114 #[.slice (some ⟨b,0,none⟩) len c,.int .i64 at_]:=HB.out.below hqr hgl
    clear k0 k1 hq0
    have k1:=OQ.cell 1
    have kf:=OQ.frozen 1
    simp only[gE3]at k1
    have Yo:=qh OQ
    have ZU:=qh UR
    clear OQ
    go_wp2_with fail
    all_goals go_ret
    all_goals(obtain⟨r,hr,hrn⟩:=Ic _ n omA hn2;refine⟨r,congrArg (fun x=>Ending.returned (.int .i64 x)) hr,.inr hrn,KG hne UR.lt Yo.out hlen omA hzs (fun i hi=>(hqr.cell (p:=⟨b,i,none⟩) hbl).trans (HC.out i hi)),ai (aI hqr _) (.inl rfl) _⟩)
theorem aL.alloc{w:World}{g b:Nat}(h:aL w g b)(o:Obj):aL (w.alloc o) g b:=h.below (brf.alloc nlr o)
theorem aL.far{w:World}{g b:Nat}(h:aL w g b){p:Addr}(hg:g≠p.block)(hb:b≠p.block)(u:Value):aL (w.setCell p u) g b:=by
 obtain⟨n,c,a,zs,hB,h1,h2,h3,h4⟩:=h.is
 exact⟨h.ne,by simpa using h.lt,n,c,a,zs,hB.far hg u,h1,h2,h3,fun i hi=>(World.cell?_of_block (Below.heap_setCell w p u b hb)).trans (h4 i hi)⟩
theorem aX{w:World}(row:Option Nat){w':World}(h:Below w.heap.size w w'):w.grownBy w' row:=aI h row
theorem ah.grown{α:Type}{w w':World}{base:Nat}{e:TypeId}{enc:α→List Value}{k:Nat}{v:Value}{l:List α}(h:ah w base e enc k v l){r:Nat}(hg:w.grownBy w' (some r))(hr:r<base):ah w' base e enc k v l:=by
 refine⟨h.1,?_⟩
 rcases h.2 with h1|⟨g,cap,cur,rfl,hbs,hgg,hrest⟩
 ·exact .inl h1
 ·refine .inr ⟨g,cap,cur,rfl,hbs,?_,hrest⟩
  have hlt:g<w.heap.size:=by
   rcases Nat.lt_or_ge g w.heap.size with hlt|hge
   ·exact hlt
   ·rw[Array.getElem?_eq_none hge]at hgg;cases hgg
  rw[hg.block g hlt inA]
  exact hgg
structure ni (l:List Link) (s:Nat):Prop where
 valid:fB 0 l=true
 last:lastOf 0 l≤s
theorem ni.add{l:List Link}{s:Nat}(h:ni l s){y:Link}(ha:ed y.a=true)(hb:ed y.b=true)(hne:y.a≠y.b){s':Nat}(hs:y.seq=s')(hss:s<s')(hs2:s'≤1000000):ni (l ++ [y]) s':=by
 constructor
 ·rw[oq,h.valid,Bz,ha,hb]
  have:=h.last
  have h1:lastOf 0 l<y.seq:=by omega
  have h2:y.seq≤1073741824:=by omega
  simp[h1,h2,hne]
 ·rw[vM,hs]
  exact Int.le_refl _
theorem ni.mono{l:List Link}{s s':Nat}(h:ni l s)(hs:s≤s'):ni l s':=⟨h.valid,by have:=h.last;omega⟩
theorem gV{a b c:World}{g:Nat}{row:Option Nat}(h:a.grownBy b (some g))(k:b.grownBy c row)(hr:∀q,row=some q→a.heap.size≤q):a.grownBy c (some g):=
 ⟨k.os.trans h.os,k.tape.trans h.tape,k.output.trans h.output,Nat.le_trans h.size k.size,fun i hi hne=>(k.block i (Nat.lt_of_lt_of_le hi h.size) (fun e=>by have:=hr i e.symm;omega)).trans (h.block i hi hne)⟩
theorem aL.FQ{w w':World}{g b:Nat}{row:Option Nat}(h:aL w g b)(hb:w.grownBy w' row)(hg:some g≠row)(hr:some b≠row):aL w' g b:=by
 obtain⟨n,c,a,zs,hB,h1,h2,h3,h4⟩:=h.is
 exact⟨h.ne,Nat.lt_of_lt_of_le h.lt hb.size,n,c,a,zs,hB.grown hb hg,h1,h2,h3,fun i hi=>(World.cell?_of_block (hb.block b h.lt hr)).trans (h4 i hi)⟩
theorem Blk.eq{w:World}{g:Nat}{t:TypeId}{cs cs':Array Value}(h:Blk w g t cs)(e:cs=cs'):Blk w g t cs':=e▸h
theorem aj{P:World→Prop}{w:World}(R:World→Prop)(hR:R w)(h:∀u,R u→P u):P w:=h w hR
theorem Av{α:Type}{enc:α→List Value}{k:Nat}(hk:∀x,(enc x).length=k):∀(l:List α) (i j:Nat) (x:α) (u:Value) (hi:i<l.length),j<k→enc x=(enc l[i]).set j u→(l.flatMap enc).set (i*k+j) u=(l.set i x).flatMap enc
 | y::l,0,j,x,u,_,hj,hx=>by
   rw[List.set_cons_zero,List.flatMap_cons,List.flatMap_cons,hx,Nat.zero_mul,Nat.zero_add,List.set_append_left _ _ (by rw[hk];exact hj)]
   rfl
 | y::l,i + 1,j,x,u,hi,hj,hx=>by
   have ih:=Av hk l i j x u (by simpa using hi) hj hx
   rw[List.set_cons_succ,List.flatMap_cons,List.flatMap_cons,←ih,Nat.add_mul,Nat.one_mul,show i*k+k+j=(enc y).length+(i*k+j) by rw[hk];omega,List.set_append_right _ _ omA,Nat.add_sub_cancel_left]
theorem ah.gJ{α:Type}{w:World}{base:Nat}{e:TypeId}{enc:α→List Value}{k g cap n:Nat}{l:List α}(hk:∀x,(enc x).length=k)(h:ah w base e enc k (.slice (some ⟨g,0,none⟩) n cap) l)(hn:n=l.length){i:Nat}(hi:i<l.length)(x:α){j o:Nat}{u:Value}(hj:j<k)(ho:o=i*k+j)(hx:enc x=(enc l[i]).set j u):
 ah (w.setCell ⟨g,o,none⟩ u) base e enc k (.slice (some ⟨g,0,none⟩) n cap) (l.set i x):=by
 subst hn ho
 obtain⟨h0,_⟩:=World.ownsRow.stored h (i*k+j) u
 rw[Av hk l i j x u hi hj hx]at h0
 unfold ah
 rw[List.length_set]
 exact h0
theorem ah.one{α:Type}{w:World}{g base k:Nat}{t:TypeId}{enc:α→List Value}{x:α}(h:Blk w g t (enc x).toArray)(hb:base≤g)(hk:∀x,(enc x).length=k):ah w base t enc k (.slice (some ⟨g,0,none⟩) 1 1) [x]:=
 ⟨by simp[hk],.inr ⟨g,1,(enc x).toArray,rfl,hb,h,Nat.le_refl _,by decide,by simp[hk],by simp[←hk x]⟩⟩
end Go.Proofs.YtjidligipoldeaaGreat
