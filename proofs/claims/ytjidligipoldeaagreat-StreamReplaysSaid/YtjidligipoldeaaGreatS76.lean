/-
  Contracts and plain laws of this seat, part 76.
-/
import Derived.Test.YtjidligipoldeaaGreatS71
set_option linter.unusedVariables false
set_option linter.unusedSimpArgs false
set_option maxRecDepth 100000
set_option maxHeartbeats 16000000
namespace Go.Proofs.YtjidligipoldeaaGreat
open Go.RowKit Go
def Bd(t:List aJ)(l:List Chg):List aJ:=l.foldl bB t
structure Good (ae:List Col) (t:List aJ) (q:Int):Prop where
 ok:gW ae t
 old:∀r∈t,∀s∈r.2.1,s<q
structure pM (ts:List Tab) (k:Nat) (q:Int) (l:List Chg):Prop where
 form:∀x∈l,aY ts x=0
 tab:∀x∈l,x.table=(k:Int)
 low:∀x∈l,q≤x.seq
 asc:l.Pairwise (fun a b=>a.seq<b.seq)
theorem pM.tail{ts:List Tab}{k:Nat}{q:Int}{x:Chg}{l:List Chg}(h:pM ts k q (x::l)):pM ts k (x.seq+1) l:=
 ⟨fun y hy=>h.form y (by simp[hy]),fun y hy=>h.tab y (by simp[hy]),fun y hy=>by have:=(List.pairwise_cons.1 h.asc).1 y hy;omega,(List.pairwise_cons.1 h.asc).2⟩
theorem Good.mono{ae:List Col}{t:List aJ}{q q':Int}(h:Good ae t q)(hq:q≤q'):Good ae t q':=⟨h.ok,fun r hr s hs=>Int.lt_of_lt_of_le (h.old r hr s hs) hq⟩
theorem Good.nil(ae:List Col)(q:Int):Good ae [] q:=⟨⟨by simp,(fun r hr=>by cases hr),List.Pairwise.nil,List.Pairwise.nil⟩,(fun r hr=>by cases hr)⟩
section
variable {ts:List Tab}{k:Nat}{t:List aJ}{x:Chg}
theorem Good.step(hok:aR ts)(hk:k<ts.length)(h:Good ts[k].ae t x.seq)(hf:aY ts x=0)(ht:x.table=(k:Int)):Good ts[k].ae (bB t x) (x.seq+1):=by
 obtain⟨k',hin⟩:=gF hf
 have e:k'=k:=by have:=hin.tab;omega
 subst e
 refine⟨K3 hok hf hin h.ok h.old,?_⟩
 exact nT.uB (P:=fun s=>s<x.seq+1) (fun r hr s hs=>by have:=h.old r hr s hs;omega) omA
def From(t:List aJ)(r':aJ):Prop:= ∃r∈t,dG r=dG r'∧aA r=aA r'∧r.2.1.length=r'.2.1.length∧r.1.length=r'.1.length∧r.2.2=r'.2.2 ∧ ∀c,r.2.1.getD c 0≤r'.2.1.getD c 0
theorem From.self{r:aJ}(h:r∈t):From t r:=⟨r,h,rfl,rfl,rfl,rfl,rfl,fun c=>Int.le_refl _⟩
theorem From.trans{t t':List aJ}{r':aJ}(h:From t' r')(hb:∀r∈t',From t r∨dG r=x.seq):From t r'∨dG r'=x.seq:=by
 obtain⟨r,hr,h1,h2,h3,h4,h5,h6⟩:=h
 rcases hb r hr with ⟨r0,hr0,g1,g2,g3,g4,g5,g6⟩|g
 ·exact .inl ⟨r0,hr0,g1.trans h1,g2.trans h2,g3.trans h3,g4.trans h4,g5.trans h5,fun c=>Int.le_trans (g6 c) (h6 c)⟩
 ·exact .inr (h1.symm.trans g)
theorem I4(hok:aR ts)(hk:k<ts.length)(h:Good ts[k].ae t x.seq)(hf:aY ts x=0):∀r'∈bB t x,From t r'∨dG r'=x.seq:=fun r' hr'=>by
 have hx:=FR hok hf
 have hK:aV t:=h.ok.keys (hok.ae hk).1
 rcases hx.kind with h1|h2|h3
 ·by_cases hfit:(∃r∈t,aA r=keyOf x)∨t.length<64
  ·rcases(eB hK hx.val hx.key h1 hfit).1 hr' with rfl|⟨h4,_⟩
   ·exact .inr (kK (hx.row h1))
   ·exact .inl (From.self h4)
  ·rw[Ag hK hx.val (fun r hr e=>hfit (.inl ⟨r,hr,e⟩)) (.inr fun h=>hfit (.inr h))]at hr'
   exact .inl (From.self hr')
 ·rcases(j6 hK hx.val hx.key h2).1 hr' with ⟨h4,_⟩|⟨r0,h4,_,rfl⟩
  ·exact .inl (From.self h4)
  ·refine .inl ⟨r0,h4,(uL (hx.col h2)).symm,(uM (hx.col h2)).symm,by simp[AQ],by simp[AQ],rfl,fun c =>?_⟩
   show r0.2.1.getD c 0≤(r0.2.1.set x.column.toNat x.seq).getD c 0
   rw[List.getD_eq_getElem?_getD,List.getD_eq_getElem?_getD,List.getElem?_set]
   split
   ·rename_i e
    subst e
    split
    ·rename_i hl
     rw[List.getElem?_eq_getElem hl]
     exact Int.le_of_lt (h.old r0 h4 _ (lgm hl))
    ·rename_i hl
     rw[List.getElem?_eq_none omA]
     exact Int.le_refl _
   ·exact Int.le_refl _
 ·exact .inl (From.self ((kg hK hx.val hx.key h3).1 hr').1)
end
theorem yI{ts:List Tab}{k:Nat}(hok:aR ts)(hk:k<ts.length):∀(l:List Chg) (t:List aJ) (q:Int),Good ts[k].ae t q→pM ts k q l→(∃q',Good ts[k].ae (Bd t l) q') ∧ ∀r'∈Bd t l,From t r' ∨ ∃x∈l,dG r'=x.seq
 | [],t,q,hg,ha=>⟨⟨q,hg⟩,fun r' hr' =>.inl (From.self hr')⟩
 | x::l,t,q,hg,ha=>by
   have hf:=ha.form x spA
   have hgx:=hg.mono (ha.low x spA)
   have hst:=hgx.step hok hk hf (ha.tab x spA)
   obtain⟨h1,h2⟩:=yI hok hk l (bB t x) (x.seq+1) hst ha.tail
   refine⟨h1,fun r' hr' =>?_⟩
   rcases h2 r' hr' with h3|⟨y,hy,h3⟩
   ·rcases h3.trans (I4 hok hk hgx hf) with h4|h4
    ·exact .inl h4
    ·exact .inr ⟨x,by simp,h4⟩
   ·exact .inr ⟨y,by simp[hy],h3⟩
def Jb(T:List aJ)(q:Int):Option aJ:=T.find? fun r'=>decide (dG r'=q)
def VV(r' r:aJ):aJ:=(r.1.mapIdx fun m x=>if r.2.1.getD m 0=r'.2.1.getD m 0 then x else uE,r.2.1.mapIdx fun m q=>if q=r'.2.1.getD m 0 then q else dG r,r.2.2)
def resR(T:List aJ)(r:aJ):aJ:=match Jb T (dG r) with
 | some r'=>VV r' r
 | none=>r
def il(T:List aJ)(x:Chg):List Chg:=
 if x.kind=1 then (match Jb T x.seq with
  | some r =>[⟨x.kind,x.seq,x.day,x.table,none,0,x.row.mapIdx fun m y=>if r.2.1.getD m 0=x.seq then y else uE,x.key,x.column,x.val⟩]
  | none =>[])
 else if x.kind=2 then (match T.find? fun r=>decide (aA r=x.key) with
  | some r=>if r.2.1.getD x.column.toNat 0=x.seq then [unC x] else []
  | none =>[])
 else []
open Go.RowKit Go
theorem Hf{l:List Int}{m:Nat}(h:m<l.length)(d:Int):l.getD m d=l[m]:=by rw[List.getD_eq_getElem?_getD,List.getElem?_eq_getElem h];rfl
section
variable {ts:List Tab}{k:Nat}{t T:List aJ}{x:Chg}
end
end Go.Proofs.YtjidligipoldeaaGreat
