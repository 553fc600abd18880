/-
  Contracts and plain laws of this seat, part 71.
-/
import Derived.Test.YtjidligipoldeaaGreatS53
import Derived.Test.YtjidligipoldeaaGreatS70
set_option linter.unusedVariables false
set_option linter.unusedSimpArgs false
set_option maxRecDepth 100000
set_option maxHeartbeats 16000000
namespace Go.Proofs.YtjidligipoldeaaGreat
open Go.RowKit Go
theorem tK{ts:List Tab}{x:Chg}(h:aY ts x=0):aY ts (unC x)=0:=h
section
variable {ts:List Tab}{v:List Vn}{s:List Src}{k:Nat}{t:List aJ}{a:fu}{x:Chg}
structure Kept (ts:List Tab) (x y:Chg):Prop where
 form:aY ts y=0
 tab:y.table=x.table
 seq:y.seq=x.seq
 day:y.day=x.day
end
open Go.RowKit Go
structure ND (al:List fu) (pl:List (List aJ)):Prop where
 len:al.length=pl.length
 at_:∀i (h:i<al.length) (h':i<pl.length),uk al[i] pl[i]
theorem ND.zero(n:Nat):ND (List.replicate n rG) (List.replicate n []):=⟨by simp,fun i h h'=>by simp only[List.getElem_replicate];exact uk.zero⟩
noncomputable def xB(ts:List Tab)(pl:List (List aJ))(l:List Chg):List (List aJ):=l.foldl (fun pl x=>if aY ts x=0 then aK pl x else pl) pl
section
variable {ts:List Tab}{v:List Vn}{s:List Src}{al:List fu}{pl:List (List aJ)}{x:Chg}
end
/-! The order of what is kept. -/
theorem sK{ts:List Tab}{l:List Chg}(h:dh ts l):l.Pairwise (fun a b=>a.seq<b.seq∧a.day≤b.day):=by
 rw[List.pairwise_iff_getElem]
 intro i j hi hj hij
 obtain⟨d,rfl⟩:∃d,j=i+1+d:=⟨j-(i+1),by omega⟩
 clear hij
 induction d with
 | zero=>exact(h.at_ (i+1) hj).asc omA
 | succ d ih =>
   have h1:=ih omA
   have h2:=(h.at_ (i+1+(d+1)) hj).asc omA
   have e:l[i+1+(d+1)-1]' omA=l[i+1+d]' omA:=by congr 1
   rw[e]at h2
   omega
theorem iO{ts:List Tab}{l:List Chg}(hok:aR ts)(hl:l.length≤1024)(hf:∀x∈l,aY ts x=0)(hp:l.Pairwise (fun a b=>a.seq<b.seq∧a.day≤b.day)):dh ts l:=
 ⟨hok,hl,fun i hi=>⟨hf _ (lgm hi),fun h0=>List.pairwise_iff_getElem.1 hp (i-1) i omA hi omA⟩⟩
theorem xz(ts:List Tab)(l:List Chg):bH ts (l.map unC)=bH ts l:=by
 have h:∀(l:List Chg) (pl:List (List aJ)),(l.map unC).foldl (fun pl x=>if aY ts x=0 then aK pl x else pl) pl=l.foldl (fun pl x=>if aY ts x=0 then aK pl x else pl) pl:=by
  intro l
  induction l with
  | nil=>exact fun _=>rfl
  | cons x l ih =>
    intro pl
    rw[List.map_cons,List.foldl_cons,List.foldl_cons,ih]
    rfl
 exact h l _
theorem GZ{ts:List Tab}{l:List Chg}(h:dh ts (l.map unC)):dh ts l:=by
 have hl:=h.len
 rw[List.length_map]at hl
 refine iO h.cat hl (fun x hx =>?_) ?_
 ·obtain⟨i,hi,he⟩:=List.getElem_of_mem (List.mem_map_of_mem (f:=unC) hx)
  have h1:=(h.at_ i hi).form
  rw[he]at h1
  exact h1
 ·have h1:=sK h
  rw[List.pairwise_map]at h1
  exact h1
open Go.RowKit Go
theorem K3{ts:List Tab}{x:Chg}{k:Nat}{t:List aJ}(hok:aR ts)(hf:aY ts x=0)(hin:jI ts x k)(hp:gW (ts[k]'hin.lt).ae t)(hsq:∀r∈t,∀s∈r.2.1,s<x.seq):gW (ts[k]'hin.lt).ae (bB t x):=by
 have hpos:=(hok.ae hin.lt).1
 have hx:=FR hok hf
 have hK:aV t:=hp.keys hpos
 have hq:∀y∈t,dG y<x.seq:=fun y hy=>by
  have hl:0<y.2.1.length:=by rw[(hp.rcd y hy).Bc];exact hpos
  have h6:=hsq y hy y.2.1[0] (lgm hl)
  have e:dG y=y.2.1[0]:=by
   obtain⟨a,b,c⟩:=y
   cases b with
   | nil=>simp at hl
   | cons u us=>rfl
  rw[e]
  exact h6
 rcases hin.kind with h1|h2|h3
 ·have hi:=kY hf h1 hin
  have hn:=Ld hin hin.lt h1 hi
  have hkn:aA (fA x)=keyOf x:=sS h1
  have hqn:dG (fA x)=x.seq:=kK (hx.row h1)
  have hne:∀y∈t,aA y≠keyOf x→aT (aA y) (aA (fA x))≠0:=fun y hy h0 e=>by
   rw[hkn]at e
   exact h0 (iQ (hK.val y hy) hx.val e)
  rcases hK.found hx.val with ⟨hfd,hi2,hk⟩|⟨hfd,hno⟩
  ·rw[pW h1 (jS hK hx.val hx.key hfd)]
   have hlen:=hp.len
   refine(hp.cut _).ins ?_ hn (fun y hy =>?_) (fun y hy e =>?_)
   ·unfold ik
    rw[List.length_append,List.length_take,List.length_drop]
    omega
   ·obtain⟨h4,h5⟩:=(hK.wG hi2 hk y).1 hy
    exact hne y h4 h5
   ·have h4:=hq y ((hK.wG hi2 hk y).1 hy).1
    rw[e,hqn]at h4
    omega
  ·by_cases hl:t.length<64
   ·rw[kI h1 (jF hK hx.val hfd) omA]
    refine hp.ins hl hn (fun y hy=>hne y hy (hno y hy)) (fun y hy e =>?_)
    have h4:=hq y hy
    rw[e,hqn]at h4
    omega
   ·rw[iZ hK h1 hx.val hfd omA]
    exact hp
 ·obtain⟨c,hu⟩:=pg hf h2 hin
  by_cases hz:dz t (keyOf x)<0
  ·rw[gQ omA hz];exact hp
  ·obtain⟨j,hj,he⟩:=iG (Int.not_lt.1 hz)
   rw[kH h2 he]
   exact hp.upd j hu.col hu.pos hu.lt hu.val hu.typ hin.seq fun r hr s hs=>Int.le_of_lt (hsq r hr s hs)
 ·by_cases hz:dz t (keyOf x)<0
  ·rw[gQ omA hz];exact hp
  ·obtain⟨j,hj,he⟩:=iG (Int.not_lt.1 hz)
   rw[kJ omA omA he]
   exact hp.cut j
open Go.RowKit Go
theorem lI(A:Option Addr)(c m:Nat)(ts:List Tab)(LA:Option Addr)(lc n:Nat)(l:List Chg)(w:World)(ht:aF w w.heap.size A ts)(hm:ts.length=m)(hs:aN ts)(hok:aR ts)(hl:fJ w w.heap.size LA l)(hn:l.length=n)(hn6:n≤1000000)(hrow:∀x∈l,x.row.length≤1000000):
 Calls Tryz.prog 33 #[.agg #[.slice A m c,.slice none 0 0,.slice none 0 0,.slice none 0 0,.slice none 0 0,.slice none 0 0,.slice none 0 0,.slice none 0 0],.slice LA n lc] w fun e w'=>(∃q rt,e=.returned (.slice (some ⟨q,0,none⟩) m m)∧rt.length=m∧aQ w' w'.heap.size (some ⟨q,0,none⟩) rt∧RUp w.heap.size (some ⟨q,0,none⟩) rt∧rt.map ax=bH ts l)∧Below w.heap.size w w':=
 CJ (o:=Oth.nil) A c m ts LA lc n l w ht hm hs hok (gH.nil ht hs hok) hl hn hn6 hrow
end Go.Proofs.YtjidligipoldeaaGreat
