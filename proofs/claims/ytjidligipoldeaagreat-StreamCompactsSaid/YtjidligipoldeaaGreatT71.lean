/-
  Contracts and plain laws of this seat, part 71.
-/
import Derived.Test.YtjidligipoldeaaGreatT53
import Derived.Test.YtjidligipoldeaaGreatT70
set_option linter.unusedVariables false
set_option linter.unusedSimpArgs false
set_option maxRecDepth 100000
set_option maxHeartbeats 16000000
namespace Go.Proofs.YtjidligipoldeaaGreat
open Go.RowKit Go
theorem M6{ts:List Tab}{x:Chg}(h1:bB ts x=false)(h2:(keyOf x).kind≠0)(h3:fH (bW ts x.table) x.row)(h4:iw (bW ts x.table) x=false)(h5:(x.kind == 2&&pb (dn (bW ts x.table) x.column))=false):aV ts x=0:=by
 have h2':((keyOf x).kind == 0)=false:=by simpa using h2
 unfold aV
 rw[h1,h2',bV h3,h4,h5]
 rfl
theorem qA{x:Chg}(h:x.kind=1):keyOf x=x.row.headD dS:=by
 have h':(x.kind == 1)=true:=by simpa using h
 unfold keyOf
 rw[h']
 rfl
theorem Ip{x:Chg}(h:x.kind≠1):keyOf x=x.key:=by
 have h':(x.kind == 1)=false:=by simpa using h
 unfold keyOf
 rw[h']
 rfl
theorem j6{ts:List Tab}{x:Chg}(h:aV ts x=0):aV ts (unC x)=0:=h
theorem BL{ts:List Tab}{x:Chg}(h:aV ts x=0)(h2:x.kind=2):x.column=(x.column.toNat:Int) ∧ 0<x.column.toNat:=by
 obtain⟨k,hin⟩:=fF h
 obtain⟨c,hu⟩:=ny h h2 hin
 have h3:=hu.pos
 rw[hu.col]
 exact⟨by simp,by simpa using h3⟩
section
variable {ts:List Tab}{v:List Vn}{s:List Src}{k:Nat}{t:List aG}{x:Chg}
structure Kept (ts:List Tab) (x y:Chg):Prop where
 form:aV ts y=0
 tab:y.table=x.table
 seq:y.seq=x.seq
 day:y.day=x.day
end
open Go.RowKit Go
noncomputable def xN(ts:List Tab)(pl:List (List aG))(l:List Chg):List (List aG):=l.foldl (fun pl x=>if aV ts x=0 then aQ pl x else pl) pl
/-! The order of what is kept. -/
def zk(x:Chg):Int × Int:=(x.seq,x.day)
theorem pR{ts:List Tab}{l:List Chg}(h:bK ts l):l.Pairwise (fun a b=>a.seq<b.seq∧a.day≤b.day):=by
 rw[List.pairwise_iff_getElem]
 intro i j hi hj hij
 obtain⟨d,rfl⟩:∃d,j=i+1+d:=⟨j-(i+1),by omega⟩
 clear hij
 induction d with
 | zero=>exact(h.at_ (i+1) hj).asc omA
 | succ d ih =>
   have h1:=ih omA
   have h2:=(h.at_ (i+1+(d+1)) hj).asc omA
   have e:l[i+1+(d+1)-1]' omA=l[i+1+d]' omA:=by congr 1
   rw[e]at h2
   omega
theorem ib{ts:List Tab}{l:List Chg}(hok:aN ts)(hl:l.length≤1024)(hf:∀x∈l,aV ts x=0)(hp:l.Pairwise (fun a b=>a.seq<b.seq∧a.day≤b.day)):bK ts l:=
 ⟨hok,hl,fun i hi=>⟨hf _ (lgm hi),fun h0=>List.pairwise_iff_getElem.1 hp (i-1) i omA hi omA⟩⟩
theorem xM(ts:List Tab)(l:List Chg):bM ts (l.map unC)=bM ts l:=by
 have h:∀(l:List Chg) (pl:List (List aG)),(l.map unC).foldl (fun pl x=>if aV ts x=0 then aQ pl x else pl) pl=l.foldl (fun pl x=>if aV ts x=0 then aQ pl x else pl) pl:=by
  intro l
  induction l with
  | nil=>exact fun _=>rfl
  | cons x l ih =>
    intro pl
    rw[List.map_cons,List.foldl_cons,List.foldl_cons,ih]
    rfl
 exact h l _
theorem Bd{ts:List Tab}{l:List Chg}(h:bK ts (l.map unC)):bK ts l:=by
 have hl:=h.len
 rw[List.length_map]at hl
 refine ib h.cat hl (fun x hx =>?_) ?_
 ·obtain⟨i,hi,he⟩:=List.getElem_of_mem (List.mem_map_of_mem (f:=unC) hx)
  have h1:=(h.at_ i hi).form
  rw[he]at h1
  exact h1
 ·have h1:=pR h
  rw[List.pairwise_map]at h1
  exact h1
open Go.RowKit Go
theorem K5{ts:List Tab}{x:Chg}{k:Nat}{t:List aG}(hok:aN ts)(hf:aV ts x=0)(hin:jN ts x k)(hp:iy (ts[k]'hin.lt).ae t)(hsq:∀r∈t,∀s∈r.2.1,s<x.seq):iy (ts[k]'hin.lt).ae (aW t x):=by
 have hpos:=(hok.ae hin.lt).1
 have hx:=ou hok hf
 have hK:aT t:=hp.keys hpos
 have hq:∀y∈t,bH y<x.seq:=fun y hy=>by
  have hl:0<y.2.1.length:=by rw[(hp.rcd y hy).oO];exact hpos
  have h6:=hsq y hy y.2.1[0] (lgm hl)
  have e:bH y=y.2.1[0]:=by
   obtain⟨a,b,c⟩:=y
   cases b with
   | nil=>simp at hl
   | cons u us=>rfl
  rw[e]
  exact h6
 rcases hin.kind with h1|h2|h3
 ·have hi:=nA hf h1 hin
  have hn:=QZ hin hin.lt h1 hi
  have hkn:ay (dX x)=keyOf x:=Oj h1
  have hqn:bH (dX x)=x.seq:=qD (hx.row h1)
  have hne:∀y∈t,ay y≠keyOf x→aU (ay y) (ay (dX x))≠0:=fun y hy h0 e=>by
   rw[hkn]at e
   exact h0 (jJ (hK.val y hy) hx.val e)
  rcases hK.found hx.val with ⟨hfd,hi2,hk⟩|⟨hfd,hno⟩
  ·rw[qy h1 (iY hK hx.val hx.key hfd)]
   have hlen:=hp.len
   refine(hp.cut _).ins ?_ hn (fun y hy =>?_) (fun y hy e =>?_)
   ·unfold iL
    rw[List.length_append,List.length_take,List.length_drop]
    omega
   ·obtain⟨h4,h5⟩:=(hK.wS hi2 hk y).1 hy
    exact hne y h4 h5
   ·have h4:=hq y ((hK.wS hi2 hk y).1 hy).1
    rw[e,hqn]at h4
    omega
  ·by_cases hl:t.length<64
   ·rw[mY h1 (jI hK hx.val hfd) omA]
    refine hp.ins hl hn (fun y hy=>hne y hy (hno y hy)) (fun y hy e =>?_)
    have h4:=hq y hy
    rw[e,hqn]at h4
    omega
   ·rw[jg hK h1 hx.val hfd omA]
    exact hp
 ·obtain⟨c,hu⟩:=ny hf h2 hin
  by_cases hz:dV t (keyOf x)<0
  ·rw[jE omA hz];exact hp
  ·obtain⟨j,hj,he⟩:=kg (Int.not_lt.1 hz)
   rw[mX h2 he]
   exact hp.upd j hu.col hu.pos hu.lt hu.val hu.typ hin.seq fun r hr s hs=>Int.le_of_lt (hsq r hr s hs)
 ·by_cases hz:dV t (keyOf x)<0
  ·rw[jE omA hz];exact hp
  ·obtain⟨j,hj,he⟩:=kg (Int.not_lt.1 hz)
   rw[mZ omA omA he]
   exact hp.cut j
open Go.RowKit Go
theorem lS(A:Option Addr)(c m:Nat)(ts:List Tab)(LA:Option Addr)(lc n:Nat)(l:List Chg)(w:World)(ht:aF w w.heap.size A ts)(hm:ts.length=m)(hs:aM ts)(hok:aN ts)(hl:dQ w w.heap.size LA l)(hn:l.length=n)(hn6:n≤1000000)(hrow:∀x∈l,x.row.length≤1000000):
 Calls Tryz.prog 33 #[.agg #[.slice A m c,.slice none 0 0,.slice none 0 0,.slice none 0 0,.slice none 0 0,.slice none 0 0,.slice none 0 0,.slice none 0 0],.slice LA n lc] w fun e w'=>(∃q rt,e=.returned (.slice (some ⟨q,0,none⟩) m m)∧rt.length=m∧aR w' w'.heap.size (some ⟨q,0,none⟩) rt∧RUp w.heap.size (some ⟨q,0,none⟩) rt∧rt.map aD=bM ts l)∧Below w.heap.size w w':=
 Ct (o:=Oth.nil) A c m ts LA lc n l w ht hm hs hok (gF.nil ht hs hok) hl hn hn6 hrow
end Go.Proofs.YtjidligipoldeaaGreat
