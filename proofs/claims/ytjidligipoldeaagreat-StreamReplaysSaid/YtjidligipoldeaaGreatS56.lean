/-
  Contracts and plain laws of this seat, part 56.
-/
import Derived.Test.YtjidligipoldeaaGreatS24
set_option linter.unusedVariables false
set_option linter.unusedSimpArgs false
set_option maxRecDepth 100000
set_option maxHeartbeats 16000000
namespace Go.Proofs.YtjidligipoldeaaGreat
open Go.RowKit Go
structure Vn where
 tab:Int
 col:Int
 seq:Int
instance:DecidableEq Vn:=fun a b =>
 if h:a.tab=b.tab∧a.col=b.col∧a.seq=b.seq then isTrue (by obtain⟨_,_,_⟩:=a;obtain⟨_,_,_⟩:=b;simp at h;simp[h])
 else isFalse (fun e=>h (by simp[e]))
instance:Inhabited Vn:=⟨⟨0,0,0⟩⟩
def Vn.cells(x:Vn):List Value:= [.int .i64 x.tab,.int .i64 x.col,.int .i64 x.seq]
def Ev(l:List Vn):Prop:= ∀s∈l,(-1≤s.tab∧s.tab≤1000)∧(-1≤s.col∧s.col≤1000000) ∧ 0≤s.seq∧s.seq≤1073741824
theorem Ev.snoc{l:List Vn}(h:Ev l){s:Vn}(hs:(-1≤s.tab∧s.tab≤1000)∧(-1≤s.col∧s.col≤1000000) ∧ 0≤s.seq∧s.seq≤1073741824):Ev (l ++ [s]):=fun x hx=>by
 rcases List.mem_append.1 hx with h1|h1
 ·exact h x h1
 ·rw[List.mem_singleton.1 h1];exact hs
theorem uH{d:Nat}{a:Int}(ha:-9223372036854775808≤a∧a≤9223372036854775807):Tryz.prog.keyLits (d+1) 3 [.int .i64 a]=some [.int .i64 a]:=by
 have hw:(Lit.int .i64 a).wf=true:=by
  have h1:IntKind.i64.min≤a:=Int.le_trans (by decide) ha.1
  simp[Lit.wf,h1];omega
 unfold Program.keyLits
 rw[Tryz.underlying3]
 simp[hw]
def vnV(s:Vn):Value:= .agg #[.int .i64 s.tab,.int .i64 s.col,.int .i64 s.seq]
theorem Qg{a b c:Int}(ha:-9223372036854775808≤a∧a≤9223372036854775807)(hb:-9223372036854775808≤b∧b≤9223372036854775807)(hc:-9223372036854775808≤c∧c≤9223372036854775807):∃kl,Go.keyOf Tryz.prog 130 (.agg #[.int .i64 a,.int .i64 b,.int .i64 c])=some kl:=by
 have hsz:Tryz.prog.cellsOf 130=3:=by kernel_rfl
 have hs3:Tryz.prog.cellsOf 3=1:=by kernel_rfl
 have hkt:Tryz.prog.keyType 130=true:=by kernel_rfl
 obtain⟨n,hn⟩:∃n,Tryz.prog.types.size=n+1:=⟨Tryz.prog.types.size-1,by kernel_rfl⟩
 have hf:(Value.agg #[.int .i64 a,.int .i64 b,.int .i64 c]).formed Tryz.prog 130=true:=by
  unfold Value.formed
  rw[Tryz.underlying130,hsz]
  rfl
 have hl:Tryz.prog.keyLits (Tryz.prog.types.size+1) 130 [.int .i64 a,.int .i64 b,.int .i64 c]=some [.int .i64 a,.int .i64 b,.int .i64 c]:=by
  rw[hn]
  unfold Program.keyLits
  rw[Tryz.underlying130]
  simp[hsz,hs3,uH ha,uH hb,uH hc]
 refine⟨.string (keyBytes [.int .i64 a,.int .i64 b,.int .i64 c]),?_⟩
 unfold Go.keyOf
 rw[Tryz.underlying130,hkt,hf]
 show Option.map (fun ls=>Lit.string (keyBytes ls)) (Tryz.prog.keyLits (Tryz.prog.types.size+1) 130 [.int .i64 a,.int .i64 b,.int .i64 c])=_
 rw[hl]
 rfl
theorem Ev.key{l:List Vn}(h:Ev l){s:Vn}(hs:s∈l):∃kl,Go.keyOf Tryz.prog 130 (vnV s)=some kl:=by
 obtain⟨⟨h1,h2⟩,⟨h3,h4⟩,h5,h6⟩:=h s hs
 exact Qg ⟨by omega,by omega⟩ ⟨by omega,by omega⟩ ⟨by omega,by omega⟩
open Go.RowKit Go
def QM(v:List Vn)(i:Nat)(row:List Val)(seq:List Int):List Val:=row.mapIdx fun j x=>if 0<j∧(⟨(i:Int),(j:Int),seq.getD j 0⟩:Vn)∈v then ⟨0,0,⟨#[]⟩⟩ else x
def QN(v:List Vn)(i:Nat)(r:aJ):aJ:=(QM v i r.1 r.2.1,r.2.1,r.2.2)
def stays(s:List Src)(i:Nat)(r:aJ):Bool:= !decide ((⟨(i:Int),r.2.1.headD 0⟩:Src)∈s)
def xG(v:List Vn)(s:List Src)(i:Nat)(l:List aJ):List aJ:=(l.filter (stays s i)).map (QN v i)
def Io(v:List Vn)(s:List Src)(pl:List (List aJ)):List (List aJ):=pl.mapIdx (xG v s)
theorem CX(v:List Vn)(s:List Src)(pl:List (List aJ)):(Io v s pl).length=pl.length:=by simp[Io]
theorem KX(v:List Vn)(s:List Src)(pl:List (List aJ)){i:Nat}(h:i<pl.length):(Io v s pl)[i]'(by rw[CX];exact h)=xG v s i pl[i]:=by simp[Io]
open Go.RowKit Go
theorem Ae(v:List Vn)(s:List Src)(m:Nat){l:List aJ}{k:Nat}(hk:k<l.length):xG v s m (l.take (k+1))=xG v s m (l.take k)++(if stays s m l[k]=true then [QN v m l[k]] else []):=by
 unfold xG
 rw[List.take_succ_eq_append_getElem hk,List.filter_append,List.map_append]
 congr 1
 by_cases h:stays s m l[k]=true
 ·simp[h]
 ·simp[h]
structure lv (v:List Vn) (s:List Src) (rt l:List RTab) (m k:Nat):Prop where
 len:l.length=rt.length
 lo:∀i (hi:i<l.length) (hi':i<rt.length),i<m→ax l[i]=xG v s i (ax rt[i])
 at_:∀i (hi:i<l.length) (hi':i<rt.length),i=m→ax l[i]=xG v s i ((ax rt[i]).take k)
 hi:∀i (hi:i<l.length),m<i→ax l[i]=[]
section
variable {v:List Vn}{s:List Src}{rt l:List RTab}{m k:Nat}
theorem lv.zero(v:List Vn)(s:List Src)(rt:List RTab):lv v s rt (List.replicate rt.length dJ) 0 0:=
 ⟨by simp,fun i _ _ h=>by omega,fun i hi hi' _=>by simp[ax,dJ,xG],fun i hi _=>by simp[ax,dJ]⟩
theorem lv.put(h:lv v s rt l m k)(hm:m<rt.length)(hm':m<l.length)(hk:k<rt[m].recs.length)(hst:stays s m (az rt[m].recs[k])=true){r':Rcd}(hr:az r'=QN v m (az rt[m].recs[k]))(A3:Option Addr)(c3:Nat):lv v s rt (l.set m ⟨A3,c3,l[m].recs ++ [r']⟩) m (k+1):=by
 refine⟨by simp[h.len],fun i hi hi' hlt =>?_,fun i hi hi' e =>?_,fun i hi hlt =>?_⟩
 ·rw[List.getElem_set,if_neg omA]
  exact h.lo i (by simpa using hi) hi' hlt
 ·subst e
  rw[List.getElem_set_self]
  have h1:=h.at_ i hm' hi' rfl
  have h2:k<(ax rt[i]).length:=by simpa[ax]using hk
  have h3:(ax rt[i])[k]=az rt[i].recs[k]:=by simp[ax]
  rw[Ae v s i h2,←h1,h3,if_pos hst]
  simp[ax,hr]
 ·rw[List.getElem_set,if_neg omA]
  exact h.hi i (by simpa using hi) hlt
theorem lv.skip(h:lv v s rt l m k)(hm:m<rt.length)(hk:k<rt[m].recs.length)(hst:stays s m (az rt[m].recs[k])=false):lv v s rt l m (k+1):=by
 refine⟨h.len,h.lo,fun i hi hi' e =>?_,h.hi⟩
 subst e
 have h1:=h.at_ i hi hi' rfl
 have h2:k<(ax rt[i]).length:=by simpa[ax]using hk
 have h3:(ax rt[i])[k]=az rt[i].recs[k]:=by simp[ax]
 rw[Ae v s i h2,←h1,h3,if_neg (by rw[hst];simp),List.append_nil]
theorem lv.next(h:lv v s rt l m k)(hm:m<rt.length)(hk:k=rt[m].recs.length):lv v s rt l (m+1) 0:=by
 refine⟨h.len,fun i hi hi' hlt =>?_,fun i hi hi' e =>?_,fun i hi hlt=>h.hi i hi omA⟩
 ·rcases Nat.lt_or_ge i m with h1|h1
  ·exact h.lo i hi hi' h1
  ·obtain rfl:i=m:=by omega
   rw[h.at_ i hi hi' rfl,hk,List.take_of_length_le (by simp[ax])]
 ·rw[h.hi i hi omA]
  simp[xG]
theorem lv.done(h:lv v s rt l rt.length 0):l.map ax=Io v s (rt.map ax):=by
 apply List.ext_getElem (by simp[h.len,Io])
 intro i h1 h2
 have h3:i<(rt.map ax).length:=by rw[CX]at h2;exact h2
 rw[List.getElem_map,KX v s _ h3,List.getElem_map]
 exact h.lo i (by simpa using h1) (by simpa using h3) (by simpa using h3)
theorem lv.reclen(h:lv v s rt l m k)(hm:m<rt.length)(hm':m<l.length):l[m].recs.length≤k:=by
 have h1:=h.at_ m hm' hm rfl
 have h2:=congrArg List.length h1
 have h3:(xG v s m ((ax rt[m]).take k)).length≤k:=by
  unfold xG
  rw[List.length_map]
  refine Nat.le_trans (List.length_filter_le _ _) ?_
  rw[List.length_take]
  omega
 rw[←h2]at h3
 simpa[ax]using h3
end
open Go.RowKit Go
open Go.Maps (Keyed)
def fU(P:Program)(k:TypeId)(w:World)(b n c:Nat)(f:Value→Option Value):Prop:=
 ∃D:DataW Value,w.ownsMap P k rR b n D∧Maps.size D=c ∧ ∀x kl,Go.keyOf P k x=some kl →
  (f x=none→Maps.has D kl=false) ∧ ∀y,f x=some y→Maps.has D kl=true ∧ ∀z,D.atKey kl z=.held y
section
variable {P:Program}{k e t:TypeId}{w:World}{b n c:Nat}{f:Value→Option Value}
theorem fU.made(w:World)(P:Program)(k:TypeId):fU P k (w.alloc (.map #[] 0)) w.heap.size 0 0 (fun _=>none):=
 ⟨.map [],World.ownsMap_made w P k _,rfl,fun x kl _=>⟨fun _=>rfl,fun y h=>by cases h⟩⟩
theorem fU.lt(h:fU P k w b n c f):b<w.heap.size:=by obtain⟨D,h,_⟩:=h;exact h.lt
theorem fU.le(h:fU P k w b n c f):c≤n:=by obtain⟨D,h,rfl,_⟩:=h;exact h.size_le
theorem fU.mono(h:fU P k w b n c f){m:Nat}(hm:n≤m):fU P k w b m c f:=by obtain⟨D,h,h'⟩:=h;exact⟨D,h.mono hm,h'⟩
theorem fU.kept{w':World}{row:Option Nat}(h:fU P k w b n c f)(hg:w.grownBy w' row)(hne:some b≠row):fU P k w' b n c f:=by obtain⟨D,h,h'⟩:=h;exact⟨D,h.kept hg hne,h'⟩
theorem fU.alloc(h:fU P k w b n c f)(o:Obj):fU P k (w.alloc o) b n c f:=by obtain⟨D,h,h'⟩:=h;exact⟨D,h.alloc o,h'⟩
theorem fU.drew(h:fU P k w b n c f):fU P k w.drew b n c f:=h
theorem fU.below{w':World}{B:Nat}(h:fU P k w b n c f)(hb:Below B w w')(hB:b<B):fU P k w' b n c f:=by
 obtain⟨D,⟨es,clock,hs,F⟩,h'⟩:=h
 exact⟨D,⟨es,clock,(hb.block b hB).trans hs,F⟩,h'⟩
theorem fU.eqf(h:fU P k w b n c f){g:Value→Option Value}(hg:∀x kl,Go.keyOf P k x=some kl→g x=f x):fU P k w b n c g:=by
 obtain⟨D,h,hs,h'⟩:=h
 exact⟨D,h,hs,fun x kl hx=>by rw[hg x kl hx];exact h' x kl hx⟩
theorem fU.len(h:fU P k w b n c f)(ht:P.underlying t=some (.map k e))(ty:TypeId):(Builtin.len_ #[t] ty #[.map (some b)]).run P w=.ok (.int .i64 c) w:=by
 obtain⟨D,h,rfl,_⟩:=h
 exact h.len ht ty
theorem fU.look(h:fU P k w b n c f)(K:Keyed P k)(ht:P.underlying t=some (.map k e)){z:Value}(hz:(zeroValue e).run P w=.ok z w){x:Value}{kl:Lit}(hx:Go.keyOf P k x=some kl):
 (Instr.lookup t (.map (some b)) x false).run P w=.ok ((f x).getD z) w:=by
 obtain⟨D,h,_,h'⟩:=h
 exact jm.look ⟨D,h,h'⟩ K ht hz hx
theorem fU.look_ok(h:fU P k w b n c f)(K:Keyed P k)(ht:P.underlying t=some (.map k e)){z:Value}(hz:(zeroValue e).run P w=.ok z w){x:Value}{kl:Lit}(hx:Go.keyOf P k x=some kl):
 (Instr.lookup t (.map (some b)) x true).run P w=.ok (.tuple #[(f x).getD z,.bool (f x).isSome]) w:=by
 obtain⟨D,h,_,h'⟩:=h
 obtain⟨v,ps,hrun,hv⟩:=h.look_ok K ht hz (zd:= .held z) (zp:= []) rfl hx
 rw[hrun]
 cases hf:f x with
 | none =>
   have hn:=(h' x kl hx).1 hf
   rw[Maps.atKey_of_not_has hn]at hv
   rw[rQ hv,hn]
   rfl
 | some y =>
   obtain⟨hh,hat⟩:=(h' x kl hx).2 y hf
   rw[hat]at hv
   rw[rQ hv,hh]
   rfl
theorem fU.store(h:fU P k w b n c f)(K:Keyed P k)(ht:P.underlying t=some (.map k e))(hn:n<maxLen){x y:Value}{kl:Lit}(hx:Go.keyOf P k x=some kl):
 ∃w',(Instr.mapUpdate t (.map (some b)) x y).run P w=.ok () w'∧(∀f',f' x=some y→(∀u,u≠x→f' u=f u)→fU P k w' b (n+1) (if (f x).isSome=true then c else c+1) f')∧w.grownBy w' (some b):=by
 obtain⟨D,h,hsz,h'⟩:=h
 obtain⟨w',hrun,ho,hg⟩:=h.update K ht hn hx (val:=y) (d:= .held y) (ps:= []) rfl
 have hD:=h.isMap
 have hkl:=K.key hx
 have hhas:Maps.has D kl=(f x).isSome:=by
  cases hf:f x with
  | none=>rw[(h' x kl hx).1 hf];rfl
  | some z=>rw[((h' x kl hx).2 z hf).1];rfl
 refine⟨w',hrun,fun f' h1 h2=>⟨_,ho,by rw[Maps.size_put (h.tidy K),hhas,hsz],fun u ul hu =>?_⟩,hg⟩
 by_cases hux:u=x
 ·subst hux
  rw[hx]at hu
  injection hu with hu
  subst hu
  rw[h1]
  refine⟨fun h=>(Option.some_ne_none _ h).elim,fun y' hy' =>?_⟩
  injection hy' with hy'
  subst hy'
  exact⟨Maps.has_put_same hD hkl _,fun z=>Maps.atKey_put_same hD hkl _ z⟩
 ·have hne:ul≠kl:=fun e=>hux (K.inj hu (by rw[e];exact hx))
  rw[h2 u hux]
  refine⟨fun hf=>by rw[Maps.has_put_other hne];exact(h' u ul hu).1 hf,fun y' hf =>?_⟩
  obtain⟨hh,hat⟩:=(h' u ul hu).2 y' hf
  exact⟨by rw[Maps.has_put_other hne];exact hh,fun z=>by rw[Maps.atKey_put_other hne];exact hat z⟩
theorem fU.drop(h:fU P k w b n c f)(K:Keyed P k)(ht:P.underlying t=some (.map k e)){x:Value}{kl:Lit}(hx:Go.keyOf P k x=some kl)(ty:TypeId):
 ∃w',(Builtin.delete_ #[t,k] ty #[.map (some b),x]).run P w=.ok (.tuple #[]) w'∧(∀f',f' x=none→(∀u,u≠x→f' u=f u)→fU P k w' b n (if (f x).isSome=true then c-1 else c) f')∧w.grownBy w' (some b):=by
 obtain⟨D,h,hsz,h'⟩:=h
 obtain⟨w',hrun,ho,hg⟩:=h.drop K ht hx ty
 have hhas:Maps.has D kl=(f x).isSome:=by
  cases hf:f x with
  | none=>rw[(h' x kl hx).1 hf];rfl
  | some z=>rw[((h' x kl hx).2 z hf).1];rfl
 have hs:Maps.size (D.del kl)=if (f x).isSome=true then c-1 else c:=by
  have h1:=Maps.size_del (h.tidy K) (k:=kl)
  rw[hhas,hsz]at h1
  split at h1<;>rename_i h2
  ·rw[if_pos h2];omega
  ·rw[if_neg h2];omega
 refine⟨w',hrun,fun f' h1 h2=>⟨_,ho,hs,fun u ul hu =>?_⟩,hg.grown⟩
 by_cases hux:u=x
 ·subst hux
  rw[hx]at hu
  injection hu with hu
  subst hu
  rw[h1]
  exact⟨fun _=>Maps.has_del_same,fun y h=>by cases h⟩
 ·have hne:ul≠kl:=fun e=>hux (K.inj hu (by rw[e];exact hx))
  rw[h2 u hux]
  refine⟨fun hf=>by rw[Maps.has_del_other hne];exact(h' u ul hu).1 hf,fun y' hf =>?_⟩
  obtain⟨hh,hat⟩:=(h' u ul hu).2 y' hf
  exact⟨by rw[Maps.has_del_other hne];exact hh,fun z=>by rw[Maps.atKey_del_other hne];exact hat z⟩
end
section
variable {P:Program}(w:World) {ops:Array Oper}{rest:List Oper}{o:Oper}{a:Act}{Q:Exit→Act→World→Prop}
end
end Go.Proofs.YtjidligipoldeaaGreat
