/-
  Contracts and plain laws of this seat, part 56.
-/
import Derived.Test.YtjhnpnhpmdkpcaaGreatD24
import Derived.DeepKeys4
set_option linter.unusedVariables false
set_option linter.unusedSimpArgs false
set_option maxRecDepth 100000
set_option maxHeartbeats 16000000
namespace Go.Proofs.YtjhnpnhpmdkpcaaGreat
open Go.RowKit Go
theorem eE{P:Prop}(h:P:=by have h:=HM.out;rwa [List.take_length]at h):P:=h
structure Vn where
 tab:Int
 col:Int
 seq:Int
instance:DecidableEq Vn:=fun a b =>
 if h:a.tab=b.tab∧a.col=b.col∧a.seq=b.seq then isTrue (by obtain⟨_,_,_⟩:=a;obtain⟨_,_,_⟩:=b;simp at h;simp[h])
 else isFalse (fun e=>h (by simp[e]))
instance:Inhabited Vn:=⟨⟨0,0,0⟩⟩
def Vn.cells(x:Vn):List Value:= [.int .i64 x.tab,.int .i64 x.col,.int .i64 x.seq]
theorem Bo:∀x:Vn,(Vn.cells x).length=3:=fun _=>rfl
theorem KE:∀x:Vn,∀u∈Vn.cells x,u.oneCell'=true:=by
 intro x u hu
 simp only[Vn.cells,List.mem_cons,List.not_mem_nil,or_false]at hu
 rcases hu with rfl|rfl|rfl<;>rfl
theorem Rm:(Tryz.prog.info? 56).map (fun i=>(i.zero,i.size,i.bytes))=some (some (.agg #[.int .i64 0,.int .i64 0,.int .i64 0]),3,24):=by kernel_rfl
def oI(l:List Vn):Prop:= ∀s∈l,(-1≤s.tab∧s.tab≤1000)∧(-1≤s.col∧s.col≤1000000) ∧ 0≤s.seq∧s.seq≤1073741824
theorem oI.snoc{l:List Vn}(h:oI l){s:Vn}(hs:(-1≤s.tab∧s.tab≤1000)∧(-1≤s.col∧s.col≤1000000) ∧ 0≤s.seq∧s.seq≤1073741824):oI (l ++ [s]):=fun x hx=>by
 rcases List.mem_append.1 hx with h1|h1
 ·exact h x h1
 ·rw[List.mem_singleton.1 h1];exact hs
theorem kX{d:Nat}{a:Int}(ha:-9223372036854775808≤a∧a≤9223372036854775807):Tryz.prog.keyLits (d+1) 3 [.int .i64 a]=some [.int .i64 a]:=by
 have hw:(Lit.int .i64 a).wf=true:=by
  have h1:IntKind.i64.min≤a:=Int.le_trans (by decide) ha.1
  simp[Lit.wf,h1];omega
 unfold Program.keyLits
 rw[Tryz.underlying3]
 simp[hw]
def vnV(s:Vn):Value:= .agg #[.int .i64 s.tab,.int .i64 s.col,.int .i64 s.seq]
theorem Bp{a b c:Int}(ha:-9223372036854775808≤a∧a≤9223372036854775807)(hb:-9223372036854775808≤b∧b≤9223372036854775807)(hc:-9223372036854775808≤c∧c≤9223372036854775807):∃kl,Go.keyOf Tryz.prog 56 (.agg #[.int .i64 a,.int .i64 b,.int .i64 c])=some kl:=by
 have hsz:Tryz.prog.cellsOf 56=3:=by kernel_rfl
 have hs3:Tryz.prog.cellsOf 3=1:=by kernel_rfl
 have hkt:Tryz.prog.keyType 56=true:=by kernel_rfl
 obtain⟨n,hn⟩:∃n,Tryz.prog.types.size=n+1:=⟨Tryz.prog.types.size-1,by kernel_rfl⟩
 have hf:(Value.agg #[.int .i64 a,.int .i64 b,.int .i64 c]).formed Tryz.prog 56=true:=by
  unfold Value.formed
  rw[Tryz.underlying56,hsz]
  rfl
 have hl:Tryz.prog.keyLits (Tryz.prog.types.size+1) 56 [.int .i64 a,.int .i64 b,.int .i64 c]=some [.int .i64 a,.int .i64 b,.int .i64 c]:=by
  rw[hn]
  unfold Program.keyLits
  rw[Tryz.underlying56]
  simp[hsz,hs3,kX ha,kX hb,kX hc]
 refine⟨.string (keyBytes [.int .i64 a,.int .i64 b,.int .i64 c]),?_⟩
 unfold Go.keyOf
 rw[Tryz.underlying56,hkt,hf]
 show Option.map (fun ls=>Lit.string (keyBytes ls)) (Tryz.prog.keyLits (Tryz.prog.types.size+1) 56 [.int .i64 a,.int .i64 b,.int .i64 c])=_
 rw[hl]
 rfl
theorem oI.key{l:List Vn}(h:oI l){s:Vn}(hs:s∈l):∃kl,Go.keyOf Tryz.prog 56 (vnV s)=some kl:=by
 obtain⟨⟨h1,h2⟩,⟨h3,h4⟩,h5,h6⟩:=h s hs
 exact Bp ⟨by omega,by omega⟩ ⟨by omega,by omega⟩ ⟨by omega,by omega⟩
open Go.RowKit Go
def bX(v:List Vn)(i:Nat)(row:List Val)(seq:List Int):List Val:=row.mapIdx fun j x=>if 0<j∧(⟨(i:Int),(j:Int),seq.getD j 0⟩:Vn)∈v then ⟨0,0,⟨#[]⟩⟩ else x
def kD(v:List Vn)(i:Nat)(r:aS):aS:=(bX v i r.1 r.2.1,r.2.1,r.2.2)
def stays(s:List Src)(i:Nat)(r:aS):Bool:= !decide ((⟨(i:Int),r.2.1.headD 0⟩:Src)∈s)
def iJ(v:List Vn)(s:List Src)(i:Nat)(l:List aS):List aS:=(l.filter (stays s i)).map (kD v i)
def jF(v:List Vn)(s:List Src)(pl:List (List aS)):List (List aS):=pl.mapIdx (iJ v s)
theorem gL(v:List Vn)(i:Nat)(row:List Val)(seq:List Int):(bX v i row seq).length=row.length:=by simp[bX]
theorem pI(v:List Vn)(s:List Src)(pl:List (List aS)):(jF v s pl).length=pl.length:=by simp[jF]
theorem pJ(v:List Vn)(s:List Src)(pl:List (List aS)){i:Nat}(h:i<pl.length):(jF v s pl)[i]'(by rw[pI];exact h)=iJ v s i pl[i]:=by simp[jF]
open Go.RowKit Go
noncomputable def pbS(p:Prop):Bool:= @decide p (Classical.propDecidable p)
theorem BO{p:Prop}:pbS p=true↔p:=by unfold pbS;exact @decide_eq_true_iff p (Classical.propDecidable p)
theorem LX{p:Prop}(h:p):pbS p=true:=BO.2 h
section
variable {α:Type}
noncomputable def il(V:α→Value)(l:List α):Value→Option Value:=fun v=>(l.find? fun s=>pbS (V s=v)).map fun _ =>.bool true
theorem Dj{V:α→Value}{l:List α}{s:α}(h:s∈l):il V l (V s)=some (.bool true):=by
 unfold il
 cases hf:l.find? (fun s'=>pbS (V s'=V s)) with
 | none =>
   rw[List.find?_eq_none]at hf
   exact absurd (LX rfl) (hf s h)
 | some s'=>rfl
theorem Lx{V:α→Value}{l:List α}{v:Value}(h:∀s∈l,V s≠v):il V l v=none:=by
 unfold il
 rw[List.find?_eq_none.2 fun s hs=>by rw[BO];exact h s hs]
 rfl
theorem Di(V:α→Value)(l:List α)(s:α):il V (l ++ [s]) (V s)=some (.bool true):=Dj spA
theorem Dh{V:α→Value}{l:List α}{s:α}{u:Value}(h:u≠V s):il V (l ++ [s]) u=il V l u:=by
 unfold il
 rw[List.find?_append]
 have e:[s].find? (fun s'=>pbS (V s'=u))=none:=by
  rw[List.find?_eq_none]
  intro x hx
  rw[List.mem_singleton.1 hx,BO]
  exact fun e=>h e.symm
 rw[e]
 cases l.find? (fun s'=>pbS (V s'=u))<;>rfl
theorem tL[DecidableEq α]{V:α→Value}(hi:∀a b,V a=V b→a=b)(l:List α)(s:α):(il V l (V s)).getD (.bool false)=.bool (decide (s∈l)):=by
 by_cases h:s∈l
 ·rw[Dj h];simp[h]
 ·rw[Lx fun x hx e=>h (by rw[←hi _ _ e];exact hx)];simp[h]
end
theorem H9(a b:Vn)(h:vnV a=vnV b):a=b:=by
 obtain⟨a1,a2,a3⟩:=a
 obtain⟨b1,b2,b3⟩:=b
 unfold vnV at h
 injection h with h
 simp only[Array.mk.injEq,List.cons.injEq,Value.int.injEq,true_and,and_true]at h
 rw[h.1,h.2.1,h.2.2]
def lu(s:Src):Value:= .agg #[.int .i64 s.tab,.int .i64 s.seq]
theorem Df(a b:Src)(h:lu a=lu b):a=b:=by
 obtain⟨a1,a2⟩:=a
 obtain⟨b1,b2⟩:=b
 unfold lu at h
 injection h with h
 simp only[Array.mk.injEq,List.cons.injEq,Value.int.injEq,true_and,and_true]at h
 rw[h.1,h.2]
theorem wZ:Maps.Keyed Tryz.prog 56:=Maps.Keyed.of_law (deep_law_laid (m:= 5) krA (by decide) (of_decide_eq_true krA) krA krA)
theorem rZ:Maps.Keyed Tryz.prog 51:=Maps.Keyed.of_law (deep_law_laid (m:= 5) krA (by decide) (of_decide_eq_true krA) krA krA)
theorem tK{a b:Int}(ha:-9223372036854775808≤a∧a≤9223372036854775807)(hb:-9223372036854775808≤b∧b≤9223372036854775807):∃kl,Go.keyOf Tryz.prog 51 (.agg #[.int .i64 a,.int .i64 b])=some kl:=by
 have hsz:Tryz.prog.cellsOf 51=2:=by kernel_rfl
 have hs3:Tryz.prog.cellsOf 3=1:=by kernel_rfl
 have hkt:Tryz.prog.keyType 51=true:=by kernel_rfl
 obtain⟨n,hn⟩:∃n,Tryz.prog.types.size=n+1:=⟨Tryz.prog.types.size-1,by kernel_rfl⟩
 have hf:(Value.agg #[.int .i64 a,.int .i64 b]).formed Tryz.prog 51=true:=by
  unfold Value.formed
  rw[Tryz.underlying51,hsz]
  rfl
 have hl:Tryz.prog.keyLits (Tryz.prog.types.size+1) 51 [.int .i64 a,.int .i64 b]=some [.int .i64 a,.int .i64 b]:=by
  rw[hn]
  unfold Program.keyLits
  rw[Tryz.underlying51]
  simp[hsz,hs3,kX ha,kX hb]
 refine⟨.string (keyBytes [.int .i64 a,.int .i64 b]),?_⟩
 unfold Go.keyOf
 rw[Tryz.underlying51,hkt,hf]
 show Option.map (fun ls=>Lit.string (keyBytes ls)) (Tryz.prog.keyLits (Tryz.prog.types.size+1) 51 [.int .i64 a,.int .i64 b])=_
 rw[hl]
 rfl
theorem DL{α:Type}(w:World)(k:TypeId)(V:α→Value):iR Tryz.prog k (w.alloc (.map #[] 0)) w.heap.size 0 (il V []):=(iR.made w _ _).eqf fun x kl _=>rfl
theorem xN(A:Option Addr)(c n:Nat)(l:List Vn)(w:World)(hl:ag w w.heap.size Vn.cells 3 A l)(hln:l.length=n)(hn:n≤1000000)(hk:∀s∈l,∃kl,Go.keyOf Tryz.prog 56 (vnV s)=some kl):
 Calls Tryz.prog 37 #[.slice A n c] w fun e w'=>(∃b,e=.returned (.map (some b))∧w.heap.size≤b∧iR Tryz.prog 56 w' b n (il vnV l))∧Below w.heap.size w w':=by
 subst hln
 have hmm:= @run_makeMap Tryz.prog
 have HL:=qh hl
 have HK:=qh hk
 clear hl hk
 go_enter Tryz.func37,Tryz.ntmps37
 go_upto_region 2 with (fail)
 clear hmm
 go_wp2_with fail
 go_loopw [9] (fun vi wr =>∃i:Nat,i≤l.length∧vi=.int .i64 i∧iR Tryz.prog 56 wr w.heap.size i (il vnV (l.take i))∧Below w.heap.size w wr) (fun vi _=>l.length-(intOf vi).toNat)
 case atStart=>exact⟨0,Nat.zero_le _,rfl,DL w _ _,by exact ai⟩
 case round =>
  obtain⟨i,hi,rfl,hM,hbr⟩:=hrel
  have hwz:=hbr.size
  have hMl:=hM.lt
  have HM:=qh hM
  clear hM
  by_cases hlt:i<l.length
  ·obtain⟨b5,o5,rfl,hb5,hc5⟩:=(HL.out.below hbr).get hlt
   have s0:=hc5 0 _ rfl
   have s1:=hc5 1 _ rfl
   have s2:=hc5 2 _ rfl
   simp only[Nat.add_zero]at s0 s1 s2
   obtain⟨kl,hkl⟩:=HK.out _ (lgm hlt)
   have hts:=List.take_succ_eq_append_getElem hlt
   obtain⟨⟨tb,cl,sq⟩,hs⟩:∃x,l[i]=x:=⟨_,rfl⟩
   rw[hs]at s0 s1 s2 hkl hts
   have rf:Hid (il vnV (l.take (i+1)) (.agg #[.int .i64 tb,.int .i64 cl,.int .i64 sq])=some (.bool true)):=qh (by rw[hts];exact Di vnV _ (⟨tb,cl,sq⟩:Vn))
   have HOLD:Hid (∀u,u≠.agg #[.int .i64 tb,.int .i64 cl,.int .i64 sq]→il vnV (l.take (i+1)) u=il vnV (l.take i) u):=qh fun u hu=>by rw[hts];exact Dh (s:=(⟨tb,cl,sq⟩:Vn)) hu
   simp only at s0 s1 s2
   unfold vnV at hkl
   simp only at hkl
   clear hc5 hs hts
   go_upto_region 5 with (fail)
   refine ah (P:=fun u=>Code.wp _ _ _ _ u) (R:=fun u=>Blk u wr.heap.size 56 #[.int .i64 tb,.int .i64 cl,.int .i64 sq]∧Below wr.heap.size wr u) ⟨?_,?_⟩ ?_
   ·first|exact Blk.new _ _ _|exact Blk.new' rfl
   ·exact ai
   rintro U ⟨hD,hbU⟩
   have hDl:=hD.lt
   have hyU:=aa hbr hbU hwz
   have HMU:=qh (HM.out.below hbU hMl)
   have v0:=hD.cell 0
   have v1:=hD.cell 1
   have v2:=hD.cell 2
   simp only[gE3]at v0 v1 v2
   clear s0 s1 s2 hD
   go_wp2_with (at_mapUpdate;refine ry _ rfl _ _ _ _ rfl 56 4 wZ Tryz.underlying88 w.heap.size i _ rfl HMU.out (by unfold maxLen;omega) (.agg #[.int .i64 tb,.int .i64 cl,.int .i64 sq]) _ rfl hkl (.bool true) rfl (il vnV (l.take (i+1))) rf.out HOLD.out ?_;intro w3 hM3 hg3)
   go_roundw
   case rel=>exact⟨i+1,by omega,by go_num,hM3,Below.grown hyU hg3 omA inB⟩
   case measure=>exact meA
  ·have hlt':decide (i<l.length)=false:=by simpa using hlt
   obtain rfl:i=l.length:=by omega
   have HMW:Hid (iR Tryz.prog 56 wr w.heap.size l.length (il vnV l)):=qh eE
   go_wp2_with fail
   go_ret
   exact⟨⟨_,rfl,Nat.le_refl _,HMW.out⟩,hbr⟩
theorem xO(A:Option Addr)(c n:Nat)(l:List Src)(w:World)(hl:ag w w.heap.size Src.cells 2 A l)(hln:l.length=n)(hn:n≤1000000)(hk:∀s∈l,∃kl,Go.keyOf Tryz.prog 51 (lu s)=some kl):
 Calls Tryz.prog 38 #[.slice A n c] w fun e w'=>(∃b,e=.returned (.map (some b))∧w.heap.size≤b∧iR Tryz.prog 51 w' b n (il lu l))∧Below w.heap.size w w':=by
 subst hln
 have hmm:= @run_makeMap Tryz.prog
 have HL:=qh hl
 have HK:=qh hk
 clear hl hk
 go_enter Tryz.func38,Tryz.ntmps38
 go_upto_region 2 with (fail)
 clear hmm
 go_wp2_with fail
 go_loopw [9] (fun vi wr =>∃i:Nat,i≤l.length∧vi=.int .i64 i∧iR Tryz.prog 51 wr w.heap.size i (il lu (l.take i))∧Below w.heap.size w wr) (fun vi _=>l.length-(intOf vi).toNat)
 case atStart=>exact⟨0,Nat.zero_le _,rfl,DL w _ _,by exact ai⟩
 case round =>
  obtain⟨i,hi,rfl,hM,hbr⟩:=hrel
  have hwz:=hbr.size
  have hMl:=hM.lt
  have HM:=qh hM
  clear hM
  by_cases hlt:i<l.length
  ·obtain⟨b5,o5,rfl,hb5,hc5⟩:=(HL.out.below hbr).get hlt
   have s0:=hc5 0 _ rfl
   have s1:=hc5 1 _ rfl
   simp only[Nat.add_zero]at s0 s1
   obtain⟨kl,hkl⟩:=HK.out _ (lgm hlt)
   have hts:=List.take_succ_eq_append_getElem hlt
   obtain⟨⟨tb,sq⟩,hs⟩:∃x,l[i]=x:=⟨_,rfl⟩
   rw[hs]at s0 s1 hkl hts
   have rf:Hid (il lu (l.take (i+1)) (.agg #[.int .i64 tb,.int .i64 sq])=some (.bool true)):=qh (by rw[hts];exact Di lu _ (⟨tb,sq⟩:Src))
   have HOLD:Hid (∀u,u≠.agg #[.int .i64 tb,.int .i64 sq]→il lu (l.take (i+1)) u=il lu (l.take i) u):=qh fun u hu=>by rw[hts];exact Dh (s:=(⟨tb,sq⟩:Src)) hu
   simp only at s0 s1
   unfold lu at hkl
   simp only at hkl
   clear hc5 hs hts
   go_upto_region 5 with (fail)
   refine ah (P:=fun u=>Code.wp _ _ _ _ u) (R:=fun u=>Blk u wr.heap.size 51 #[.int .i64 tb,.int .i64 sq]∧Below wr.heap.size wr u) ⟨?_,?_⟩ ?_
   ·first|exact Blk.new _ _ _|exact Blk.new' rfl
   ·exact ai
   rintro U ⟨hD,hbU⟩
   have hDl:=hD.lt
   have hyU:=aa hbr hbU hwz
   have HMU:=qh (HM.out.below hbU hMl)
   have v0:=hD.cell 0
   have v1:=hD.cell 1
   simp only[gE3]at v0 v1
   clear s0 s1 hD
   go_wp2_with (at_mapUpdate;refine ry _ rfl _ _ _ _ rfl 51 4 rZ Tryz.underlying91 w.heap.size i _ rfl HMU.out (by unfold maxLen;omega) (.agg #[.int .i64 tb,.int .i64 sq]) _ rfl hkl (.bool true) rfl (il lu (l.take (i+1))) rf.out HOLD.out ?_;intro w3 hM3 hg3)
   go_roundw
   case rel=>exact⟨i+1,by omega,by go_num,hM3,Below.grown hyU hg3 omA inB⟩
   case measure=>exact meA
  ·have hlt':decide (i<l.length)=false:=by simpa using hlt
   obtain rfl:i=l.length:=by omega
   have HMW:Hid (iR Tryz.prog 51 wr w.heap.size l.length (il lu l)):=qh eE
   go_wp2_with fail
   go_ret
   exact⟨⟨_,rfl,Nat.le_refl _,HMW.out⟩,hbr⟩
open Go.RowKit Go
theorem Ar(v:List Vn)(s:List Src)(m:Nat){l:List aS}{k:Nat}(hk:k<l.length):iJ v s m (l.take (k+1))=iJ v s m (l.take k)++(if stays s m l[k]=true then [kD v m l[k]] else []):=by
 unfold iJ
 rw[List.take_succ_eq_append_getElem hk,List.filter_append,List.map_append]
 congr 1
 by_cases h:stays s m l[k]=true
 ·simp[h]
 ·simp[h]
structure iB (v:List Vn) (s:List Src) (rt l:List RTab) (m k:Nat):Prop where
 len:l.length=rt.length
 lo:∀i (hi:i<l.length) (hi':i<rt.length),i<m→aB l[i]=iJ v s i (aB rt[i])
 at_:∀i (hi:i<l.length) (hi':i<rt.length),i=m→aB l[i]=iJ v s i ((aB rt[i]).take k)
 hi:∀i (hi:i<l.length),m<i→aB l[i]=[]
section
variable {v:List Vn}{s:List Src}{rt l:List RTab}{m k:Nat}
theorem iB.zero(v:List Vn)(s:List Src)(rt:List RTab):iB v s rt (List.replicate rt.length dK) 0 0:=
 ⟨by simp,fun i _ _ h=>by omega,fun i hi hi' _=>by simp[aB,dK,iJ],fun i hi _=>by simp[aB,dK]⟩
theorem iB.put(h:iB v s rt l m k)(hm:m<rt.length)(hm':m<l.length)(hk:k<rt[m].recs.length)(hst:stays s m (aP rt[m].recs[k])=true){r':Rcd}(hr:aP r'=kD v m (aP rt[m].recs[k]))(A3:Option Addr)(c3:Nat):iB v s rt (l.set m ⟨A3,c3,l[m].recs ++ [r']⟩) m (k+1):=by
 refine⟨by simp[h.len],fun i hi hi' hlt =>?_,fun i hi hi' e =>?_,fun i hi hlt =>?_⟩
 ·rw[List.getElem_set,if_neg omA]
  exact h.lo i (by simpa using hi) hi' hlt
 ·subst e
  rw[List.getElem_set_self]
  have h1:=h.at_ i hm' hi' rfl
  have h2:k<(aB rt[i]).length:=by simpa[aB]using hk
  have h3:(aB rt[i])[k]=aP rt[i].recs[k]:=by simp[aB]
  rw[Ar v s i h2,←h1,h3,if_pos hst]
  simp[aB,hr]
 ·rw[List.getElem_set,if_neg omA]
  exact h.hi i (by simpa using hi) hlt
theorem iB.skip(h:iB v s rt l m k)(hm:m<rt.length)(hk:k<rt[m].recs.length)(hst:stays s m (aP rt[m].recs[k])=false):iB v s rt l m (k+1):=by
 refine⟨h.len,h.lo,fun i hi hi' e =>?_,h.hi⟩
 subst e
 have h1:=h.at_ i hi hi' rfl
 have h2:k<(aB rt[i]).length:=by simpa[aB]using hk
 have h3:(aB rt[i])[k]=aP rt[i].recs[k]:=by simp[aB]
 rw[Ar v s i h2,←h1,h3,if_neg (by rw[hst];simp),List.append_nil]
theorem iB.next(h:iB v s rt l m k)(hm:m<rt.length)(hk:k=rt[m].recs.length):iB v s rt l (m+1) 0:=by
 refine⟨h.len,fun i hi hi' hlt =>?_,fun i hi hi' e =>?_,fun i hi hlt=>h.hi i hi omA⟩
 ·rcases Nat.lt_or_ge i m with h1|h1
  ·exact h.lo i hi hi' h1
  ·obtain rfl:i=m:=by omega
   rw[h.at_ i hi hi' rfl,hk,List.take_of_length_le (by simp[aB])]
 ·rw[h.hi i hi omA]
  simp[iJ]
theorem iB.done(h:iB v s rt l rt.length 0):l.map aB=jF v s (rt.map aB):=by
 apply List.ext_getElem (by simp[h.len,jF])
 intro i h1 h2
 have h3:i<(rt.map aB).length:=by rw[pI]at h2;exact h2
 rw[List.getElem_map,pJ v s _ h3,List.getElem_map]
 exact h.lo i (by simpa using h1) (by simpa using h3) (by simpa using h3)
theorem iB.reclen(h:iB v s rt l m k)(hm:m<rt.length)(hm':m<l.length):l[m].recs.length≤k:=by
 have h1:=h.at_ m hm' hm rfl
 have h2:=congrArg List.length h1
 have h3:(iJ v s m ((aB rt[m]).take k)).length≤k:=by
  unfold iJ
  rw[List.length_map]
  refine Nat.le_trans (List.length_filter_le _ _) ?_
  rw[List.length_take]
  omega
 rw[←h2]at h3
 simpa[aB]using h3
end
open Go.RowKit Go
open Go.Maps (Keyed)
def fF(P:Program)(k:TypeId)(w:World)(b n c:Nat)(f:Value→Option Value):Prop:=
 ∃D:DataW Value,w.ownsMap P k tO b n D∧Maps.size D=c ∧ ∀x kl,Go.keyOf P k x=some kl →
  (f x=none→Maps.has D kl=false) ∧ ∀y,f x=some y→Maps.has D kl=true ∧ ∀z,D.atKey kl z=.held y
section
variable {P:Program}{k e t:TypeId}{w:World}{b n c:Nat}{f:Value→Option Value}
theorem fF.made(w:World)(P:Program)(k:TypeId):fF P k (w.alloc (.map #[] 0)) w.heap.size 0 0 (fun _=>none):=
 ⟨.map [],World.ownsMap_made w P k _,rfl,fun x kl _=>⟨fun _=>rfl,fun y h=>by cases h⟩⟩
theorem fF.lt(h:fF P k w b n c f):b<w.heap.size:=by obtain⟨D,h,_⟩:=h;exact h.lt
theorem fF.le(h:fF P k w b n c f):c≤n:=by obtain⟨D,h,rfl,_⟩:=h;exact h.size_le
theorem fF.mono(h:fF P k w b n c f){m:Nat}(hm:n≤m):fF P k w b m c f:=by obtain⟨D,h,h'⟩:=h;exact⟨D,h.mono hm,h'⟩
theorem fF.kept{w':World}{row:Option Nat}(h:fF P k w b n c f)(hg:w.grownBy w' row)(hne:some b≠row):fF P k w' b n c f:=by obtain⟨D,h,h'⟩:=h;exact⟨D,h.kept hg hne,h'⟩
theorem fF.alloc(h:fF P k w b n c f)(o:Obj):fF P k (w.alloc o) b n c f:=by obtain⟨D,h,h'⟩:=h;exact⟨D,h.alloc o,h'⟩
theorem fF.below{w':World}{B:Nat}(h:fF P k w b n c f)(hb:Below B w w')(hB:b<B):fF P k w' b n c f:=by
 obtain⟨D,⟨es,clock,hs,F⟩,h'⟩:=h
 exact⟨D,⟨es,clock,(hb.block b hB).trans hs,F⟩,h'⟩
theorem fF.eqf(h:fF P k w b n c f){g:Value→Option Value}(hg:∀x kl,Go.keyOf P k x=some kl→g x=f x):fF P k w b n c g:=by
 obtain⟨D,h,hs,h'⟩:=h
 exact⟨D,h,hs,fun x kl hx=>by rw[hg x kl hx];exact h' x kl hx⟩
theorem fF.len(h:fF P k w b n c f)(ht:P.underlying t=some (.map k e))(ty:TypeId):(Builtin.len_ #[t] ty #[.map (some b)]).run P w=.ok (.int .i64 c) w:=by
 obtain⟨D,h,rfl,_⟩:=h
 exact h.len ht ty
theorem fF.look_ok(h:fF P k w b n c f)(K:Keyed P k)(ht:P.underlying t=some (.map k e)){z:Value}(hz:(zeroValue e).run P w=.ok z w){x:Value}{kl:Lit}(hx:Go.keyOf P k x=some kl):
 (Instr.lookup t (.map (some b)) x true).run P w=.ok (.tuple #[(f x).getD z,.bool (f x).isSome]) w:=by
 obtain⟨D,h,_,h'⟩:=h
 obtain⟨v,ps,hrun,hv⟩:=h.look_ok K ht hz (zd:= .held z) (zp:= []) rfl hx
 rw[hrun]
 cases hf:f x with
 | none =>
   have hn:=(h' x kl hx).1 hf
   rw[Maps.atKey_of_not_has hn]at hv
   rw[tN hv,hn]
   rfl
 | some y =>
   obtain⟨hh,hat⟩:=(h' x kl hx).2 y hf
   rw[hat]at hv
   rw[tN hv,hh]
   rfl
theorem fF.store(h:fF P k w b n c f)(K:Keyed P k)(ht:P.underlying t=some (.map k e))(hn:n<maxLen){x y:Value}{kl:Lit}(hx:Go.keyOf P k x=some kl):
 ∃w',(Instr.mapUpdate t (.map (some b)) x y).run P w=.ok () w'∧(∀f',f' x=some y→(∀u,u≠x→f' u=f u)→fF P k w' b (n+1) (if (f x).isSome=true then c else c+1) f')∧w.grownBy w' (some b):=by
 obtain⟨D,h,hsz,h'⟩:=h
 obtain⟨w',hrun,ho,hg⟩:=h.update K ht hn hx (val:=y) (d:= .held y) (ps:= []) rfl
 have hD:=h.isMap
 have hkl:=K.key hx
 have hhas:Maps.has D kl=(f x).isSome:=by
  cases hf:f x with
  | none=>rw[(h' x kl hx).1 hf];rfl
  | some z=>rw[((h' x kl hx).2 z hf).1];rfl
 refine⟨w',hrun,fun f' h1 h2=>⟨_,ho,by rw[Maps.size_put (h.tidy K),hhas,hsz],fun u ul hu =>?_⟩,hg⟩
 by_cases hux:u=x
 ·subst hux
  rw[hx]at hu
  injection hu with hu
  subst hu
  rw[h1]
  refine⟨fun h=>(Option.some_ne_none _ h).elim,fun y' hy' =>?_⟩
  injection hy' with hy'
  subst hy'
  exact⟨Maps.has_put_same hD hkl _,fun z=>Maps.atKey_put_same hD hkl _ z⟩
 ·have hne:ul≠kl:=fun e=>hux (K.inj hu (by rw[e];exact hx))
  rw[h2 u hux]
  refine⟨fun hf=>by rw[Maps.has_put_other hne];exact(h' u ul hu).1 hf,fun y' hf =>?_⟩
  obtain⟨hh,hat⟩:=(h' u ul hu).2 y' hf
  exact⟨by rw[Maps.has_put_other hne];exact hh,fun z=>by rw[Maps.atKey_put_other hne];exact hat z⟩
theorem fF.drop(h:fF P k w b n c f)(K:Keyed P k)(ht:P.underlying t=some (.map k e)){x:Value}{kl:Lit}(hx:Go.keyOf P k x=some kl)(ty:TypeId):
 ∃w',(Builtin.delete_ #[t,k] ty #[.map (some b),x]).run P w=.ok (.tuple #[]) w'∧(∀f',f' x=none→(∀u,u≠x→f' u=f u)→fF P k w' b n (if (f x).isSome=true then c-1 else c) f')∧w.grownBy w' (some b):=by
 obtain⟨D,h,hsz,h'⟩:=h
 obtain⟨w',hrun,ho,hg⟩:=h.drop K ht hx ty
 have hhas:Maps.has D kl=(f x).isSome:=by
  cases hf:f x with
  | none=>rw[(h' x kl hx).1 hf];rfl
  | some z=>rw[((h' x kl hx).2 z hf).1];rfl
 have hs:Maps.size (D.del kl)=if (f x).isSome=true then c-1 else c:=by
  have h1:=Maps.size_del (h.tidy K) (k:=kl)
  rw[hhas,hsz]at h1
  split at h1<;>rename_i h2
  ·rw[if_pos h2];omega
  ·rw[if_neg h2];omega
 refine⟨w',hrun,fun f' h1 h2=>⟨_,ho,hs,fun u ul hu =>?_⟩,hg.grown⟩
 by_cases hux:u=x
 ·subst hux
  rw[hx]at hu
  injection hu with hu
  subst hu
  rw[h1]
  exact⟨fun _=>Maps.has_del_same,fun y h=>by cases h⟩
 ·have hne:ul≠kl:=fun e=>hux (K.inj hu (by rw[e];exact hx))
  rw[h2 u hux]
  refine⟨fun hf=>by rw[Maps.has_del_other hne];exact(h' u ul hu).1 hf,fun y' hf =>?_⟩
  obtain⟨hh,hat⟩:=(h' u ul hu).2 y' hf
  exact⟨by rw[Maps.has_del_other hne];exact hh,fun z=>by rw[Maps.atKey_del_other hne];exact hat z⟩
end
section
variable {P:Program}(w:World) {ops:Array Oper}{rest:List Oper}{o:Oper}{a:Act}{Q:Exit→Act→World→Prop}
theorem rz(hg:o.guard=none)(m x v:Operand)(t:TypeId)(hop:o.op=Op.mapUpdate t m x v)(k e:TypeId)(K:Keyed P k)(ht:P.underlying t=some (.map k e))
 (b n c:Nat) (f:Value→Option Value) (hm:a.eval m=.map (some b)) (hown:fF P k w b n c f) (hn:n<maxLen) (key:Value) (kl:Lit) (hx:a.eval x=key) (hkey:Go.keyOf P k key=some kl) (y:Value) (hv:a.eval v=y)
 (f':Value→Option Value) (h1:f' key=some y) (h2:∀u,u≠key→f' u=f u)
 (hK:∀w',fF P k w' b (n+1) (if (f key).isSome=true then c else c+1) f'→w.grownBy w' (some b)→wpList P ops Q rest (a.put o.dst undef) w'):wpList P ops Q (o::rest) a w:=by
 refine wpList_plain hg fun K' hK' =>?_
 obtain⟨w',hrun,r1,r2⟩:=hown.store K ht hn hkey (y:=y)
 unfold Oper.wp
 simp[execOp,hop,hm,hx,hv,hrun,Result.andThen]
 exact hK' _ _ (hK w' (r1 f' h1 h2) r2)
theorem gy(hg:o.guard=none)(m x:Operand)(t:TypeId)(hop:o.op=Op.lookup t m x true)(k e:TypeId)(K:Keyed P k)(ht:P.underlying t=some (.map k e))(z:Value)(hz:∀u,(zeroValue e).run P u=.ok z u)
 (b n c:Nat) (f:Value→Option Value) (hm:a.eval m=.map (some b)) (hown:fF P k w b n c f) (key:Value) (kl:Lit) (hx:a.eval x=key) (hkey:Go.keyOf P k key=some kl)
 (r:Value) (d:Bool) (hr:(f key).getD z=r) (hd:(f key).isSome=d) (hK:wpList P ops Q rest (a.put o.dst (.tuple #[r,.bool d])) w):wpList P ops Q (o::rest) a w:=by
 subst hr hd
 refine wpList_plain hg fun K' hK' =>?_
 have hrun:=hown.look_ok K ht (hz w) hkey
 unfold Oper.wp
 simp[execOp,hop,hm,hx,hrun,Result.andThen]
 exact hK' _ _ hK
theorem CU(hg:o.guard=none)(m:Operand)(t:TypeId)(hop:o.op=Op.call { callee:=Callee.builtin Builtin.len,args:= #[m],argTypes:= #[t] })
 (k e:TypeId) (ht:P.underlying t=some (.map k e)) (b n c:Nat) (f:Value→Option Value) (hm:a.eval m=.map (some b)) (hown:fF P k w b n c f)
 (hK:wpList P ops Q rest (a.put o.dst (.int .i64 c)) w):wpList P ops Q (o::rest) a w:=by
 refine wpList_plain hg fun K' hK' =>?_
 unfold Oper.wp
 simp[execOp,hop,resolve,invoke,builtin,hm,hown.len ht o.type,Result.andThen]
 exact hK' _ _ hK
end
end Go.Proofs.YtjhnpnhpmdkpcaaGreat
