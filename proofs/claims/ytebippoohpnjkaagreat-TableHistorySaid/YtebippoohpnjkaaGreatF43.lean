/-
  Contracts and plain laws of this seat, part 43.
-/
import Derived.Test.YtebippoohpnjkaaGreatF42
set_option linter.unusedVariables false
set_option linter.unusedSimpArgs false
set_option maxRecDepth 100000
set_option maxHeartbeats 16000000
namespace Go.Proofs.YtebippoohpnjkaaGreat
open Go.RowKit Go
theorem eI{P:Prop}(h:P:=by rw[hsz];kernel_rfl):P:=h
theorem eJ{P:Prop}(h:P:=by rw[hX,hsz]):P:=h
def OP(cs:Array Value):Prop:= ∃x:Idx,x.name.size≤1000∧x.src.size≤1000∧cs=(Idx.cells x).toArray
theorem EvI.f4{ops a0 F o e u v w}(h:EvI ops a0 F o e u)(p:a0.eval (.tmp 0)=v)(q:a0.eval (.tmp 3)=w)(r:AQ ops 0=true)(s:AQ ops 3=true):e (.tmp 0)=v∧e (.tmp 3)=w∧(∀v,e (.const v)=v)∧∀f,e (.func f)=.func (.func f) #[] #[]:=⟨(h.far 0 r).trans p,(h.far 3 s).trans q,h.const,h.func⟩
theorem He(T:Array Value)(w W:World)(g b b1 b2 cT cC r:Nat)(vA:Option Addr)(vc:Nat)(ts:List Tab)(t0:Tab)(af:List Col)(K:Exit→Act→World→Prop)(hsz:T.size=290)(g0:T[0]?=some (.pointer (some ⟨g,0,none⟩)))(g3:T[3]?=some (.pointer (some ⟨w.heap.size,0,none⟩)))
 (hgl:g<w.heap.size) (hbl:b<w.heap.size) (hI:SpO w W g b b1 b2 cT cC r ts t0 af (xC vA vc))
 (hK:∀X u a x,X.size=290→X[0]?=T[0]? → X[3]?=T[3]? → X[4]?=T[4]? → SpO w u g b b1 b2 cT cC r ts t0 af ⟨vA,vc,a,1,[x],none,0,[],none,0,[],none,0,[],none,0,[],none,0,[]⟩→K .normal ⟨X,[]⟩ u):
 Code.wp Tryz.prog (wV Tryz.f13 46) K ⟨T,[]⟩ W:=by
 have hwz:=hI.mem.grown.size
 have a0:(⟨T,[]⟩:Act).eval (.tmp 0)=.pointer (some ⟨g,0,none⟩):=by rw[gF];simp[g0]
 have a3:(⟨T,[]⟩:Act).eval (.tmp 3)=.pointer (some ⟨w.heap.size,0,none⟩):=by rw[gF];simp[g3]
 conv=>arg 2;whnf
 refine lJ 14 (fun u=>SpO w u g b b1 b2 cT cC r ts t0 af (xC vA vc)) (fun u u'=>u.grownBy u' (some g)) (fun u =>∃a x,SpO w u g b b1 b2 cT cC r ts t0 af ⟨vA,vc,a,1,[x],none,0,[],none,0,[],none,0,[],none,0,[],none,0,[]⟩)
  (lX (w.heap.size+2) [.ptr ⟨g,0,none⟩,.nat 3,.str,.arr 9 #[.string ⟨#[116,48]⟩,.string ⟨#[110,111,110,101]⟩,.string ⟨#[118,48]⟩],.ptr ⟨g,0,none⟩,.nat 3,.pos 9 #[.string ⟨#[116,48]⟩,.string ⟨#[110,111,110,101]⟩,.string ⟨#[118,48]⟩],.str,.ptr ⟨g,0,none⟩,.nat 5,.int,.agg OP,.one 111 OP,.ptr ⟨w.heap.size,2,none⟩])
  krA krA krA krA krA eI (fun k v u u' h _ hg=>h.grown hg omA) (hI.below brf.drew) ?_ ?_ ?_
 ·intro i hi o ho e u hR hev
  rcases i with _|_|_|_|_|_|_|_|_|_|_|_|_|_|i
  (simp only[gE3,Option.some.injEq]at ho;subst ho;refine⟨rfl,?_⟩;obtain⟨he0,he3,hec,hef⟩:=hev.f4 a0 a3 krA krA)
  clear he3 hec hef hev
  go_simp
  exact⟨hR,au _ brf,rfl⟩
  (simp only[gE3,Option.some.injEq]at ho;subst ho;refine⟨rfl,?_⟩;obtain⟨he0,he3,hec,hef⟩:=hev.f4 a0 a3 krA krA)
  have d:=hev.dep 0 255 krA (by rfl)
  replace d:e (.tmp 255)=_:=d
  clear he0 he3 hev
  go_simp
  simp only[gz]
  refine(aA g b 3 _ hR.mem.tape omA omA).mono ?_
  rintro x u' ⟨z,rfl,hz,hk',hg'⟩
  exact⟨_,rfl,hR.call hgl hg' hk',hg',z,by rcases hz with h|h<;>omega,rfl⟩
  (simp only[gE3,Option.some.injEq]at ho;subst ho;refine⟨rfl,?_⟩;obtain⟨he0,he3,hec,hef⟩:=hev.f4 a0 a3 krA krA)
  obtain⟨z,hz,h1⟩:=hev.dep 1 256 krA (by rfl)
  clear he0 he3 hev
  go_simp
  simp only[gz]
  refine(qa ⟨#[105]⟩ z omA (by decide) _).mono ?_
  rintro x u' ⟨rfl,hb⟩
  exact⟨_,rfl,hR.below hb,au _ hb,_,by rw[ByteArray.size_append];show 1+1≤1000;omega,rfl⟩
  (simp only[gE3,Option.some.injEq]at ho;subst ho;refine⟨rfl,?_⟩;obtain⟨he0,he3,hec,hef⟩:=hev.f4 a0 a3 krA krA)
  clear he0 he3 hev
  go_simp
  exact⟨hR.alloc _,au _ (brf.alloc nlr _),u.heap.size,hR.res.lt,rfl,Blk.new _ _ _⟩
  (simp only[gE3,Option.some.injEq]at ho;subst ho;refine⟨rfl,?_⟩;obtain⟨he0,he3,hec,hef⟩:=hev.f4 a0 a3 krA krA)
  clear he3 hec hef hev
  go_simp
  exact⟨hR,au _ brf,rfl⟩
  (simp only[gE3,Option.some.injEq]at ho;subst ho;refine⟨rfl,?_⟩;obtain⟨he0,he3,hec,hef⟩:=hev.f4 a0 a3 krA krA)
  have d:=hev.dep 4 259 krA (by rfl)
  replace d:e (.tmp 259)=_:=d
  clear he0 he3 hev
  go_simp
  simp only[gz]
  refine(aA g b 3 _ hR.mem.tape omA omA).mono ?_
  rintro x u' ⟨z,rfl,hz,hk',hg'⟩
  exact⟨_,rfl,hR.call hgl hg' hk',hg',z,by rcases hz with h|h<;>omega,rfl⟩
  (simp only[gE3,Option.some.injEq]at ho;subst ho;refine⟨rfl,?_⟩;obtain⟨he0,he3,hec,hef⟩:=hev.f4 a0 a3 krA krA)
  obtain⟨B,hB,h1,h2⟩:=hev.dep 3 258 krA (by rfl)
  obtain⟨z,hz,h3⟩:=hev.dep 5 260 krA (by rfl)
  clear he0 he3 hev
  have hzi:(z:Int)<3:=by omega
  go_simp
  exact⟨hR,au _ brf,B,z,hB,hz,rfl,h2⟩
  (simp only[gE3,Option.some.injEq]at ho;subst ho;refine⟨rfl,?_⟩;obtain⟨he0,he3,hec,hef⟩:=hev.f4 a0 a3 krA krA)
  obtain⟨B,i,hB,hi2,h1,h2⟩:=hev.dep 6 261 krA (by rfl)
  clear he0 he3 hev
  obtain⟨s,hs,hc⟩:∃s:ByteArray,s.size≤1000∧u.cell? ⟨B,i,none⟩=some (.string s):=by
   rw[h2.cell]
   simp only[List.size_toArray,List.length_cons,List.length_nil]at hi2
   rcases(show i=0∨i=1∨i=2 by omega) with rfl|rfl|rfl
   all_goals exact⟨_,by decide,rfl⟩
  go_simp
  exact⟨hR,au _ brf,s,hs,rfl⟩
  (simp only[gE3,Option.some.injEq]at ho;subst ho;refine⟨rfl,?_⟩;obtain⟨he0,he3,hec,hef⟩:=hev.f4 a0 a3 krA krA)
  clear he3 hec hef hev
  go_simp
  exact⟨hR,au _ brf,rfl⟩
  (simp only[gE3,Option.some.injEq]at ho;subst ho;refine⟨rfl,?_⟩;obtain⟨he0,he3,hec,hef⟩:=hev.f4 a0 a3 krA krA)
  have d:=hev.dep 8 263 krA (by rfl)
  replace d:e (.tmp 263)=_:=d
  clear he0 he3 hev
  go_simp
  simp only[gz]
  refine(aA g b 5 _ hR.mem.tape omA omA).mono ?_
  rintro x u' ⟨z,rfl,hz,hk',hg'⟩
  exact⟨_,rfl,hR.call hgl hg' hk',hg',z,by rcases hz with h|h<;>omega,rfl⟩
  (simp only[gE3,Option.some.injEq]at ho;subst ho;refine⟨rfl,?_⟩;obtain⟨he0,he3,hec,hef⟩:=hev.f4 a0 a3 krA krA)
  obtain⟨z,hz,h1⟩:=hev.dep 9 264 krA (by rfl)
  clear he0 he3 hev
  go_simp
  exact⟨hR,au _ brf,_,rfl⟩
  (simp only[gE3,Option.some.injEq]at ho;subst ho;refine⟨rfl,?_⟩;obtain⟨he0,he3,hec,hef⟩:=hev.f4 a0 a3 krA krA)
  obtain⟨s,hs,e0⟩:=hev.dep 2 257 krA (by rfl)
  obtain⟨s2,hs2,e1⟩:=hev.dep 7 262 krA (by rfl)
  obtain⟨z,e2⟩:=hev.dep 10 265 krA (by rfl)
  clear he0 he3 hev
  go_simp
  exact⟨hR,au _ brf,_,⟨⟨s,s2,z⟩,hs,hs2,rfl⟩,rfl⟩
  (simp only[gE3,Option.some.injEq]at ho;subst ho;refine⟨rfl,?_⟩;obtain⟨he0,he3,hec,hef⟩:=hev.f4 a0 a3 krA krA)
  obtain⟨cs,⟨⟨xn,xs,xc⟩,hx1,hx2,rfl⟩,h1⟩:=hev.dep 11 266 krA (by rfl)
  simp only[Idx.cells]at h1
  clear he0 he3 hev
  go_simp
  exact⟨hR.alloc _,au _ (brf.alloc nlr _),u.heap.size,_,hR.res.lt,⟨⟨xn,xs,xc⟩,hx1,hx2,rfl⟩,rfl,Blk.new _ _ _⟩
  (simp only[gE3,Option.some.injEq]at ho;subst ho;refine⟨rfl,?_⟩;obtain⟨he0,he3,hec,hef⟩:=hev.f4 a0 a3 krA krA)
  clear he0 hec hef hev
  go_simp
  exact⟨hR,au _ brf,rfl⟩
  ·omega
 ·intro o ho e u hR hev
  (simp only[gE3,Option.some.injEq]at ho;subst ho;refine⟨rfl,?_⟩;obtain⟨he0,he3,hec,hef⟩:=hev.f4 a0 a3 krA krA)
  obtain⟨B,cs,hB,⟨x,hx1,hx2,rfl⟩,h1,h2⟩:=hev.dep 12 267 krA (by rfl)
  have h3:=hev.dep 13 268 krA (by rfl)
  replace h3:e (.tmp 268)=_:=h3
  have hc:=hR.mem.cat.cell 2
  have hf:=hR.mem.cat.frozen 2
  simp only[gE3]at hc
  clear he0 he3 hev
  go_simp
  exact⟨some ⟨B,0,none⟩,x,hR.put hgl hbl spA ⟨Blk.one (enc:=Idx.cells) h2 h2.lt,hR.inw.skt,hR.inw.cch,hR.inw.rel,hR.inw.str,hR.inw.bak⟩ ⟨(fun a ha=>by injection ha with ha;subst ha;exact hB),hR.up.skt,hR.up.cch,hR.up.rel,hR.up.str,hR.up.bak⟩
   ⟨spA,hR.bZ.skt,hR.bZ.cch,hR.bZ.rel,hR.bZ.str,hR.bZ.bak,(fun y hy=>by
    simp only[Oth.names,List.map_cons,List.map_nil,List.nil_append,List.append_nil,List.cons_append,List.mem_cons,List.not_mem_nil,or_false]at hy
    rcases hy with rfl
    ·exact Nat.le_trans hx1 omA),(fun y hy=>by rw[List.mem_singleton.1 hy];exact Nat.le_trans hx2 omA),hR.bZ.G9,hR.bZ.II,hR.bZ.Hm⟩⟩
 ·intro X u hX hf hL
  obtain⟨a,x,h⟩:=hL
  exact hK X u a x eJ (hf 0 krA) (hf 3 krA) (hf 4 krA) h
def OM(cs:Array Value):Prop:= ∃x:Skt,x.name.size≤1000∧x.src.size≤1000∧cs=(Skt.cells x).toArray
theorem Ha(T:Array Value)(w W:World)(g b b1 b2 cT cC r:Nat)(vA:Option Addr)(vc:Nat)(ts:List Tab)(t0:Tab)(af:List Col)(K:Exit→Act→World→Prop)(hsz:T.size=290)(g0:T[0]?=some (.pointer (some ⟨g,0,none⟩)))(g3:T[3]?=some (.pointer (some ⟨w.heap.size,0,none⟩)))
 (hgl:g<w.heap.size) (hbl:b<w.heap.size) (hI:SpO w W g b b1 b2 cT cC r ts t0 af (xC vA vc))
 (hK:∀X u a x,X.size=290→X[0]?=T[0]? → X[3]?=T[3]? → X[4]?=T[4]? → SpO w u g b b1 b2 cT cC r ts t0 af ⟨vA,vc,none,0,[],a,1,[x],none,0,[],none,0,[],none,0,[],none,0,[]⟩→K .normal ⟨X,[]⟩ u):
 Code.wp Tryz.prog (wV Tryz.f13 48) K ⟨T,[]⟩ W:=by
 have hwz:=hI.mem.grown.size
 have a0:(⟨T,[]⟩:Act).eval (.tmp 0)=.pointer (some ⟨g,0,none⟩):=by rw[gF];simp[g0]
 have a3:(⟨T,[]⟩:Act).eval (.tmp 3)=.pointer (some ⟨w.heap.size,0,none⟩):=by rw[gF];simp[g3]
 conv=>arg 2;whnf
 refine lJ 18 (fun u=>SpO w u g b b1 b2 cT cC r ts t0 af (xC vA vc)) (fun u u'=>u.grownBy u' (some g)) (fun u =>∃a x,SpO w u g b b1 b2 cT cC r ts t0 af ⟨vA,vc,none,0,[],a,1,[x],none,0,[],none,0,[],none,0,[],none,0,[]⟩)
  (lX (w.heap.size+2) [.ptr ⟨g,0,none⟩,.nat 3,.ptr ⟨g,0,none⟩,.nat 5,.int,.arr 3 #[.int .i64 0,.int .i64 1,.int .i64 1024,.int .i64 1025],.ptr ⟨g,0,none⟩,.nat 4,.pos 3 #[.int .i64 0,.int .i64 1,.int .i64 1024,.int .i64 1025],.int,.arr 3 #[.int .i64 0,.int .i64 1,.int .i64 2,.int .i64 8,.int .i64 9],.ptr ⟨g,0,none⟩,.nat 5,.pos 3 #[.int .i64 0,.int .i64 1,.int .i64 2,.int .i64 8,.int .i64 9],.int,.agg OM,.one 113 OM,.ptr ⟨w.heap.size,3,none⟩])
  krA krA krA krA krA eI (fun k v u u' h _ hg=>h.grown hg omA) (hI.below brf.drew) ?_ ?_ ?_
 ·intro i hi o ho e u hR hev
  rcases i with _|_|_|_|_|_|_|_|_|_|_|_|_|_|_|_|_|_|i
  (simp only[gE3,Option.some.injEq]at ho;subst ho;refine⟨rfl,?_⟩;obtain⟨he0,he3,hec,hef⟩:=hev.f4 a0 a3 krA krA)
  clear he3 hec hef hev
  go_simp
  exact⟨hR,au _ brf,rfl⟩
  (simp only[gE3,Option.some.injEq]at ho;subst ho;refine⟨rfl,?_⟩;obtain⟨he0,he3,hec,hef⟩:=hev.f4 a0 a3 krA krA)
  have d:=hev.dep 0 271 krA (by rfl)
  replace d:e (.tmp 271)=_:=d
  clear he0 he3 hev
  go_simp
  simp only[gz]
  refine(aA g b 3 _ hR.mem.tape omA omA).mono ?_
  rintro x u' ⟨z,rfl,hz,hk',hg'⟩
  exact⟨_,rfl,hR.call hgl hg' hk',hg',z,by rcases hz with h|h<;>omega,rfl⟩
  (simp only[gE3,Option.some.injEq]at ho;subst ho;refine⟨rfl,?_⟩;obtain⟨he0,he3,hec,hef⟩:=hev.f4 a0 a3 krA krA)
  clear he3 hec hef hev
  go_simp
  exact⟨hR,au _ brf,rfl⟩
  (simp only[gE3,Option.some.injEq]at ho;subst ho;refine⟨rfl,?_⟩;obtain⟨he0,he3,hec,hef⟩:=hev.f4 a0 a3 krA krA)
  have d:=hev.dep 2 273 krA (by rfl)
  replace d:e (.tmp 273)=_:=d
  clear he0 he3 hev
  go_simp
  simp only[gz]
  refine(aA g b 5 _ hR.mem.tape omA omA).mono ?_
  rintro x u' ⟨z,rfl,hz,hk',hg'⟩
  exact⟨_,rfl,hR.call hgl hg' hk',hg',z,by rcases hz with h|h<;>omega,rfl⟩
  (simp only[gE3,Option.some.injEq]at ho;subst ho;refine⟨rfl,?_⟩;obtain⟨he0,he3,hec,hef⟩:=hev.f4 a0 a3 krA krA)
  obtain⟨z,hz,h1⟩:=hev.dep 3 274 krA (by rfl)
  clear he0 he3 hev
  go_simp
  exact⟨hR,au _ brf,_,rfl⟩
  (simp only[gE3,Option.some.injEq]at ho;subst ho;refine⟨rfl,?_⟩;obtain⟨he0,he3,hec,hef⟩:=hev.f4 a0 a3 krA krA)
  clear he0 he3 hev
  go_simp
  exact⟨hR.alloc _,au _ (brf.alloc nlr _),u.heap.size,hR.res.lt,rfl,Blk.new _ _ _⟩
  (simp only[gE3,Option.some.injEq]at ho;subst ho;refine⟨rfl,?_⟩;obtain⟨he0,he3,hec,hef⟩:=hev.f4 a0 a3 krA krA)
  clear he3 hec hef hev
  go_simp
  exact⟨hR,au _ brf,rfl⟩
  (simp only[gE3,Option.some.injEq]at ho;subst ho;refine⟨rfl,?_⟩;obtain⟨he0,he3,hec,hef⟩:=hev.f4 a0 a3 krA krA)
  have d:=hev.dep 6 277 krA (by rfl)
  replace d:e (.tmp 277)=_:=d
  clear he0 he3 hev
  go_simp
  simp only[gz]
  refine(aA g b 4 _ hR.mem.tape omA omA).mono ?_
  rintro x u' ⟨z,rfl,hz,hk',hg'⟩
  exact⟨_,rfl,hR.call hgl hg' hk',hg',z,by rcases hz with h|h<;>omega,rfl⟩
  (simp only[gE3,Option.some.injEq]at ho;subst ho;refine⟨rfl,?_⟩;obtain⟨he0,he3,hec,hef⟩:=hev.f4 a0 a3 krA krA)
  obtain⟨B,hB,h1,h2⟩:=hev.dep 5 276 krA (by rfl)
  obtain⟨z,hz,h3⟩:=hev.dep 7 278 krA (by rfl)
  clear he0 he3 hev
  have hzi:(z:Int)<4:=by omega
  go_simp
  exact⟨hR,au _ brf,B,z,hB,hz,rfl,h2⟩
  (simp only[gE3,Option.some.injEq]at ho;subst ho;refine⟨rfl,?_⟩;obtain⟨he0,he3,hec,hef⟩:=hev.f4 a0 a3 krA krA)
  obtain⟨B,i,hB,hi2,h1,h2⟩:=hev.dep 8 279 krA (by rfl)
  clear he0 he3 hev
  obtain⟨z,hc⟩:∃z:Int,u.cell? ⟨B,i,none⟩=some (.int .i64 z):=by
   rw[h2.cell]
   simp only[List.size_toArray,List.length_cons,List.length_nil]at hi2
   rcases(show i=0∨i=1∨i=2∨i=3 by omega) with rfl|rfl|rfl|rfl
   all_goals exact⟨_,rfl⟩
  go_simp
  exact⟨hR,au _ brf,z,rfl⟩
  (simp only[gE3,Option.some.injEq]at ho;subst ho;refine⟨rfl,?_⟩;obtain⟨he0,he3,hec,hef⟩:=hev.f4 a0 a3 krA krA)
  clear he0 he3 hev
  go_simp
  exact⟨hR.alloc _,au _ (brf.alloc nlr _),u.heap.size,hR.res.lt,rfl,Blk.new _ _ _⟩
  (simp only[gE3,Option.some.injEq]at ho;subst ho;refine⟨rfl,?_⟩;obtain⟨he0,he3,hec,hef⟩:=hev.f4 a0 a3 krA krA)
  clear he3 hec hef hev
  go_simp
  exact⟨hR,au _ brf,rfl⟩
  (simp only[gE3,Option.some.injEq]at ho;subst ho;refine⟨rfl,?_⟩;obtain⟨he0,he3,hec,hef⟩:=hev.f4 a0 a3 krA krA)
  have d:=hev.dep 11 282 krA (by rfl)
  replace d:e (.tmp 282)=_:=d
  clear he0 he3 hev
  go_simp
  simp only[gz]
  refine(aA g b 5 _ hR.mem.tape omA omA).mono ?_
  rintro x u' ⟨z,rfl,hz,hk',hg'⟩
  exact⟨_,rfl,hR.call hgl hg' hk',hg',z,by rcases hz with h|h<;>omega,rfl⟩
  (simp only[gE3,Option.some.injEq]at ho;subst ho;refine⟨rfl,?_⟩;obtain⟨he0,he3,hec,hef⟩:=hev.f4 a0 a3 krA krA)
  obtain⟨B,hB,h1,h2⟩:=hev.dep 10 281 krA (by rfl)
  obtain⟨z,hz,h3⟩:=hev.dep 12 283 krA (by rfl)
  clear he0 he3 hev
  have hzi:(z:Int)<5:=by omega
  go_simp
  exact⟨hR,au _ brf,B,z,hB,hz,rfl,h2⟩
  (simp only[gE3,Option.some.injEq]at ho;subst ho;refine⟨rfl,?_⟩;obtain⟨he0,he3,hec,hef⟩:=hev.f4 a0 a3 krA krA)
  obtain⟨B,i,hB,hi2,h1,h2⟩:=hev.dep 13 284 krA (by rfl)
  clear he0 he3 hev
  obtain⟨z,hc⟩:∃z:Int,u.cell? ⟨B,i,none⟩=some (.int .i64 z):=by
   rw[h2.cell]
   simp only[List.size_toArray,List.length_cons,List.length_nil]at hi2
   rcases(show i=0∨i=1∨i=2∨i=3∨i=4 by omega) with rfl|rfl|rfl|rfl|rfl
   all_goals exact⟨_,rfl⟩
  go_simp
  exact⟨hR,au _ brf,z,rfl⟩
  (simp only[gE3,Option.some.injEq]at ho;subst ho;refine⟨rfl,?_⟩;obtain⟨he0,he3,hec,hef⟩:=hev.f4 a0 a3 krA krA)
  obtain⟨z1,hz1,e0⟩:=hev.dep 1 272 krA (by rfl)
  obtain⟨z2,e1⟩:=hev.dep 4 275 krA (by rfl)
  obtain⟨z3,e2⟩:=hev.dep 9 280 krA (by rfl)
  obtain⟨z4,e3⟩:=hev.dep 14 285 krA (by rfl)
  clear he0 he3 hev
  go_simp
  exact⟨hR,au _ brf,_,⟨⟨⟨#[115]⟩,⟨#[116,48]⟩,z1,z2,z3,z4⟩,by show 1≤1000;omega,by show 2≤1000;omega,rfl⟩,rfl⟩
  (simp only[gE3,Option.some.injEq]at ho;subst ho;refine⟨rfl,?_⟩;obtain⟨he0,he3,hec,hef⟩:=hev.f4 a0 a3 krA krA)
  obtain⟨cs,⟨⟨xn,xs,xc,xk,xw,xd⟩,hx1,hx2,rfl⟩,h1⟩:=hev.dep 15 286 krA (by rfl)
  simp only[Skt.cells]at h1
  clear he0 he3 hev
  go_simp
  exact⟨hR.alloc _,au _ (brf.alloc nlr _),u.heap.size,_,hR.res.lt,⟨⟨xn,xs,xc,xk,xw,xd⟩,hx1,hx2,rfl⟩,rfl,Blk.new _ _ _⟩
  (simp only[gE3,Option.some.injEq]at ho;subst ho;refine⟨rfl,?_⟩;obtain⟨he0,he3,hec,hef⟩:=hev.f4 a0 a3 krA krA)
  clear he0 hec hef hev
  go_simp
  exact⟨hR,au _ brf,rfl⟩
  ·omega
 ·intro o ho e u hR hev
  (simp only[gE3,Option.some.injEq]at ho;subst ho;refine⟨rfl,?_⟩;obtain⟨he0,he3,hec,hef⟩:=hev.f4 a0 a3 krA krA)
  obtain⟨B,cs,hB,⟨x,hx1,hx2,rfl⟩,h1,h2⟩:=hev.dep 16 287 krA (by rfl)
  have h3:=hev.dep 17 288 krA (by rfl)
  replace h3:e (.tmp 288)=_:=h3
  have hc:=hR.mem.cat.cell 3
  have hf:=hR.mem.cat.frozen 3
  simp only[gE3]at hc
  clear he0 he3 hev
  go_simp
  exact⟨some ⟨B,0,none⟩,x,hR.put hgl hbl spA ⟨hR.inw.idx,Blk.one (enc:=Skt.cells) h2 h2.lt,hR.inw.cch,hR.inw.rel,hR.inw.str,hR.inw.bak⟩ ⟨hR.up.idx,(fun a ha=>by injection ha with ha;subst ha;exact hB),hR.up.cch,hR.up.rel,hR.up.str,hR.up.bak⟩
   ⟨hR.bZ.idx,spA,hR.bZ.cch,hR.bZ.rel,hR.bZ.str,hR.bZ.bak,(fun y hy=>by
    simp only[Oth.names,List.map_cons,List.map_nil,List.nil_append,List.append_nil,List.cons_append,List.mem_cons,List.not_mem_nil,or_false]at hy
    rcases hy with rfl
    ·exact Nat.le_trans hx1 omA),hR.bZ.Ia,(fun y hy=>by rw[List.mem_singleton.1 hy];exact Nat.le_trans hx2 omA),hR.bZ.II,hR.bZ.Hm⟩⟩
 ·intro X u hX hf hL
  obtain⟨a,x,h⟩:=hL
  exact hK X u a x eJ (hf 0 krA) (hf 3 krA) (hf 4 krA) h
def OO(cs:Array Value):Prop:= ∃x:Rel,x.name.size≤1000∧x.src.size≤1000∧cs=(Rel.cells x).toArray
theorem Hd(T:Array Value)(w W:World)(g b b1 b2 cT cC r:Nat)(vA:Option Addr)(vc:Nat)(ts:List Tab)(t0:Tab)(af:List Col)(K:Exit→Act→World→Prop)(hsz:T.size=290)(g0:T[0]?=some (.pointer (some ⟨g,0,none⟩)))(g3:T[3]?=some (.pointer (some ⟨w.heap.size,0,none⟩)))
 (hgl:g<w.heap.size) (hbl:b<w.heap.size) (hI:SpO w W g b b1 b2 cT cC r ts t0 af (xC vA vc))
 (hK:∀X u a x,X.size=290→X[0]?=T[0]? → X[3]?=T[3]? → X[4]?=T[4]? → SpO w u g b b1 b2 cT cC r ts t0 af ⟨vA,vc,none,0,[],none,0,[],none,0,[],a,1,[x],none,0,[],none,0,[]⟩→K .normal ⟨X,[]⟩ u):
 Code.wp Tryz.prog (wV Tryz.f13 14) K ⟨T,[]⟩ W:=by
 have hwz:=hI.mem.grown.size
 have a0:(⟨T,[]⟩:Act).eval (.tmp 0)=.pointer (some ⟨g,0,none⟩):=by rw[gF];simp[g0]
 have a3:(⟨T,[]⟩:Act).eval (.tmp 3)=.pointer (some ⟨w.heap.size,0,none⟩):=by rw[gF];simp[g3]
 conv=>arg 2;whnf
 refine lJ 11 (fun u=>SpO w u g b b1 b2 cT cC r ts t0 af (xC vA vc)) (fun u u'=>u.grownBy u' (some g)) (fun u =>∃a x,SpO w u g b b1 b2 cT cC r ts t0 af ⟨vA,vc,none,0,[],none,0,[],none,0,[],a,1,[x],none,0,[],none,0,[]⟩)
  (lX (w.heap.size+2) [.arr 9 #[.string ⟨#[116,48]⟩,.string ⟨#[118,48]⟩,.string ⟨#[118,49]⟩],.ptr ⟨g,0,none⟩,.nat 3,.pos 9 #[.string ⟨#[116,48]⟩,.string ⟨#[118,48]⟩,.string ⟨#[118,49]⟩],.str,.ptr ⟨g,0,none⟩,.nat 3,.int,.agg OO,.one 115 OO,.ptr ⟨w.heap.size,5,none⟩])
  krA krA krA krA krA eI (fun k v u u' h _ hg=>h.grown hg omA) (hI.below brf.drew) ?_ ?_ ?_
 ·intro i hi o ho e u hR hev
  rcases i with _|_|_|_|_|_|_|_|_|_|_|i
  (simp only[gE3,Option.some.injEq]at ho;subst ho;refine⟨rfl,?_⟩;obtain⟨he0,he3,hec,hef⟩:=hev.f4 a0 a3 krA krA)
  clear he0 he3 hev
  go_simp
  exact⟨hR.alloc _,au _ (brf.alloc nlr _),u.heap.size,hR.res.lt,rfl,Blk.new _ _ _⟩
  (simp only[gE3,Option.some.injEq]at ho;subst ho;refine⟨rfl,?_⟩;obtain⟨he0,he3,hec,hef⟩:=hev.f4 a0 a3 krA krA)
  clear he3 hec hef hev
  go_simp
  exact⟨hR,au _ brf,rfl⟩
  (simp only[gE3,Option.some.injEq]at ho;subst ho;refine⟨rfl,?_⟩;obtain⟨he0,he3,hec,hef⟩:=hev.f4 a0 a3 krA krA)
  have d:=hev.dep 1 81 krA (by rfl)
  replace d:e (.tmp 81)=_:=d
  clear he0 he3 hev
  go_simp
  simp only[gz]
  refine(aA g b 3 _ hR.mem.tape omA omA).mono ?_
  rintro x u' ⟨z,rfl,hz,hk',hg'⟩
  exact⟨_,rfl,hR.call hgl hg' hk',hg',z,by rcases hz with h|h<;>omega,rfl⟩
  (simp only[gE3,Option.some.injEq]at ho;subst ho;refine⟨rfl,?_⟩;obtain⟨he0,he3,hec,hef⟩:=hev.f4 a0 a3 krA krA)
  obtain⟨B,hB,h1,h2⟩:=hev.dep 0 80 krA (by rfl)
  obtain⟨z,hz,h3⟩:=hev.dep 2 82 krA (by rfl)
  clear he0 he3 hev
  have hzi:(z:Int)<3:=by omega
  go_simp
  exact⟨hR,au _ brf,B,z,hB,hz,rfl,h2⟩
  (simp only[gE3,Option.some.injEq]at ho;subst ho;refine⟨rfl,?_⟩;obtain⟨he0,he3,hec,hef⟩:=hev.f4 a0 a3 krA krA)
  obtain⟨B,i,hB,hi2,h1,h2⟩:=hev.dep 3 83 krA (by rfl)
  clear he0 he3 hev
  obtain⟨s,hs,hc⟩:∃s:ByteArray,s.size≤1000∧u.cell? ⟨B,i,none⟩=some (.string s):=by
   rw[h2.cell]
   simp only[List.size_toArray,List.length_cons,List.length_nil]at hi2
   rcases(show i=0∨i=1∨i=2 by omega) with rfl|rfl|rfl
   all_goals exact⟨_,by decide,rfl⟩
  go_simp
  exact⟨hR,au _ brf,s,hs,rfl⟩
  (simp only[gE3,Option.some.injEq]at ho;subst ho;refine⟨rfl,?_⟩;obtain⟨he0,he3,hec,hef⟩:=hev.f4 a0 a3 krA krA)
  clear he3 hec hef hev
  go_simp
  exact⟨hR,au _ brf,rfl⟩
  (simp only[gE3,Option.some.injEq]at ho;subst ho;refine⟨rfl,?_⟩;obtain⟨he0,he3,hec,hef⟩:=hev.f4 a0 a3 krA krA)
  have d:=hev.dep 5 85 krA (by rfl)
  replace d:e (.tmp 85)=_:=d
  clear he0 he3 hev
  go_simp
  simp only[gz]
  refine(aA g b 3 _ hR.mem.tape omA omA).mono ?_
  rintro x u' ⟨z,rfl,hz,hk',hg'⟩
  exact⟨_,rfl,hR.call hgl hg' hk',hg',z,by rcases hz with h|h<;>omega,rfl⟩
  (simp only[gE3,Option.some.injEq]at ho;subst ho;refine⟨rfl,?_⟩;obtain⟨he0,he3,hec,hef⟩:=hev.f4 a0 a3 krA krA)
  obtain⟨z,hz,h1⟩:=hev.dep 6 86 krA (by rfl)
  clear he0 he3 hev
  go_simp
  exact⟨hR,au _ brf,_,rfl⟩
  (simp only[gE3,Option.some.injEq]at ho;subst ho;refine⟨rfl,?_⟩;obtain⟨he0,he3,hec,hef⟩:=hev.f4 a0 a3 krA krA)
  obtain⟨s,hs,e0⟩:=hev.dep 4 84 krA (by rfl)
  obtain⟨z,e1⟩:=hev.dep 7 87 krA (by rfl)
  clear he0 he3 hev
  go_simp
  exact⟨hR,au _ brf,_,⟨⟨⟨#[114]⟩,s,z⟩,by show 1≤1000;omega,hs,rfl⟩,rfl⟩
  (simp only[gE3,Option.some.injEq]at ho;subst ho;refine⟨rfl,?_⟩;obtain⟨he0,he3,hec,hef⟩:=hev.f4 a0 a3 krA krA)
  obtain⟨cs,⟨⟨xn,xs,xt⟩,hx1,hx2,rfl⟩,h1⟩:=hev.dep 8 88 krA (by rfl)
  simp only[Rel.cells]at h1
  clear he0 he3 hev
  go_simp
  exact⟨hR.alloc _,au _ (brf.alloc nlr _),u.heap.size,_,hR.res.lt,⟨⟨xn,xs,xt⟩,hx1,hx2,rfl⟩,rfl,Blk.new _ _ _⟩
  (simp only[gE3,Option.some.injEq]at ho;subst ho;refine⟨rfl,?_⟩;obtain⟨he0,he3,hec,hef⟩:=hev.f4 a0 a3 krA krA)
  clear he0 hec hef hev
  go_simp
  exact⟨hR,au _ brf,rfl⟩
  ·omega
 ·intro o ho e u hR hev
  (simp only[gE3,Option.some.injEq]at ho;subst ho;refine⟨rfl,?_⟩;obtain⟨he0,he3,hec,hef⟩:=hev.f4 a0 a3 krA krA)
  obtain⟨B,cs,hB,⟨x,hx1,hx2,rfl⟩,h1,h2⟩:=hev.dep 9 89 krA (by rfl)
  have h3:=hev.dep 10 90 krA (by rfl)
  replace h3:e (.tmp 90)=_:=h3
  have hc:=hR.mem.cat.cell 5
  have hf:=hR.mem.cat.frozen 5
  simp only[gE3]at hc
  clear he0 he3 hev
  go_simp
  exact⟨some ⟨B,0,none⟩,x,hR.put hgl hbl spA ⟨hR.inw.idx,hR.inw.skt,hR.inw.cch,Blk.one (enc:=Rel.cells) h2 h2.lt,hR.inw.str,hR.inw.bak⟩ ⟨hR.up.idx,hR.up.skt,hR.up.cch,(fun a ha=>by injection ha with ha;subst ha;exact hB),hR.up.str,hR.up.bak⟩
   ⟨hR.bZ.idx,hR.bZ.skt,hR.bZ.cch,spA,hR.bZ.str,hR.bZ.bak,(fun y hy=>by
    simp only[Oth.names,List.map_cons,List.map_nil,List.nil_append,List.append_nil,List.cons_append,List.mem_cons,List.not_mem_nil,or_false]at hy
    rcases hy with rfl
    ·exact Nat.le_trans hx1 omA),hR.bZ.Ia,hR.bZ.G9,hR.bZ.II,(fun y hy=>by rw[List.mem_singleton.1 hy];exact Nat.le_trans hx2 omA)⟩⟩
 ·intro X u hX hf hL
  obtain⟨a,x,h⟩:=hL
  exact hK X u a x eJ (hf 0 krA) (hf 3 krA) (hf 4 krA) h
def OQ(cs:Array Value):Prop:= ∃x:Bak,x.name.size≤1000∧cs=(Bak.cells x).toArray
theorem Hf(T:Array Value)(w W:World)(g b b1 b2 cT cC r:Nat)(vA:Option Addr)(vc:Nat)(ts:List Tab)(t0:Tab)(af:List Col)(rA:Option Addr)(xr:Rel)(K:Exit→Act→World→Prop)(hsz:T.size=290)(g0:T[0]?=some (.pointer (some ⟨g,0,none⟩)))(g3:T[3]?=some (.pointer (some ⟨w.heap.size,0,none⟩)))
 (hgl:g<w.heap.size) (hbl:b<w.heap.size) (hI:SpO w W g b b1 b2 cT cC r ts t0 af ⟨vA,vc,none,0,[],none,0,[],none,0,[],rA,1,[xr],none,0,[],none,0,[]⟩)
 (hK:∀X u a x,X.size=290→X[0]?=T[0]? → X[3]?=T[3]? → X[4]?=T[4]? → SpO w u g b b1 b2 cT cC r ts t0 af ⟨vA,vc,none,0,[],none,0,[],none,0,[],rA,1,[xr],none,0,[],a,1,[x]⟩→K .normal ⟨X,[]⟩ u):
 Code.wp Tryz.prog (wV Tryz.f13 15) K ⟨T,[]⟩ W:=by
 have hwz:=hI.mem.grown.size
 have a0:(⟨T,[]⟩:Act).eval (.tmp 0)=.pointer (some ⟨g,0,none⟩):=by rw[gF];simp[g0]
 have a3:(⟨T,[]⟩:Act).eval (.tmp 3)=.pointer (some ⟨w.heap.size,0,none⟩):=by rw[gF];simp[g3]
 conv=>arg 2;whnf
 refine lJ 16 (fun u=>SpO w u g b b1 b2 cT cC r ts t0 af ⟨vA,vc,none,0,[],none,0,[],none,0,[],rA,1,[xr],none,0,[],none,0,[]⟩) (fun u u'=>u.grownBy u' (some g)) (fun u =>∃a x,SpO w u g b b1 b2 cT cC r ts t0 af ⟨vA,vc,none,0,[],none,0,[],none,0,[],rA,1,[xr],none,0,[],a,1,[x]⟩)
  (lX (w.heap.size+2) [.arr 9 #[.string ⟨#[114]⟩,.string ⟨#[98]⟩],.ptr ⟨g,0,none⟩,.nat 2,.pos 9 #[.string ⟨#[114]⟩,.string ⟨#[98]⟩],.str,.arr 9 #[.string ⟨#[116,48]⟩,.string ⟨#[116,49]⟩,.string ⟨#[118,48]⟩],.ptr ⟨g,0,none⟩,.nat 3,.pos 9 #[.string ⟨#[116,48]⟩,.string ⟨#[116,49]⟩,.string ⟨#[118,48]⟩],.str,.slc,.ptr ⟨g,0,none⟩,.nat 2,.agg OQ,.one 117 OQ,.ptr ⟨w.heap.size,7,none⟩])
  krA krA krA krA krA eI (fun k v u u' h _ hg=>h.grown hg omA) (hI.below brf.drew) ?_ ?_ ?_
 ·intro i hi o ho e u hR hev
  rcases i with _|_|_|_|_|_|_|_|_|_|_|_|_|_|_|_|i
  (simp only[gE3,Option.some.injEq]at ho;subst ho;refine⟨rfl,?_⟩;obtain⟨he0,he3,hec,hef⟩:=hev.f4 a0 a3 krA krA)
  clear he0 he3 hev
  go_simp
  exact⟨hR.alloc _,au _ (brf.alloc nlr _),u.heap.size,hR.res.lt,rfl,Blk.new _ _ _⟩
  (simp only[gE3,Option.some.injEq]at ho;subst ho;refine⟨rfl,?_⟩;obtain⟨he0,he3,hec,hef⟩:=hev.f4 a0 a3 krA krA)
  clear he3 hec hef hev
  go_simp
  exact⟨hR,au _ brf,rfl⟩
  (simp only[gE3,Option.some.injEq]at ho;subst ho;refine⟨rfl,?_⟩;obtain⟨he0,he3,hec,hef⟩:=hev.f4 a0 a3 krA krA)
  have d:=hev.dep 1 92 krA (by rfl)
  replace d:e (.tmp 92)=_:=d
  clear he0 he3 hev
  go_simp
  simp only[gz]
  refine(aA g b 2 _ hR.mem.tape omA omA).mono ?_
  rintro x u' ⟨z,rfl,hz,hk',hg'⟩
  exact⟨_,rfl,hR.call hgl hg' hk',hg',z,by rcases hz with h|h<;>omega,rfl⟩
  (simp only[gE3,Option.some.injEq]at ho;subst ho;refine⟨rfl,?_⟩;obtain⟨he0,he3,hec,hef⟩:=hev.f4 a0 a3 krA krA)
  obtain⟨B,hB,h1,h2⟩:=hev.dep 0 91 krA (by rfl)
  obtain⟨z,hz,h3⟩:=hev.dep 2 93 krA (by rfl)
  clear he0 he3 hev
  have hzi:(z:Int)<2:=by omega
  go_simp
  exact⟨hR,au _ brf,B,z,hB,hz,rfl,h2⟩
  (simp only[gE3,Option.some.injEq]at ho;subst ho;refine⟨rfl,?_⟩;obtain⟨he0,he3,hec,hef⟩:=hev.f4 a0 a3 krA krA)
  obtain⟨B,i,hB,hi2,h1,h2⟩:=hev.dep 3 94 krA (by rfl)
  clear he0 he3 hev
  obtain⟨s,hs,hc⟩:∃s:ByteArray,s.size≤1000∧u.cell? ⟨B,i,none⟩=some (.string s):=by
   rw[h2.cell]
   simp only[List.size_toArray,List.length_cons,List.length_nil]at hi2
   rcases(show i=0∨i=1 by omega) with rfl|rfl
   all_goals exact⟨_,by decide,rfl⟩
  go_simp
  exact⟨hR,au _ brf,s,hs,rfl⟩
  (simp only[gE3,Option.some.injEq]at ho;subst ho;refine⟨rfl,?_⟩;obtain⟨he0,he3,hec,hef⟩:=hev.f4 a0 a3 krA krA)
  clear he0 he3 hev
  go_simp
  exact⟨hR.alloc _,au _ (brf.alloc nlr _),u.heap.size,hR.res.lt,rfl,Blk.new _ _ _⟩
  (simp only[gE3,Option.some.injEq]at ho;subst ho;refine⟨rfl,?_⟩;obtain⟨he0,he3,hec,hef⟩:=hev.f4 a0 a3 krA krA)
  clear he3 hec hef hev
  go_simp
  exact⟨hR,au _ brf,rfl⟩
  (simp only[gE3,Option.some.injEq]at ho;subst ho;refine⟨rfl,?_⟩;obtain⟨he0,he3,hec,hef⟩:=hev.f4 a0 a3 krA krA)
  have d:=hev.dep 6 97 krA (by rfl)
  replace d:e (.tmp 97)=_:=d
  clear he0 he3 hev
  go_simp
  simp only[gz]
  refine(aA g b 3 _ hR.mem.tape omA omA).mono ?_
  rintro x u' ⟨z,rfl,hz,hk',hg'⟩
  exact⟨_,rfl,hR.call hgl hg' hk',hg',z,by rcases hz with h|h<;>omega,rfl⟩
  (simp only[gE3,Option.some.injEq]at ho;subst ho;refine⟨rfl,?_⟩;obtain⟨he0,he3,hec,hef⟩:=hev.f4 a0 a3 krA krA)
  obtain⟨B,hB,h1,h2⟩:=hev.dep 5 96 krA (by rfl)
  obtain⟨z,hz,h3⟩:=hev.dep 7 98 krA (by rfl)
  clear he0 he3 hev
  have hzi:(z:Int)<3:=by omega
  go_simp
  exact⟨hR,au _ brf,B,z,hB,hz,rfl,h2⟩
  (simp only[gE3,Option.some.injEq]at ho;subst ho;refine⟨rfl,?_⟩;obtain⟨he0,he3,hec,hef⟩:=hev.f4 a0 a3 krA krA)
  obtain⟨B,i,hB,hi2,h1,h2⟩:=hev.dep 8 99 krA (by rfl)
  clear he0 he3 hev
  obtain⟨s,hs,hc⟩:∃s:ByteArray,s.size≤1000∧u.cell? ⟨B,i,none⟩=some (.string s):=by
   rw[h2.cell]
   simp only[List.size_toArray,List.length_cons,List.length_nil]at hi2
   rcases(show i=0∨i=1∨i=2 by omega) with rfl|rfl|rfl
   all_goals exact⟨_,by decide,rfl⟩
  go_simp
  exact⟨hR,au _ brf,s,hs,rfl⟩
  (simp only[gE3,Option.some.injEq]at ho;subst ho;refine⟨rfl,?_⟩;obtain⟨he0,he3,hec,hef⟩:=hev.f4 a0 a3 krA krA)
  obtain⟨s,hs,e1⟩:=hev.dep 9 100 krA (by rfl)
  clear he0 he3 hev
  go_simp
  exact⟨hR.alloc _,au _ (brf.alloc nlr _),_,_,_,rfl⟩
  (simp only[gE3,Option.some.injEq]at ho;subst ho;refine⟨rfl,?_⟩;obtain⟨he0,he3,hec,hef⟩:=hev.f4 a0 a3 krA krA)
  clear he3 hec hef hev
  go_simp
  exact⟨hR,au _ brf,rfl⟩
  (simp only[gE3,Option.some.injEq]at ho;subst ho;refine⟨rfl,?_⟩;obtain⟨he0,he3,hec,hef⟩:=hev.f4 a0 a3 krA krA)
  have d:=hev.dep 11 102 krA (by rfl)
  replace d:e (.tmp 102)=_:=d
  clear he0 he3 hev
  go_simp
  simp only[gz]
  refine(aA g b 2 _ hR.mem.tape omA omA).mono ?_
  rintro x u' ⟨z,rfl,hz,hk',hg'⟩
  exact⟨_,rfl,hR.call hgl hg' hk',hg',z,by rcases hz with h|h<;>omega,rfl⟩
  (simp only[gE3,Option.some.injEq]at ho;subst ho;refine⟨rfl,?_⟩;obtain⟨he0,he3,hec,hef⟩:=hev.f4 a0 a3 krA krA)
  obtain⟨s,hs,e0⟩:=hev.dep 4 95 krA (by rfl)
  obtain⟨lA,ln,lc,e1⟩:=hev.dep 10 101 krA (by rfl)
  obtain⟨z,hz,e2⟩:=hev.dep 12 103 krA (by rfl)
  clear he0 he3 hev
  go_simp
  exact⟨hR,au _ brf,_,⟨⟨s,lA,ln,lc,z⟩,hs,rfl⟩,rfl⟩
  (simp only[gE3,Option.some.injEq]at ho;subst ho;refine⟨rfl,?_⟩;obtain⟨he0,he3,hec,hef⟩:=hev.f4 a0 a3 krA krA)
  obtain⟨cs,⟨⟨xn,xA,xl,xc,xk⟩,hx1,rfl⟩,h1⟩:=hev.dep 13 104 krA (by rfl)
  simp only[Bak.cells]at h1
  clear he0 he3 hev
  go_simp
  exact⟨hR.alloc _,au _ (brf.alloc nlr _),u.heap.size,_,hR.res.lt,⟨⟨xn,xA,xl,xc,xk⟩,hx1,rfl⟩,rfl,Blk.new _ _ _⟩
  (simp only[gE3,Option.some.injEq]at ho;subst ho;refine⟨rfl,?_⟩;obtain⟨he0,he3,hec,hef⟩:=hev.f4 a0 a3 krA krA)
  clear he0 hec hef hev
  go_simp
  exact⟨hR,au _ brf,rfl⟩
  ·omega
 ·intro o ho e u hR hev
  (simp only[gE3,Option.some.injEq]at ho;subst ho;refine⟨rfl,?_⟩;obtain⟨he0,he3,hec,hef⟩:=hev.f4 a0 a3 krA krA)
  obtain⟨B,cs,hB,⟨x,hx1,rfl⟩,h1,h2⟩:=hev.dep 14 105 krA (by rfl)
  have h3:=hev.dep 15 106 krA (by rfl)
  replace h3:e (.tmp 106)=_:=h3
  have hc:=hR.mem.cat.cell 7
  have hf:=hR.mem.cat.frozen 7
  simp only[gE3]at hc
  clear he0 he3 hev
  go_simp
  exact⟨some ⟨B,0,none⟩,x,hR.put hgl hbl spA ⟨hR.inw.idx,hR.inw.skt,hR.inw.cch,hR.inw.rel,hR.inw.str,Blk.one (enc:=Bak.cells) h2 h2.lt⟩ ⟨hR.up.idx,hR.up.skt,hR.up.cch,hR.up.rel,hR.up.str,(fun a ha=>by injection ha with ha;subst ha;exact hB)⟩
   ⟨hR.bZ.idx,hR.bZ.skt,hR.bZ.cch,hR.bZ.rel,hR.bZ.str,spA,(fun y hy=>by
    simp only[Oth.names,List.map_cons,List.map_nil,List.nil_append,List.append_nil,List.cons_append,List.mem_cons,List.not_mem_nil,or_false]at hy
    rcases hy with rfl|rfl
    ·exact hR.bZ.names _ (by simp[Oth.names])
    ·exact Nat.le_trans hx1 omA),hR.bZ.Ia,hR.bZ.G9,hR.bZ.II,hR.bZ.Hm⟩⟩
 ·intro X u hX hf hL
  obtain⟨a,x,h⟩:=hL
  exact hK X u a x eJ (hf 0 krA) (hf 3 krA) (hf 4 krA) h
end Go.Proofs.YtebippoohpnjkaaGreat
