/-
  Contracts and plain laws of this seat, part 2.
-/
import Derived.Test.YtjidligipoldeaaGreatT1
import Derived.Sort.OwnSortedInts
set_option linter.unusedVariables false
set_option linter.unusedSimpArgs false
set_option maxRecDepth 100000
set_option maxHeartbeats 16000000
namespace Go.Proofs.YtjidligipoldeaaGreat
open Go.RowKit
section
variable {α:Type}{w w':World}{base:Nat}{e:TypeId}{enc:α→List Value}{k g cap:Nat}{l:List α}
theorem aj.Vu(hk:∀x,(enc x).length=k)(h:aj w base e enc k (.slice (some ⟨g,0,none⟩) l.length cap) l){i:Nat}(hi:i<l.length){j:Nat}{u:Value}(hu:(enc l[i])[j]?=some u):w.cell? ⟨g,i*k+j,none⟩=some u:=by
 have hj:j<k:=by rw[←hk l[i]];exact(List.getElem?_eq_some_iff.1 hu).1
 have hlt:i*k+j<l.length*k:=by
  have:(i+1)*k≤l.length*k:=Nat.mul_le_mul_right k hi
  rw[Nat.add_mul,Nat.one_mul]at this
  omega
 rw[World.ownsRow.cellAt h _ hlt]
 exact flat_get hk l i hi j u hu
theorem aj.frz(h:aj w base e enc k (.slice (some ⟨g,0,none⟩) l.length cap) l)(j:Nat):w.frozen? ⟨g,j,none⟩=false:=World.ownsRow.frozenAt h j
theorem aj.Sn(h:aj w base e enc k (.slice (some ⟨g,0,none⟩) l.length cap) l):base≤g∧g<w.heap.size:=by
 obtain⟨A,c,hv,_,hA⟩:=h.form
 injection hv with h1
 exact hA _ h1.symm
theorem aj.Sm(h:aj w base e enc k (.slice (some ⟨g,0,none⟩) l.length cap) l):l.length≤cap:=by
 rcases h.2 with ⟨h',_⟩|⟨g',cap',cur,h',_,_,hn,_⟩
 ·simp at h'
 ·injection h' with _ _ h3
  omega
theorem aj.beyond(h:aj w base e enc k (.slice (some ⟨g,0,none⟩) l.length cap) l){o:Nat}(ho:l.length*k≤o)(u:Value):aj (w.setCell ⟨g,o,none⟩ u) base e enc k (.slice (some ⟨g,0,none⟩) l.length cap) l∧w.grownBy (w.setCell ⟨g,o,none⟩ u) (some g):=by
 obtain⟨h1,h2⟩:=World.ownsRow.stored h o u
 refine⟨?_,h2⟩
 have e:(l.flatMap enc).set o u=l.flatMap enc:=List.set_eq_of_length_le (by rw[h.1];exact ho)
 unfold aj
 rw[←e]
 exact h1
theorem aj.BZ:∀(vs:List Value) {w:World}{o:Nat},aj w base e enc k (.slice (some ⟨g,0,none⟩) l.length cap) l→l.length*k≤o→aj (w.setCells g o vs) base e enc k (.slice (some ⟨g,0,none⟩) l.length cap) l∧w.grownBy (w.setCells g o vs) (some g)
 | [],w,o,h,_=>⟨h,World.grownBy.refl _ _⟩
 | v::vs,w,o,h,ho=>by
   obtain⟨h1,h2⟩:=h.beyond ho v
   obtain⟨h3,h4⟩:=aj.BZ vs h1 (by omega:l.length*k≤o+1)
   exact⟨h3,au h2 h4⟩
theorem aj.cut(hk:∀x,(enc x).length=k)(h:aj w base e enc k (.slice (some ⟨g,0,none⟩) l.length cap) l){m:Nat}(hm:m≤l.length):aj w base e enc k (.slice (some ⟨g,0,none⟩) m cap) (l.take m):=by
 have hlen:(l.take m).length=m:=by simp;omega
 rcases h.2 with ⟨h',_⟩|⟨g',cap',cur,h',hb,hg,hn,hcm,hcs,ht⟩
 ·simp at h'
 ·injection h' with h1 _ h3
  injection h1 with h1
  injection h1 with h1
  subst h1 h3
  refine⟨by rw[dx hk],.inr ⟨g,cap,cur,by rw[hlen],hb,hg,by omega,hcm,hcs,?_⟩⟩
  have e1:(l.take m).flatMap enc=(l.flatMap enc).take (m*k):=by
   have e2:l.flatMap enc=(l.take m).flatMap enc++(l.drop m).flatMap enc:=by rw[←List.flatMap_append,List.take_append_drop]
   rw[e2,List.take_left' (by rw[dx hk,hlen])]
  rw[e1,←ht,List.take_take,hlen]
  congr 1
  have:m*k≤l.length*k:=Nat.mul_le_mul_right k hm
  omega
end
theorem oJ{P:Program}{n:Nat}(w:World)(t e ty:TypeId)(z:Value)(ht:P.underlying t=some (.slice e))(hv:∀w,(zeroValue e).run P w=.ok z w)(hz1:∀u∈(Builtin.zeroCells z.cells n).toList,u.oneCell'=true)(b o c:Nat)(hn:0<n)
 (hc:∀j,j<(Builtin.zeroCells z.cells n).toList.length→(w.cell? ⟨b,o+j,none⟩).isSome=true) (hf:∀j,j<(Builtin.zeroCells z.cells n).toList.length→w.frozen? ⟨b,o+j,none⟩=false):
 (Builtin.clear_ #[t] ty #[.slice (some ⟨b,o,none⟩) n c]).run P w=.ok (.tuple #[]) (w.setCells b o (Builtin.zeroCells z.cells n).toList):=by
 have hst:=run_storeCells_cells (P:=P) b o (Builtin.zeroCells z.cells n).toList 0 w (by simpa using hc) (by simpa using hf) hz1
 simp only[Nat.add_zero]at hst
 obtain⟨m,rfl⟩:∃m,n=m+1:=⟨n-1,by omega⟩
 simp[Builtin.clear_,run_underlying ht,hv,hst]
def Pk(l:List Ident):Nat→List Ident
 | 0 =>[]
 | m + 1=>match l[m]? with
   | none=>Pk l m
   | some x=>if m = 0 then [x] else match l[m - 1]? with
     | none=>Pk l m
     | some y=>if Vz x y=0 then Pk l m else Pk l m ++ [x]
theorem rH{z:Array Value}{n:Nat}{u:Value}(hz:0<z.size)(h:u∈(Builtin.zeroCells z n).toList):u∈z.toList:=by
 unfold Builtin.zeroCells at h
 rw[Array.toList_map,List.mem_map]at h
 obtain⟨i,_,rfl⟩:=h
 have hi:i % z.size<z.size:=Nat.mod_lt _ hz
 rw[getElem!_pos z _ hi]
 exact Array.getElem_mem_toList hi
open Go.RowKit Go.Shelf Go.Sort
instance:Inhabited Ident:=⟨⟨⟨#[]⟩,⟨0,0,⟨#[]⟩⟩⟩⟩
theorem aj.pE{α:Type}{w:World}{base:Nat}{e:TypeId}{enc:α→List Value}{k:Nat}{v:Value}{l:List α}(h:aj w base e enc k v l)(h0:0<l.length):∃g cap,v=.slice (some ⟨g,0,none⟩) l.length cap∧base≤g:=by
 rcases h.2 with ⟨_,h1⟩|⟨g,cap,cur,rfl,hb,_⟩
 ·omega
 ·exact⟨g,cap,rfl,hb⟩
theorem aj.far{α:Type}{w:World}{base:Nat}{e:TypeId}{enc:α→List Value}{k:Nat}{v:Value}{l:List α}(h:aj w base e enc k v l){p:Addr}(hp:∀g,v.ownBlock=some g→g≠p.block)(u:Value):aj (w.setCell p u) base e enc k v l:=by
 refine⟨h.1,?_⟩
 rcases h.2 with h1|⟨g,cap,cur,rfl,hbs,hg,hr⟩
 ·exact .inl h1
 ·refine .inr ⟨g,cap,cur,rfl,hbs,?_,hr⟩
  rw[Below.heap_setCell w p u g (hp g rfl)]
  exact hg
theorem aj.lt{α:Type}{w:World}{base:Nat}{e:TypeId}{enc:α→List Value}{k:Nat}{v:Value}{l:List α}(h:aj w base e enc k v l):∀g,v.ownBlock=some g→g<w.heap.size:=by
 intro g hg
 obtain⟨A,c,rfl,_,hA⟩:=h.form
 cases A with
 | none=>simp[Value.ownBlock]at hg
 | some a =>
   have:a.block=g:=by simpa[Value.ownBlock]using hg
   rw[←this]
   exact(hA a rfl).2
theorem ag.far{α:Type}{w:World}{B:Nat}{enc:α→List Value}{k:Nat}{A:Option Addr}{l:List α}(h:ag w B enc k A l){p:Addr}(hp:∀a,A=some a→a.block≠p.block)(u:Value):ag (w.setCell p u) B enc k A l:=by
 intro hl
 obtain⟨b,o,rfl,hB,hc⟩:=h hl
 exact⟨b,o,rfl,hB,fun i hi j u' hu=>(World.cell?_of_block (Below.heap_setCell w p u b (hp _ rfl))).trans (hc i hi j u' hu)⟩
structure Sq (w:World) (g:Nat) (f:List Nat) where
 u:World
 h:Ns w g f→∃f',Ns u g f'∧qK f f'
 k:w.grownBy u (some g)
theorem gL(w:World)(row:Option Nat):w.grownBy w row:=⟨rfl,rfl,rfl,Nat.le_refl _,fun _ _ _=>rfl⟩
instance (w:World) (g:Nat) (f:List Nat):Inhabited (Sq w g f):=⟨⟨w,fun h=>⟨f,h,qK.refl f⟩,gL w _⟩⟩
theorem Blk.list{α:Type}{w:World}{g B:Nat}{t:TypeId}{enc:α→List Value}{k:Nat}{l:List α}(hk:∀x,(enc x).length=k)(h:Blk w g t (l.flatMap enc).toArray)(hB:g<B):ag w B enc k (some ⟨g,0,none⟩) l:=fun _ =>
 ⟨g,0,rfl,hB,fun i hi j u hu=>by
  have h0:=flat_get hk l i hi j u hu
  rw[Blk.cell h,Nat.zero_add]
  simpa using h0⟩
def G5(i:Nat):Ident:=⟨⟨#[110]⟩,⟨1,i,⟨#[]⟩⟩⟩
def Jl(i:Nat):Link:=⟨G5 i,G5 (i+1),((i+1:Nat):Int),false⟩
def chain(n:Nat):List Link:=(List.range n).map Jl
structure aP (w:World) (g b:Nat):Prop where
 ne:b≠g
 lt:b<w.heap.size
 is:∃(n c at_:Nat) (zs:List Int),Blk w g 114 #[.slice (some ⟨b,0,none⟩) n c,.int .i64 at_]∧n≤20000000000000∧at_≤4*n∧zs.length=n ∧ ∀i (h:i<zs.length),w.cell? ⟨b,i,none⟩=some (.int .i64 zs[i])
theorem aP.ltg{w:World}{g b:Nat}(h:aP w g b):g<w.heap.size:=by
 obtain⟨_,_,_,_,hB,_⟩:=h.is
 exact hB.lt
theorem aP.below{w w':World}{g b:Nat}(h:aP w g b)(hb:Below w.heap.size w w'):aP w' g b:=by
 obtain⟨n,c,a,zs,hB,h1,h2,h3,h4⟩:=h.is
 exact⟨h.ne,Nat.lt_of_lt_of_le h.lt hb.size,n,c,a,zs,hB.below hb hB.lt,h1,h2,h3,fun i hi=>(hb.cell (p:=⟨b,i,none⟩) h.lt).trans (h4 i hi)⟩
theorem aP.grown{w w':World}{g b r:Nat}(h:aP w g b)(hb:w.grownBy w' (some r))(hg:r≠g)(hr:r≠b):aP w' g b:=by
 obtain⟨n,c,a,zs,hB,h1,h2,h3,h4⟩:=h.is
 exact⟨h.ne,Nat.lt_of_lt_of_le h.lt hb.size,n,c,a,zs,hB.grown hb (fun e=>by injection e with e;exact hg e.symm),h1,h2,h3,fun i hi=>(World.cell?_of_block (hb.block b h.lt (fun e=>by injection e with e;exact hr e.symm))).trans (h4 i hi)⟩
theorem ag.grown{α:Type}{w w':World}{enc:α→List Value}{k:Nat}{A:Option Addr}{l:List α}{row:Option Nat}(h:ag w w.heap.size enc k A l)(hg:w.grownBy w' row)(hA:∀a,A=some a→some a.block≠row):ag w' w'.heap.size enc k A l:=by
 intro hl
 obtain⟨b,o,rfl,hB,hc⟩:=h hl
 exact⟨b,o,rfl,Nat.lt_of_lt_of_le hB hg.size,fun i hi j u hu=>(World.cell?_of_block (hg.block b hB (hA _ rfl))).trans (hc i hi j u hu)⟩
def intCells(x:Int):List Value:= [.int .i64 x]
theorem bE:∀x:Int,(intCells x).length=1:=fun _=>rfl
theorem dZ:∀x:Int,∀u∈intCells x,u.oneCell'=true:=by
 intro x u hu
 simp only[intCells,List.mem_singleton]at hu
 subst hu
 rfl
theorem kY:(Tryz.prog.info? 3).map (fun i=>(i.zero,i.size,i.bytes))=some (some (.int .i64 0),1,8):=by kernel_rfl
theorem aj.zU{α:Type}{w:World}{base:Nat}{e:TypeId}{enc:α→List Value}{k:Nat}{v:Value}{l:List α}(h:aj w base e enc k v l){q:Nat}(hv:v.ownBlock=some q):∃g cap,v=.slice (some ⟨g,0,none⟩) l.length cap∧base≤g:=by
 rcases h.2 with ⟨rfl,_⟩|⟨g,cap,cur,rfl,hb,_⟩
 ·simp[Value.ownBlock]at hv
 ·exact⟨g,cap,rfl,hb⟩
theorem KJ(A:Option Addr)(c:Nat)(l:List Int)(w:World)(hl:ag w w.heap.size intCells 1 A l)(hn:l.length*8≤140737488351232):
 Calls Tryz.prog 24 #[.slice A l.length c] w fun e w' =>
  (∃g b,e=.returned (.pointer (some ⟨g,0,none⟩))∧w.heap.size≤g∧w.heap.size≤b∧aP w' g b)∧Below w.heap.size w w':=by
 obtain⟨i0,hi0,hz0,hz1,hz2⟩:=info_parts kY
 go_enter Tryz.func24,Tryz.ntmps24
 go_wp2_with ((at_builtin;go_must (refine aO _ rfl (.tmp 3) (.tmp 4) 22 rfl 3 i0 _ intCells 1 8 Tryz.underlying22 hi0 hz0 hz1 hz2 rfl omA bE dZ w.heap.size (.slice (some ⟨w.heap.size,0,none⟩) 0 0) [] rfl (aj.empty (Blk.new' rfl) nlr) _ _ _ l rfl rfl (hl.next ai) smA mxA spA ?_);intro v' w1 hown' hg' hat';have hbel:Below w.heap.size w w1:=Below.grown ai hg' spA (bX nlr);rw[List.nil_append]at hown';obtain⟨b,cap,rfl,hbb⟩:=hat'.elim (fun h=>hown'.zU h) (fun h=>hown'.zU h);have HOWN':=qh hown';clear hown'))
 go_ret
 obtain⟨A2,c2,e2,_,hs2,hA2⟩:=HOWN'.out.slice bE
 injection e2 with e2 _ _
 subst e2
 refine⟨⟨w1.heap.size,b,rfl,hbel.size,hbb,⟨?_,?_,l.length,cap,0,l,Blk.new _ _ _,by omega,by omega,rfl,fun i hi =>?_⟩⟩,hbel.alloc hbel.size _⟩
 ·have:=(hA2 _ rfl).2;simp at this;omega
 ·have:=(hA2 _ rfl).2;simp at this ⊢;omega
 ·obtain⟨b',o',e',hb',hc'⟩:=hs2 omA
  injection e' with e'
  injection e' with e1 e2
  subst e1 e2
  have:=hc' i hi 0 _ rfl
  have hlt:=(hA2 _ rfl).2
  have h2:=(Below.refl w1.heap.size w1).alloc nlr (.cells #[.slice (some ⟨b,0,none⟩) l.length cap,.int .i64 0] 114)
  refine(h2.cell (p:=⟨b,i,none⟩) hlt).trans ?_
  simpa using this
def Nq(n:Int)(r:Nat):Prop:=r=0∨(r:Int)<n
theorem KI(x n:Int)(hn:2≤n):∃r:Nat,(x.tmod n+n).tmod n=r∧(r:Int)<n:=by
 have h1:=Int.tmod_lt_of_pos x (show 0<n by omega)
 have h2:- n<x.tmod n:=by
  have h5:=Int.tmod_lt_of_pos (-x) (show 0<n by omega)
  rw[Int.neg_tmod]at h5
  omega
 have h3:=Int.tmod_lt_of_pos (x.tmod n+n) (show 0<n by omega)
 have h4:=Int.tmod_nonneg n (show 0≤x.tmod n+n by omega)
 exact⟨((x.tmod n+n).tmod n).toNat,by omega,by omega⟩
theorem Ho(x n:Int)(hn:2≤n)(hn2:n≤1000000):∃r:Nat,(wrap64 (x.tmod n+n)).tmod n=r∧(r:Int)<n:=by
 have h1:=Int.tmod_lt_of_pos x (show 0<n by omega)
 have h2:=Int.lt_tmod_of_pos x (show 0<n by omega)
 rw[show wrap64 (x.tmod n+n)=x.tmod n+n by unfold wrap64;omega]
 exact KI x n hn
theorem KG{w:World}{g b n c at_:Nat}{zs:List Int}(hne:b≠g)(hlt:b<w.heap.size)(hB:Blk w g 114 #[.slice (some ⟨b,0,none⟩) n c,.int .i64 at_])(hn:n≤20000000000000)(ha:at_+1≤4*n)(hz:zs.length=n)
 (hc:∀i (h:i<zs.length),w.cell? ⟨b,i,none⟩=some (.int .i64 zs[i])):aP (w.setCell ⟨g,1,none⟩ (.int .i64 (at_+1))) g b:=by
 refine⟨hne,by simpa using hlt,n,c,at_+1,zs,?_,hn,ha,hz,fun i hi=>(World.cell?_of_block (Below.heap_setCell w _ _ b (by simpa using hne))).trans (hc i hi)⟩
 have:=hB.aH 1 (.int .i64 (at_+1))
 simpa using this
theorem aK(g b:Nat)(n:Int)(w:World)(hk:aP w g b)(hn1:-1000000≤n)(hn2:n≤1000000):
 Calls Tryz.prog 26 #[.pointer (some ⟨g,0,none⟩),.int .i64 n] w fun e w' =>
  ∃r:Nat,e=.returned (.int .i64 r)∧Nq n r∧aP w' g b∧w.grownBy w' (some g):=by
 obtain⟨hne,hbl,len,c,at_,zs,hB,hlen,hat,hzs,hcell⟩:=hk
 have k0:=hB.cell 0
 have k1:=hB.cell 1
 have kf:=hB.frozen 1
 simp only[gE3]at k0 k1
 have hq0:=az (w:=w) g hB.lt
 have hq1:=az (w:=w) b hbl
 have HB:=qh hB
 have HC:=qh hcell
 have hgl:=hB.lt
 have hz:∀wq,Below w.heap.size w wq→aP wq g b:=fun wq hq=>aP.below ⟨hne,hbl,len,c,at_,zs,HB.out,hlen,hat,hzs,HC.out⟩ hq
 have HZ:=qh hz
 clear hB hcell hz
 by_cases h2:n<2
 ·go_enter Tryz.func26,Tryz.ntmps26
  go_wp2
  refine af krA krA ?_;(repeat(go_big_quiet_step (fail)));refine wpQuiet_nil ?_;intro wq hq
  go_wp2
  go_ret
  exact⟨0,rfl,.inl rfl,HZ.out _ hq,aL hq _⟩
 ·have h2':decide (n<2)=false:=by simpa using h2
  by_cases hl0:len=0
  ·subst hl0
   go_enter Tryz.func26,Tryz.ntmps26
   go_wp2
   refine af krA krA ?_;(repeat(go_big_quiet_step (fail)));refine wpQuiet_nil ?_;intro wq hq
   go_wp2
   go_ret
   exact⟨0,rfl,.inl rfl,HZ.out _ hq,aL hq _⟩
  ·have hl0':((len:Int) == 0)=false:=by simp;omega
   by_cases ha4:4*len≤at_
   ·have X3:(4:Int)*(len:Int)≤(at_:Int):=by omega
    go_enter Tryz.func26,Tryz.ntmps26
    go_wp2
    refine af krA krA ?_;(repeat(go_big_quiet_step (fail)));refine wpQuiet_nil ?_;intro wq hq
    go_wp2
    go_ret
    exact⟨0,rfl,.inl rfl,HZ.out _ hq,aL hq _⟩
   ·have X3:decide ((4:Int)*(len:Int)≤(at_:Int))=false:=by simp;omega
    go_enter Tryz.func26,Tryz.ntmps26
    go_wp2
    refine af krA krA ?_;(repeat(go_big_quiet_step (fail)));refine wpQuiet_nil ?_;intro wq hq
    go_wp2
    have hTq:=HZ.out _ hq
    clear hq0 hq1 k0 k1 kf
    have hBq:Blk wq g 114 #[.slice (some ⟨b,0,none⟩) len c,.int .i64 at_]:=HB.out.below hq hgl
    have hbq:b<wq.heap.size:=hTq.lt
    have k0:=hBq.cell 0
    have k1:=hBq.cell 1
    have kf:=hBq.frozen 1
    simp only[gE3]at k0 k1
    have hml:at_ % len<zs.length:=by rw[hzs];exact Nat.mod_lt _ omA
    have kz:wq.cell? ⟨b,at_ % len,none⟩=some (.int .i64 zs[at_ % len]):=(hq.cell (p:=⟨b,at_ % len,none⟩) hbl).trans (HC.out _ hml)
    have ZG:at_ % len<len:=by omega
    have hq0:=az (w:=wq) g hBq.lt
    have hq1:=az (w:=wq) b hbq
    have HBq:=qh hBq
    clear hBq
    obtain⟨z,hz⟩:∃z,zs[at_ % len]=z:=⟨_,rfl⟩
    rw[hz]at kz
    clear hz
    refine af krA krA ?_;(repeat(go_big_quiet_step (fail)));refine wpQuiet_nil ?_;intro wq2 hq2
    go_wp2
    clear hq0 hq1 k0 k1 kf kz
    have hqq:=lF hq hq2
    have aao:=HZ.out _ hqq
    have O5:Blk wq2 g 114 #[.slice (some ⟨b,0,none⟩) len c,.int .i64 at_]:=HB.out.below hqq hgl
    have k0:=O5.cell 0
    have k1:=O5.cell 1
    simp only[gE3]at k0 k1
    have hq0:=az (w:=wq2) g O5.lt
    clear O5
    refine af krA krA ?_;(repeat(go_big_quiet_step (fail)));refine wpQuiet_nil ?_;intro wq3 hq3
    have hqr:=lF hqq hq3
    have Vi:=HZ.out _ hqr
    have O4:Blk wq3 g 114 #[.slice (some ⟨b,0,none⟩) len c,.int .i64 at_]:=HB.out.below hqr hgl
    clear k0 k1 hq0
    have k1:=O4.cell 1
    have kf:=O4.frozen 1
    simp only[gE3]at k1
    have Y0:=qh O4
    have aav:=qh Vi
    clear O4
    go_wp2_with fail
    all_goals go_ret
    all_goals(obtain⟨r,hr,hrn⟩:=Ho _ n omA hn2;refine⟨r,congrArg (fun x=>Ending.returned (.int .i64 x)) hr,.inr hrn,KG hne Vi.lt Y0.out hlen omA hzs (fun i hi=>(hqr.cell (p:=⟨b,i,none⟩) hbl).trans (HC.out i hi)),ak (aL hqr _) (.inl rfl) _⟩)
theorem aP.alloc{w:World}{g b:Nat}(h:aP w g b)(o:Obj):aP (w.alloc o) g b:=h.below (brf.alloc nlr o)
theorem aP.far{w:World}{g b:Nat}(h:aP w g b){p:Addr}(hg:g≠p.block)(hb:b≠p.block)(u:Value):aP (w.setCell p u) g b:=by
 obtain⟨n,c,a,zs,hB,h1,h2,h3,h4⟩:=h.is
 exact⟨h.ne,by simpa using h.lt,n,c,a,zs,hB.far hg u,h1,h2,h3,fun i hi=>(World.cell?_of_block (Below.heap_setCell w p u b hb)).trans (h4 i hi)⟩
theorem aZ{w:World}(row:Option Nat){w':World}(h:Below w.heap.size w w'):w.grownBy w' row:=aL h row
theorem aj.grown{α:Type}{w w':World}{base:Nat}{e:TypeId}{enc:α→List Value}{k:Nat}{v:Value}{l:List α}(h:aj w base e enc k v l){r:Nat}(hg:w.grownBy w' (some r))(hr:r<base):aj w' base e enc k v l:=by
 refine⟨h.1,?_⟩
 rcases h.2 with h1|⟨g,cap,cur,rfl,hbs,hgg,hrest⟩
 ·exact .inl h1
 ·refine .inr ⟨g,cap,cur,rfl,hbs,?_,hrest⟩
  have hlt:g<w.heap.size:=by
   rcases Nat.lt_or_ge g w.heap.size with hlt|hge
   ·exact hlt
   ·rw[Array.getElem?_eq_none hge]at hgg;cases hgg
  rw[hg.block g hlt inA]
  exact hgg
theorem iq{a b c:World}{g:Nat}{row:Option Nat}(h:a.grownBy b (some g))(k:b.grownBy c row)(hr:∀q,row=some q→a.heap.size≤q):a.grownBy c (some g):=
 ⟨k.os.trans h.os,k.tape.trans h.tape,k.output.trans h.output,Nat.le_trans h.size k.size,fun i hi hne=>(k.block i (Nat.lt_of_lt_of_le hi h.size) (fun e=>by have:=hr i e.symm;omega)).trans (h.block i hi hne)⟩
theorem aP.FI{w w':World}{g b:Nat}{row:Option Nat}(h:aP w g b)(hb:w.grownBy w' row)(hg:some g≠row)(hr:some b≠row):aP w' g b:=by
 obtain⟨n,c,a,zs,hB,h1,h2,h3,h4⟩:=h.is
 exact⟨h.ne,Nat.lt_of_lt_of_le h.lt hb.size,n,c,a,zs,hB.grown hb hg,h1,h2,h3,fun i hi=>(World.cell?_of_block (hb.block b h.lt hr)).trans (h4 i hi)⟩
theorem Blk.eq{w:World}{g:Nat}{t:TypeId}{cs cs':Array Value}(h:Blk w g t cs)(e:cs=cs'):Blk w g t cs':=e▸h
theorem ah{P:World→Prop}{w:World}(R:World→Prop)(hR:R w)(h:∀u,R u→P u):P w:=h w hR
theorem Ak{α:Type}{enc:α→List Value}{k:Nat}(hk:∀x,(enc x).length=k):∀(l:List α) (i j:Nat) (x:α) (u:Value) (hi:i<l.length),j<k→enc x=(enc l[i]).set j u→(l.flatMap enc).set (i*k+j) u=(l.set i x).flatMap enc
 | y::l,0,j,x,u,_,hj,hx=>by
   rw[List.set_cons_zero,List.flatMap_cons,List.flatMap_cons,hx,Nat.zero_mul,Nat.zero_add,List.set_append_left _ _ (by rw[hk];exact hj)]
   rfl
 | y::l,i + 1,j,x,u,hi,hj,hx=>by
   have ih:=Ak hk l i j x u (by simpa using hi) hj hx
   rw[List.set_cons_succ,List.flatMap_cons,List.flatMap_cons,←ih,Nat.add_mul,Nat.one_mul,show i*k+k+j=(enc y).length+(i*k+j) by rw[hk];omega,List.set_append_right _ _ omA,Nat.add_sub_cancel_left]
theorem aj.gV{α:Type}{w:World}{base:Nat}{e:TypeId}{enc:α→List Value}{k g cap n:Nat}{l:List α}(hk:∀x,(enc x).length=k)(h:aj w base e enc k (.slice (some ⟨g,0,none⟩) n cap) l)(hn:n=l.length){i:Nat}(hi:i<l.length)(x:α){j o:Nat}{u:Value}(hj:j<k)(ho:o=i*k+j)(hx:enc x=(enc l[i]).set j u):
 aj (w.setCell ⟨g,o,none⟩ u) base e enc k (.slice (some ⟨g,0,none⟩) n cap) (l.set i x):=by
 subst hn ho
 obtain⟨h0,_⟩:=World.ownsRow.stored h (i*k+j) u
 rw[Ak hk l i j x u hi hj hx]at h0
 unfold aj
 rw[List.length_set]
 exact h0
theorem aj.one{α:Type}{w:World}{g base k:Nat}{t:TypeId}{enc:α→List Value}{x:α}(h:Blk w g t (enc x).toArray)(hb:base≤g)(hk:∀x,(enc x).length=k):aj w base t enc k (.slice (some ⟨g,0,none⟩) 1 1) [x]:=
 ⟨by simp[hk],.inr ⟨g,1,(enc x).toArray,rfl,hb,h,Nat.le_refl _,by decide,by simp[hk],by simp[←hk x]⟩⟩
end Go.Proofs.YtjidligipoldeaaGreat
