/-
  Contracts and plain laws of this seat, part 36.
-/
import Derived.Test.YtjhnpnhpmdkpcaaGreatD33
import Derived.Test.YtjhnpnhpmdkpcaaGreatD29
set_option linter.unusedVariables false
set_option linter.unusedSimpArgs false
set_option maxRecDepth 100000
set_option maxHeartbeats 16000000
namespace Go.Proofs.YtjhnpnhpmdkpcaaGreat
open Go.RowKit Go
variable {o:Oth}
def vM(F:List Fx)(l:List RTab):Prop:= ∀f∈F,∀t∈l,∀r∈t.recs,kI r.SA f.A
theorem vM.new{w:World}{base:Nat}{F F':List Fx}{l:List RTab}(h:vM F l)(hn:mR w.heap.size F F')(hT:dh w base l):vM F' l:=fun f hf t ht r hr=>by
 rcases hn f hf with h1|h1
 ·exact h f h1 t ht r hr
 ·intro a b ha hb e
  have h2:=(hT.row t ht r hr).2.lt a.block (by rw[ha];rfl)
  have h3:=h1 b hb
  omega
theorem jA.nX{w w':World}{B p mb fb base:Nat}{A:Option Addr}{c:Nat}{ts:List Tab}{F:List Fx}{l l':List RTab}(h:jA w B p mb fb A c ts o F)(hap:vM F l)(hb:Below base w w')(hp:p<base)(hm:mb<base)(hf:fb<base)(hi:IB l l' w w'):jA w' B p mb fb A c ts o F∧vM F l':=by
 have hk:∀(f:Fx) (hf:f∈F) (g:Nat),f.A=some ⟨g,0,none⟩→ak w B 3 intCells 1 f.val f.out→ak w' B 3 intCells 1 f.val f.out:=fun f hf g _ ho=>(hi B f.A f.cap f.out ho (hap f hf)).1
 refine⟨⟨⟨h.sch.blk.below hb hp,h.sch.nums.below hb hm⟩,h.lp,h.lm,h.lf,h.len,h.blk.below hb hf,fun i a b =>?_⟩,fun f hfm t ht r hr =>?_⟩
 ·rcases h.fix i a b with h1|⟨g,h1,h2,h3⟩
  ·exact .inl h1
  ·exact .inr ⟨g,h1,hk F[i] (lgm a) g h1 h2,h3⟩
 ·obtain⟨i,hi',rfl⟩:=List.getElem_of_mem hfm
  rcases h.fix i hi' (by rw[←h.len];exact hi') with h1|⟨g,h1,h2,h3⟩
  ·rw[h1]
   intro a b _ hb
   cases hb
  ·exact(hi B F[i].A F[i].cap F[i].out h2 (hap _ (lgm hi'))).2 t ht r hr
section
variable {w w':World}{base fb q n:Nat}{l:List RTab}
theorem ak.rP{α:Type}{enc:α→List Value}{s:Nat}{e:TypeId}{v:Value}{m:List α}(h:ak w base e enc s v m)(hg:w.grownBy w' (some fb))(hf:fb<base):ak w' base e enc s v m:=h.kept hg fun g hq e=>by
 have:=h.row g hq
 injection e with e
 omega
theorem dh.rP(h:dh w base l)(hg:w.grownBy w' (some fb))(hf:fb<base):dh w' base l:=
 ⟨fun t ht=>(h.tab t ht).rP hg hf,fun t ht r hr=>⟨(h.row t ht r hr).1.rP hg hf,(h.row t ht r hr).2.rP hg hf⟩,h.mD,h.jf,h.mX⟩
end
end Go.Proofs.YtjhnpnhpmdkpcaaGreat
