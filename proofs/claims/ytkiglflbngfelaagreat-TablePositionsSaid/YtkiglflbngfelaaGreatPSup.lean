/-
  Plain laws that the parts lack.
-/
import Derived.Test.YtkiglflbngfelaaGreatQ24
import Derived.Test.YtkiglflbngfelaaGreatQ25
set_option linter.unusedVariables false
set_option linter.unusedSimpArgs false
set_option maxRecDepth 100000
set_option maxHeartbeats 16000000
namespace Go.Proofs.YtkiglflbngfelaaGreat
open Go.RowKit Go
theorem perfL_ins_full {l:List bB} (h:fT l) {x:Chg} (hk1:x.kind = 1) (hv:bM (keyOf x)=true) (hf:df l (keyOf x)=false) (hl : 64≤l.length):dn l x=l:=FH hk1 (yM h hv hf) hl
theorem perfL_at_none {l:List bB} (h:fT l) {x:Chg} (hk1:x.kind ≠ 1) (hv:bM (keyOf x)=true) (hf:df l (keyOf x)=false):dn l x=l:=sI hk1 (yM h hv hf)
theorem aO.iff {ts:List Tab} {rt:List RTab}:aO ts rt↔aV ts∧POk ts (rt.map ax):=⟨fun h=>⟨h.cat,h.pure⟩,fun h=>h.2.back h.1⟩
theorem recsLen_pure (rt:List RTab) (k:Int):(iK rt k).length=(tabP (rt.map ax) k).length:=by rw [← DJ,List.length_map]
theorem check_pure {ts:List Tab} {rt rt':List RTab} (h:rt.map ax=rt'.map ax) (x:Chg):dZ ts rt x=dZ ts rt' x:=by
 have e1:pb (aO ts rt)=pb (aO ts rt'):=by rw [propext aO.iff,propext (aO.iff (rt:=rt')),h]
 have e2:dJ rt=dJ rt':=by unfold dJ;rw [IY,IY,h]
 have e3 : ∀ c v,dG ts rt c v=dG ts rt' c v:=fun c v=>by unfold dG;rw [vI,vI,h]
 have e4:ik ts rt (dh ts x.table) x.row=ik ts rt' (dh ts x.table) x.row:=by unfold ik;simp only [e3]
 have e5:qK ts rt (dh ts x.table) x.column x.val=qK ts rt' (dh ts x.table) x.column x.val:=by
  unfold qK
  split
  ·exact e3 _ _
  ·rfl
 unfold dZ iF
 rw [e1,e2,vI,vI,recsLen_pure,recsLen_pure,e4,e5,h]
theorem sj.at_ {ts:List Tab} {l:List Chg} {pl:List (List bB)} (h:sj ts l pl) : ∀ i (hi:i<l.length),∃ rt:List RTab,rt.map ax=eD ts (l.take i)∧dZ ts rt l[i] = 0:=by
 induction h with
 | nil=>intro i hi;simp at hi
 | snoc h hp hc ih =>
   rename_i l0 pl0 x rt
   intro i hi
   rcases Nat.lt_or_ge i l0.length with h1|h1
   ·obtain ⟨r,h2,h3⟩:=ih i h1
    refine ⟨r,?_,?_⟩
    ·rw [h2,List.take_append_of_le_length omA]
    ·rw [List.getElem_append_left h1];exact h3
   ·have he:i=l0.length:=by simp at hi;omega
    subst he
    refine ⟨rt,?_,?_⟩
    ·rw [hp,List.take_left',h.replay];rfl
    ·simpa using hc
end Go.Proofs.YtkiglflbngfelaaGreat
