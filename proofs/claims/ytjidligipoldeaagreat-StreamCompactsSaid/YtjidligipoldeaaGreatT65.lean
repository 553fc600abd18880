/-
  Contracts and plain laws of this seat, part 65.
-/
import Derived.Test.YtjidligipoldeaaGreatT59
import Derived.Test.YtjidligipoldeaaGreatT52
set_option linter.unusedVariables false
set_option linter.unusedSimpArgs false
set_option maxRecDepth 100000
set_option maxHeartbeats 16000000
namespace Go.Proofs.YtjidligipoldeaaGreat
open Go.RowKit Go
abbrev dS:Val:=⟨0,0,⟨#[]⟩⟩
open Go.RowKit Go
theorem M5{ts:List Tab}{x:Chg}(hok:aN ts)(h:aV ts x=0):Qm ts.length x:=by
 obtain⟨k,hin⟩:=fF h
 have hc:=hok.ae hin.lt
 have hsq:=hin.seq
 simp only[aB,Bool.and_eq_true,decide_eq_true_eq]at hsq
 refine⟨⟨k,hin.tab,hin.lt⟩,fun h1 =>?_,⟨by omega,by omega⟩,(ll h hok).1,?_⟩
 ·have hi:=nA h h1 hin
  rw[hi.len]
  exact hc.1
 ·by_cases h1:x.kind=1
  ·have hi:=nA h h1 hin
   rw[hi.len]
   exact hc.2
  ·rw[hin.rest h1]
   omega
theorem bK.form{ts:List Tab}{l:List Chg}(h:bK ts l):∀x∈l,aV ts x=0:=fun x hx=>by
 obtain⟨i,hi,rfl⟩:=List.getElem_of_mem hx
 exact(h.at_ i hi).form
theorem bK.fol{ts:List Tab}{l:List Chg}(h:bK ts l):∀x∈l,Qm ts.length x:=fun x hx=>M5 h.cat (h.form x hx)
theorem sW(A:Option Addr)(c m:Nat)(ts:List Tab)(LA:Option Addr)(lc n:Nat)(l:List Chg)(w:World)(ht:aF w w.heap.size A ts)(hm:ts.length=m)(hs:aM ts)(hl:dQ w w.heap.size LA l)(hn:l.length=n)(ho:bK ts l):
 Calls Tryz.prog 60 #[.agg #[.slice A m c,.slice none 0 0,.slice none 0 0,.slice none 0 0,.slice none 0 0,.slice none 0 0,.slice none 0 0,.slice none 0 0],.slice LA n lc] w fun e w'=>e=.returned (.bool true)∧Below w.heap.size w w':=
 Cu (o:=Oth.nil) A c m ts LA lc n l w ht hm hs ho.cat (gF.nil ht hs ho.cat) hl hn (by have:=ho.len;omega) (fun x hx=>by have:=(ho.fol x hx).len;omega) (bV ho)
end Go.Proofs.YtjidligipoldeaaGreat
