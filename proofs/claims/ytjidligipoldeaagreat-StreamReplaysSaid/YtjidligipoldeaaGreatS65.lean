/-
  Contracts and plain laws of this seat, part 65.
-/
import Derived.Test.YtjidligipoldeaaGreatS59
import Derived.Test.YtjidligipoldeaaGreatS52
set_option linter.unusedVariables false
set_option linter.unusedSimpArgs false
set_option maxRecDepth 100000
set_option maxHeartbeats 16000000
namespace Go.Proofs.YtjidligipoldeaaGreat
open Go.RowKit Go
section
variable {al:List fu}{x:Chg}{k c:Nat}{f:Val→Option Int}{ky:Val}
end
theorem zm.get{al:List fu}(h:zm al){k c:Nat}(hk:k<al.length){f:Val→Option Int}(hfc:al[k]=(f,c)){ky:Val}{s:Int}(hf:f ky=some s):0≤s∧s≤1073741824:=h al[k] (lgm hk) ky s (by rw[hfc];exact hf)
open Go.RowKit Go
abbrev uE:Val:=⟨0,0,⟨#[]⟩⟩
open Go.RowKit Go
theorem MS{ts:List Tab}{x:Chg}(hok:aR ts)(h:aY ts x=0):NB ts.length x:=by
 obtain⟨k,hin⟩:=gF h
 have hc:=hok.ae hin.lt
 have hsq:=hin.seq
 simp only[aB,Bool.and_eq_true,decide_eq_true_eq]at hsq
 refine⟨⟨k,hin.tab,hin.lt⟩,fun h1 =>?_,⟨by omega,by omega⟩,(kX h hok).1,?_⟩
 ·have hi:=kY h h1 hin
  rw[hi.len]
  exact hc.1
 ·by_cases h1:x.kind=1
  ·have hi:=kY h h1 hin
   rw[hi.len]
   exact hc.2
  ·rw[hin.rest h1]
   omega
theorem dh.form{ts:List Tab}{l:List Chg}(h:dh ts l):∀x∈l,aY ts x=0:=fun x hx=>by
 obtain⟨i,hi,rfl⟩:=List.getElem_of_mem hx
 exact(h.at_ i hi).form
theorem dh.fol{ts:List Tab}{l:List Chg}(h:dh ts l):∀x∈l,NB ts.length x:=fun x hx=>MS h.cat (h.form x hx)
theorem rM(A:Option Addr)(c m:Nat)(ts:List Tab)(LA:Option Addr)(lc n:Nat)(l:List Chg)(w:World)(ht:aF w w.heap.size A ts)(hm:ts.length=m)(hs:aN ts)(hl:fJ w w.heap.size LA l)(hn:l.length=n)(ho:dh ts l):
 Calls Tryz.prog 60 #[.agg #[.slice A m c,.slice none 0 0,.slice none 0 0,.slice none 0 0,.slice none 0 0,.slice none 0 0,.slice none 0 0,.slice none 0 0],.slice LA n lc] w fun e w'=>e=.returned (.bool true)∧Below w.heap.size w w':=
 CK (o:=Oth.nil) A c m ts LA lc n l w ht hm hs ho.cat (gH.nil ht hs ho.cat) hl hn (by have:=ho.len;omega) (fun x hx=>by have:=(ho.fol x hx).len;omega) (bS ho)
end Go.Proofs.YtjidligipoldeaaGreat
