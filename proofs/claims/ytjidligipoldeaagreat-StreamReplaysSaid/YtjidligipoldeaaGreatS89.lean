/-
  Contracts and plain laws of this seat, part 89.
-/
import Derived.Test.YtjidligipoldeaaGreatS87
import Derived.Test.YtjidligipoldeaaGreatS80
import Derived.Test.YtjidligipoldeaaGreatS82
set_option linter.unusedVariables false
set_option linter.unusedSimpArgs false
set_option maxRecDepth 100000
set_option maxHeartbeats 16000000
set_option maxRecDepth 100000
namespace Go.Proofs.YtjidligipoldeaaGreat
open Go.RowKit Go
theorem jb{l:List Ent}{ps:List lG}(h:l.map Ent.p=ps):l.length=ps.length:=by rw[←h,List.length_map]
theorem GV{l:List Ent}{ps:List lG}(h:l.map Ent.p=ps)(h8:∀e∈ps,e.2.row.length≤8):∀x∈l,x.chg.row.length≤8:=fun x hx=>h8 (Ent.p x) (by rw[←h];exact List.mem_map_of_mem hx)
theorem Bn:(∀e∈psA,e.2.row.length≤8)∧(∀e∈psB,e.2.row.length≤8)∧(∀e∈psC,e.2.row.length≤8):=by
 refine⟨?_,?_,?_⟩<;>simp[psA,psB,psC,unC,sA,sB,sC]
theorem Eu(A:Option Addr)(c b q:Nat)(w:World)(ht:aF w w.heap.size A [fK b q])(bz:Nat)(hz:ag w w.heap.size Val.cells 3 (some ⟨bz,0,none⟩) [lD,sX]):
 Calls Tryz.prog 23 #[.agg #[.slice A 1 c,.slice none 0 0,.slice none 0 0,.slice none 0 0,.slice none 0 0,.slice none 0 0,.slice none 0 0,.slice none 0 0],.int .i64 0,.agg #[.int .i64 0,.int .i64 0,.slice none 0 0],.agg #[.int .i64 1,.int .i64 1,.int .i64 0,.int .i64 0,.slice (some ⟨bz,0,none⟩) 2 2,.int .i64 0,.int .i64 0,.string ⟨#[]⟩,.int .i64 0,.int .i64 0,.int .i64 0,.string ⟨#[]⟩]] w fun e w' =>
  (∃A' c' l,e=.returned (.tuple #[.agg #[.int .i64 0,.int .i64 1,.slice A' 1 c'],.int .i64 0])∧l.map Ent.p=psA∧dM w' w.heap.size A' c' l)∧Below w.heap.size w w':=by
 refine(kR A c 1 [fK b q] 0 0 0 none 0 0 [] 1 1 0 0 (some ⟨bz,0,none⟩) 2 [lD,sX] dN 0 dN w ht rfl (mV b q) ⟨ag.nil,(fun x h=>by cases h)⟩ rfl (PO b q) (fun x h=>by cases h) hz spA rfl (La b q) spA (by decide)).mono ?_
 rintro e w' ⟨⟨A',c',l,rfl,h1,h2⟩,h3⟩
 have hp:l.map Ent.p=psA:=h1
 have hl:=jb hp
 rw[show psA.length=1 from rfl]at hl
 exact⟨⟨A',c',l,by rw[hl];rfl,hp,h2⟩,h3⟩
theorem XL(A:Option Addr)(c b q:Nat)(w:World)(ht:aF w w.heap.size A [fK b q])(EA:Option Addr)(ec:Nat)(es:List Ent)(hE:dH w w.heap.size EA es)(hp:es.map Ent.p=psA):
 Calls Tryz.prog 23 #[.agg #[.slice A 1 c,.slice none 0 0,.slice none 0 0,.slice none 0 0,.slice none 0 0,.slice none 0 0,.slice none 0 0,.slice none 0 0],.int .i64 0,.agg #[.int .i64 0,.int .i64 1,.slice EA 1 ec],.agg #[.int .i64 2,.int .i64 4,.int .i64 0,.int .i64 0,.slice none 0 0,.int .i64 1,.int .i64 1,.string ⟨#[]⟩,.int .i64 1,.int .i64 2,.int .i64 0,.string ⟨#[121]⟩]] w fun e w' =>
  (∃A' c' l,e=.returned (.tuple #[.agg #[.int .i64 0,.int .i64 2,.slice A' 2 c'],.int .i64 0])∧l.map Ent.p=psB∧dM w' w.heap.size A' c' l)∧Below w.heap.size w w':=by
 have hes:=jb hp
 refine(kR A c 1 [fK b q] 0 0 1 EA ec 1 es 2 4 0 0 none 0 [] lD 1 sY w ht rfl (mV b q) hE hes (by rw[hp];exact PN b q) (GV hp Bn.1) ag.nil spA rfl (by rw[hp];exact K9 b q) (by rw[hes];decide) (by decide)).mono ?_
 rintro e w' ⟨⟨A',c',l,rfl,h1,h2⟩,h3⟩
 have hp2:l.map Ent.p=psB:=by rw[h1,hp];rfl
 have hl:=jb hp2
 rw[show psB.length=2 from rfl]at hl
 exact⟨⟨A',c',l,by rw[hl];rfl,hp2,h2⟩,h3⟩
theorem XK(A:Option Addr)(c b q:Nat)(w:World)(ht:aF w w.heap.size A [fK b q])(EA:Option Addr)(ec:Nat)(es:List Ent)(hE:dH w w.heap.size EA es)(hp:es.map Ent.p=psB):
 Calls Tryz.prog 23 #[.agg #[.slice A 1 c,.slice none 0 0,.slice none 0 0,.slice none 0 0,.slice none 0 0,.slice none 0 0,.slice none 0 0,.slice none 0 0],.int .i64 0,.agg #[.int .i64 0,.int .i64 2,.slice EA 2 ec],.agg #[.int .i64 3,.int .i64 6,.int .i64 0,.int .i64 0,.slice none 0 0,.int .i64 1,.int .i64 1,.string ⟨#[]⟩,.int .i64 0,.int .i64 0,.int .i64 0,.string ⟨#[]⟩]] w fun e w' =>
  (∃A' c' l,e=.returned (.tuple #[.agg #[.int .i64 0,.int .i64 3,.slice A' 3 c'],.int .i64 0])∧l.map Ent.p=psC∧dM w' w.heap.size A' c' l)∧Below w.heap.size w w':=by
 have hes:=jb hp
 refine(kR A c 1 [fK b q] 0 0 2 EA ec 2 es 3 6 0 0 none 0 [] lD 0 dN w ht rfl (mV b q) hE hes (by rw[hp];exact Lp b q) (GV hp Bn.2.1) ag.nil spA rfl (by rw[hp];exact Bv b q) (by rw[hes];decide) (by decide)).mono ?_
 rintro e w' ⟨⟨A',c',l,rfl,h1,h2⟩,h3⟩
 have hp2:l.map Ent.p=psC:=by rw[h1,hp];rfl
 have hl:=jb hp2
 rw[show psC.length=3 from rfl]at hl
 exact⟨⟨A',c',l,by rw[hl];rfl,hp2,h2⟩,h3⟩
theorem XJ(A:Option Addr)(c b q:Nat)(w:World)(ht:aF w w.heap.size A [fK b q])(EA:Option Addr)(ec:Nat)(es:List Ent)(hE:dH w w.heap.size EA es)(hec:2≤ec)(hp:es.map Ent.p=psB):
 Calls Tryz.prog 10 #[.agg #[.slice A 1 c,.slice none 0 0,.slice none 0 0,.slice none 0 0,.slice none 0 0,.slice none 0 0,.slice none 0 0,.slice none 0 0],.int .i64 0,.agg #[.int .i64 0,.int .i64 2,.slice EA 2 ec],.int .i64 2] w fun e w' =>
  (∃A' c' l,e=.returned (.tuple #[.agg #[.int .i64 2,.int .i64 2,.slice A' 2 c'],.int .i64 0])∧l.map Ent.p=[(0,⟨1,1,0,0,none,0,[lD,uE],dN,0,dN⟩),(1,unC sB)]∧dM w' w.heap.size A' c' l)∧Below w.heap.size w w':=by
 have hes:=jb hp
 refine(vD A c 1 [fK b q] 0 0 2 EA ec 2 es 2 w ht rfl (mV b q) hE hes hec (by rw[hp];exact Lp b q) (GV hp Bn.2.1) (by decide) (by decide)).mono ?_
 rintro e w' ⟨⟨A',c',l,rfl,h1,h2⟩,h3⟩
 have hp2:l.map Ent.p=[(0,⟨1,1,0,0,none,0,[lD,uE],dN,0,dN⟩),(1,unC sB)]:=by rw[h1,hp,R9]
 have hl:l.length=2:=jb hp2
 exact⟨⟨A',c',l,by rw[hl],hp2,h2⟩,h3⟩
theorem XI(A:Option Addr)(c b q:Nat)(w:World)(ht:aF w w.heap.size A [fK b q])(EA:Option Addr)(ec:Nat)(es:List Ent)(hE:dH w w.heap.size EA es)(hec:3≤ec)(hp:es.map Ent.p=psC):
 Calls Tryz.prog 10 #[.agg #[.slice A 1 c,.slice none 0 0,.slice none 0 0,.slice none 0 0,.slice none 0 0,.slice none 0 0,.slice none 0 0,.slice none 0 0],.int .i64 0,.agg #[.int .i64 0,.int .i64 3,.slice EA 3 ec],.int .i64 3] w fun e w' =>
  (∃A' c',e=.returned (.tuple #[.agg #[.int .i64 3,.int .i64 3,.slice A' 0 c'],.int .i64 0]))∧Below w.heap.size w w':=by
 have hes:=jb hp
 refine(vD A c 1 [fK b q] 0 0 3 EA ec 3 es 3 w ht rfl (mV b q) hE hes hec (by rw[hp];exact SN b q) (GV hp Bn.2.2) (by decide) (by decide)).mono ?_
 rintro e w' ⟨⟨A',c',l,rfl,h1,h2⟩,h3⟩
 have hp2:l.map Ent.p=[]:=by rw[h1,hp,R8]
 have hl:l.length=0:=jb hp2
 exact⟨⟨A',c',by rw[hl]⟩,h3⟩
end Go.Proofs.YtjidligipoldeaaGreat
