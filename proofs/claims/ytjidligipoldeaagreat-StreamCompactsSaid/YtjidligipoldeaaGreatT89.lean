/-
  Contracts and plain laws of this seat, part 89.
-/
import Derived.Test.YtjidligipoldeaaGreatT87
import Derived.Test.YtjidligipoldeaaGreatT80
import Derived.Test.YtjidligipoldeaaGreatT82
set_option linter.unusedVariables false
set_option linter.unusedSimpArgs false
set_option maxRecDepth 100000
set_option maxHeartbeats 16000000
set_option maxRecDepth 100000
namespace Go.Proofs.YtjidligipoldeaaGreat
open Go.RowKit Go
theorem ji{l:List Ent}{ps:List ja}(h:l.map Ent.p=ps):l.length=ps.length:=by rw[←h,List.length_map]
theorem Gy{l:List Ent}{ps:List ja}(h:l.map Ent.p=ps)(h8:∀e∈ps,e.2.row.length≤8):∀x∈l,x.chg.row.length≤8:=fun x hx=>h8 (Ent.p x) (by rw[←h];exact List.mem_map_of_mem hx)
theorem Ba:(∀e∈psA,e.2.row.length≤8)∧(∀e∈psB,e.2.row.length≤8)∧(∀e∈psC,e.2.row.length≤8):=by
 refine⟨?_,?_,?_⟩<;>simp[psA,psB,psC,unC,sA,sB,sC]
theorem En(A:Option Addr)(c b q:Nat)(w:World)(ht:aF w w.heap.size A [gp b q])(bz:Nat)(hz:ag w w.heap.size Val.cells 3 (some ⟨bz,0,none⟩) [lI,sX]):
 Calls Tryz.prog 23 #[.agg #[.slice A 1 c,.slice none 0 0,.slice none 0 0,.slice none 0 0,.slice none 0 0,.slice none 0 0,.slice none 0 0,.slice none 0 0],.int .i64 0,.agg #[.int .i64 0,.int .i64 0,.slice none 0 0],.agg #[.int .i64 1,.int .i64 1,.int .i64 0,.int .i64 0,.slice (some ⟨bz,0,none⟩) 2 2,.int .i64 0,.int .i64 0,.string ⟨#[]⟩,.int .i64 0,.int .i64 0,.int .i64 0,.string ⟨#[]⟩]] w fun e w' =>
  (∃A' c' l,e=.returned (.tuple #[.agg #[.int .i64 0,.int .i64 1,.slice A' 1 c'],.int .i64 0])∧l.map Ent.p=psA∧fK w' w.heap.size A' c' l)∧Below w.heap.size w w':=by
 refine(rW A c 1 [gp b q] 0 0 0 none 0 0 [] 1 1 0 0 (some ⟨bz,0,none⟩) 2 [lI,sX] dU 0 dU w ht rfl (nG b q) ⟨ag.nil,(fun x h=>by cases h)⟩ rfl (PY b q) (fun x h=>by cases h) hz spA rfl (Lb b q) spA (by decide)).mono ?_
 rintro e w' ⟨⟨A',c',l,rfl,h1,h2⟩,h3⟩
 have hp:l.map Ent.p=psA:=h1
 have hl:=ji hp
 rw[show psA.length=1 from rfl]at hl
 exact⟨⟨A',c',l,by rw[hl];rfl,hp,h2⟩,h3⟩
theorem Yi(A:Option Addr)(c b q:Nat)(w:World)(ht:aF w w.heap.size A [gp b q])(EA:Option Addr)(ec:Nat)(es:List Ent)(hE:di w w.heap.size EA es)(hp:es.map Ent.p=psA):
 Calls Tryz.prog 23 #[.agg #[.slice A 1 c,.slice none 0 0,.slice none 0 0,.slice none 0 0,.slice none 0 0,.slice none 0 0,.slice none 0 0,.slice none 0 0],.int .i64 0,.agg #[.int .i64 0,.int .i64 1,.slice EA 1 ec],.agg #[.int .i64 2,.int .i64 4,.int .i64 0,.int .i64 0,.slice none 0 0,.int .i64 1,.int .i64 1,.string ⟨#[]⟩,.int .i64 1,.int .i64 2,.int .i64 0,.string ⟨#[121]⟩]] w fun e w' =>
  (∃A' c' l,e=.returned (.tuple #[.agg #[.int .i64 0,.int .i64 2,.slice A' 2 c'],.int .i64 0])∧l.map Ent.p=psB∧fK w' w.heap.size A' c' l)∧Below w.heap.size w w':=by
 have hes:=ji hp
 refine(rW A c 1 [gp b q] 0 0 1 EA ec 1 es 2 4 0 0 none 0 [] lI 1 sY w ht rfl (nG b q) hE hes (by rw[hp];exact PX b q) (Gy hp Ba.1) ag.nil spA rfl (by rw[hp];exact La b q) (by rw[hes];decide) (by decide)).mono ?_
 rintro e w' ⟨⟨A',c',l,rfl,h1,h2⟩,h3⟩
 have hp2:l.map Ent.p=psB:=by rw[h1,hp];rfl
 have hl:=ji hp2
 rw[show psB.length=2 from rfl]at hl
 exact⟨⟨A',c',l,by rw[hl];rfl,hp2,h2⟩,h3⟩
theorem Yh(A:Option Addr)(c b q:Nat)(w:World)(ht:aF w w.heap.size A [gp b q])(EA:Option Addr)(ec:Nat)(es:List Ent)(hE:di w w.heap.size EA es)(hp:es.map Ent.p=psB):
 Calls Tryz.prog 23 #[.agg #[.slice A 1 c,.slice none 0 0,.slice none 0 0,.slice none 0 0,.slice none 0 0,.slice none 0 0,.slice none 0 0,.slice none 0 0],.int .i64 0,.agg #[.int .i64 0,.int .i64 2,.slice EA 2 ec],.agg #[.int .i64 3,.int .i64 6,.int .i64 0,.int .i64 0,.slice none 0 0,.int .i64 1,.int .i64 1,.string ⟨#[]⟩,.int .i64 0,.int .i64 0,.int .i64 0,.string ⟨#[]⟩]] w fun e w' =>
  (∃A' c' l,e=.returned (.tuple #[.agg #[.int .i64 0,.int .i64 3,.slice A' 3 c'],.int .i64 0])∧l.map Ent.p=psC∧fK w' w.heap.size A' c' l)∧Below w.heap.size w w':=by
 have hes:=ji hp
 refine(rW A c 1 [gp b q] 0 0 2 EA ec 2 es 3 6 0 0 none 0 [] lI 0 dU w ht rfl (nG b q) hE hes (by rw[hp];exact Lv b q) (Gy hp Ba.2.1) ag.nil spA rfl (by rw[hp];exact Be b q) (by rw[hes];decide) (by decide)).mono ?_
 rintro e w' ⟨⟨A',c',l,rfl,h1,h2⟩,h3⟩
 have hp2:l.map Ent.p=psC:=by rw[h1,hp];rfl
 have hl:=ji hp2
 rw[show psC.length=3 from rfl]at hl
 exact⟨⟨A',c',l,by rw[hl];rfl,hp2,h2⟩,h3⟩
theorem Yg(A:Option Addr)(c b q:Nat)(w:World)(ht:aF w w.heap.size A [gp b q])(EA:Option Addr)(ec:Nat)(es:List Ent)(hE:di w w.heap.size EA es)(hec:2≤ec)(hp:es.map Ent.p=psB):
 Calls Tryz.prog 10 #[.agg #[.slice A 1 c,.slice none 0 0,.slice none 0 0,.slice none 0 0,.slice none 0 0,.slice none 0 0,.slice none 0 0,.slice none 0 0],.int .i64 0,.agg #[.int .i64 0,.int .i64 2,.slice EA 2 ec],.int .i64 2] w fun e w' =>
  (∃A' c' l,e=.returned (.tuple #[.agg #[.int .i64 2,.int .i64 2,.slice A' 2 c'],.int .i64 0])∧l.map Ent.p=[(0,⟨1,1,0,0,none,0,[lI,dS],dU,0,dU⟩),(1,unC sB)]∧fK w' w.heap.size A' c' l)∧Below w.heap.size w w':=by
 have hes:=ji hp
 refine(lU A c 1 [gp b q] 0 0 2 EA ec 2 es 2 w ht rfl (nG b q) hE hes hec (by rw[hp];exact Lv b q) (Gy hp Ba.2.1) (by decide) (by decide)).mono ?_
 rintro e w' ⟨⟨A',c',l,rfl,h1,h2⟩,h3⟩
 have hp2:l.map Ent.p=[(0,⟨1,1,0,0,none,0,[lI,dS],dU,0,dU⟩),(1,unC sB)]:=by rw[h1,hp,Sl]
 have hl:l.length=2:=ji hp2
 exact⟨⟨A',c',l,by rw[hl],hp2,h2⟩,h3⟩
theorem Yf(A:Option Addr)(c b q:Nat)(w:World)(ht:aF w w.heap.size A [gp b q])(EA:Option Addr)(ec:Nat)(es:List Ent)(hE:di w w.heap.size EA es)(hec:3≤ec)(hp:es.map Ent.p=psC):
 Calls Tryz.prog 10 #[.agg #[.slice A 1 c,.slice none 0 0,.slice none 0 0,.slice none 0 0,.slice none 0 0,.slice none 0 0,.slice none 0 0,.slice none 0 0],.int .i64 0,.agg #[.int .i64 0,.int .i64 3,.slice EA 3 ec],.int .i64 3] w fun e w' =>
  (∃A' c',e=.returned (.tuple #[.agg #[.int .i64 3,.int .i64 3,.slice A' 0 c'],.int .i64 0]))∧Below w.heap.size w w':=by
 have hes:=ji hp
 refine(lU A c 1 [gp b q] 0 0 3 EA ec 3 es 3 w ht rfl (nG b q) hE hes hec (by rw[hp];exact Tg b q) (Gy hp Ba.2.2) (by decide) (by decide)).mono ?_
 rintro e w' ⟨⟨A',c',l,rfl,h1,h2⟩,h3⟩
 have hp2:l.map Ent.p=[]:=by rw[h1,hp,Sk]
 have hl:l.length=0:=ji hp2
 exact⟨⟨A',c',by rw[hl]⟩,h3⟩
end Go.Proofs.YtjidligipoldeaaGreat
