/-
  Contracts and plain laws of this seat, part 51.
-/
import Derived.Test.YtjidligipoldeaaGreatT55
set_option linter.unusedVariables false
set_option linter.unusedSimpArgs false
set_option maxRecDepth 100000
set_option maxHeartbeats 16000000
namespace Go.Proofs.YtjidligipoldeaaGreat
open Go.RowKit Go
theorem CE(A:Option Addr)(c m:Nat)(ts:List Tab)(kd sq2 dy2 tb:Int)(A0:Option Addr)(cp:Nat)(row:List Val)(key:Val)(cl:Int)(vl:Val)(w:World)(ht:aF w w.heap.size A ts)(hm:ts.length=m)(hs:aM ts)(hok:aN ts)(hR:ag w w.heap.size Val.cells 3 A0 row)(hrl:row.length≤1000000){r:Int}(hr:aV ts ⟨kd,sq2,dy2,tb,A0,cp,row,key,cl,vl⟩=r):
 Calls Tryz.prog 41 #[.agg #[.slice A m c,.slice none 0 0,.slice none 0 0,.slice none 0 0,.slice none 0 0,.slice none 0 0,.slice none 0 0,.slice none 0 0],.agg #[.int .i64 kd,.int .i64 sq2,.int .i64 dy2,.int .i64 tb,.slice A0 row.length cp,.int .i64 key.kind,.int .i64 key.num,.string key.text,.int .i64 cl,.int .i64 vl.kind,.int .i64 vl.num,.string vl.text]] w fun e w'=>e=.returned (.int .i64 r)∧Below w.heap.size w w':=
 nT (o:=Oth.nil) A c m ts kd sq2 dy2 tb A0 cp row key cl vl w ht hm hs hok (gF.nil ht hs hok) hR hrl hr
theorem ag.sM{α:Type}{enc:α→List Value}{w w':World}{B k:Nat}{A:Option Addr}{l:List α}{row:Option Nat}(h:ag w B enc k A l)(hB:B≤w.heap.size)(hg:w.grownBy w' row)(hne:∀a,A=some a→a.block<B→some a.block≠row):ag w' B enc k A l:=fun hl=>by
 obtain⟨b,o,rfl,hb,hc⟩:=h hl
 exact⟨b,o,rfl,hb,fun i hi j u hu=>(World.cell?_of_block (hg.block b omA (hne _ rfl hb))).trans (hc i hi j u hu)⟩
theorem aR.sM{w w':World}{A:Option Addr}{rt:List RTab}{B T:Nat}{row:Option Nat}(h:aR w B A rt)(hu:RUp T A rt)(hB:B≤w.heap.size)(hr:∀q,row=some q→q<T∨B≤q)(hg:w.grownBy w' row):aR w' B A rt:=by
 have hne:∀ {A:Option Addr},(∀a,A=some a→T≤a.block)→∀a,A=some a→a.block<B→some a.block≠row:=fun h a ha hb e=>by
  have h1:=h a ha
  have h2:=hr a.block e.symm
  omega
 exact⟨h.1.sM hB hg (hne hu.1),fun t ht=>⟨(h.2 t ht).1.sM hB hg (hne (hu.2 t ht).1),fun x hx=>⟨((h.2 t ht).2 x hx).1.sM hB hg (hne ((hu.2 t ht).2 x hx).1),((h.2 t ht).2 x hx).2.sM hB hg (hne ((hu.2 t ht).2 x hx).2)⟩⟩⟩
structure nI (w:World) (g:Nat) (RA:Option Addr) (rt:List RTab) (v:Value) (T B:Nat):Prop where
 read:aR w B RA rt
 up:RUp T RA rt
 tape:g+1≤T
 le:B≤w.heap.size
 apart:∀q,v.ownBlock=some q→q<T∨B≤q
theorem nI.all{w:World}{g:Nat}{RA:Option Addr}{rt:List RTab}{v:Value}{T B:Nat}(h:nI w g RA rt v T B):aR w w.heap.size RA rt∧RUp (g+1) RA rt:=⟨h.read.mono h.le,h.up.mono h.tape⟩
theorem nI.below{w w':World}{g:Nat}{RA:Option Addr}{rt:List RTab}{v:Value}{T B:Nat}(h:nI w g RA rt v T B)(hb:Below w.heap.size w w'):nI w' g RA rt v T B:=⟨h.read.below (hb.mono h.le),h.up,h.tape,Nat.le_trans h.le hb.size,h.apart⟩
theorem nI.call{w w':World}{g:Nat}{RA:Option Addr}{rt:List RTab}{v:Value}{T B:Nat}(h:nI w g RA rt v T B)(hg:w.grownBy w' (some g)):nI w' g RA rt v T B:=
 ⟨h.read.sM h.up h.le (fun q e=>by injection e with e;have:=h.tape;omega) hg,h.up,h.tape,Nat.le_trans h.le hg.size,h.apart⟩
theorem nI.app{w w':World}{g:Nat}{RA:Option Addr}{rt:List RTab}{v v':Value}{T B:Nat}(h:nI w g RA rt v T B)(hg:w.grownBy w' v.ownBlock)(hat:v'.ownBlock=v.ownBlock∨v'.ownBlock=some w.heap.size):nI w' g RA rt v' T B:=
 ⟨h.read.sM h.up h.le h.apart hg,h.up,h.tape,Nat.le_trans h.le hg.size,fun q hq=>by
  rcases hat with h1|h1
  ·exact h.apart q (by rw[←h1];exact hq)
  ·rw[hq]at h1
   injection h1 with h1
   have:=h.le
   exact .inr omA⟩
end Go.Proofs.YtjidligipoldeaaGreat
