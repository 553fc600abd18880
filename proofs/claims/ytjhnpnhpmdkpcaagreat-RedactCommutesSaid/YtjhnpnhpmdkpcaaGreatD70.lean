/-
  Contracts and plain laws of this seat, part 70.
-/
import Derived.Test.YtjhnpnhpmdkpcaaGreatD68
import Derived.Test.YtjhnpnhpmdkpcaaGreatD58
import Derived.Test.YtjhnpnhpmdkpcaaGreatD30
import Derived.Test.YtjhnpnhpmdkpcaaGreatD65
set_option linter.unusedVariables false
set_option linter.unusedSimpArgs false
set_option maxRecDepth 100000
set_option maxHeartbeats 16000000
namespace Go.Proofs.YtjhnpnhpmdkpcaaGreat
open Go.RowKit Go
theorem sS.VY{l:List Src}(h:sS l):∀s∈l,∃kl,Go.keyOf Tryz.prog 51 (lu s)=some kl:=fun s hs=>by
 have:=h s hs
 exact tK omA omA
theorem oI.VX{l:List Vn}(h:oI l):∀s∈l,∃kl,Go.keyOf Tryz.prog 56 (vnV s)=some kl:=fun s hs=>h.key hs
theorem M6{ts:List Tab}{l:List Chg}{n:Nat}(hok:aW ts)(hh:He ts n l)(hl:l.length≤1024):gu ts l:=by
 obtain⟨⟨pl,hc⟩,_,hp⟩:=hh
 exact JW hok hc hp hl
theorem AA{ts:List Tab}{l:List Chg}(h:gu ts l):∀x∈l,(-1≤x.table∧x.table≤1000) ∧ 0≤x.seq∧x.seq≤1073741824:=fun x hx=>by
 have h1:=h.fol x hx
 obtain⟨k,hk,hkl⟩:=h1.tab
 have h8:=h.cat.len
 have h2:=h1.seq
 omega
theorem IY{ts:List Tab}{rt:List RTab}(h:bS ts rt):rt.length≤8∧(∀t∈rt,t.recs.length≤64)∧(∀t∈rt,∀r∈t.recs,r.seq.length≤8) ∧ ∀t∈rt,∀r∈t.recs,∀s∈r.seq,(1:Int)≤s∧s≤1073741824:=by
 have h8:=h.cat.len
 have hl:=h.len
 refine⟨by omega,fun t ht =>?_,fun t ht r hr =>?_,fun t ht r hr=>(qz h t ht r hr).2.2⟩
 all_goals
  obtain⟨i,hi,rfl⟩:=List.getElem_of_mem ht
  have hi':i<ts.length:=by omega
  have hc:=h.cat.ae hi'
  have hp:=h.pure.tab i (by simpa using hi) hi'
  rw[List.getElem_map]at hp
 ·have h1:(aB rt[i]).length≤64:=hp.len
  have h2:(aB rt[i]).length=rt[i].recs.length:=by simp[aB]
  omega
 ·have h1:r.seq.length=ts[i].ae.length:=(hp.rcd (aP r) (List.mem_map_of_mem hr)).uL
  omega
theorem lV.cells{w:World}{base:Nat}{A:Option Addr}{c:Nat}{l:List Chg}(h:lV w base A c l):ag w w.heap.size Chg.cells 12 A l:=h.read.1
end Go.Proofs.YtjhnpnhpmdkpcaaGreat
