/-
  Contracts and plain laws of this seat, part 70: RedB.
-/
import Derived.Test.YtjhnpnhpmdkpcaaGreatB68
import Derived.Test.YtjhnpnhpmdkpcaaGreatB58
import Derived.Test.YtjhnpnhpmdkpcaaGreatB61
import Derived.Test.YtjhnpnhpmdkpcaaGreatB29
import Derived.Test.YtjhnpnhpmdkpcaaGreatB52
import Derived.Test.YtjhnpnhpmdkpcaaGreatB65
set_option linter.unusedVariables false
set_option linter.unusedSimpArgs false
set_option maxRecDepth 100000
set_option maxHeartbeats 16000000
namespace Go.Proofs.YtjhnpnhpmdkpcaaGreat
open Go.RowKit Go
theorem SrcsIn.keyK {l:List Src} (h:SrcsIn l) : ∀ s∈l,∃ kl,Go.keyOf Tryz.prog 51 (srcK s)=some kl:=fun s hs=>by
 have:=h s hs
 exact srcK_key omA omA
theorem VnsIn.keyV {l:List Vn} (h:VnsIn l) : ∀ s∈l,∃ kl,Go.keyOf Tryz.prog 56 (vnV s)=some kl:=fun s hs=>h.key hs
theorem hist_rok {ts:List Tab} {rt:List RTab} {l:List Chg} {n:Nat} (hok:CatOk ts) (hpu:rt.map pureT=replayE ts l) (hh:HistIs ts n l):RTabsOk ts rt:=by
 obtain ⟨⟨pl,hc⟩,_,_⟩:=hh
 refine POk.back hok ?_
 rw [hpu,hc.replay]
 exact hc.ok
theorem hist_ord {ts:List Tab} {l:List Chg} {n:Nat} (hok:CatOk ts) (hh:HistIs ts n l) (hl:l.length ≤ 1024):OrdOk ts l:=by
 obtain ⟨⟨pl,hc⟩,_,hp⟩:=hh
 exact chain_ord hok hc hp hl
theorem ord_cells {ts:List Tab} {l:List Chg} (h:OrdOk ts l) : ∀ x∈l,(-1≤x.table∧x.table ≤ 1000) ∧ 0≤x.seq∧x.seq ≤ 1073741824:=fun x hx=>by
 have h1:=h.fol x hx
 obtain ⟨k,hk,hkl⟩:=h1.tab
 have h8:=h.cat.len
 have h2:=h1.seq
 omega
theorem rok_small {ts:List Tab} {rt:List RTab} (h:RTabsOk ts rt):rt.length ≤ 8∧(∀ t∈rt,t.recs.length ≤ 64)∧(∀ t∈rt,∀ r∈t.recs,r.seq.length ≤ 8) ∧ ∀ t∈rt,∀ r∈t.recs,∀ s∈r.seq,(1:Int)≤s∧s ≤ 1073741824:=by
 have h8:=h.cat.len
 have hl:=h.len
 refine ⟨by omega,fun t ht => ?_,fun t ht r hr => ?_,fun t ht r hr=>(rok_cells h t ht r hr).2.2⟩
 all_goals
  obtain ⟨i,hi,rfl⟩:=List.getElem_of_mem ht
  have hi':i<ts.length:=by omega
  have hc:=h.cat.cols hi'
  have hp:=h.pure.tab i (by simpa using hi) hi'
  rw [List.getElem_map] at hp
 ·have h1:(pureT rt[i]).length ≤ 64:=hp.len
  have h2:(pureT rt[i]).length=rt[i].recs.length:=by simp [pureT]
  omega
 ·have h1:r.seq.length=ts[i].cols.length:=(hp.rcd (pureR r) (List.mem_map_of_mem hr)).slen
  omega
end Go.Proofs.YtjhnpnhpmdkpcaaGreat
