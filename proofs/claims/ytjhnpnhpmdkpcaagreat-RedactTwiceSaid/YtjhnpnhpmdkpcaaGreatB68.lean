/-
  Contracts and plain laws of this seat, part 68: RedO.
-/
import Derived.Test.YtjhnpnhpmdkpcaaGreatB57
import Derived.Test.YtjhnpnhpmdkpcaaGreatB64
import Derived.Test.YtjhnpnhpmdkpcaaGreatB25
import Derived.Test.YtjhnpnhpmdkpcaaGreatB7
set_option linter.unusedVariables false
set_option linter.unusedSimpArgs false
set_option maxRecDepth 100000
set_option maxHeartbeats 16000000
namespace Go.Proofs.YtjhnpnhpmdkpcaaGreat
open Go.RowKit Go
theorem redRow_get {v:List Vn} {k:Nat} {row:List Val} {sq:List Int} {i:Nat} (h:i<(redRow v k row sq).length):(redRow v k row sq)[i]=if 0<i∧(⟨(k:Int),(i:Int),sq.getD i 0⟩:Vn)∈v then ⟨0,0,⟨#[]⟩⟩ else row[i]'(by rw [redRow_len] at h;exact h):=by
 simp [redRow]
theorem RcdOk.red {cols:List Col} {r:PRec} (h:RcdOk cols r.1 r.2.1 r.2.2) (v:List Vn) (k:Nat):RcdOk cols (redR v k r).1 (redR v k r).2.1 (redR v k r).2.2:=by
 refine ⟨by show (redRow v k r.1 r.2.1).length=_;rw [redRow_len];exact h.len,h.slen,h.day,fun i hi=>⟨fun hl => ?_,fun hl hk => ?_,(h.cell i hi).pos,(h.cell i hi).asc⟩,fun h0 => ?_⟩
 ·have e:(redR v k r).1[i]'hl=_:=redRow_get hl
  rw [e]
  split
  ·decide +kernel
  ·exact (h.cell i hi).val _
 ·have e:(redR v k r).1[i]'hl=_:=redRow_get hl
  rw [e]
  split
  ·simp [typedB]
  ·exact (h.cell i hi).typ _ hk
 ·have e:(redR v k r).1[0]'h0=_:=redRow_get h0
  rw [e,if_neg omA]
  exact h.key _
theorem headQ_red {v:List Vn} {k:Nat} {r:PRec}:headQ (redR v k r)=headQ r:=rfl
theorem PTabOk.red {cols:List Col} {t:List PRec} (h:PTabOk cols t) (v:List Vn) (s:List Src) (k:Nat):PTabOk cols (redT v s k t):=by
 refine ⟨Nat.le_trans redT_len h.len,fun r hr => ?_,?_,?_⟩
 ·obtain ⟨r0,h0,_,rfl⟩:=mem_redT.1 hr
  exact (h.rcd r0 h0).red v k
 ·unfold redT
  rw [List.pairwise_map]
  simp only [headP_red]
  exact h.asc.filter _
 ·unfold redT
  rw [List.pairwise_map]
  simp only [headQ_red]
  exact h.own.filter _
theorem POk.red {ts:List Tab} {pl:List (List PRec)} (h:POk ts pl) (v:List Vn) (s:List Src):POk ts (redE v s pl):=by
 refine ⟨by rw [redE_len];exact h.len,fun i hi hi' => ?_⟩
 rw [redE_len] at hi
 rw [redE_get v s pl hi]
 exact (h.tab i hi hi').red v s i
theorem redRow_two (v v':List Vn) (k:Nat) (row:List Val) (sq:List Int):redRow v' k (redRow v k row sq) sq=redRow (v++v') k row sq:=by
 unfold redRow
 apply List.ext_getElem
 ·simp
 intro i h1 h2
 rw [List.getElem_mapIdx,List.getElem_mapIdx,List.getElem_mapIdx]
 generalize sq.getD i 0=z
 by_cases h0 : 0<i
 ·by_cases ha:(⟨(k:Int),(i:Int),z⟩:Vn)∈v <;> by_cases hb:(⟨(k:Int),(i:Int),z⟩:Vn)∈v' <;> simp [h0,ha,hb]
 ·simp [h0]
theorem redT_two (v v':List Vn) (s s':List Src) (k:Nat) (t:List PRec):redT v' s' k (redT v s k t)=redT (v++v') (s++s') k t:=by
 unfold redT
 rw [List.filter_map,List.map_map,List.filter_filter]
 have e1:(fun r=>(stays s' k ∘ redR v k) r&&stays s k r)=stays (s++s') k:=by
  funext r
  show (stays s' k r&&stays s k r)=_
  unfold stays
  generalize r.2.1.headD 0=z
  by_cases ha:(⟨(k:Int),z⟩:Src)∈s <;> by_cases hb:(⟨(k:Int),z⟩:Src)∈s' <;> simp [ha,hb]
 have e2:(redR v' k ∘ redR v k)=redR (v++v') k:=by
  funext r
  show (redRow v' k (redRow v k r.1 r.2.1) r.2.1,r.2.1,r.2.2)=_
  rw [redRow_two]
  rfl
 rw [e1,e2]
theorem redE_two (v v':List Vn) (s s':List Src) (pl:List (List PRec)):redE v' s' (redE v s pl)=redE (v++v') (s++s') pl:=by
 unfold redE
 apply List.ext_getElem
 ·simp
 intro i h1 h2
 rw [List.getElem_mapIdx,List.getElem_mapIdx,List.getElem_mapIdx,redT_two]
theorem redT_mem {v v':List Vn} {s s':List Src} (hv : ∀ x,x∈v↔x∈v') (hs : ∀ x,x∈s↔x∈s') (k:Nat) (t:List PRec):redT v s k t=redT v' s' k t:=by
 have e1:stays s k=stays s' k:=by
  funext r
  unfold stays
  rw [decide_eq_decide.2 (hs _)]
 have e2:redR v k=redR v' k:=by
  funext r
  unfold redR redRow
  simp only [hv]
 unfold redT
 rw [e1,e2]
theorem redE_mem {v v':List Vn} {s s':List Src} (hv : ∀ x,x∈v↔x∈v') (hs : ∀ x,x∈s↔x∈s') (pl:List (List PRec)):redE v s pl=redE v' s' pl:=by
 unfold redE
 have:redT v s=redT v' s':=by
  funext k t
  exact redT_mem hv hs k t
 rw [this]
theorem redT_none (k:Nat) (t:List PRec):redT [] [] k t=t:=by
 unfold redT
 have e1:stays [] k=fun _=>true:=by funext r;simp [stays]
 have e2:redR [] k=id:=by
  funext r
  have h:redRow [] k r.1 r.2.1=r.1:=by
   unfold redRow
   apply List.ext_getElem
   ·simp
   ·intro i h1 h2
    simp
  unfold redR
  rw [h]
  rfl
 rw [e1,e2,List.map_id]
 exact List.filter_eq_self.2 fun _ _=>rfl
theorem redE_none (pl:List (List PRec)):redE [] [] pl=pl:=by
 unfold redE
 apply List.ext_getElem
 ·simp
 intro i h1 h2
 rw [List.getElem_mapIdx,redT_none]
theorem tab_ValidZ (A:Option Addr) (c m:Nat) (ts:List Tab) (RA:Option Addr) (rc n:Nat) (rt:List RTab) (w:World) (ht:TabsIn w w.heap.size A ts) (hm:ts.length=m) (hs:SaneCat ts) (hR:RTabsIn w w.heap.size RA rt) (hn:rt.length=n) (hsr:SaneR rt) (hok:RTabsOk ts rt) :
 Calls Tryz.prog 36 #[.agg #[.slice A m c, .slice none 0 0, .slice none 0 0, .slice none 0 0, .slice none 0 0, .slice none 0 0, .slice none 0 0, .slice none 0 0], .slice RA n rc] w fun e w'=>e = .returned (.bool true)∧Below w.heap.size w w' :=
 tab_Valid (o:=Oth.nil) A c m ts RA rc n rt w ht hm hs hok.cat (CatG.nil ht hs hok.cat) hR hn hsr (pb_true hok)
theorem rok_cells {ts:List Tab} {rt:List RTab} (h:RTabsOk ts rt) : ∀ t∈rt,∀ r∈t.recs,0<r.row.length∧r.row.length=r.seq.length ∧ ∀ x∈r.seq,(1:Int)≤x∧x ≤ 1073741824:=fun t ht r hr=>by
 obtain ⟨i,hi,rfl⟩:=List.getElem_of_mem ht
 have hi':i<ts.length:=by rw [← h.len];exact hi
 have hc:=h.cat.cols hi'
 have hp:=(h.pure.tab i (by simpa using hi) hi').rcd (pureR r) (by
  rw [List.getElem_map]
  exact List.mem_map_of_mem hr)
 have h1:r.row.length=ts[i].cols.length:=hp.len
 have h2:r.seq.length=ts[i].cols.length:=hp.slen
 refine ⟨by omega,by omega,fun x hx => ?_⟩
 obtain ⟨j,hj,rfl⟩:=List.getElem_of_mem hx
 have h3:=(hp.cell j omA).pos hj
 have h4:withinB r.seq[j] 1 1073741824=true:=h3
 simp only [withinB,Bool.and_eq_true,decide_eq_true_eq] at h4
 exact h4
theorem rok_sane {ts:List Tab} {rt:List RTab} (h:RTabsOk ts rt):SaneR rt:=by
 have h8:=h.cat.len
 have hl:=h.len
 refine ⟨by omega,fun t ht => ?_,fun t ht r hr => ?_,fun t ht r hr => ?_⟩
 all_goals
  obtain ⟨i,hi,rfl⟩:=List.getElem_of_mem ht
  have hi':i<ts.length:=by omega
  have hc:=h.cat.cols hi'
  have hp:=h.pure.tab i (by simpa using hi) hi'
  rw [List.getElem_map] at hp
 ·have h1:(pureT rt[i]).length ≤ 64:=hp.len
  have h2:(pureT rt[i]).length=rt[i].recs.length:=by simp [pureT]
  omega
 ·have h1:r.row.length=ts[i].cols.length:=(hp.rcd (pureR r) (List.mem_map_of_mem hr)).len
  omega
 ·have h1:r.seq.length=ts[i].cols.length:=(hp.rcd (pureR r) (List.mem_map_of_mem hr)).slen
  omega
theorem red_TablesZ (A:Option Addr) (c m:Nat) (ts:List Tab) (RA:Option Addr) (rc n:Nat) (rt:List RTab) (VA:Option Addr) (vc vn:Nat) (v:List Vn) (GA:Option Addr) (gc gn:Nat) (s:List Src) (w:World)
 (ht:TabsIn w w.heap.size A ts) (hm:ts.length=m) (hs:SaneCat ts) (hR:RTabsIn w w.heap.size RA rt) (hn:rt.length=n) (hok:RTabsOk ts rt)
 (hV:SliceIs w w.heap.size Vn.cells 3 VA v) (hvn:v.length=vn) (hv6:vn ≤ 1000000) (hvk : ∀ x∈v,∃ kl,Go.keyOf Tryz.prog 56 (vnV x)=some kl)
 (hG:SliceIs w w.heap.size Src.cells 2 GA s) (hgn:s.length=gn) (hg6:gn ≤ 1000000) (hgk : ∀ x∈s,∃ kl,Go.keyOf Tryz.prog 51 (srcK x)=some kl) :
 Calls Tryz.prog 13 #[.agg #[.slice A m c, .slice none 0 0, .slice none 0 0, .slice none 0 0, .slice none 0 0, .slice none 0 0, .slice none 0 0, .slice none 0 0], .slice RA n rc, .slice VA vn vc, .slice GA gn gc] w fun e w' =>
  (∃ q rt',e = .returned (.slice (some ⟨q,0,none⟩) n n)∧w.heap.size≤q∧rt'.length=n∧RTabsIn w' w'.heap.size (some ⟨q,0,none⟩) rt'∧RTabsOk ts rt'∧rt'.map pureT=redE v s (rt.map pureT))∧Below w.heap.size w w':=by
 refine (red_Tables A m c none 0 0 none 0 0 none 0 0 none 0 0 none 0 0 none 0 0 none 0 0 RA rc n rt VA vc vn v GA gc gn s w (fun u hu=>tab_ValidZ A c m ts RA rc n rt u (ht.next hu) hm hs (hR.next hu) hn (rok_sane hok) hok) hR hn (rok_sane hok) (fun t ht r hr=>⟨(rok_cells hok t ht r hr).1,(rok_cells hok t ht r hr).2.1,fun x hx=>by have:=(rok_cells hok t ht r hr).2.2 x hx;omega⟩) hV hvn hv6 hvk hG hgn hg6 hgk).mono ?_
 rintro e w' ⟨⟨B,q,rt',rfl,hB,hl,hO,hT,hp⟩,hb⟩
 subst hl
 have hrd:=tabs_read hO fun t ht=>⟨hT.tab t ht,fun x hx=>hT.row t ht x hx⟩
 refine ⟨⟨q,rt',rfl,?_,rfl,hrd.1,POk.back hok.cat (by rw [hp];exact hok.pure.red v s),hp⟩,hb⟩
 exact Nat.le_trans hB (hO.row q rfl)
end Go.Proofs.YtjhnpnhpmdkpcaaGreat
