/-
  Contracts and plain laws of this seat, part 14: Apply, Hist, Begin, VersD.
-/
import Derived.Test.YtkiglflbngfelaaGreatQ8
import Derived.Test.YtkiglflbngfelaaGreatQ11
import Derived.Test.YtkiglflbngfelaaGreatQ13
import Derived.Test.YtkiglflbngfelaaGreatQ7
import Derived.Test.YtkiglflbngfelaaGreatQ12
set_option linter.unusedVariables false
set_option linter.unusedSimpArgs false
set_option maxRecDepth 100000
set_option maxHeartbeats 16000000
namespace Go.Proofs.YtkiglflbngfelaaGreat
open Go.RowKit
theorem aO.shape {ts:List Tab} {rt:List RTab} (h:aO ts rt):fG ts rt:=by
 refine ⟨by rw [List.length_map];exact h.len,fun i hi hi' => ?_⟩
 rw [List.getElem_map]
 have hi2:i<rt.length:=by simpa using hi
 have h1:=h.tab i hi2 hi'
 refine ⟨by simpa [ax] using h1.len,fun r hr => ?_⟩
 obtain ⟨x,hx,rfl⟩:=List.mem_map.1 hr
 obtain ⟨j,hj,rfl⟩:=List.getElem_of_mem hx
 have h2:=(h1.at_ j hj).ok
 exact ⟨h2.len,h2.qW⟩
theorem jK {ts:List Tab} {rt:List RTab} {x:Chg} (h:dZ ts rt x = 0):aO ts rt∧cu ts x = 0:=by
 unfold dZ at h
 split at h
 ·cases h
 ·rename_i h1
  split at h
  ·rename_i h2
   rw [h] at h2
   cases h2
  ·rename_i h2
   refine ⟨eF.1 (by simpa using h1),by simpa using h2⟩
theorem rQ (ts:List Tab) (RA:Option Addr) (rc n:Nat) (rt:List RTab) (k:Nat) (kd sq dy tb:Int) (A0:Option Addr) (cp:Nat) (row:List Val) (key:Val) (cl:Int) (vl:Val) (w:World) (hrt:aP w w.heap.size RA rt) (hn:rt.length=n) (hsh:fG ts rt) (hok:aV ts) (hR:ag w w.heap.size Val.cells 3 A0 row) (hin:iU ts ⟨kd,sq,dy,tb,A0,cp,row,key,cl,vl⟩ k) :
 Calls Tryz.prog 46 #[.slice RA n rc, .agg #[.int .i64 kd, .int .i64 sq, .int .i64 dy, .int .i64 tb, .slice A0 row.length cp, .int .i64 key.kind, .int .i64 key.num, .string key.text, .int .i64 cl, .int .i64 vl.kind, .int .i64 vl.num, .string vl.text]] w (iw w n (aU (rt.map ax) ⟨kd,sq,dy,tb,A0,cp,row,key,cl,vl⟩)):=by
 have htb:tb=(k:Int):=hin.tab
 subst htb
 have hk:k<rt.length:=by rw [hsh.len];exact hin.lt
 have hkt:=hin.lt
 have hsr:=hsh.sD hok
 have hcs:=hok.ae hkt
 have hca:=bI hkt
 have h1:kd = 1→row.length=ts[k].ae.length:=fun h=>by
  have:=hin.ins h
  rw [hca] at this
  exact this
 have hr0:kd = 1 → 0<row.length:=fun h=>by rw [h1 h];exact hcs.1
 have hrl:row.length ≤ 1000000:=by
  by_cases hkd:kd = 1
  ·rw [h1 hkd];omega
  ·have:row.length = 0:=hin.rest hkd
   omega
 have htab:=hsh.tab hk hkt
 obtain ⟨z,hz⟩ : ∃ z,dS (ax rt[k]) (keyOf ⟨kd,sq,dy,(k:Int),A0,cp,row,key,cl,vl⟩)=z:=⟨_,rfl⟩
 by_cases hkd:kd = 1
 ·by_cases h64:z < 0 ∧ 64≤rt[k].recs.length
  ·exact tX RA rc n rt k kd sq dy A0 cp row key cl vl w hrt hn hsr hk hR hrl hr0 hz (.inr ⟨hkd,h64.1,h64.2⟩)
  ·exact DN RA rc n rt k kd sq dy A0 cp row key cl vl w hrt hn hsr hk hR hrl hr0 hz hkd (fun h=>by omega) (fun r hr=>by rw [(htab.2 r hr).1];exact hcs.1)
 ·by_cases hz0:z < 0
  ·exact tX RA rc n rt k kd sq dy A0 cp row key cl vl w hrt hn hsr hk hR hrl hr0 hz (.inl ⟨hkd,hz0⟩)
  ·by_cases hk2:kd = 2
   ·obtain ⟨j,hj,hjl⟩:=hin.upd hk2
    rw [hca] at hjl
    exact DL RA rc n rt k kd sq dy A0 cp row key cl vl w hrt hn hsr hk hR hrl hr0 hz hk2 omA ⟨j,hj,fun r hr=>by rw [(htab.2 r hr).1,(htab.2 r hr).2];exact ⟨hjl,hjl⟩⟩
   ·exact DR RA rc n rt k kd sq dy A0 cp row key cl vl w hrt hn hsr hk hR hrl hr0 hz hkd hk2 omA
theorem DD (A:Option Addr) (c m:Nat) (ts:List Tab) (RA:Option Addr) (rc n:Nat) (rt:List RTab) (kd sq dy tb:Int) (A0:Option Addr) (cp:Nat) (row:List Val) (key:Val) (cl:Int) (vl:Val) (w:World) (ht:aK w w.heap.size A ts) (hm:ts.length=m) (hs:aQ ts) (hrt:aP w w.heap.size RA rt) (hn:rt.length=n) (hsr:fV rt) (hR:ag w w.heap.size Val.cells 3 A0 row) (hrl:row.length ≤ 1000000) {z:Int} (hz:dZ ts rt ⟨kd,sq,dy,tb,A0,cp,row,key,cl,vl⟩=z) :
 Calls Tryz.prog 36 #[.agg #[.slice A m c, .slice none 0 0, .slice none 0 0, .slice none 0 0, .slice none 0 0, .slice none 0 0, .slice none 0 0, .slice none 0 0], .slice RA n rc, .agg #[.int .i64 kd, .int .i64 sq, .int .i64 dy, .int .i64 tb, .slice A0 row.length cp, .int .i64 key.kind, .int .i64 key.num, .string key.text, .int .i64 cl, .int .i64 vl.kind, .int .i64 vl.num, .string vl.text]] w (fun e w'=>(∃ A' c' m' l',e = .returned (.tuple #[.slice A' m' c', .int .i64 z])∧(z = 0→m'=n∧l'.length=n∧aP w' w'.heap.size A' l'∧RUp w.heap.size A' l'∧fG ts l'∧l'.map ax=aU (rt.map ax) ⟨kd,sq,dy,tb,A0,cp,row,key,cl,vl⟩))∧Below w.heap.size w w'):=by
 subst hm hn
 have HZ:=qh hz
 have HT:=qh ht
 have HS:=qh hs
 have HRT:=qh hrt
 have HSR:=qh hsr
 have HR:=qh hR
 clear hz ht hs hrt hsr hR
 go_enter Tryz.func36,Tryz.ntmps36
 go_upto_region 1 with (fail)
 refine ah (P:=fun u=>Code.wp _ _ _ _ u) (R:=fun u=>Blk u w.heap.size 34 #[.slice A ts.length c, .slice none 0 0, .slice none 0 0, .slice none 0 0, .slice none 0 0, .slice none 0 0, .slice none 0 0, .slice none 0 0]∧Blk u (w.heap.size + 1) 53 (Chg.cells ⟨kd,sq,dy,tb,A0,cp,row,key,cl,vl⟩).toArray∧Below w.heap.size w u) ⟨?_,?_,?_⟩ ?_
 ·exact (Blk.new _ _ _).alloc _
 ·exact Blk.new' spA
 ·exact au
 rintro W ⟨hC,hX,hbW⟩
 have hzW:=hX.lt
 have HC:=qh hC
 have HX:=qh hX
 obtain ⟨p0,p1,p2,p3,p4,p5,p6,p7⟩:=Cat.blk hC
 obtain ⟨⟨q0,q1,q2,q3⟩,q4,⟨q5,q6,q7⟩,q8,q9,q10,q11⟩:=Chg.blk hX
 simp only at q0 q1 q2 q3 q4 q5 q6 q7 q8 q9 q10 q11
 clear hC hX
 go_wp2_with fail
 (with_reducible refine (DC A c ts.length ts RA rc rt.length rt kd sq dy tb A0 cp row key cl vl _ (HT.out.next (aa hbW brf hbW.size)) rfl HS.out (HRT.out.next (aa hbW brf hbW.size)) rfl HSR.out (HR.out.next (aa hbW brf hbW.size)) hrl HZ.out).mono ?_)
 rintro e w1 ⟨rfl,hb1⟩
 clear p0 p1 p2 p3 p4 p5 p6 p7 q0 q1 q2 q3 q4 q5 q6 q7 q8 q9 q10 q11
 have hx1:=aa hbW hb1 hbW.size
 have hz1:=hb1.size
 by_cases hz0:z = 0
 rotate_left
 ·have hz0':(z != 0)=true:=by simpa using hz0
  have HZ0:=qh hz0
  clear hz0
  go_wp2_with fail
  go_ret2
  exact ⟨⟨none,0,0,[],rfl,fun h=>absurd h HZ0.out⟩,hx1⟩
 have HCZ:=qh (jK (HZ.out.trans hz0))
 have HZ0:=qh hz0
 have hz0':(z != 0)=false:=by rw [hz0];rfl
 obtain ⟨k,hin⟩:=iO HCZ.out.2
 have HIN:=qh hin
 have hX1:=HX.out.below hb1 hzW
 have hC1:=HC.out.below hb1 omA
 obtain ⟨p0,p1,p2,p3,p4,p5,p6,p7⟩:=Cat.blk hC1
 obtain ⟨⟨q0,q1,q2,q3⟩,q4,⟨q5,q6,q7⟩,q8,q9,q10,q11⟩:=Chg.blk hX1
 simp only at q0 q1 q2 q3 q4 q5 q6 q7 q8 q9 q10 q11
 clear hC1 hX1 hin hz0
 go_wp2_with fail
 (with_reducible refine (rQ ts RA rc rt.length rt k kd sq dy tb A0 cp row key cl vl _ (HRT.out.next (aa hx1 brf hx1.size)) rfl HCZ.out.1.shape HCZ.out.1.cat (HR.out.next (aa hx1 brf hx1.size)) HIN.out).mono ?_)
 rintro e w2 ⟨⟨A',c',l',rfl,hl1,hl2,hl3,hl4⟩,hb2⟩
 have HL:=qh (And.intro hl1 (And.intro hl2 (And.intro hl3 hl4)))
 have HZZ:Hid (z = 0):=HZ0
 clear hl1 hl2 hl3 hl4
 clear p0 p1 p2 p3 p4 p5 p6 p7 q0 q1 q2 q3 q4 q5 q6 q7 q8 q9 q10 q11
 go_wp2_with fail
 go_ret2
 have Ql:=HZZ.out
 subst Ql
 refine ⟨⟨A',c',rt.length,l',rfl,fun _=>⟨rfl,HL.out.1,HL.out.2.1,HL.out.2.2.1.mono hx1.size,?_,HL.out.2.2.2⟩⟩,aa hx1 hb2 hx1.size⟩
 show kH ts (l'.map ax)
 rw [HL.out.2.2.2]
 exact kH.FI HCZ.out.1.shape HIN.out
theorem gy.mono {B B':Nat} {A:Option Addr} {ts:List Tab} (h:gy B A ts) (hb:B'≤B):gy B' A ts:=⟨fun a ha=>Nat.le_trans hb (h.1 a ha),fun t ht=>⟨fun a ha=>Nat.le_trans hb ((h.2 t ht).1 a ha),fun x hx a ha=>Nat.le_trans hb ((h.2 t ht).2 x hx a ha)⟩⟩
theorem aP.Gp {w w':World} {A:Option Addr} {rt:List RTab} {B:Nat} {row:Option Nat} (h:aP w w.heap.size A rt) (hu:RUp B A rt) (hr : ∀ q,row=some q→q<B) (hg:w.grownBy w' row):aP w' w'.heap.size A rt:=by
 have hne : ∀ {A:Option Addr},(∀ a,A=some a→B≤a.block) → ∀ a,A=some a→some a.block≠row:=fun h a ha e=>by
  have h1:=h a ha
  have h2:=hr a.block e.symm
  omega
 exact ⟨ag.grown h.1 hg (hne hu.1),fun t ht=>⟨ag.grown (h.2 t ht).1 hg (hne (hu.2 t ht).1),fun x hx=>⟨ag.grown ((h.2 t ht).2 x hx).1 hg (hne ((hu.2 t ht).2 x hx).1),ag.grown ((h.2 t ht).2 x hx).2 hg (hne ((hu.2 t ht).2 x hx).2)⟩⟩⟩
structure vP (w:World) (base:Nat) (A:Option Addr) (c:Nat) (l:List Chg):Prop where
 own:av w base 53 Chg.cells 12 (.slice A l.length c) l
 rows : ∀ x∈l,av w base 51 Val.cells 3 (.slice x.A x.row.length x.cap) x.row
 len : ∀ x∈l,x.row.length ≤ 8
theorem vP.kept {w w':World} {base g:Nat} {A:Option Addr} {c:Nat} {l:List Chg} (h:vP w base A c l) (hg:w.grownBy w' (some g)) (hb:g<base):vP w' base A c l :=
 ⟨h.own.kept hg fun q hq e=>by have:=h.own.row q hq;injection e with e;omega,fun x hx=>(h.rows x hx).kept hg fun q hq e=>by have:=(h.rows x hx).row q hq;injection e with e;omega,h.len⟩
theorem vP.below {w w':World} {base:Nat} {A:Option Addr} {c:Nat} {l:List Chg} (h:vP w base A c l) (hb:Below w.heap.size w w'):vP w' base A c l :=
 ⟨h.own.below hb nlr,fun x hx=>(h.rows x hx).below hb nlr,h.len⟩
theorem vP.app {w w':World} {base:Nat} {A A':Option Addr} {c c':Nat} {l:List Chg} {x:Chg} (h:vP w base A c l) (hg:w.grownBy w' (Value.slice A l.length c).ownBlock) (ho:av w' base 53 Chg.cells 12 (.slice A' (l ++ [x]).length c') (l ++ [x]))
 (hx:av w base 51 Val.cells 3 (.slice x.A x.row.length x.cap) x.row) (hl:x.row.length ≤ 8):vP w' base A' c' (l ++ [x]):=by
 refine ⟨ho,fun y hy => ?_,fun y hy => ?_⟩
 ·rcases List.mem_append.1 hy with h1|h1
  ·exact (h.rows y h1).kept hg ((h.rows y h1).dF h.own (by decide))
  ·rw [List.mem_singleton.1 h1]
   exact hx.kept hg (hx.dF h.own (by decide))
 ·rcases List.mem_append.1 hy with h1|h1
  ·exact h.len y h1
  ·rw [List.mem_singleton.1 h1]
   exact hl
theorem vP.read {w:World} {base:Nat} {A:Option Addr} {c:Nat} {l:List Chg} (h:vP w base A c l):jv w w.heap.size A l:=⟨dw qP h.own,fun x hx=>dw dA (h.rows x hx)⟩
theorem E8 (ts:List Tab):fG ts (List.replicate ts.length dK):=by
 refine ⟨by simp,fun i hi hi' => ?_⟩
 rw [List.getElem_map,List.getElem_replicate]
 exact ⟨by simp [ax,dK],fun r hr=>by simp [ax,dK] at hr⟩
theorem Nr {B q:Nat} (hq:B≤q) (n:Nat):RUp B (some ⟨q,0,none⟩) (List.replicate n dK):=by
 have hz : ∀ t∈List.replicate n dK,t=dK:=fun t ht=>(List.mem_replicate.1 ht).2
 refine ⟨fun a ha=>by injection ha with ha;subst ha;exact hq,fun t ht => ?_⟩
 rw [hz t ht]
 exact ⟨fun a ha=>by simp [dK] at ha,fun x hx=>by simp [dK] at hx⟩
theorem wZ:(Tryz.prog.info? 106).map (fun i=>(i.zero,i.size,i.bytes))=some (some (.agg #[.int .i64 0, .int .i64 0, .string ⟨#[]⟩, .int .i64 0, .slice none 0 0, .slice none 0 0]),6,88):=by kernel_rfl
theorem Ob:(Tryz.prog.info? 103).map (fun i=>(i.zero,i.size,i.bytes))=some (some (.slice none 0 0),1,24):=by kernel_rfl
theorem xm : ∀ x:Option Addr × Nat × List Ident,(jU x).length = 1:=fun _=>rfl
theorem OW : ∀ x:Option Addr × Nat × List Ident,∀ u∈jU x,u.oneCell'=true:=by
 intro x u hu
 simp only [jU,List.mem_cons,List.not_mem_nil,or_false] at hu
 rcases hu with rfl
 rfl
theorem lM : ∀ x:Alv,∀ u∈Alv.cells x,u.oneCell'=true:=by
 intro x u hu
 simp only [Alv.cells,List.mem_cons,List.not_mem_nil,or_false] at hu
 rcases hu with rfl|rfl|rfl|rfl|rfl|rfl <;> rfl
structure di (w:World) (base n B:Nat) (x:Alv):Prop where
 own:av w base 191 Ident.cells 4 (.slice x.A x.own.length x.cap) x.own
 FM:x.own.length≤B
 by_:av w base 103 jU 1 (.slice x.BA x.by_.length x.RB) x.by_
 each : ∀ y∈x.by_,av w base 191 Ident.cells 4 (.slice y.1 y.2.2.length y.2.1) y.2.2∧y.2.2.length≤B
 GI:x.by_.length=n
 sq : 1≤x.seq∧x.seq ≤ 1073741824
theorem di.same {w w':World} {base n B:Nat} {x:Alv} (h:di w base n B x) (hh : ∀ g,base≤g→w'.heap[g]? = w.heap[g]?):di w' base n B x :=
 ⟨h.own.same fun g hg=>hh g (h.own.row g hg),h.FM,h.by_.same fun g hg=>hh g (h.by_.row g hg),fun y hy=>⟨(h.each y hy).1.same fun g hg=>hh g ((h.each y hy).1.row g hg),(h.each y hy).2⟩,h.GI,h.sq⟩
theorem di.below {w w':World} {base n B:Nat} {x:Alv} (h:di w base n B x) (hb:Below w.heap.size w w'):di w' base n B x :=
 ⟨h.own.below hb nlr,h.FM,h.by_.below hb nlr,fun y hy=>⟨(h.each y hy).1.below hb nlr,(h.each y hy).2⟩,h.GI,h.sq⟩
theorem di.mono {w:World} {base base' n B:Nat} {x:Alv} (h:di w base n B x) (hb:base'≤base):di w base' n B x :=
 ⟨h.own.mono hb,h.FM,h.by_.mono hb,fun y hy=>⟨(h.each y hy).1.mono hb,(h.each y hy).2⟩,h.GI,h.sq⟩
theorem di.read {w:World} {base n B:Nat} {x:Alv} (h:di w base n B x) (hB:B ≤ 100000):wG w w.heap.size x :=
 ⟨dw cK h.own,mY h.own,Nat.le_trans h.FM hB,dw xm h.by_,fun y hy=>⟨dw cK (h.each y hy).1,Nat.le_trans (h.each y hy).2 hB⟩⟩
theorem di.kept {α : Type} {enc : α → List Value} {s base':Nat} {e:TypeId} {v:Value} {m:List α} {w w':World} {base n B:Nat} {x:Alv} (h:di w base n B x) (hv:av w base' e enc s v m) (h1 : 191≠e) (h2 : 103≠e) (hg:w.grownBy w' v.ownBlock):di w' base n B x :=
 ⟨h.own.kept hg (h.own.dF hv h1),h.FM,h.by_.kept hg (h.by_.dF hv h2),fun y hy=>⟨(h.each y hy).1.kept hg ((h.each y hy).1.dF hv h1),(h.each y hy).2⟩,h.GI,h.sq⟩
theorem di.eO {w:World} {base n B q i:Nat} {x:Alv} {e:TypeId} {cs:Array Value} (h:di w base n B x) (hq:w.heap[q]? = some (.cells cs e (0,0))) (h1:e ≠ 191) (h2:e ≠ 103) (u:Value):di (w.setCell ⟨q,i,none⟩ u) base n B x :=
 ⟨h.own.eO hq h1 u,h.FM,h.by_.eO hq h2 u,fun y hy=>⟨(h.each y hy).1.eO hq h1 u,(h.each y hy).2⟩,h.GI,h.sq⟩
def Nq (al:List gm):Prop := ∀ i (h:i<al.length),∀ x∈al[i].recs,x.own.length ≤ 8 ^ (i + 1)
theorem OX {ts:List Tab} {al:List gm} (hok:aV ts) (hlen:al.length=ts.length) (hb:Nq al) {k:Nat} (hk:k<ts.length) {x:Col} (hx:x∈ts[k].ae) (hn : ¬ (x.ns=⟨#[]⟩∧x.refs=⟨#[]⟩)) (v:Val):(byE ts al x v).length ≤ 8 ^ k:=by
 have hp : 1 ≤ 8 ^ k:=Nat.one_le_pow _ _ omA
 unfold byE
 split
 ·exact Nat.zero_le _
 ·split
  ·exact hp
  ·rename_i h1 h2
   have hns:x.ns=⟨#[]⟩:=Decidable.byContradiction fun h=>h2 (j3 h)
   have hrf:x.refs≠⟨#[]⟩:=fun h=>hn ⟨hns,h⟩
   obtain ⟨j,hj,hjk,hname,_⟩:=hok.ref hk hx hrf
   have hfi:iE (ts.map Tab.name) x.refs ts.length=(j:Int):=by
    have h:=hok.find hj
    rwa [hname] at h
   have hja:j<al.length:=by omega
   rw [hfi,Bi hja]
   have hpw : 8 ^ (j + 1) ≤ 8 ^ k:=Nat.pow_le_pow_right omA omA
   unfold ownAt
   split
   ·split
    ·rename_i y hy
     exact Nat.le_trans (hb j hja y (List.mem_of_getElem? hy)) hpw
    ·exact Nat.zero_le _
   ·exact Nat.zero_le _
theorem MV {ts:List Tab} {al:List gm} (hok:aV ts) (hlen:al.length=ts.length) {k:Nat} (hk:k<ts.length) {x:Col} (hx:x∈ts[k].ae) (hn : ¬ (x.ns=⟨#[]⟩∧x.refs=⟨#[]⟩)) (he:x.ns.toList.isEmpty=true) : ∃ j:Nat,j<al.length∧iE (ts.map Tab.name) x.refs ts.length=(j:Int):=by
 have hns:x.ns=⟨#[]⟩:=Decidable.byContradiction fun h=>by have:=j3 h;rw [he] at this;cases this
 have hrf:x.refs≠⟨#[]⟩:=fun h=>hn ⟨hns,h⟩
 obtain ⟨j,hj,hjk,hname,_⟩:=hok.ref hk hx hrf
 refine ⟨j,by omega,?_⟩
 have h:=hok.find hj
 rwa [hname] at h
theorem DU {ts:List Tab} (hok:aV ts) {k:Nat} (hk:k<ts.length) {q:Col} (hq:q∈ts[k].ae) {z:Int} (hz:z∈q.own) : ∃ j:Nat,∃ hj:j<ts[k].ae.length,z=(j:Int) ∧ ¬ (ts[k].ae[j].ns=⟨#[]⟩∧ts[k].ae[j].refs=⟨#[]⟩):=by
 obtain ⟨i,hi,rfl⟩:=List.getElem_of_mem hz
 have h:=hok.FK hk hq i hi
 have h1:=h.lo
 exact ⟨q.own[i].toNat,h.hi,by omega,h.some_⟩
theorem BJ {ts:List Tab} (hok:aV ts) {k:Nat} (hk:k<ts.length) {out:List Int} (ho:fM [] ts[k].ae [] out):(∀ z∈out,∃ j:Nat,∃ hj:j<ts[k].ae.length,z=(j:Int) ∧ ¬ (ts[k].ae[j].ns=⟨#[]⟩∧ts[k].ae[j].refs=⟨#[]⟩))∧out.length ≤ 8:=by
 have h1 : ∀ z∈out,∃ j:Nat,∃ hj:j<ts[k].ae.length,z=(j:Int) ∧ ¬ (ts[k].ae[j].ns=⟨#[]⟩∧ts[k].ae[j].refs=⟨#[]⟩):=fun z hz=>by
  rcases (ho.2 z).1 hz with h|⟨q,hq,h⟩|h
  ·cases h
  ·exact DU hok hk hq h
  ·cases h
 refine ⟨h1,?_⟩
 have hc:=(hok.ae hk).2
 rcases Nat.lt_or_ge ts[k].ae.length out.length with h|h
 ·have h2:=GJ ho.1 (fun z hz=>by obtain ⟨j,_,hj,_⟩:=h1 z hz;omega) ts[k].ae.length h
  obtain ⟨j,hj,hje,_⟩:=h1 _ (lgm h)
  omega
 ·omega
theorem keepW {W v:World} (h:Below W.heap.size W v) (x:Nat) (hx:x<W.heap.size) : ∀ o,v.cell? ⟨x,o,none⟩=W.cell? ⟨x,o,none⟩:=(bD h x hx).1
theorem Jh {w:World} {B q j:Nat} {A:Option Addr} {l:List Int} {A0:Option Addr} {n c:Nat} (h:ag w B intCells 1 A l) (hc:w.cell? ⟨q,j,none⟩=some (.slice A0 n c)) (u:Value):ag (w.setCell ⟨q,j,none⟩ u) B intCells 1 A l:=by
 intro hl
 obtain ⟨b,o,hA,hB,hg⟩:=h hl
 refine ⟨b,o,hA,hB,fun i hi m v hv => ?_⟩
 have h1:=hg i hi m v hv
 have hm:m = 0∧v = .int .i64 l[i]:=by
  cases m with
  | zero=>exact ⟨rfl,by simpa [intCells] using hv.symm⟩
  | succ m=>simp [intCells] at hv
 rw [hm.2] at h1 ⊢
 by_cases he:b=q∧o+(i * 1+m)=j
 ·rw [he.1,he.2,hc] at h1
  cases h1
 ·have hne:(⟨q,j,none⟩:Addr)≠⟨b,o+(i * 1+m),none⟩:=fun e=>he (by injection e with e1 e2;exact ⟨e1.symm,e2.symm⟩)
  exact (World.cell?_setCell_other (h:=hne) ..).trans h1
theorem Dy (A:Option Addr) (c m:Nat) (ts:List Tab) (RA:Option Addr) (rc n:Nat) (al:List gm) (k:Nat) (sq dy:Int) (A0:Option Addr) (cp:Nat) (row:List Val) (key:Val) (cl:Int) (vl:Val) (w:World)
 (ht:aK w w.heap.size A ts) (hm:ts.length=m) (hs:aQ ts) (hok:aV ts) (hr:il w w.heap.size RA al) (hn:al.length=n) (hlen:al.length=ts.length) (hbd:Nq al) (h5:ts.length ≤ 5) (hin:iU ts ⟨1,sq,dy,(k:Int),A0,cp,row,key,cl,vl⟩ k) (hR:ag w w.heap.size Val.cells 3 A0 row) :
 Calls Tryz.prog 60 #[.agg #[.slice A m c, .slice none 0 0, .slice none 0 0, .slice none 0 0, .slice none 0 0, .slice none 0 0, .slice none 0 0, .slice none 0 0], .slice RA n rc, .agg #[.int .i64 1, .int .i64 sq, .int .i64 dy, .int .i64 (k:Int), .slice A0 row.length cp, .int .i64 key.kind, .int .i64 key.num, .string key.text, .int .i64 cl, .int .i64 vl.kind, .int .i64 vl.num, .string vl.text]] w fun e w'=>(∃ x:Alv,e = .returned (.agg x.cells.toArray)∧di w' w.heap.size (dh ts (k:Int)).length (8 ^ (k + 1)) x)∧Below w.heap.size w w':=by
 subst hm hn
 have hk:=hin.lt
 have HSQ:Hid (1≤sq∧sq ≤ 1073741824):=qh (by have h1:=hin.seq;simp only [aB,Bool.and_eq_true,decide_eq_true_eq] at h1;exact h1)
 have hcs:=hok.ae hk
 have hca:=bI hk
 have hrl:row.length=ts[k].ae.length:=by
  have:=hin.ins rfl
  rw [hca] at this
  exact this
 rw [hca]
 obtain ⟨bd,Ml⟩ : ∃ bd,8 ^ k=bd:=⟨_,rfl⟩
 have UC : 1≤bd:=by rw [← Ml];exact Nat.one_le_pow _ _ omA
 have Y5:bd ≤ 4096:=by rw [← Ml];exact Nat.le_trans (Nat.pow_le_pow_right omA (show k ≤ 4 by omega)) (by decide)
 have UB : 8 ^ (k + 1) = 8*bd:=by rw [← Ml,Nat.pow_succ,Nat.mul_comm]
 rw [UB]
 obtain ⟨cb,co,rfl,hcb,hcc⟩:=ht.1.get hk
 obtain ⟨t0,t1,t2,t3⟩:=Tab.cO hcc
 have bR:=ht.2 ts[k] (lgm hk)
 obtain ⟨is,his,VV,VU,VT⟩:=info_parts Ob
 have HBE:=qh (fun (x:Col) (hx:x∈ts[k].ae) hn v=>OX (al:=al) hok hlen hbd hk hx hn v)
 have HBY:=qh (fun (x:Col) (hx:x∈ts[k].ae) hn he=>MV (al:=al) hok hlen hk hx hn he)
 have HOF:=qh (fun (out:List Int) (ho:fM [] ts[k].ae [] out)=>BJ hok hk ho)
 have HOQ:=qh (fun (q:Col) (hq:q∈ts[k].ae) (z:Int) (hz:z∈q.own)=>DU hok hk hq hz)
 have HOL:=qh (fun (q:Col) (hq:q∈ts[k].ae)=>hok.uf hk hq)
 have uy : ∀ x∈ts[k].ae,x.own.length ≤ 100:=fun x hx=>by have:=hok.uf hk hx;omega
 have R6:=qh uy
 obtain ⟨⟨tn,CA,cc,ae,ter,trt⟩,hy⟩ : ∃ x:Tab,ts[k]=x:=⟨_,rfl⟩
 have HY:Hid (ts[k].ae=ae):=qh (by rw [hy])
 rw [hy] at t0 t1 t2 t3 bR hcs hrl HBE HBY HOF HOQ HOL R6
 simp only [Ml] at t0 t1 t2 t3 bR hcs hrl HBE HBY HOF HOQ HOL R6
 rw [HY.out]
 have hc0:=hcs.1
 have hc8:=hcs.2
 have si:=qh bR
 have HT1:=qh (And.intro t0 (And.intro t1 (And.intro t2 t3)))
 have hk':decide (k<ts.length)=true:=by simpa using hk
 have HT:=qh ht
 have HS:=qh hs
 have HOK:=qh hok
 have HR:=qh hr
 have HRV:=qh hR
 have HRL:=qh hrl
 have hr0 : 0<row.length:=by omega
 have pM:decide (0<row.length)=true:=by simpa using hr0
 have hc0':decide (0<ae.length)=true:=by simpa using hc0
 obtain ⟨b5,o5,hRe,hb5,hc5⟩:=hR.get hr0
 obtain ⟨v0,v1,v2⟩:=Val.cells3 hc5
 obtain ⟨⟨kk,kn,kt⟩,hkv⟩ : ∃ v:Val,row[0]=v:=⟨_,rfl⟩
 rw [hkv] at v0 v1 v2
 simp only [Nat.zero_mul,Nat.add_zero] at v0 v1 v2
 subst hRe
 clear hcc hy bR hcs hrl t0 t1 t2 t3 ht hs hok hr hR hc5 hkv Ml UB hca hin hlen hbd uy
 go_enter Tryz.func60,Tryz.ntmps60
 go_upto_region 1 with (fail)
 refine ah (P:=fun u=>Code.wp _ _ _ _ u) (R:=fun u=>Blk u w.heap.size 34 #[.slice (some ⟨cb,co,none⟩) ts.length c, .slice none 0 0, .slice none 0 0, .slice none 0 0, .slice none 0 0, .slice none 0 0, .slice none 0 0, .slice none 0 0]∧Blk u (w.heap.size + 1) 53 #[.int .i64 1, .int .i64 sq, .int .i64 dy, .int .i64 (k:Int), .slice (some ⟨b5,o5,none⟩) row.length cp, .int .i64 key.kind, .int .i64 key.num, .string key.text, .int .i64 cl, .int .i64 vl.kind, .int .i64 vl.num, .string vl.text]∧Blk u (w.heap.size + 2) 106 #[.int .i64 0, .int .i64 0, .string ⟨#[]⟩, .int .i64 0, .slice none 0 0, .slice none 0 0]∧Below w.heap.size w u) ⟨?_,?_,?_,?_⟩ ?_
 ·exact ((Blk.new _ _ _).alloc _).alloc _
 ·exact (Blk.new' spA).alloc _
 ·exact Blk.new' spA
 ·exact au
 rintro W ⟨hC,hX,hE,hbW⟩
 have hzW:=hE.lt
 have HC:=qh hC
 have HX:=qh hX
 have HE:=qh hE
 have q1:=hX.cell 1
 have q3:=hX.cell 3
 have q4:=hX.cell 4
 simp only [gE3] at q1 q3 q4
 have v0:=(hbW.cell (p:=⟨b5,_,none⟩) hb5).trans v0
 have v1:=(hbW.cell (p:=⟨b5,_,none⟩) hb5).trans v1
 have v2:=(hbW.cell (p:=⟨b5,_,none⟩) hb5).trans v2
 clear hC hX hE
 refine aM (S:=(fun v=>Below W.heap.size W v)) [8] krA (brf.drew) (fun hHeld => ?_)
 refine tkT 0 hHeld ?_
 refine tkT 1 hHeld ?_ (hy:=by intro v hSv;(try dsimp only at hSv);have k1:=keepW hSv (w.heap.size + 1) omA;go_simp;first|done|with_reducible rfl)
 refine tkT 2 hHeld ?_
 refine tkT 3 hHeld ?_ (hy:=by intro v hSv;(try dsimp only at hSv);have k1:=keepW hSv b5 omA;go_simp;first|done|with_reducible rfl)
 refine tkT 4 hHeld ?_
 refine tkT 5 hHeld ?_ (hy:=by intro v hSv;(try dsimp only at hSv);have k1:=keepW hSv (w.heap.size + 1) omA;go_simp;first|done|with_reducible rfl)
 refine tkT 6 hHeld ?_
 refine r1T 7 (fun K hK => ?_)
 go_simp
 refine hK.out _ _ _ au (fun hHeld => ?_)
 clear hK K
 refine rzT 8 (fun K hK => ?_)
 go_simp
 refine hK.out _ _ _ ?_
 clear hK K
 refine aZ krA ?_ _
 clear hHeld v0 v1 v2 q1 q3 q4
 go_upto_region 2 with (fail)
 refine ah (P:=fun u=>Code.wp _ _ _ _ u) (R:=fun u=>Blk u W.heap.size 106 #[.int .i64 kk, .int .i64 kn, .string kt, .int .i64 sq, .slice none 0 0, .slice none 0 0]∧Below W.heap.size W u) ⟨?_,?_⟩ ?_
 ·exact Blk.new' rfl
 ·exact au
 rintro U ⟨hYU,hbU⟩
 have hzU:=hYU.lt
 have hxU:=aa hbW hbU hbW.size
 have hCU:=HC.out.below hbU omA
 have hXU:=HX.out.below hbU omA
 have q3:=hXU.cell 3
 simp only [gE3] at q3
 obtain ⟨p0,p1,p2,p3,p4,p5,p6,p7⟩:=Cat.blk hCU
 obtain ⟨t0,t1,t2,t3⟩:=HT1.out
 have t1:=(hxU.cell (p:=⟨cb,_,none⟩) hcb).trans t1
 have HYU:=qh hYU
 clear hYU hCU hXU t0 t2 t3
 go_wp2_with fail
 (with_reducible refine (sH (some ⟨cb,co,none⟩) c ts.length ts k ae _ (HT.out.next hxU) rfl hk HY.out omA R6.out).mono ?_)
 rintro e U1 ⟨⟨OWA,owc,own,rfl,YB,TU,TV⟩,hb1⟩
 have hof:=HOF.out own TV
 have Vz:=qh hof.1
 have YC:=hof.2
 have Et:=aa hbU hb1 hbU.size
 have HY1:=qh (HYU.out.below hb1 hzU)
 have Vu:=qh TU
 clear hof TV TU t1 q3 HYU hb1 hxU
 clear p0 p1 p2 p3 p4 p5 p6 p7
 go_wp2_with fail
 go_loopw [10] (fun vi wr => ∃ (i:Nat) (OA:Option Addr) (oc:Nat) (ol:List Ident),i≤own.length∧vi = .int .i64 i∧Blk wr W.heap.size 106 #[.int .i64 kk, .int .i64 kn, .string kt, .int .i64 sq, .slice OA ol.length oc, .slice none 0 0]∧av wr W.heap.size 191 Ident.cells 4 (.slice OA ol.length oc) ol∧ol.length≤i*bd∧ag wr wr.heap.size intCells 1 OWA own∧Below W.heap.size W wr) (fun vi _=>own.length - (intOf vi).toNat)
 case atStart=>exact ⟨0,none,0,[],Nat.zero_le _,rfl,HY1.out,av.nil,by simp,Vu.out,Et⟩
 case round =>
  clear Et HY1 Vu hzU hbU
  obtain ⟨i,OA,oc,ol,hi,rfl,hYr,hor,hol,hwr,hbr⟩:=hrel
  have hxr:=aa hbW hbr hbW.size
  have hzr:=hbr.size
  have hYl:=hYr.lt
  have hmul:i*bd ≤ 8*bd:=Nat.mul_le_mul_right _ omA
  have HYR:=qh hYr
  have HOR:=qh hor
  have HWR:=qh hwr
  have hCr:=HC.out.below hbr omA
  have hXr:=HX.out.below hbr omA
  have q4:=hXr.cell 4
  simp only [gE3] at q4
  obtain ⟨p0,p1,p2,p3,p4,p5,p6,p7⟩:=Cat.blk hCr
  clear hor hCr hXr
  by_cases hlt:i<own.length
  ·have hlt':decide (i<own.length)=true:=by simpa using hlt
   obtain ⟨j,hj,hje,hns⟩:=Vz.out own[i] (lgm hlt)
   obtain ⟨b7,o7,hWe,hb7,hc7⟩:=HWR.out.get hlt
   have w0:=hc7 0 _ rfl
   rw [hje] at w0
   simp only [Nat.mul_one,Nat.add_zero] at w0
   subst hWe
   obtain ⟨xb,xo',hCe,hxb,hxc⟩:=si.out.1.get hj
   obtain ⟨x0,x1,x2,x3,x4,x5,x6⟩:=Col.bW hxc
   have hmem:ae[j]∈ae:=lgm hj
   obtain ⟨rv,hrv⟩ : ∃ v,row[j]'(by rw [HRL.out];exact hj)=v:=⟨_,rfl⟩
   obtain ⟨b8,o8,Gl,hb8,hc8⟩:=HRV.out.get (i:=j) (by rw [HRL.out];exact hj)
   rw [hrv] at hc8
   injection Gl with Gl
   injection Gl with Re Mt
   subst Re Mt
   obtain ⟨v0,v1,v2⟩:=Val.cells3 hc8
   obtain ⟨⟨xn,xt,xs,xr,xA,xc,xo,xj,xd⟩,hxe⟩ : ∃ x:Col,ae[j]=x:=⟨_,rfl⟩
   rw [hxe] at x0 x1 x2 x3 x4 x5 x6 hmem hns
   simp only at x0 x1 x2 x3 x4 x5 x6 hns
   obtain ⟨r,hr⟩ : ∃ r,byE ts al ⟨xn,xt,xs,xr,xA,xc,xo,xj,xd⟩ rv=r:=⟨_,rfl⟩
   have vB:r.length≤bd:=by rw [← hr];exact HBE.out _ hmem hns rv
   have HBR:=qh hr
   have HBL:=qh (HBY.out ⟨xn,xt,xs,xr,xA,xc,xo,xj,xd⟩ hmem hns)
   subst hCe
   have x0:=(hxr.cell (p:=⟨xb,_,none⟩) hxb).trans x0
   have x1:=(hxr.cell (p:=⟨xb,_,none⟩) hxb).trans x1
   have x2:=(hxr.cell (p:=⟨xb,_,none⟩) hxb).trans x2
   have x3:=(hxr.cell (p:=⟨xb,_,none⟩) hxb).trans x3
   have x4:=(hxr.cell (p:=⟨xb,_,none⟩) hxb).trans x4
   have x5:=(hxr.cell (p:=⟨xb,_,none⟩) hxb).trans x5
   have x6:=(hxr.cell (p:=⟨xb,_,none⟩) hxb).trans x6
   have v0:=(hxr.cell (p:=⟨b5,_,none⟩) hb8).trans v0
   have v1:=(hxr.cell (p:=⟨b5,_,none⟩) hb8).trans v1
   have v2:=(hxr.cell (p:=⟨b5,_,none⟩) hb8).trans v2
   have hj':decide (j<ae.length)=true:=by simpa using hj
   have hjr:j<row.length:=by rw [HRL.out];exact hj
   have WG:decide (j<row.length)=true:=by simpa using hjr
   have y4:=hYr.cell 4
   simp only [gE3] at y4
   clear hc7 hxc hrv hc8 hxe hr hmem hns hje hYr
   go_upto_region 7 with (fail)
   refine aM (S:=(fun v=>Below wr.heap.size wr v)) [22] krA (brf.drew) (fun hHeld => ?_)
   refine tkT 0 hHeld ?_
   refine tkT 1 hHeld ?_ (hy:=by intro v hSv;(try dsimp only at hSv);have k1:=keepW hSv W.heap.size hYl;go_simp;first|done|with_reducible rfl)
   refine tkT 2 hHeld ?_ (hy:=by intro v hSv;(try dsimp only at hSv);have k1:=keepW hSv w.heap.size omA;go_simp;first|done|with_reducible rfl)
   refine tkT 3 hHeld ?_
   refine tkT 4 hHeld ?_
   refine tkT 5 hHeld ?_
   refine tkT 6 hHeld ?_
   refine tkT 7 hHeld ?_
   refine tkT 8 hHeld ?_ (hy:=by intro v hSv;(try dsimp only at hSv);have k1:=keepW hSv b7 hb7;go_simp;first|done|with_reducible rfl)
   refine tkT 9 hHeld ?_
   refine tkT 10 hHeld ?_ (hy:=by intro v hSv;(try dsimp only at hSv);have k1:=keepW hSv xb omA;go_simp;first|done|with_reducible rfl)
   refine tkT 11 hHeld ?_
   refine tkT 12 hHeld ?_ (hy:=by intro v hSv;(try dsimp only at hSv);have k1:=keepW hSv (w.heap.size + 1) omA;go_simp;first|done|with_reducible rfl)
   refine tkT 13 hHeld ?_
   refine tkT 14 hHeld ?_
   refine tkT 15 hHeld ?_
   refine tkT 16 hHeld ?_ (hy:=by intro v hSv;(try dsimp only at hSv);have k1:=keepW hSv b7 hb7;go_simp;first|done|with_reducible rfl)
   refine tkT 17 hHeld ?_
   refine tkT 18 hHeld ?_ (hy:=by intro v hSv;(try dsimp only at hSv);have k1:=keepW hSv b5 omA;go_simp;first|done|with_reducible rfl)
   refine ah (P:=fun v=>wpT _ _ _ _ _ _ _ _ _ v) (R:=fun v=>Below wr.heap.size wr v) hHeld ?_
   clear hHeld
   rintro u0 hU0
   have hHeld:=hU0
   refine r1T 19 (fun K hK => ?_)
   go_simp
   (go_at_call 106;(with_reducible refine (Dx (some ⟨cb,co,none⟩) c ts.length ts RA rc al.length al xn xt xs xr xA xc xo xj xd rv u0 (HT.out.next (aa hxr hU0 hxr.size)) rfl HS.out HOK.out (HR.out.next (aa hxr hU0 hxr.size)) rfl HBL.out HBR.out).mono ?_))
   rintro e u1 ⟨⟨BA,bc,rfl,hbc,hbs⟩,Cq⟩
   have hU1:=aa hU0 Cq hU0.size
   refine hK.out _ _ _ hU1 (fun hHeld => ?_)
   clear hK K
   refine r1T 20 (fun K hK => ?_)
   go_simp
   (go_at_call 105;(with_reducible refine (tL OA oc ol.length ol BA bc r.length r u1 (HOR.out.below hU1 nlr) (by have:=hU1.size;omega) rfl hbs rfl omA).mono ?_))
   rintro e u2 ⟨⟨NA,nc,rfl,hno⟩,Q7⟩
   have hU2:=aa hU1 Q7 hU1.size
   refine hK.out _ _ _ hU2 (fun hHeld => ?_)
   clear hK K
   refine tkT 21 hHeld ?_
   have hY2:=HYR.out.below hU2 hYl
   have y4:=hY2.cell 4
   have yf:=hY2.frozen
   simp only [gE3] at y4
   refine rzT 22 (fun K hK => ?_)
   go_simp
   refine hK.out _ _ _ ?_
   clear hK K
   refine aZ krA ?_ _
   have HY2:=qh hY2
   have HNO:=qh hno
   have HW2:=qh (HWR.out.next hU2)
   have HY4:=qh y4
   clear hHeld x0 x1 x2 x3 x4 x5 x6 v0 v1 v2 w0 y4 yf hno hY2 q4 hbs
   clear p0 p1 p2 p3 p4 p5 p6 p7
   go_wp2_with fail
   go_roundw
   case rel=>exact ⟨i + 1,NA,nc,gT ol r,by omega,by go_num,HY2.out.bS 4 _,HNO.out.eO (by have h:=HY2.out;unfold Blk at h;exact h) (by decide) _,by have:=oq r ol;rw [Nat.succ_mul];omega,(Jh HW2.out HY4.out _).mono spA,(aa hbr hU2 hbr.size).setCell nlr _⟩
   case measure=>exact meA
  ·have hlt':decide (i<own.length)=false:=by simpa using hlt
   have XM:=qh (Nat.le_trans hol hmul)
   clear HWR Vz hol hmul
   have Xn:=HYR
   obtain ⟨wo,rfl⟩ : ∃ wo:World,wo=wr:=⟨_,rfl⟩
   clear p0 p1 p2 p3 p4 p5 p6 p7
   clear q4
   go_wp2_with fail
   go_loopw [11] (fun vi wr => ∃ (i:Nat) (BA:Option Addr) (bc:Nat) (bl:List (Option Addr × Nat × List Ident)),i≤ae.length∧vi = .int .i64 i∧bl.length=i∧Blk wr W.heap.size 106 #[.int .i64 kk, .int .i64 kn, .string kt, .int .i64 sq, .slice OA ol.length oc, .slice BA i bc]∧av wr W.heap.size 191 Ident.cells 4 (.slice OA ol.length oc) ol∧av wr W.heap.size 103 jU 1 (.slice BA i bc) bl∧(∀ y∈bl,av wr W.heap.size 191 Ident.cells 4 (.slice y.1 y.2.2.length y.2.1) y.2.2∧y.2.2.length ≤ 8*bd)∧Below W.heap.size W wr) (fun vi _=>ae.length - (intOf vi).toNat)
   case atStart=>exact ⟨0,none,0,[],Nat.zero_le _,rfl,rfl,HYR.out,HOR.out,av.nil,fun y hy=>by simp at hy,hbr⟩
   case round =>
    clear hbr hxr hzr hYl HYR Xn HOR hlt hlt'
    obtain ⟨i,BA,bc,bl,hi,rfl,hbl,hYr,hor,hob,hea,hbr⟩:=hrel
    have hxr:=aa hbW hbr hbW.size
    have hzr:=hbr.size
    have hYl:=hYr.lt
    have GX:=qh hbl
    have HYR:=qh hYr
    have HOR:=qh hor
    have HOB:=qh hob
    have HEA:=qh hea
    clear hbl hor hob hea
    by_cases hlt:i<ae.length
    ·have hlt':decide (i<ae.length)=true:=by simpa using hlt
     obtain ⟨xb,xo',hCe,hxb,hxc⟩:=si.out.1.get hlt
     obtain ⟨_,_,_,_,z4,_,_⟩:=Col.bW hxc
     have El:ae[i]∈ae:=lgm hlt
     have hao:=si.out.2 ae[i] El
     have UK:=HOL.out ae[i] El
     obtain ⟨⟨an,at_,as_,ar,aA,ac,ao,aj,ad⟩,hae⟩ : ∃ x:Col,ae[i]=x:=⟨_,rfl⟩
     rw [hae] at z4 El hao UK
     simp only at z4 hao UK
     have HM2:=qh El
     have HAO:=qh hao
     have HZ4:=qh z4
     subst hCe
     have z4:=(hxr.cell (p:=⟨xb,_,none⟩) hxb).trans z4
     clear hxc El hao hae hYr
     go_wp2_with fail
     obtain ⟨wp,rfl⟩ : ∃ wp:World,wp=wr:=⟨_,rfl⟩
     go_loopw [12,13] (fun vl vj wr => ∃ (jj:Nat) (LA:Option Addr) (lc:Nat) (ll:List Ident),jj≤ao.length∧vj = .int .i64 jj∧vl = .slice LA ll.length lc∧av wr W.heap.size 191 Ident.cells 4 (.slice LA ll.length lc) ll∧ll.length≤jj*bd∧Below wp.heap.size wp wr) (fun _ vj _=>ao.length - (intOf vj).toNat)
     case atStart=>exact ⟨0,none,0,[],Nat.zero_le _,rfl,rfl,av.nil,by simp,Below.refl _ _⟩
     case round =>
      clear z4
      obtain ⟨jj,LA,lc,ll,hjj,rfl,rfl,hoq,hlq,hbp⟩:=hrel
      have yz:=aa hbr hbp hbr.size
      have hxr:=aa hbW yz hbW.size
      have oO:=yz.size
      have hzp:=hbp.size
      have hmul:jj*bd ≤ 8*bd:=Nat.mul_le_mul_right _ omA
      have RS:=qh hoq
      have z4:=(hxr.cell (p:=⟨xb,_,none⟩) hxb).trans HZ4.out
      clear hoq
      by_cases hjl:jj<ao.length
      ·have Gg:decide (jj<ao.length)=true:=by simpa using hjl
       obtain ⟨j,hj,hje,hns⟩:=HOQ.out _ HM2.out ao[jj] (lgm hjl)
       obtain ⟨b7,o7,hWe,hb7,hc7⟩:=HAO.out.get hjl
       have w0:=hc7 0 _ rfl
       rw [hje] at w0
       simp only [Nat.mul_one,Nat.add_zero] at w0
       subst hWe
       have w0:=(hxr.cell (p:=⟨b7,_,none⟩) hb7).trans w0
       obtain ⟨xb2,xo2,Gn,Te,hxc⟩:=si.out.1.get hj
       injection Gn with Gn
       injection Gn with Rk Rj
       subst Rk Rj
       obtain ⟨x0,x1,x2,x3,x4,x5,x6⟩:=Col.bW hxc
       have hmem:ae[j]∈ae:=lgm hj
       obtain ⟨rv,hrv⟩ : ∃ v,row[j]'(by rw [HRL.out];exact hj)=v:=⟨_,rfl⟩
       obtain ⟨b8,o8,Gl,hb8,hc8⟩:=HRV.out.get (i:=j) (by rw [HRL.out];exact hj)
       rw [hrv] at hc8
       injection Gl with Gl
       injection Gl with Re Mt
       subst Re Mt
       obtain ⟨v0,v1,v2⟩:=Val.cells3 hc8
       obtain ⟨⟨xn,xt,xs,xr,xA,xc,xo,xj,xd⟩,hxe⟩ : ∃ x:Col,ae[j]=x:=⟨_,rfl⟩
       rw [hxe] at x0 x1 x2 x3 x4 x5 x6 hmem hns
       simp only at x0 x1 x2 x3 x4 x5 x6 hns
       obtain ⟨r,hr⟩ : ∃ r,byE ts al ⟨xn,xt,xs,xr,xA,xc,xo,xj,xd⟩ rv=r:=⟨_,rfl⟩
       have vB:r.length≤bd:=by rw [← hr];exact HBE.out _ hmem hns rv
       have HBR:=qh hr
       have HBL:=qh (HBY.out ⟨xn,xt,xs,xr,xA,xc,xo,xj,xd⟩ hmem hns)
       have x0:=(hxr.cell (p:=⟨xb,_,none⟩) hxb).trans x0
       have x1:=(hxr.cell (p:=⟨xb,_,none⟩) hxb).trans x1
       have x2:=(hxr.cell (p:=⟨xb,_,none⟩) hxb).trans x2
       have x3:=(hxr.cell (p:=⟨xb,_,none⟩) hxb).trans x3
       have x4:=(hxr.cell (p:=⟨xb,_,none⟩) hxb).trans x4
       have x5:=(hxr.cell (p:=⟨xb,_,none⟩) hxb).trans x5
       have x6:=(hxr.cell (p:=⟨xb,_,none⟩) hxb).trans x6
       have v0:=(hxr.cell (p:=⟨b5,_,none⟩) hb8).trans v0
       have v1:=(hxr.cell (p:=⟨b5,_,none⟩) hb8).trans v1
       have v2:=(hxr.cell (p:=⟨b5,_,none⟩) hb8).trans v2
       have hj':decide (j<ae.length)=true:=by simpa using hj
       have hjr:j<row.length:=by rw [HRL.out];exact hj
       have WG:decide (j<row.length)=true:=by simpa using hjr
       have hCr:=HC.out.below yz omA
       have hXr:=HX.out.below yz omA
       have q4:=hXr.cell 4
       simp only [gE3] at q4
       obtain ⟨p0,p1,p2,p3,p4,p5,p6,p7⟩:=Cat.blk hCr
       clear hc7 hxc hrv hc8 hxe hr hmem hns hje hCr hXr
       go_upto_region 16 with (fail)
       refine aM (S:=(fun v=>Below wr.heap.size wr v)) [] krA (brf.drew) (fun hHeld => ?_)
       refine tkT 0 hHeld ?_
       refine tkT 1 hHeld ?_ (hy:=by intro v hSv;(try dsimp only at hSv);have k1:=keepW hSv w.heap.size omA;go_simp;first|done|with_reducible rfl)
       refine tkT 2 hHeld ?_
       refine tkT 3 hHeld ?_
       refine tkT 4 hHeld ?_
       refine tkT 5 hHeld ?_
       refine tkT 6 hHeld ?_ (hy:=by intro v hSv;(try dsimp only at hSv);have k1:=keepW hSv xb omA;go_simp;first|done|with_reducible rfl)
       refine tkT 7 hHeld ?_
       refine tkT 8 hHeld ?_ (hy:=by intro v hSv;(try dsimp only at hSv);have k1:=keepW hSv (w.heap.size + 1) omA;go_simp;first|done|with_reducible rfl)
       refine tkT 9 hHeld ?_
       refine tkT 10 hHeld ?_
       refine tkT 11 hHeld ?_ (hy:=by intro v hSv;(try dsimp only at hSv);have k1:=keepW hSv b5 omA;go_simp;first|done|with_reducible rfl)
       refine ah (P:=fun v=>wpT _ _ _ _ _ _ _ _ _ v) (R:=fun v=>Below wr.heap.size wr v) hHeld ?_
       clear hHeld
       rintro u0 hU0
       have hHeld:=hU0
       refine r1T 12 (fun K hK => ?_)
       go_simp
       (go_at_call 106;(with_reducible refine (Dx (some ⟨cb,co,none⟩) c ts.length ts RA rc al.length al xn xt xs xr xA xc xo xj xd rv u0 (HT.out.next (aa hxr hU0 hxr.size)) rfl HS.out HOK.out (HR.out.next (aa hxr hU0 hxr.size)) rfl HBL.out HBR.out).mono ?_))
       rintro e u1 ⟨⟨BA1,bc1,rfl,hbc,hbs⟩,Cq⟩
       have hU1:=aa hU0 Cq hU0.size
       refine hK.out _ _ _ hU1 (fun hHeld => ?_)
       clear hK K
       refine r1T 13 (fun K hK => ?_)
       go_simp
       (go_at_call 105;(with_reducible refine (tL LA lc ll.length ll BA1 bc1 r.length r u1 (RS.out.below hU1 nlr) (by have:=hU1.size;omega) rfl hbs rfl omA).mono ?_))
       rintro e u2 ⟨⟨NA,nc,rfl,hno⟩,Q7⟩
       have hU2:=aa hU1 Q7 hU1.size
       refine hK.out _ _ _ hU2 (fun hHeld => ?_)
       clear hK K
       refine r1T 14 (fun K hK => ?_)
       go_simp
       refine hK.out _ _ _ hU2 (fun hHeld => ?_)
       clear hK K
       refine aZ krA ?_ _
       have HNO:=qh hno
       clear hHeld x0 x1 x2 x3 x4 x5 x6 v0 v1 v2 w0 hno q4 hbs z4
       clear p0 p1 p2 p3 p4 p5 p6 p7
       go_wp2_with fail
       go_roundw
       case rel=>exact ⟨jj + 1,NA,nc,gT ll r,by omega,by go_num,rfl,HNO.out,by have:=oq r ll;rw [Nat.succ_mul];omega,aa hbp hU2 hbp.size⟩
       case measure=>exact meA
      ·have Gg:decide (jj<ao.length)=false:=by simpa using hjl
       have Wx:ll.length ≤ 8*bd:=Nat.le_trans hlq hmul
       have hY1:=HYR.out.below hbp hYl
       have Zb:=hY1.lt
       have y5:=hY1.cell 5
       have yf:=hY1.frozen
       simp only [gE3] at y5
       have HY1:=qh hY1
       have Vx:=qh (HOR.out.below hbp nlr)
       have J6:=qh (HOB.out.below hbp nlr)
       have RX:Hid (∀ y∈bl,av wr W.heap.size 191 Ident.cells 4 (.slice y.1 y.2.2.length y.2.1) y.2.2∧y.2.2.length ≤ 8*bd):=qh fun y hy=>⟨(HEA.out y hy).1.below hbp nlr,(HEA.out y hy).2⟩
       clear hY1
       go_wp2_with (at_builtin;go_must (refine aR _ rfl (.tmp 100) (.tmp 102) 104 rfl 103 is _ jU 1 24 Tryz.underlying104 his VV VU VT rfl omA xm OW W.heap.size (.slice BA i bc) bl rfl (J6.out.alloc _) _ _ _ [(LA,lc,ll)] rfl rfl (Blk.one (enc:=jU) (x:=(LA,lc,ll)) (Blk.new' rfl) spA) (by have:=GX.out;simp;omega) (by have:=GX.out;simp [maxLen];omega) smA ?_);intro v2 w2 hown2 hg2 qZ;obtain ⟨BA3,bc3,hv2,_,_⟩:=hown2.form;rw [show (bl ++ [(LA,lc,ll)]).length=i + 1 by simp [GX.out]] at hv2;subst hv2;have hY2:=(HY1.out.alloc _).grown hg2 (fun e=>J6.out.fC HY1.out (by decide) W.heap.size e.symm rfl);have y5:=hY2.cell 5;have yf:=hY2.frozen;simp only [gE3] at y5;have HY2:=qh hY2;have XO:=qh hown2;have XL:=qh ((Vx.out.alloc _).kept hg2 (Vx.out.dF J6.out (by decide)));have VI:Hid (∀ y∈bl ++ [(LA,lc,ll)],av w2 W.heap.size 191 Ident.cells 4 (.slice y.1 y.2.2.length y.2.1) y.2.2∧y.2.2.length ≤ 8*bd):=qh (fun y hy=>(List.mem_append.1 hy).elim (fun h=>⟨((RX.out y h).1.alloc _).kept hg2 ((RX.out y h).1.dF J6.out (by decide)),(RX.out y h).2⟩) (fun h=>by rw [List.mem_singleton.1 h];exact ⟨(RS.out.alloc _).kept hg2 (RS.out.dF J6.out (by decide)),Wx⟩));have hx2:Below W.heap.size W w2:=Below.grown (yz.alloc yz.size _) hg2 smA J6.out.row;clear hY2 hown2)
       go_roundw
       case rel=>exact ⟨i + 1,BA3,bc3,bl ++ [(LA,lc,ll)],by omega,by go_num,by simp [GX.out],HY2.out.bS 5 _,XL.out.eO (by have h:=HY2.out;unfold Blk at h;exact h) (by decide) _,XO.out.eO (by have h:=HY2.out;unfold Blk at h;exact h) (by decide) _,fun y hy=>⟨(VI.out y hy).1.eO (by have h:=HY2.out;unfold Blk at h;exact h) (by decide) _,(VI.out y hy).2⟩,hx2.setCell nlr _⟩
       case measure=>exact meA
    ·have hlt':decide (i<ae.length)=false:=by simpa using hlt
     have hie:i=ae.length:=by omega
     have HIE:=qh hie
     have hEr:=HE.out.below hbr omA
     have c0:=hEr.cell 0
     have c1:=hEr.cell 1
     have c2:=hEr.cell 2
     have c3:=hEr.cell 3
     have c4:=hEr.cell 4
     have c5:=hEr.cell 5
     have cf:=hEr.frozen
     simp only [gE3] at c0 c1 c2 c3 c4 c5
     have y0:=hYr.cell 0
     have y1:=hYr.cell 1
     have y2:=hYr.cell 2
     have y3:=hYr.cell 3
     have y4:=hYr.cell 4
     have y5:=hYr.cell 5
     have yf:=hYr.frozen
     simp only [gE3] at y0 y1 y2 y3 y4 y5
     clear hie hEr hYr
     go_wp2_with fail
     refine bodyPost_ret (v := .agg #[.int .i64 kk, .int .i64 kn, .string kt, .int .i64 sq, .slice OA ol.length oc, .slice BA i bc]) (by simp [results,Tryz.results60,go_sem,c0,c1,c2,c3,c4,c5]) rfl ⟨⟨⟨⟨kk,kn,kt⟩,sq,OA,oc,ol,BA,bc,bl⟩,by simp [Alv.cells,GX.out],?_⟩,?_⟩
     ·have hob:=HOB.out
      rw [← GX.out] at hob
      have h:di wr W.heap.size ae.length (8*bd) ⟨⟨kk,kn,kt⟩,sq,OA,oc,ol,BA,bc,bl⟩:=⟨HOR.out,XM.out,hob,HEA.out,by rw [← HIE.out];exact GX.out,HSQ.out⟩
      refine (h.same fun g hg => ?_).mono hbW.size
      iterate 6 rw [Below.heap_setCell _ _ _ _ (by show g≠w.heap.size + 2;omega)]
     ·iterate 6 (refine Below.setCell ?_ (by show w.heap.size≤w.heap.size + 2;omega) _)
      exact hxr
theorem qB : ∀ x:gm,(gm.cells x).length = 1:=fun _=>rfl
def vS:gm:=⟨none,0,[]⟩
theorem Bp : 106 ≠ 102:=by decide
theorem Fh : 191 ≠ 106:=by decide
theorem Kt : 103 ≠ 106:=by decide
theorem xz : 102 ≠ 191:=by decide
theorem Bo : 102 ≠ 103:=by decide
theorem P9 : 113 ≠ 106:=by decide
theorem P8 : 102 ≠ 113:=by decide
structure fP (w:World) (base:Nat) (ts:List Tab) (Q:Nat) (al:List gm) (r:Nat):Prop where
 Bg:base≤w.heap.size
 tabs:av w base 102 gm.cells 1 (.slice (some ⟨Q,0,none⟩) al.length al.length) al
 len:al.length=ts.length
 recs : ∀ i (h:i<al.length),av w base 106 Alv.cells 6 (.slice al[i].A al[i].recs.length al[i].cap) al[i].recs∧al[i].recs.length≤r
 each : ∀ i (h:i<al.length),∀ x∈al[i].recs,di w base (dh ts (i:Int)).length (8 ^ (i + 1)) x
 apart : ∀ i j (hi:i<al.length) (hj:j<al.length),i≠j→iV al[i].A al[j].A
structure fJ (w:World) (base:Nat) (A:Option Addr) (c:Nat) (o:List aD) (N:Nat):Prop where
 own:av w base 113 aD.cells 8 (.slice A o.length c) o
 len:o.length≤N
 each : ∀ x∈o,av w base 191 Ident.cells 4 (.slice x.A x.own.length x.cap) x.own∧x.own.length ≤ 100000 ∧ 1≤x.record∧x.record ≤ 1073741824
section
variable {w w':World} {base Q r k:Nat} {ts:List Tab} {al:List gm}
theorem fP.below (h:fP w base ts Q al r) (hb:Below w.heap.size w w'):fP w' base ts Q al r :=
 ⟨Nat.le_trans h.Bg hb.size,h.tabs.below hb nlr,h.len,fun i hi=>⟨(h.recs i hi).1.below hb nlr,(h.recs i hi).2⟩,fun i hi x hx=>(h.each i hi x hx).below hb,h.apart⟩
theorem fP.mono {r':Nat} (h:fP w base ts Q al r) (hr:r≤r'):fP w base ts Q al r' :=
 ⟨h.Bg,h.tabs,h.len,fun i hi=>⟨(h.recs i hi).1,Nat.le_trans (h.recs i hi).2 hr⟩,h.each,h.apart⟩
theorem fP.zero {n:Nat} (hb:Blk w Q 102 (madeCells #[.slice none 0 0] n)) (hQ:base≤Q) (hn:n=ts.length) (hml:n≤maxLen):fP w base ts Q (List.replicate n vS) 0:=by
 have ho:=av.made (x:=vS) (n:=n) (base:=base) qB (by decide) (by rw [Nat.mul_one];exact hb) hQ hml
 have hz : ∀ i (h:i<(List.replicate n vS).length),(List.replicate n vS)[i]=vS:=fun i h=>List.getElem_replicate ..
 refine ⟨Nat.le_trans hQ (Nat.le_of_lt hb.lt),by simpa using ho,by simpa using hn,fun i h => ?_,fun i h x hx => ?_,fun i j hi hj _ => ?_⟩
 ·rw [hz i h]
  exact ⟨av.nil,Nat.le_refl _⟩
 ·rw [hz i h] at hx
  cases hx
 ·rw [hz i hi]
  intro a b ha
  simp [vS] at ha
theorem fP.bd (h:fP w base ts Q al r):Nq al:=fun i hi x hx=>(h.each i hi x hx).FM
theorem fP.read (h:fP w base ts Q al r) (h5:ts.length ≤ 5) (hr:r ≤ 100000):il w w.heap.size (some ⟨Q,0,none⟩) al:=by
 have hl:=h.len
 refine ⟨dw qB h.tabs,by omega,fun t ht => ?_,fun t ht x hx => ?_⟩
 ·obtain ⟨i,hi,rfl⟩:=List.getElem_of_mem ht
  exact ⟨dw gQ (h.recs i hi).1,Nat.le_trans (h.recs i hi).2 hr⟩
 ·obtain ⟨i,hi,rfl⟩:=List.getElem_of_mem ht
  exact (h.each i hi x hx).read (Nat.le_trans (Nat.pow_le_pow_right omA (show i + 1 ≤ 5 by omega)) (by decide))
theorem fP.cell (h:fP w base ts Q al r) (hk:k<al.length):w.cell? ⟨Q,k,none⟩=some (.slice al[k].A al[k].recs.length al[k].cap):=by
 have h1:=h.tabs.eB qB rfl hk (j := 0) rfl
 simpa using h1
theorem fP.frz (h:fP w base ts Q al r):w.frozen? ⟨Q,k,none⟩=false:=h.tabs.iN rfl k
theorem fP.set (hb:base≤w.heap.size) (hT:av w base 102 gm.cells 1 (.slice (some ⟨Q,0,none⟩) al.length al.length) al) (hlen:al.length=ts.length) (hk:k<al.length)
 (hrec : ∀ i (h:i<al.length),i≠k→av w base 106 Alv.cells 6 (.slice al[i].A al[i].recs.length al[i].cap) al[i].recs∧al[i].recs.length≤r)
 (AR : ∀ i (h:i<al.length),i≠k → ∀ x∈al[i].recs,di w base (dh ts (i:Int)).length (8 ^ (i + 1)) x)
 (hap : ∀ i j (hi:i<al.length) (hj:j<al.length),i≠j→iV al[i].A al[j].A) {A3:Option Addr} {n3 c3:Nat} {new:List Alv} (hn3:n3=new.length)
 (hO:av w base 106 Alv.cells 6 (.slice A3 n3 c3) new) (hr:n3≤r) (hx : ∀ x∈new,di w base (dh ts (k:Int)).length (8 ^ (k + 1)) x) (hA : ∀ i (h:i<al.length),i≠k→iV al[i].A A3) :
 fP (w.setCell ⟨Q,k,none⟩ (.slice A3 n3 c3)) base ts Q (al.set k ⟨A3,c3,new⟩) r:=by
 subst hn3
 obtain ⟨cs,hc⟩:=hT.typ (q:=Q) rfl
 have hO2:=hT.gu qB rfl hk ⟨A3,c3,new⟩ (j := 0) (o:=k) (u := .slice A3 new.length c3) omA omA rfl
 have hg : ∀ i (h:i<(al.set k ⟨A3,c3,new⟩).length),(k=i∧(al.set k ⟨A3,c3,new⟩)[i]=⟨A3,c3,new⟩)∨(k≠i ∧ ∃ h':i<al.length,(al.set k ⟨A3,c3,new⟩)[i]=al[i]):=fun i h=>by
  rw [List.getElem_set]
  split
  ·rename_i he
   exact .inl ⟨he,rfl⟩
  ·rename_i he
   exact .inr ⟨he,by simpa using h,rfl⟩
 refine ⟨by simpa using hb,by simpa using hO2,by simpa using hlen,fun i h => ?_,fun i h x hxi => ?_,fun i j hi hj hne => ?_⟩
 ·rcases hg i h with ⟨he,e⟩|⟨he,h',e⟩
  ·rw [e]
   exact ⟨hO.eO hc Bp.symm _,hr⟩
  ·rw [e]
   exact ⟨(hrec i h' (Ne.symm he)).1.eO hc Bp.symm _,(hrec i h' (Ne.symm he)).2⟩
 ·rcases hg i h with ⟨he,e⟩|⟨he,h',e⟩
  ·rw [e] at hxi
   subst he
   exact (hx x hxi).eO hc xz Bo _
  ·rw [e] at hxi
   exact (AR i h' (Ne.symm he) x hxi).eO hc xz Bo _
 ·rcases hg i hi with ⟨h1,e⟩|⟨h1,h1',e⟩ <;> rcases hg j hj with ⟨h2,e2⟩|⟨h2,h2',e2⟩ <;> rw [e,e2]
  ·exact absurd (h1.symm.trans h2) hne
  ·exact (hA j h2' (Ne.symm h2)).symm
  ·exact hA i h1' (Ne.symm h1)
  ·exact hap i j h1' h2' hne
theorem fP.cut (h:fP w base ts Q al r) (hb:Below w.heap.size w w') (hk:k<al.length) {TA A3:Option Addr} {tc n3 c3:Nat} {recs new:List Alv} (hlk:al[k]=⟨TA,tc,recs⟩) (hn3:n3=new.length) (hO:av w' w.heap.size 106 Alv.cells 6 (.slice A3 n3 c3) new) (hsub : ∀ x∈new,x∈recs) (hl:n3≤r) :
 fP (w'.setCell ⟨Q,k,none⟩ (.slice A3 n3 c3)) base ts Q (al.set k ⟨A3,c3,new⟩) r:=by
 have h':=h.below hb
 have hrk:=h'.each k hk
 rw [hlk] at hrk
 refine fP.set h'.Bg h'.tabs h'.len hk (fun i hi _=>h'.recs i hi) (fun i hi _=>h'.each i hi) h.apart hn3 (hO.mono h.Bg) hl (fun x hx=>hrk x (hsub x hx)) fun i hi _ a b ha hb2 e => ?_
 have h1:=(h.recs i hi).1.lt a.block (by rw [ha];rfl)
 have h2:=hO.row b.block (by rw [hb2];rfl)
 omega
theorem fP.more (h:fP w base ts Q al r) (hk:k<al.length) {TA A3:Option Addr} {tc n3 c3 z:Nat} {recs:List Alv} {x:Alv} (hlk:al[k]=⟨TA,tc,recs⟩) (hn3:n3=(recs ++ [x]).length) (hg:w.grownBy w' (Value.slice TA recs.length tc).ownBlock)
 (hO:av w' base 106 Alv.cells 6 (.slice A3 n3 c3) (recs ++ [x])) (hat:(Value.slice A3 n3 c3).ownBlock=(Value.slice TA recs.length tc).ownBlock∨(Value.slice A3 n3 c3).ownBlock=some z) (hz:w.heap.size≤z) (hx:di w base (dh ts (k:Int)).length (8 ^ (k + 1)) x) :
 fP (w'.setCell ⟨Q,k,none⟩ (.slice A3 n3 c3)) base ts Q (al.set k ⟨A3,c3,recs ++ [x]⟩) (r + 1):=by
 have hown:=(h.recs k hk).1
 have hrl:=(h.recs k hk).2
 have hek:=h.each k hk
 have UJ:=fun i hi=>h.apart i k hi hk
 rw [hlk] at hown hrl hek
 simp only [hlk] at UJ
 have hrow : ∀ i (hi:i<al.length),i≠k → ∀ q,(Value.slice al[i].A al[i].recs.length al[i].cap).ownBlock=some q→some q≠(Value.slice TA recs.length tc).ownBlock:=fun i hi hne q hq e=>by
  have h2:=UJ i hi hne
  cases TA with
  | none=>simp [Value.ownBlock] at e
  | some b=>exact iL h2 hq b rfl (by simpa [Value.ownBlock] using e)
 have hE : ∀ {n B:Nat} {y:Alv},di w base n B y→di w' base n B y:=fun hy=>hy.kept hown Fh Kt hg
 refine fP.set (Nat.le_trans h.Bg hg.size) (h.tabs.kept hg (h.tabs.dF hown Bp.symm)) h.len hk (fun i hi hne=>⟨(h.recs i hi).1.kept hg (hrow i hi hne),by have:=(h.recs i hi).2;omega⟩) (fun i hi _ y hy=>hE (h.each i hi y hy)) h.apart hn3 hO ?_ (fun y hy => ?_) fun i hi hne a b ha hb e => ?_
 ·rw [hn3,List.length_append,List.length_singleton]
  simp only at hrl
  omega
 ·rcases List.mem_append.1 hy with h1|h1
  ·exact hE (hek y h1)
  ·rw [List.mem_singleton.1 h1]
   exact hE hx
 ·subst hb
  have hq:(Value.slice al[i].A al[i].recs.length al[i].cap).ownBlock=some a.block:=by rw [ha];rfl
  have he:(Value.slice (some b) n3 c3).ownBlock=some b.block:=rfl
  rw [he] at hat
  rcases hat with h1|h1
  ·exact hrow i hi hne a.block hq (by rw [← h1,e])
  ·have h2:=(h.recs i hi).1.lt a.block hq
   injection h1 with h1
   omega
theorem Hm {u v:World} {row:Option Nat} (hg:u.grownBy v row) (x:Nat) (hx:x<u.heap.size) (hne:some x≠row) : ∀ o,v.cell? ⟨x,o,none⟩=u.cell? ⟨x,o,none⟩:=fun o=>World.cell?_of_block (hg.block x hx hne)
end
section
variable {w w':World} {base c N:Nat} {A:Option Addr} {o:List aD}
theorem fJ.nil:fJ w base none 0 [] 0:=⟨av.nil,Nat.le_refl _,fun x hx=>by cases hx⟩
theorem fJ.below (h:fJ w base A c o N) (hb:Below w.heap.size w w'):fJ w' base A c o N :=
 ⟨h.own.below hb nlr,h.len,fun x hx=>⟨(h.each x hx).1.below hb nlr,(h.each x hx).2⟩⟩
theorem fJ.mono {N':Nat} (h:fJ w base A c o N) (hN:N≤N'):fJ w base A c o N':=⟨h.own,Nat.le_trans h.len hN,h.each⟩
theorem fJ.kept {g:Nat} (h:fJ w base A c o N) (hg:w.grownBy w' (some g)) (hb:g<base):fJ w' base A c o N :=
 ⟨h.own.kept hg fun q hq e=>by have:=h.own.row q hq;injection e with e;omega,h.len,fun x hx=>⟨(h.each x hx).1.kept hg fun q hq e=>by have:=(h.each x hx).1.row q hq;injection e with e;omega,(h.each x hx).2⟩⟩
theorem fJ.lift {base':Nat} (h:fJ w base A c o N) (hb:base'≤base):fJ w base' A c o N:=⟨h.own.mono hb,h.len,fun x hx=>⟨(h.each x hx).1.mono hb,(h.each x hx).2⟩⟩
theorem fJ.SN {v:Value} {m:List Alv} {s base':Nat} {enc:Alv→List Value} (h:fJ w base A c o N) (hv:av w base' 106 enc s v m) (hg:w.grownBy w' v.ownBlock):fJ w' base A c o N :=
 ⟨h.own.kept hg (h.own.dF hv P9),h.len,fun x hx=>⟨(h.each x hx).1.kept hg ((h.each x hx).1.dF hv Fh),(h.each x hx).2⟩⟩
theorem fJ.store {q i:Nat} {cs:Array Value} (h:fJ w base A c o N) (hq:w.heap[q]? = some (.cells cs 102 (0,0))) (u:Value):fJ (w.setCell ⟨q,i,none⟩ u) base A c o N :=
 ⟨h.own.eO hq P8 u,h.len,fun x hx=>⟨(h.each x hx).1.eO hq xz u,(h.each x hx).2⟩⟩
theorem fJ.read (h:fJ w base A c o N):ag w w.heap.size aD.cells 8 A o∧MX w w.heap.size o :=
 ⟨dw dV h.own,fun x hx=>⟨dw cK (h.each x hx).1,by have:=(h.each x hx).2;omega⟩⟩
theorem KL (o:List aD) (x:aD):(nN o x).length=o.length + 1:=by
 unfold nN
 simp only [List.length_append,List.length_take,List.length_drop,List.length_map,List.length_cons,List.length_nil]
 omega
theorem KJ {o:List aD} {x y:aD} (h:y∈nN o x):y=x ∨ ∃ z∈o,y.A=z.A∧y.cap=z.cap∧y.own=z.own∧y.record=z.record:=by
 have h1:y=x∨y∈o.map (unl x):=by
  unfold nN at h
  rcases List.mem_append.1 h with h|h
  ·rcases List.mem_append.1 h with h|h
   ·exact .inr (List.mem_of_mem_take h)
   ·exact .inl (List.mem_singleton.1 h)
  ·exact .inr (List.mem_of_mem_drop h)
 rcases h1 with h1|h1
 ·exact .inl h1
 ·obtain ⟨z,hz,rfl⟩:=List.mem_map.1 h1
  refine .inr ⟨z,hz,?_⟩
  unfold unl
  split <;> exact ⟨rfl,rfl,rfl,rfl⟩
theorem fJ.put {A':Option Addr} {c':Nat} {x:aD} (h:fJ w base A c o N) (hbase:base≤w.heap.size) (hb:Below w.heap.size w w') (hO:av w' w.heap.size 113 aD.cells 8 (.slice A' (nN o x).length c') (nN o x)) (hx:av w base 191 Ident.cells 4 (.slice x.A x.own.length x.cap) x.own) (hl:x.own.length ≤ 100000 ∧ 1≤x.record∧x.record ≤ 1073741824):fJ w' base A' c' (nN o x) (N + 1):=by
 refine ⟨hO.mono hbase,by rw [KL];have:=h.len;omega,fun y hy => ?_⟩
 rcases KJ hy with rfl|⟨z,hz,h1,h2,h3,h4⟩
 ·exact ⟨hx.below hb nlr,hl⟩
 ·rw [h1,h2,h3,h4]
  exact ⟨(h.each z hz).1.below hb nlr,(h.each z hz).2⟩
end
end Go.Proofs.YtkiglflbngfelaaGreat
