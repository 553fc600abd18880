/-
  Contracts and plain laws of this seat, part 34.
-/
import Derived.Test.YtebippoohpnjkaaGreatF29
import Derived.Test.YtebippoohpnjkaaGreatF33
set_option linter.unusedVariables false
set_option linter.unusedSimpArgs false
set_option maxRecDepth 100000
set_option maxHeartbeats 16000000
namespace Go.Proofs.YtebippoohpnjkaaGreat
open Go.RowKit Go
theorem ey{P:Prop}(h:P:=by have:=hbV.size;omega):P:=h
theorem ez{P:Prop}(h:P:=by rw[hb];rfl):P:=h
def maxOf:List Int→Int
 | [] =>0
 | x::l=>l.foldl max x
theorem EB{l:List Int}(h:0<l.length)(x:Int):maxOf (l ++ [x])=max (maxOf l) x:=by
 cases l with
 | nil=>simp at h
 | cons y l=>simp[maxOf,List.foldl_append]
theorem EA{l:List Int}{i:Nat}(hi:i<l.length)(h0:0<i):maxOf (l.take (i+1))=max (maxOf (l.take i)) l[i]:=by
 rw[List.take_succ_eq_append_getElem hi,EB smA]
theorem tK{l:List Int}{x b:Int}:l.foldl max x≤b↔x≤b ∧ ∀y∈l,y≤b:=by
 induction l generalizing x with
 | nil=>simp
 | cons z l ih =>
   rw[List.foldl_cons,ih]
   simp only[List.mem_cons,forall_eq_or_imp]
   constructor
   ·rintro⟨h1,h2⟩
    exact⟨by omega,by omega,h2⟩
   ·rintro⟨h1,h2,h3⟩
    exact⟨by omega,h3⟩
theorem xE{l:List Int}(h:0<l.length){b:Int}:maxOf l≤b ↔ ∀y∈l,y≤b:=by
 cases l with
 | nil=>simp at h
 | cons x l =>
   unfold maxOf
   rw[tK]
   simp
theorem Nh(A:Option Addr)(c n:Nat)(l:List Int)(w:World)(hl:ah w w.heap.size intCells 1 A l)(hln:l.length=n)(h0:0<n)(hn:n≤1000000){r:Int}(hr:maxOf l=r):
 Calls Tryz.prog 166 #[.slice A n c] w fun e w'=>e=.returned (.int .i64 r)∧Below w.heap.size w w':=by
 subst hln hr
 have HL:=qh hl
 obtain⟨b0,o0,rfl,hb0,hc0⟩:=hl.get h0
 have x0:=hc0 0 _ rfl
 simp only[Nat.zero_mul,Nat.add_zero]at x0
 have hd:decide ((l.length:Int)<1)=false:=by simp;omega
 have hd':decide (l.length<1)=false:=decide_eq_false omA
 clear hl hc0
 go_enter Tryz.func166,Tryz.ntmps166
 go_wp2_with fail
 go_loopw [3,4] (fun vm vi wr =>∃i:Nat,1≤i∧i≤l.length∧vi=.int .i64 i∧vm=.int .i64 (maxOf (l.take i))∧Below w.heap.size w wr) (fun _ vi _=>l.length-(intOf vi).toNat)
 case atStart=>exact⟨1,Nat.le_refl _,h0,rfl,by(cases l with|nil=>simp at h0|cons y l=>rfl),by exact ak⟩
 case round =>
  obtain⟨i,h1,hi,rfl,rfl,hbw⟩:=hrel
  by_cases hlt:i<l.length
  ·obtain⟨b,o,he,hb,hc⟩:=(HL.out.below hbw).get hlt
   injection he with he
   injection he with e1 e2
   subst e1 e2
   have y0:=hc 0 _ rfl
   simp only[Nat.mul_one,Nat.add_zero]at y0
   have HM:=qh (EA hlt h1)
   clear hc
   go_wp2_with fail
   go_roundw
   case rel=>exact⟨i+1,by omega,by omega,by go_num,by rw[HM.out],hbw⟩
   case measure=>exact meA
  ·have hlt':decide (i<l.length)=false:=by simpa using hlt
   obtain rfl:i=l.length:=by omega
   go_wp2_with fail
   go_ret
   rw[List.take_length]
   exact⟨rfl,hbw⟩
theorem Iz{ts:List Tab}(h:aV ts){k:Nat}(hk:k<ts.length):bJ ts ts[k].name (ts.length:Int)=(k:Int):=by
 unfold bJ
 rw[Int.min_self]
 exact h.find hk
theorem Kq{ts:List Tab}(h:aV ts){k:Nat}(hk:k<ts.length){s:ByteArray}(hs:ts[k].name=s):mh ts ts.length (.string s)=some (.int .i64 k):=by
 subst hs
 simp only[mh]
 rw[Iz h hk,if_neg omA]
theorem bf.keys{ts:List Tab}{rt:List RTab}(h:bf ts rt){k:Nat}(hk:k<rt.length):bO (rt[k].recs.map aQ):=by
 have hk':k<ts.length:=by have:=h.len;omega
 exact(h.tab k hk hk').pure.keys (h.cat.af hk').1
theorem bf.n64{ts:List Tab}{rt:List RTab}(h:bf ts rt){k:Nat}(hk:k<rt.length):rt[k].recs.length≤64:=(h.tab k hk (by have:=h.len;omega)).len
theorem bf.Rj{ts:List Tab}{rt:List RTab}(h:bf ts rt){k:Nat}(hk:k<rt.length):∀x∈rt[k].recs,x.row.length≤1000000:=fun x hx=>by
 have hk':k<ts.length:=by have:=h.len;omega
 have h1:=(h.tab k hk hk').pure.rcd (aQ x) (List.mem_map_of_mem hx)
 have h2:=(h.cat.af hk').2
 have h3:x.row.length=ts[k].af.length:=h1.len
 omega
theorem Ir{l:List bu}(h:bO l){key:Val}(hv:bK key=true)(hk:key.kind≠0):decide (dM l key<0) = !bU l key:=by
 rw[←yl h hv hk,←decide_not]
 exact decide_eq_decide.2 omA
theorem vC{ts:List Tab}{rt:List RTab}{x:Chg}{k:Nat}(hok:bf ts rt)(hx:x.table=(k:Int))(hk:k<rt.length)(hv:bK (keyOf x)=true)(hkk:(keyOf x).kind≠0){F:Bool}(hF:bU (rt[k].recs.map aQ) (keyOf x)=F):
 eU ts rt x=if (x.kind == 1&&F)=true then 4 else if (x.kind != 1 && !F)=true then 10
  else if pb (ig ts rt (cz ts x.table) x.row)=false then 7 else if (x.kind == 2 && !kJ ts rt (cz ts x.table) x.column x.val)=true then 7
  else if (x.kind == 1&&decide (64≤rt[k].recs.length))=true then 8 else 0:=by
 have hK:=hok.keys hk
 have hkp:k<(rt.map aB).length:=by simpa using hk
 have e0:iL (rt.map aB) (k:Int)=rt[k].recs.map aQ:=by rw[fC hkp,List.getElem_map];rfl
 unfold eU
 rw[hx,kQ,e0,yl hK hv hkk,Ir hK hv hkk,nH hk,hF]
theorem Cy{ts:List Tab}{rt:List RTab}(hok:bf ts rt){k:Nat}(hk:k<rt.length)(hkt:k<ts.length){x:Col}(he:x.refs≠⟨#[]⟩)(hn:ts[k].name=x.refs){v:Val}(hv:bK v=true)(hkk:v.kind≠0):dF ts rt x v=bU (rt[k].recs.map aQ) v:=by
 have hK:=hok.keys hk
 have hkp:k<(rt.map aB).length:=by simpa using hk
 have e0:iL (rt.map aB) (k:Int)=rt[k].recs.map aQ:=by rw[fC hkp,List.getElem_map];rfl
 have hf:gU (ts.map Tab.name) x.refs ts.length=(k:Int):=by rw[←hn];exact hok.cat.find hkt
 unfold dF
 rw[hf,kQ,e0,yl hK hv hkk,mq he]
 have:(v.kind == 0)=false:=by simpa using hkk
 rw[this]
 rfl
def xH(ts:List Tab)(rt:List RTab)(af:List Col)(row:List Val)(n:Nat):Prop:= ∀i (h:i<row.length) (k:i<af.length),i<n→dF ts rt af[i] row[i]=true
theorem xH.succ{ts:List Tab}{rt:List RTab}{af:List Col}{row:List Val}{n:Nat}(h:xH ts rt af row n)(hl:∀(h:n<row.length) (k:n<af.length),dF ts rt af[n] row[n]=true):xH ts rt af row (n+1):=fun i hi hk hin=>by
 rcases Nat.lt_or_ge i n with h1|h1
 ·exact h i hi hk h1
 ·obtain rfl:i=n:=by omega
  exact hl hi hk
theorem xH.all{ts:List Tab}{rt:List RTab}{af:List Col}{row:List Val}{n:Nat}(h:xH ts rt af row n)(hn:row.length≤n):ig ts rt af row:=fun i hi hk=>h i hi hk omA
/-! ### the positions of valid tables -/
theorem Ni{rt:List RTab}{b:Int}(h0:0≤b):fH rt≤b ↔ ∀t∈rt,∀r∈t.recs,∀y∈r.seq,y≤b:=by
 unfold fH nV
 rw[tK]
 constructor
 ·rintro⟨_,h⟩ t ht r hr y hy
  exact h y (by unfold j4;exact List.mem_flatMap.2 ⟨t,ht,List.mem_flatMap.2 ⟨r,hr,hy⟩⟩)
 ·intro h
  refine⟨h0,fun y hy =>?_⟩
  unfold j4 at hy
  obtain⟨t,ht,hy⟩:=List.mem_flatMap.1 hy
  obtain⟨r,hr,hy⟩:=List.mem_flatMap.1 hy
  exact h t ht r hr y hy
theorem xJ{rt:List RTab}{s:Int}(hs:1≤s)(h:∀t∈rt,∀r∈t.recs,0<r.seq.length→maxOf r.seq<s):decide (s≤fH rt)=false:=by
 refine decide_eq_false fun h1 =>?_
 have h2:fH rt≤s-1:=(Ni omA).2 fun t ht r hr y hy=>by
  have h0:0<r.seq.length:=List.length_pos_of_mem hy
  have h3:=h t ht r hr h0
  exact(xE h0).1 (by omega:maxOf r.seq≤s-1) y hy
 omega
theorem ED{rt:List RTab}{s:Int}{t:RTab}(ht:t∈rt){r:Rcd}(hr:r∈t.recs)(h0:0<r.seq.length)(h:s≤maxOf r.seq):decide (s≤fH rt)=true:=by
 refine decide_eq_true ?_
 rcases Int.lt_or_le (fH rt) s with h1|h1
 ·exfalso
  have h2:maxOf r.seq≤fH rt:=(xE h0).2 fun y hy=>le_last ht hr hy
  omega
 ·exact h1
open Go.RowKit Go
variable {o:Oth}
theorem Mf(B p mb fb:Nat)(A:Option Addr)(c:Nat)(ts:List Tab)(F:List Fx)(pc pt px:Nat)(CA:Option Addr)(cc:Nat)(af:List Col)(RA:Option Addr)(rc:Nat)(rt:List RTab)(n:Nat)(v:Val)(w:World)
 (hS:gP w B p mb fb A c ts o F) (hC:Blk w pc 75 #[.slice CA af.length cc]) (hT:Blk w pt 52 #[.slice RA rt.length rc]) (hP:Blk w px 137 #[.pointer (some ⟨p,0,none⟩)])
 (hCo:ah w w.heap.size Col.cells 7 CA af) (hn:n<af.length) (hnn:(af[n].refs.toList.isEmpty||v.kind == 0)=true):
 Calls Tryz.prog 124 #[.int .i64 n,.agg #[.int .i64 v.kind,.int .i64 v.num,.string v.text],.pointer (some ⟨pc,0,none⟩),.pointer (some ⟨pt,0,none⟩),.pointer (some ⟨px,0,none⟩)] w fun e w'=>e=.returned (.bool false)∧Below w.heap.size w w':=by
 obtain⟨b5,o5,rfl,hb5,hc5⟩:=hCo.get hn
 obtain⟨c0,c1,c2,c3,c4,c5,c6⟩:=Col.dK hc5
 have p0:=hC.cell 0
 simp only[gE3]at p0
 obtain⟨x,hx⟩:∃x,af[n]=x:=⟨_,rfl⟩
 rw[hx]at c3 hnn
 have hcl:=hC.lt
 clear hC hT hP hCo hc5 hx c0 c1 c2 c4 c5 c6
 go_enter Tryz.func124,Tryz.ntmps124
 by_cases he:x.refs=⟨#[]⟩
 ·rw[he]at c3
  clear hnn he
  go_wp2_with fail
  go_ret
  exact⟨rfl,by exact ak⟩
 ·have hv:(v.kind == 0)=true:=by
   rw[mq he]at hnn
   simpa using hnn
  have he':=mq he
  clear hnn he
  go_wp2_with fail
  go_ret
  exact⟨rfl,by exact ak⟩
theorem Me(B p mb fb:Nat)(A:Option Addr)(c:Nat)(ts:List Tab)(F:List Fx)(pc pt px:Nat)(CA:Option Addr)(cc:Nat)(af:List Col)(RA:Option Addr)(rc:Nat)(rt:List RTab)(n:Nat)(v:Val)(k:Nat)(w:World)
 (hS:gP w B p mb fb A c ts o F) (hC:Blk w pc 75 #[.slice CA af.length cc]) (hT:Blk w pt 52 #[.slice RA rt.length rc]) (hP:Blk w px 137 #[.pointer (some ⟨p,0,none⟩)])
 (hCo:ah w w.heap.size Col.cells 7 CA af) (hn:n<af.length) (hRT:aR w w.heap.size RA rt) (hk:k<rt.length) (hkt:k<ts.length) (hs:aI ts) (hok:aV ts) (he:af[n].refs≠⟨#[]⟩) (hnm:ts[k].name=af[n].refs) (hv0:v.kind≠0) (hv:bK v=true)
 (hn6:rt[k].recs.length≤1000000) (hrl:∀x∈rt[k].recs,x.row.length≤1000000) (ha:zC rt[k].recs) {f:Bool}(hf:bU (rt[k].recs.map aQ) v=f):
 Calls Tryz.prog 124 #[.int .i64 n,.agg #[.int .i64 v.kind,.int .i64 v.num,.string v.text],.pointer (some ⟨pc,0,none⟩),.pointer (some ⟨pt,0,none⟩),.pointer (some ⟨px,0,none⟩)] w fun e w'=>e=.returned (.bool (!f))∧Below w.heap.size w w':=by
 obtain⟨b5,o5,rfl,hb5,hc5⟩:=hCo.get hn
 obtain⟨c0,c1,c2,c3,c4,c5,c6⟩:=Col.dK hc5
 obtain⟨b6,o6,rfl,hb6,hc6⟩:=hRT.1.get hk
 have t0:=hc6 0 _ rfl
 have bI:=hRT.2 rt[k] (lgm hk)
 have Ii:=(hs.tabs ts[k] (lgm hkt)).name
 have Qq:=Kq hok hkt hnm
 obtain⟨x,hx⟩:∃x,af[n]=x:=⟨_,rfl⟩
 rw[hx]at c3 he hnm Qq
 rw[hnm]at Ii
 obtain⟨⟨TA,tc,recs⟩,ht⟩:∃t,rt[k]=t:=⟨_,rfl⟩
 rw[ht]at t0 bI hn6 hrl ha hf
 simp only[Nat.mul_one,Nat.add_zero]at t0 bI hn6 hrl ha hf
 have p0:=hC.cell 0
 have p1:=hT.cell 0
 have p2:=hP.cell 0
 simp only[gE3]at p0 p1 p2
 obtain⟨_,s8,_⟩:=Sch.blk hS.sch.blk
 have hcl:=hC.lt
 have htl:=hT.lt
 have hxl:=hP.lt
 have hpl:=hS.sch.blk.lt
 have hv':(v.kind == 0)=false:=by simpa using hv0
 have he':=mq he
 have HS:=qh hS
 have zF:=qh bI
 have HRL:=qh hrl
 have HA:=qh ha
 have HV:=qh hv
 have HF:=qh hf
 have VQ:=qh Qq
 have VR:=qh Ii
 have hkn:decide (k<rt.length)=true:=by simpa using hk
 clear hS hC hT hP hCo hc5 hx c0 c1 c2 c4 c5 c6 hc6 ht bI hrl ha hv hf Qq Ii hRT hs hok hnm he hv0
 go_enter Tryz.func124,Tryz.ntmps124
 go_upto_region 4 with (fail)
 refine ai (P:=fun u=>Code.wp _ _ _ _ u) (R:=fun u=>Blk u w.heap.size 62 #[.int .i64 v.kind,.int .i64 v.num,.string v.text]∧Below w.heap.size w u) ⟨?_,?_⟩ ?_
 ·exact Blk.new' spA
 ·exact ak
 rintro W ⟨hV,hbW⟩
 have hz:=hV.lt
 have v0:=hV.cell 0
 have v1:=hV.cell 1
 have v2:=hV.cell 2
 simp only[gE3]at v0 v1 v2
 replace t0:=(hbW.cell (p:=⟨b6,_,none⟩) hb6).trans t0
 replace p1:=(hbW.cell (p:=⟨pt,_,none⟩) htl).trans p1
 replace p2:=(hbW.cell (p:=⟨px,_,none⟩) hxl).trans p2
 replace s8:=(hbW.cell (p:=⟨p,_,none⟩) hpl).trans s8
 have hlk:∀y:bH W,(Instr.lookup 183 (.map (some mb)) (.string x.refs) false).run Tryz.prog y.u=.ok (.int .i64 k) y.u:=fun y=>by
  have h:=(HS.out.next (ae hbW y.h hbW.size)).sch.nums.look iW Tryz.underlying183 (wH y.u) (xy (by decide)) (lL VR.out)
  rw[VQ.out]at h
  exact h
 have k0:=aH (w:=W) pt omA
 have k1:=aH (w:=W) px omA
 have k2:=aH (w:=W) p omA
 have k3:=aH (w:=W) b6 omA
 have k4:=aH (w:=W) w.heap.size omA
 clear p0 c3 hV
 refine ag krA krA ?_;(repeat(go_big_quiet_step ((go_at_call 112;with_reducible exact bN (nu TA tc recs.length recs v _ (zF.out.next (ae hbW (bH.h _) hbW.size)) rfl hn6 HRL.out HA.out HV.out rfl HF.out)))));refine wpQuiet_nil ?_;intro wq hq
 clear k0 k1 k2 k3 k4 hlk
 go_wp2_with fail
 go_ret
 exact⟨rfl,ae hbW hq hbW.size⟩
theorem nz(B p mb fb:Nat)(A:Option Addr)(c:Nat)(ts:List Tab)(F:List Fx)(pc pt px:Nat)(CA:Option Addr)(cc:Nat)(af:List Col)(RA:Option Addr)(rc:Nat)(rt:List RTab)(i n:Nat)(v:Val)(w:World)
 (hS:gP w B p mb fb A c ts o F) (hC:Blk w pc 75 #[.slice CA af.length cc]) (hT:Blk w pt 52 #[.slice RA rt.length rc]) (hP:Blk w px 137 #[.pointer (some ⟨p,0,none⟩)])
 (hCo:ah w w.heap.size Col.cells 7 CA af) (hn:n<af.length) (hRT:aR w w.heap.size RA rt) (hs:aI ts) (hok:bf ts rt) (hi:i<ts.length) (hcs:ts[i].af=af) (hv:bK v=true) {r:Bool}(hr:(!dF ts rt af[n] v)=r):
 Calls Tryz.prog 124 #[.int .i64 n,.agg #[.int .i64 v.kind,.int .i64 v.num,.string v.text],.pointer (some ⟨pc,0,none⟩),.pointer (some ⟨pt,0,none⟩),.pointer (some ⟨px,0,none⟩)] w fun e w'=>e=.returned (.bool r)∧Below w.heap.size w w':=by
 subst hr
 by_cases h0:(af[n].refs.toList.isEmpty||v.kind == 0)=true
 ·have e:dF ts rt af[n] v=true:=by unfold dF;rw[h0];rfl
  rw[e]
  exact Mf B p mb fb A c ts F pc pt px CA cc af RA rc rt n v w hS hC hT hP hCo hn h0
 ·have h1:af[n].refs≠⟨#[]⟩:=fun e=>h0 (by rw[tL e];rfl)
  have h2:v.kind≠0:=fun e=>h0 (by rw[e];simp)
  obtain⟨k,hk,_,hnm,_⟩:=hok.cat.ref hi (x:=af[n]) (by rw[hcs];exact lgm hn) h1
  have hkr:k<rt.length:=by rw[hok.len];exact hk
  exact Me B p mb fb A c ts F pc pt px CA cc af RA rc rt n v k w hS hC hT hP hCo hn hRT hkr hk hs hok.cat h1 hnm h2 hv (by have:=hok.n64 hkr;omega) (hok.Rj hkr) (hok.keys hkr) (Cy hok hkr hk h1 hnm hv h2).symm
open Go.RowKit Go
variable {o:Oth}
theorem AU{P:Prop}(h:P:=by
 refine aY (S:=fun u=>u.cell? ⟨w.heap.size,0,none⟩=some (.pointer (some ⟨p,0,none⟩))∧u.cell? ⟨p,0,none⟩=some (.slice (some ⟨b7,o7,none⟩) ts.length c)∧u.cell? ⟨w.heap.size+2,3,none⟩=some (.int .i64 (k:Int))∧u.cell? ⟨b7,o7+k*4+1,none⟩=some (.slice TA af.length tc)) [11] krA ⟨r0,s0,q3,t1⟩ (fun hHeld =>?_)
 refine tkT 0 hHeld ?_
 refine tkT 1 hHeld ?_
 refine tkT 2 hHeld ?_
 refine tkT 3 hHeld ?_
 refine tkT 4 hHeld ?_
 refine tkT 5 hHeld ?_
 refine tkT 6 hHeld ?_
 refine tkT 7 hHeld ?_
 refine tkT 8 hHeld ?_
 refine tkT 9 hHeld ?_
 refine r1T 10 (fun K hK =>?_)
 go_simp
 refine hK.out _ _ _ ?_ (fun hHeld =>?_)
 ·(repeat' apply And.intro)<;>go_simp
 clear hK K
 refine rzT 11 (fun K hK =>?_)
 go_simp
 refine hK.out _ _ _ ?_
 clear hK K
 refine bE krA ?_ _
 clear hHeld
 go_wp2_with fail
 go_meet
 refine⟨rfl,?_,by exact ak⟩
 exact Blk.new' spA):P:=h
theorem DW(ts:List Tab)(rt:List RTab)(af:List Col){row:List Val}(h:row.length=0):ig ts rt af row:=fun i hi _=>by omega
theorem Gi(B p mb fb:Nat)(A:Option Addr)(c:Nat)(ts:List Tab)(F:List Fx)(RA:Option Addr)(rc:Nat)(rt:List RTab)(kd sq dy:Int)(k:Nat)(A0:Option Addr)(cp:Nat)(row:List Val)(key:Val)(cl:Int)(vl:Val)(w:World)(hS:gP w B p mb fb A c ts o F)(hT:aJ w w.heap.size A ts)(hs:aI ts)(hRT:aR w w.heap.size RA rt)(hok:bf ts rt)(hR:ah w w.heap.size Val.cells 3 A0 row)(hrl:row.length≤1000000)(hin:iC ts ⟨kd,sq,dy,(k:Int),A0,cp,row,key,cl,vl⟩ k)(hf:bq ts ⟨kd,sq,dy,(k:Int),A0,cp,row,key,cl,vl⟩=0){r:Int}(hr:eU ts rt ⟨kd,sq,dy,(k:Int),A0,cp,row,key,cl,vl⟩=r):
 Calls Tryz.prog 75 #[.pointer (some ⟨p,0,none⟩),.slice RA rt.length rc,.agg #[.int .i64 kd,.int .i64 sq,.int .i64 dy,.int .i64 k,.slice A0 row.length cp,.int .i64 key.kind,.int .i64 key.num,.string key.text,.int .i64 cl,.int .i64 vl.kind,.int .i64 vl.num,.string vl.text]] w fun e w'=>e=.returned (.int .i64 r)∧Below w.heap.size w w':=by
 have hkt:=hin.lt
 have hkr:k<rt.length:=by rw[hok.len];exact hkt
 obtain⟨hkv,hkk⟩:=ji hf hok.cat
 obtain⟨ky,hky⟩:∃v,keyOf ⟨kd,sq,dy,(k:Int),A0,cp,row,key,cl,vl⟩=v:=⟨_,rfl⟩
 obtain⟨f,hfd⟩:∃b,bU (rt[k].recs.map aQ) ky=b:=⟨_,rfl⟩
 have hst:=vC hok rfl hkr hkv hkk (F:=f) (by rw[hky];exact hfd)
 rw[hr]at hst
 rw[hky]at hkv hkk
 have Qr:=hok.n64 hkr
 have hkeys:=hok.keys hkr
 have Gu:=hok.Rj hkr
 have hc8:=hok.cat.af hkt
 have hca:=cu hkt
 have h1r:kd=1→0<row.length:=fun h=>by
  have:=hin.ins h
  rw[hca]at this
  simp only at this
  omega
 have hins:kd=1→row.length=ts[k].af.length ∧ ∀v∈row,bK v=true:=fun h=>by
  have h1:=tJ hf h hin
  exact⟨h1.len,h1.vals⟩
 have Rz:kd=2→∃c,Gz ts ⟨kd,sq,dy,(k:Int),A0,cp,row,key,cl,vl⟩ k c hkt:=fun h=>pF hf h hin
 have hrest:kd≠1→row.length=0:=hin.rest
 have hkind:kd=1∨kd=2∨kd=3:=hin.kind
 obtain⟨b5,o5,rfl,hb5,hc5⟩:=hRT.1.get hkr
 have t0:=hc5 0 _ rfl
 have bI:=hRT.2 rt[k] (lgm hkr)
 obtain⟨b7,o7,rfl,hb7,hc7⟩:=hT.1.get hkt
 obtain⟨_,t1,_,_⟩:=Tab.fe hc7
 have dR:=(hT.2 ts[k] (lgm hkt)).1
 have HST:=qh hst
 have Sn:=Qr
 obtain⟨⟨TR,tr,recs⟩,ht⟩:∃t,rt[k]=t:=⟨_,rfl⟩
 rw[ht]at t0 bI hfd Qr hkeys Gu
 simp only[Nat.mul_one,Nat.add_zero]at t0 bI hfd Qr hkeys Gu
 obtain⟨af,hcs⟩:∃cs,ts[k].af=cs:=⟨_,rfl⟩
 obtain⟨TA,hTA⟩:∃a,ts[k].A=a:=⟨_,rfl⟩
 obtain⟨tc,htc⟩:∃a,ts[k].cap=a:=⟨_,rfl⟩
 rw[hcs]at t1 dR hins hc8 hca
 rw[hTA]at t1 dR
 rw[htc]at t1
 have HCA:=qh hca
 have HCS:=qh hcs
 have HRK:Hid (rt[k].recs.length=recs.length):=qh (by rw[ht])
 have ug:=qh dR
 have zF:=qh bI
 have HRL:=qh Gu
 have HA:Hid (zC recs):=qh hkeys
 have HKV:=qh hkv
 have HFD:=qh hfd
 have HKY:=qh hky
 have HS:=qh hS
 have HT:=qh hT
 have HSN:=qh hs
 have HRT:=qh hRT
 have HOK:=qh hok
 have HR:=qh hR
 have H1R:=qh h1r
 have Ov:=qh hins
 have Vv:=qh Rz
 have yP:=qh hrest
 obtain⟨s0,_⟩:=Sch.cells hS.sch
 have hpl:=hS.sch.blk.lt
 have h8:ts.length≤8:=hok.cat.len
 have WQ:decide (k<rt.length)=true:=by simpa using hkr
 have WO:decide (k<ts.length)=true:=by simpa using hkt
 clear hr hst hky hfd hkv hkk hkeys Gu hca hc5 ht bI hc7 dR hcs hTA htc hS hT hs hRT hok hR h1r hins Rz hrest hin hf Sn 
 go_enter Tryz.func75,Tryz.ntmps75
 go_upto_region 1 with (fail)
 refine ai (P:=fun u=>Code.wp _ _ _ _ u) (R:=fun u=>Blk u w.heap.size 137 #[.pointer (some ⟨p,0,none⟩)]∧Blk u (w.heap.size+1) 52 #[.slice (some ⟨b5,o5,none⟩) rt.length rc]∧Blk u (w.heap.size+2) 64 (Chg.cells ⟨kd,sq,dy,(k:Int),A0,cp,row,key,cl,vl⟩).toArray∧Below w.heap.size w u) ⟨?_,?_,?_,?_⟩ ?_
 ·exact((Blk.new _ _ _).alloc _).alloc _
 ·exact(Blk.new' spA).alloc _
 ·exact Blk.new' spA
 ·exact ak
 rintro W ⟨hSB,hTB,hX,hbW⟩
 have hzX:=hX.lt
 obtain⟨⟨q0,q1,q2,q3⟩,q4,⟨q5,q6,q7⟩,q8,q9,q10,q11⟩:=Chg.dW hX
 simp only at q0 q1 q2 q3 q4 q5 q6 q7 q8 q9 q10 q11
 have u0:=hTB.cell 0
 simp only[gE3]at u0
 have HSB:=qh hSB
 have HTB:=qh hTB
 have HX:=qh hX
 have t0w:=t0
 replace t0:=(hbW.cell (p:=⟨b5,_,none⟩) hb5).trans t0
 have k1:=aH (w:=W) (w.heap.size+1) omA
 have k2:=aH (w:=W) (w.heap.size+2) omA
 have k3:=aH (w:=W) b5 omA
 have Qi:recs.length≤1000000:=by omega
 clear hSB hTB hX
 refine ag krA krA ?_;(repeat(go_big_quiet_step ((first
  | (go_at_call 113;with_reducible exact bN (uk ⟨kd,sq,dy,(k:Int),A0,cp,row,key,cl,vl⟩ _ (HR.out.next (ae hbW (bH.h _) hbW.size)) hrl H1R.out HKY.out))
  | (go_at_call 112;with_reducible exact bN (nu TR tr recs.length recs ky _ (zF.out.next (ae hbW (bH.h _) hbW.size)) rfl Qi HRL.out HA.out HKV.out rfl HFD.out))))));refine wpQuiet_nil ?_;intro wq hq
 clear k1 k2 k3 t0 q0 q1 q2 q3 q4 q5 q6 q7 q8 q9 q10 q11 u0
 have HT0:=qh t0w
 obtain⟨U,rfl⟩:∃U:World,U=wq:=⟨_,rfl⟩
 have hxU:=ae hbW hq hbW.size
 have hzU:=hq.size
 have hX:=HX.out.below hq hzX
 replace HSB:=qh (HSB.out.below hq omA)
 replace HTB:=qh (HTB.out.below hq omA)
 replace HX:=qh hX
 replace hzX:=hX.lt
 obtain⟨⟨q0,q1,q2,q3⟩,q4,⟨q5,q6,q7⟩,q8,q9,q10,q11⟩:=Chg.dW hX
 simp only at q0 q1 q2 q3 q4 q5 q6 q7 q8 q9 q10 q11
 have r0:=HSB.out.cell 0
 simp only[gE3]at r0
 replace s0:=(hxU.cell (p:=⟨p,_,none⟩) hpl).trans s0
 replace t1:=(hxU.cell (p:=⟨b7,_,none⟩) hb7).trans t1
 have Xg:b7<U.heap.size:=Nat.lt_of_lt_of_le hb7 hxU.size
 have WG:p<U.heap.size:=Nat.lt_of_lt_of_le hpl hxU.size
 have hwU:w.heap.size<U.heap.size:=by omega
 clear hX hbW hq t0w
 by_cases h1:kd=1
 ·have hd1:(kd == 1)=true:=by simpa using h1
  have LF:(kd != 1)=false:=by simpa using h1
  cases f
  rotate_left
  ·have bg:Hid (r=4):=qh (by have h:=HST.out;rw[hd1]at h;simpa using h)
   clear h1
   go_wp2_with fail
   go_ret
   exact⟨av bg.out.symm,hxU⟩
  obtain⟨lq,OT⟩:=Ov.out h1
  have TD:=qh OT
  have VI:=qh lq
  have bg:Hid (r=if pb (ig ts rt af row)=false then 7 else if 64≤recs.length then 8 else 0):=qh (by
   have h:=HST.out
   have hk2:(kd == 2)=false:=by rw[h1];rfl
   simp only[hd1,LF,hk2,HCA.out,HRK.out]at h
   simpa using h)
  clear h1 OT lq
  go_upto_region 6 with (fail)
  go_cut [9] (fun v wc=>v=.pointer (some ⟨U.heap.size,0,none⟩)∧Blk wc U.heap.size 75 #[.slice TA af.length tc]∧Below U.heap.size U wc)
  case first =>
   exact AU
  case rest =>
   obtain⟨rfl,hC,hbV⟩:=hcut
   obtain⟨V,rfl⟩:∃V:World,V=wc:=⟨_,rfl⟩
   have hzC:=hC.lt
   have hxV:=ae hxU hbV hxU.size
   have HCB:=qh hC
   have MF:=qh (HSB.out.below hbV omA)
   have Jp:=qh (HTB.out.below hbV omA)
   have hX:=HX.out.below hbV hzX
   have HX1:=qh hX
   obtain⟨⟨q0,q1,q2,q3⟩,q4,⟨q5,q6,q7⟩,q8,q9,q10,q11⟩:=Chg.dW hX
   simp only at q0 q1 q2 q3 q4 q5 q6 q7 q8 q9 q10 q11
   clear hC hX
   have Js:Hid (∀(u:World) (hu:Below V.heap.size V u) (n:Nat) (v:Val) (hn:n<af.length) (hv:bK v=true) (b:Bool) (hb:(!dF ts rt af[n] v)=b),Calls Tryz.prog 124 #[.int .i64 n,.agg #[.int .i64 v.kind,.int .i64 v.num,.string v.text],.pointer (some ⟨U.heap.size,0,none⟩),.pointer (some ⟨w.heap.size+1,0,none⟩),.pointer (some ⟨w.heap.size,0,none⟩)] u fun e w'=>e=.returned (.bool b)∧Below u.heap.size u w'):=qh fun u hu n v hn hv b hb=>by
    have hxu:=ae hxV hu hxV.size
    exact nz B p mb fb _ c ts F U.heap.size (w.heap.size+1) w.heap.size TA tc af _ rc rt k n v u (HS.out.next hxu) (HCB.out.below hu hzC) (Jp.out.below hu ey) (MF.out.below hu ey) (ug.out.next hxu) hn (HRT.out.next hxu) HSN.out HOK.out hkt HCS.out hv hb
   go_upto_region 11 with (fail)
   go_loopw [55] (fun vi wr =>∃i:Nat,i≤row.length∧vi=.int .i64 i∧Below V.heap.size V wr∧xH ts rt af row i) (fun vi _=>row.length-(intOf vi).toNat)
   case atStart=>exact⟨0,Nat.zero_le _,rfl,Below.refl _ _,fun i _ _ h=>by omega⟩
   case round =>
    obtain⟨i,hi,rfl,hbr,hlead⟩:=hrel
    have O9:=qh hlead
    have hwz:=hbr.size
    have hbx:=ae hxV hbr hxV.size
    clear hlead
    by_cases hlt:i<row.length
    ·obtain⟨b9,o9,rfl,hb9,hc9⟩:=(HR.out.next hbx).get hlt
     obtain⟨y0,y1,y2⟩:=Val.cells3 hc9
     have hci:i<af.length:=by have:=VI.out;omega
     have hvi:=TD.out row[i] (lgm hlt)
     cases hb:dF ts rt af[i] row[i]
     ·have HR7:Hid (r=7):=qh (by
       rw[bg.out,aM (fun h=>by have h2:=h i hlt hci;rw[hb]at h2;cases h2),if_pos rfl])
      have HB:Hid ((!dF ts rt af[i] row[i])=true):=qh ez
      have HVI:=qh hvi
      clear hc9 hb hvi
      go_wp2_with (go_at_call 124;(with_reducible refine(Js.out _ (hbr.alloc hwz _) i row[i] hci HVI.out _ HB.out).mono ?_);rintro e w9 ⟨rfl,Fh⟩)
      go_ret
      exact⟨av HR7.out.symm,ae hxV (ae (hbr.alloc hwz _) Fh smA) hxV.size⟩
     ·have HN:Hid (xH ts rt af row (i+1)):=qh (O9.out.succ fun _ _=>hb)
      have HB:Hid ((!dF ts rt af[i] row[i])=false):=qh ez
      have HVI:=qh hvi
      clear hc9 hb hvi
      go_wp2_with (go_at_call 124;(with_reducible refine(Js.out _ (hbr.alloc hwz _) i row[i] hci HVI.out _ HB.out).mono ?_);rintro e w9 ⟨rfl,Fh⟩)
      go_roundw
      case rel=>exact⟨i+1,by omega,by go_num,ae (hbr.alloc hwz _) Fh smA,HN.out⟩
      case measure=>exact meA
    ·have hlt':decide (i<row.length)=false:=by simpa using hlt
     obtain rfl:i=row.length:=by omega
     have hAL:ig ts rt af row:=O9.out.all nlr
     have HR8:Hid (r=if 64≤recs.length then 8 else 0):=qh (by rw[bg.out,aU hAL,if_neg (by decide)])
     have u0:=(Jp.out.below hbr ey).cell 0
     have hX:=HX1.out.below hbr ey
     obtain⟨⟨q0,q1,q2,q3⟩,_⟩:=Chg.dW hX
     simp only[gE3]at u0
     simp only at q0 q1 q2 q3
     have t0':=((ae hxU (ae hbV hbr hbV.size) hxU.size).cell (p:=⟨b5,_,none⟩) hb5).trans HT0.out
     clear hX hAL
     by_cases h64:recs.length=64
     ·have e1:((recs.length:Int) == 64)=true:=by rw[h64];rfl
      have HR9:Hid (r=8):=qh (by rw[HR8.out,if_pos omA])
      clear h64
      go_wp2_with fail
      go_ret
      exact⟨av HR9.out.symm,hbx⟩
     ·have e1:((recs.length:Int) == 64)=false:=by rw[beq_eq_false_iff_ne];omega
      have HR9:Hid (r=0):=qh (by rw[HR8.out,if_neg omA])
      clear h64
      go_wp2_with fail
      go_ret
      exact⟨av HR9.out.symm,hbx⟩
 ·have hd1:(kd == 1)=false:=by simpa using h1
  have LF:(kd != 1)=true:=by simpa using h1
  have hr0:=yP.out h1
  have HAL:Hid (pb (ig ts rt af row)=true):=qh (aU (DW ts rt af hr0))
  cases f
  ·have bg:Hid (r=10):=qh (by have h:=HST.out;rw[hd1,LF]at h;simpa using h)
   clear h1
   go_wp2_with fail
   go_ret
   exact⟨av bg.out.symm,hxU⟩
  by_cases h2:kd=2
  ·have hd2:(kd == 2)=true:=by simpa using h2
   obtain⟨cn,hu⟩:=Vv.out h2
   have hcl:cl=(cn:Int):=hu.col
   have hcn:cn<af.length:=by have:=hu.lt;rw[HCS.out]at this;exact this
   have hvl:bK vl=true:=hu.val
   subst hcl
   have HVL:=qh hvl
   have bg:Hid (r=if (!dF ts rt af[cn] vl)=true then 7 else 0):=qh (by
    have h:=HST.out
    simp only[hd1,LF,hd2,HCA.out,HAL.out,vL hcn]at h
    simpa using h)
   clear h1 h2 hu hvl hr0
   go_upto_region 6 with (fail)
   go_cut [9] (fun v wc=>v=.pointer (some ⟨U.heap.size,0,none⟩)∧Blk wc U.heap.size 75 #[.slice TA af.length tc]∧Below U.heap.size U wc)
   case first =>
    exact AU
   case rest =>
    obtain⟨rfl,hC,hbV⟩:=hcut
    obtain⟨V,rfl⟩:∃V:World,V=wc:=⟨_,rfl⟩
    have hzC:=hC.lt
    have hxV:=ae hxU hbV hxU.size
    have HCB:=qh hC
    have MF:=qh (HSB.out.below hbV omA)
    have Jp:=qh (HTB.out.below hbV omA)
    have hX:=HX.out.below hbV hzX
    have HX1:=qh hX
    obtain⟨⟨q0,q1,q2,q3⟩,q4,⟨q5,q6,q7⟩,q8,q9,q10,q11⟩:=Chg.dW hX
    simp only at q0 q1 q2 q3 q4 q5 q6 q7 q8 q9 q10 q11
    clear hC hX
    have Js:Hid (∀(u:World) (hu:Below V.heap.size V u) (n:Nat) (v:Val) (hn:n<af.length) (hv:bK v=true) (b:Bool) (hb:(!dF ts rt af[n] v)=b),Calls Tryz.prog 124 #[.int .i64 n,.agg #[.int .i64 v.kind,.int .i64 v.num,.string v.text],.pointer (some ⟨U.heap.size,0,none⟩),.pointer (some ⟨w.heap.size+1,0,none⟩),.pointer (some ⟨w.heap.size,0,none⟩)] u fun e w'=>e=.returned (.bool b)∧Below u.heap.size u w'):=qh fun u hu n v hn hv b hb=>by
     have hxu:=ae hxV hu hxV.size
     exact nz B p mb fb _ c ts F U.heap.size (w.heap.size+1) w.heap.size TA tc af _ rc rt k n v u (HS.out.next hxu) (HCB.out.below hu hzC) (Jp.out.below hu ey) (MF.out.below hu ey) (ug.out.next hxu) hn (HRT.out.next hxu) HSN.out HOK.out hkt HCS.out hv hb
    cases hb:dF ts rt af[cn] vl
    ·have HB:Hid ((!dF ts rt af[cn] vl)=true):=qh ez
     have HR7:Hid (r=7):=qh (by rw[bg.out,if_pos HB.out])
     clear hb
     go_wp2_with (go_at_call 124;(with_reducible refine(Js.out _ brf cn vl hcn HVL.out _ HB.out).mono ?_);rintro e w9 ⟨rfl,Fh⟩)
     go_ret
     exact⟨av HR7.out.symm,ae hxV Fh hxV.size⟩
    ·have HB:Hid ((!dF ts rt af[cn] vl)=false):=qh ez
     have HR7:Hid (r=0):=qh (by rw[bg.out,if_neg (by rw[HB.out];decide)])
     clear hb
     go_wp2_with (go_at_call 124;(with_reducible refine(Js.out _ brf cn vl hcn HVL.out _ HB.out).mono ?_);rintro e w9 ⟨rfl,Fh⟩)
     go_ret
     exact⟨av HR7.out.symm,ae hxV Fh hxV.size⟩
  ·have hd2:(kd == 2)=false:=by simpa using h2
   have bg:Hid (r=0):=qh (by
    have h:=HST.out
    simp only[hd1,LF,hd2,HCA.out,HAL.out]at h
    simpa using h)
   clear h1 h2 hr0
   go_upto_region 6 with (fail)
   go_cut [9] (fun v wc=>v=.pointer (some ⟨U.heap.size,0,none⟩)∧Blk wc U.heap.size 75 #[.slice TA af.length tc]∧Below U.heap.size U wc)
   case first =>
    exact AU
   case rest =>
    obtain⟨rfl,hC,hbV⟩:=hcut
    obtain⟨V,rfl⟩:∃V:World,V=wc:=⟨_,rfl⟩
    have hzC:=hC.lt
    have hxV:=ae hxU hbV hxU.size
    have HCB:=qh hC
    have MF:=qh (HSB.out.below hbV omA)
    have Jp:=qh (HTB.out.below hbV omA)
    have hX:=HX.out.below hbV hzX
    have HX1:=qh hX
    obtain⟨⟨q0,q1,q2,q3⟩,q4,⟨q5,q6,q7⟩,q8,q9,q10,q11⟩:=Chg.dW hX
    simp only at q0 q1 q2 q3 q4 q5 q6 q7 q8 q9 q10 q11
    clear hC hX
    have Js:Hid (∀(u:World) (hu:Below V.heap.size V u) (n:Nat) (v:Val) (hn:n<af.length) (hv:bK v=true) (b:Bool) (hb:(!dF ts rt af[n] v)=b),Calls Tryz.prog 124 #[.int .i64 n,.agg #[.int .i64 v.kind,.int .i64 v.num,.string v.text],.pointer (some ⟨U.heap.size,0,none⟩),.pointer (some ⟨w.heap.size+1,0,none⟩),.pointer (some ⟨w.heap.size,0,none⟩)] u fun e w'=>e=.returned (.bool b)∧Below u.heap.size u w'):=qh fun u hu n v hn hv b hb=>by
     have hxu:=ae hxV hu hxV.size
     exact nz B p mb fb _ c ts F U.heap.size (w.heap.size+1) w.heap.size TA tc af _ rc rt k n v u (HS.out.next hxu) (HCB.out.below hu hzC) (Jp.out.below hu ey) (MF.out.below hu ey) (ug.out.next hxu) hn (HRT.out.next hxu) HSN.out HOK.out hkt HCS.out hv hb
    go_wp2_with fail
    go_ret
    exact⟨av bg.out.symm,hxV⟩
open Go.RowKit Go
variable {o:Oth}
theorem yI{ts:List Tab}{rt:List RTab}{x:Chg}(hok:bf ts rt)(h:bq ts x≠0):eG ts rt x=bq ts x:=by
 unfold eG
 rw[aU hok,if_neg (by decide),if_pos (by simpa using h)]
theorem Dt{ts:List Tab}{rt:List RTab}{x:Chg}(hok:bf ts rt)(h:bq ts x=0)(hs:decide (x.seq≤fH rt)=true):eG ts rt x=12:=by
 unfold eG
 rw[aU hok,if_neg (by decide),if_neg (by simp[h]),if_pos hs]
theorem Dr{ts:List Tab}{rt:List RTab}{x:Chg}(hok:bf ts rt)(h:bq ts x=0)(hs:decide (x.seq≤fH rt)=false):eG ts rt x=eU ts rt x:=by
 unfold eG
 rw[aU hok,if_neg (by decide),if_neg (by simp[h]),if_neg (by rw[hs];decide)]
theorem Ex{B fb:Nat}{w w':World}(h:w.grownBy w' (some fb))(hB:B≤w.heap.size)(hf:B≤fb):Below B w w':=brf.grown h hB (fun k e=>by injection e with e;rw[←e];exact hf)
theorem G5(B p mb fb:Nat)(A:Option Addr)(c:Nat)(ts:List Tab)(F:List Fx)(RA:Option Addr)(rc:Nat)(rt:List RTab)(kd sq dy tb:Int)(A0:Option Addr)(cp:Nat)(row:List Val)(key:Val)(cl:Int)(vl:Val)(w:World)(hS:gP w B p mb fb A c ts o F)(hB:B≤w.heap.size)(hT:aJ w B A ts)(hs:aI ts)(hcg:dZ w B A c ts o)(hRT:aR w B RA rt)(hok:bf ts rt)(hR:ah w B Val.cells 3 A0 row)(hrl:row.length≤1000000){r:Int}(hr:eG ts rt ⟨kd,sq,dy,tb,A0,cp,row,key,cl,vl⟩=r):
 Calls Tryz.prog 119 #[.pointer (some ⟨p,0,none⟩),.slice RA rt.length rc,.agg #[.int .i64 kd,.int .i64 sq,.int .i64 dy,.int .i64 tb,.slice A0 row.length cp,.int .i64 key.kind,.int .i64 key.num,.string key.text,.int .i64 cl,.int .i64 vl.kind,.int .i64 vl.num,.string vl.text]] w fun e w'=>e=.returned (.int .i64 r)∧(∃F',gP w' B p mb fb A c ts o F')∧Below B w w':=by
 have hfl:=hS.blk.lt
 have hfB:=hS.lf
 have hpl:=hS.sch.blk.lt
 have h8:ts.length≤8:=hok.cat.len
 have EY:rt.length≤8:=by rw[hok.len];exact h8
 obtain⟨z,hz⟩:∃z,bq ts ⟨kd,sq,dy,tb,A0,cp,row,key,cl,vl⟩=z:=⟨_,rfl⟩
 have HZ:=qh hz
 have HS:=qh hS
 have HCG:=qh hcg
 have HT:=qh hT
 have HSN:=qh hs
 have HRT:=qh hRT
 have HOK:=qh hok
 have HR:=qh hR
 have bg:=qh hr
 clear hz hS hT hs hcg hRT hok hR hr
 go_enter Tryz.func119,Tryz.ntmps119
 go_upto_region 1 with (fail)
 refine ai (P:=fun u=>Code.wp _ _ _ _ u) (R:=fun u=>Blk u w.heap.size 64 (Chg.cells ⟨kd,sq,dy,tb,A0,cp,row,key,cl,vl⟩).toArray∧Below w.heap.size w u) ⟨?_,?_⟩ ?_
 ·exact Blk.new' spA
 ·exact ak
 rintro W ⟨hX,hbW⟩
 have hzX:=hX.lt
 have HX:=qh hX
 obtain⟨⟨q0,q1,q2,q3⟩,q4,⟨q5,q6,q7⟩,q8,q9,q10,q11⟩:=Chg.dW hX
 simp only at q0 q1 q2 q3 q4 q5 q6 q7 q8 q9 q10 q11
 have hbB:=hbW.mono hB
 clear hX
 go_upto_region 2 with (go_at_call 64;(with_reducible refine(iK B p mb fb A c ts F kd sq dy tb A0 cp row key cl vl _ (HS.out.next hbW) ((HT.out.below hbB).mono omA) HSN.out HOK.out.cat ((HCG.out.below hbB).mono omA) omA ((HR.out.below hbB).mono omA) hrl HZ.out).mono ?_);rintro e w1 ⟨rfl,⟨F1,hS1,_⟩,hg1⟩)
 have hz1:W.heap.size≤w1.heap.size:=hg1.size
 have hb1:Below B w w1:=hbB.trans (Ex hg1 omA hfB)
 have hX1:=HX.out.grown hg1 inA
 have HX1:=qh hX1
 have HS1:=qh hS1
 clear hS1 hg1 q0 q1 q2 q3 q4 q5 q6 q7 q8 q9 q10 q11 hX1 hbW hbB
 by_cases hz0:z=0
 rotate_left
 ·have hz0':(z != 0)=true:=by simpa using hz0
  have HZ0:Hid (r=z):=qh (by rw[←bg.out,yI HOK.out (by rw[HZ.out];exact hz0),HZ.out])
  clear hz0
  go_wp2_with fail
  go_ret
  exact⟨av HZ0.out.symm,⟨_,HS1.out⟩,hb1⟩
 subst hz0
 have hs1:1≤sq:=by
  obtain⟨k,hin⟩:=gD HZ.out
  have h:=hin.seq
  simp only[aD,Bool.and_eq_true,decide_eq_true_eq]at h
  exact h.1
 have VC:=qh hs1
 clear hs1
 go_upto_region 5 with (fail)
 go_loopw [20] (fun vi wr =>∃i:Nat,i≤rt.length∧vi=.int .i64 i∧Below w1.heap.size w1 wr∧(∀m (h:m<rt.length),m<i→∀y∈rt[m].recs,maxOf y.seq<sq)) (fun vi _=>rt.length-(intOf vi).toNat)
 case atStart=>exact⟨0,Nat.zero_le _,rfl,Below.refl _ _,fun m h hm=>by omega⟩
 case round =>
  obtain⟨i,hi,rfl,hbr,hlo⟩:=hrel
  have HLO:=qh hlo
  have hwz:=hbr.size
  have hbx:=ae hb1 hbr omA
  clear hlo
  by_cases hlt:i<rt.length
  ·obtain⟨b5,o5,rfl,hb5,hc5⟩:=(HRT.out.1.below hbx).get hlt
   have t0:=hc5 0 _ rfl
   have bI:=HRT.out.2 rt[i] (lgm hlt)
   have hrn:=HOK.out.n64 hlt
   have K4:∀y∈rt[i].recs,0<y.seq.length∧y.seq.length≤1000000:=fun y hy=>by
    have hit:i<ts.length:=by rw[←HOK.out.len];exact hlt
    have h1:=(HOK.out.tab i hlt hit).pure.rcd (aQ y) (List.mem_map_of_mem hy)
    have h2:=HOK.out.cat.af hit
    have h3:y.seq.length=ts[i].af.length:=h1.wQ
    omega
   have wB:Hid (rt[i]∈rt):=qh (lgm hlt)
   obtain⟨⟨TR,tr,recs⟩,ht⟩:∃t,rt[i]=t:=⟨_,rfl⟩
   have HTT:=qh ht
   rw[ht]at t0 bI hrn K4
   simp only[Nat.mul_one,Nat.add_zero]at t0 bI hrn K4
   have zF:=qh bI
   have Vx:=qh K4
   clear hc5 bI ht K4
   go_upto_region 8 with (fail)
   clear t0
   go_loopw [26] (fun vj ws =>∃j:Nat,j≤recs.length∧vj=.int .i64 j∧Below w1.heap.size w1 ws∧(∀m (h:m<recs.length),m<j→maxOf recs[m].seq<sq)) (fun vj _=>recs.length-(intOf vj).toNat)
   case atStart=>exact⟨0,Nat.zero_le _,rfl,hbr,fun m h hm=>by omega⟩
   case round =>
    clear hbr hbx
    obtain⟨j,hj,rfl,hbr,hlo⟩:=hrel
    have HLJ:=qh hlo
    replace hwz:=hbr.size
    have hbx:=ae hb1 hbr omA
    clear hlo
    by_cases hjt:j<recs.length
    ·obtain⟨b6,o6,rfl,hb6,hc6⟩:=(zF.out.1.below hbx).get hjt
     obtain⟨d0,d1,d2⟩:=Rcd.cells3 hc6
     have hsl:=(zF.out.2 recs[j] (lgm hjt)).2
     obtain⟨hq0,hq6⟩:=Vx.out recs[j] (lgm hjt)
     have HMJ:Hid (recs[j]∈recs):=qh (lgm hjt)
     obtain⟨⟨QA,qc,kG,QS,qs,lH,qd⟩,hqr⟩:∃x:Rcd,recs[j]=x:=⟨_,rfl⟩
     have HQR:=qh hqr
     rw[hqr]at d0 d1 d2 hsl hq0 hq6
     simp only at d0 d1 d2 hsl hq0 hq6
     have HSL:=qh hsl
     obtain⟨m,hm⟩:∃m,maxOf lH=m:=⟨_,rfl⟩
     have HM:=qh hm
     clear hc6 hsl hqr hm
     go_upto_region 10 with (fail)
     refine ai (P:=fun u=>Code.wp _ _ _ _ u) (R:=fun u=>Blk u wr.heap.size 126 #[.slice QA kG.length qc,.slice QS lH.length qs,.int .i64 qd]∧Below wr.heap.size wr u) ⟨?_,?_⟩ ?_
     ·exact Blk.new' spA
     ·exact ak
     rintro V ⟨hRB,hbV⟩
     have hRl:=hRB.lt
     have e1:=hRB.cell 1
     simp only[gE3]at e1
     have QH:=ae hbr hbV hwz
     have hX:=HX1.out.below QH omA
     obtain⟨⟨q0,q1,q2,q3⟩,_⟩:=Chg.dW hX
     simp only at q0 q1 q2 q3
     have Fg:=ae hb1 QH omA
     have k0:=aH (w:=V) w.heap.size (by have:=hX.lt;omega)
     have k1:=aH (w:=V) wr.heap.size hRl
     clear hRB hX d0 d1 d2
     have Vz:Hid (∀y:bH V,ah y.u y.u.heap.size intCells 1 QS lH):=qh fun y=>by
      have h1:=y.h.size
      have h2:=hbV.size
      exact(HSL.out.below (ae Fg y.h omA)).mono omA
     refine ag krA krA ?_;(repeat(go_big_quiet_step ((go_at_call 166;with_reducible exact bN (Nh QS qs lH.length lH _ (Vz.out _) rfl hq0 hq6 HM.out)))));refine wpQuiet_nil ?_;intro wq hq
     clear k0 k1 q0 q1 q2 q3 e1
     have hbq:=ae QH hq ey
     cases hle:decide (sq≤m)
     ·have HLE:=qh hle
      go_wp2_with fail
      go_roundw
      case rel=>exact⟨j+1,by omega,by go_num,hbq,fun a h ha=>by
       rcases Nat.lt_or_ge a j with h1|h1
       ·exact HLJ.out a h h1
       ·obtain rfl:a=j:=by omega
        rw[HQR.out]
        have h2:=HM.out
        have h3:=of_decide_eq_false HLE.out
        show maxOf lH<sq
        omega⟩
      case measure=>exact meA
     ·have VN:Hid (r=12):=qh (by
       rw[←bg.out]
       refine Dt HOK.out HZ.out (ED wB.out (r:=recs[j]) (by rw[HTT.out];exact HMJ.out) (by rw[HQR.out];exact hq0) ?_)
       rw[HQR.out]
       have h3:=of_decide_eq_true hle
       show sq≤maxOf lH
       rw[HM.out]
       exact h3)
      go_wp2_with fail
      go_ret
      exact⟨av VN.out.symm,⟨_,HS1.out.next hbq⟩,ae hb1 hbq omA⟩
    ·have Sz:decide (j<recs.length)=false:=by simpa using hjt
     obtain rfl:j=recs.length:=by omega
     go_wp2_with fail
     go_roundw
     case rel=>exact⟨i+1,by omega,by go_num,hbr,fun a h ha y hy=>by
      rcases Nat.lt_or_ge a i with h1|h1
      ·exact HLO.out a h h1 y hy
      ·obtain rfl:a=i:=by omega
       rw[HTT.out]at hy
       obtain⟨m,hm,rfl⟩:=List.getElem_of_mem hy
       exact HLJ.out m hm hm⟩
     case measure=>exact meA
  ·have hlt':decide (i<rt.length)=false:=by simpa using hlt
   obtain rfl:i=rt.length:=by omega
   have hX:=HX1.out.below hbr (by have:=HX1.out.lt;omega)
   obtain⟨⟨q0,q1,q2,q3⟩,q4,⟨q5,q6,q7⟩,q8,q9,q10,q11⟩:=Chg.dW hX
   simp only at q0 q1 q2 q3 q4 q5 q6 q7 q8 q9 q10 q11
   obtain⟨k,hin⟩:=gD HZ.out
   have htb:tb=(k:Int):=hin.tab
   subst htb
   have HIN:=qh hin
   have HST:Hid (eU ts rt ⟨kd,sq,dy,(k:Int),A0,cp,row,key,cl,vl⟩=r):=qh (by
    rw[←bg.out]
    refine(Dr HOK.out HZ.out (xJ VC.out fun t ht y hy _ =>?_)).symm
    obtain⟨m,hm,rfl⟩:=List.getElem_of_mem ht
    exact HLO.out m hm hm y hy)
   clear hX hin
   go_wp2_with (go_at_call 75;(with_reducible refine(Gi B p mb fb A c ts F1 RA rc rt kd sq dy k A0 cp row key cl vl _ (HS1.out.next hbr) ((HT.out.below hbx).mono omA) HSN.out ((HRT.out.below hbx).mono omA) HOK.out ((HR.out.below hbx).mono omA) hrl HIN.out HZ.out HST.out).mono ?_);rintro e w9 ⟨rfl,hb9⟩)
   go_ret
   have SX:=ae hbr hb9 hwz
   exact⟨rfl,⟨_,HS1.out.next SX⟩,ae hb1 SX omA⟩
end Go.Proofs.YtebippoohpnjkaaGreat
