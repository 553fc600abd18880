/-
  Contracts and plain laws of this seat, part 86.
-/
import Derived.Test.YtjidligipoldeaaGreatT77
import Derived.Test.YtjidligipoldeaaGreatT75
set_option linter.unusedVariables false
set_option linter.unusedSimpArgs false
set_option maxRecDepth 100000
set_option maxHeartbeats 16000000
namespace Go.Proofs.YtjidligipoldeaaGreat
open Go.RowKit Go
theorem eI{P:Prop}(h:P:=by simp[results,Tryz.results36,go_sem,z0,z1,z2,z3,z4,z5,z6,z7,z8,z9,z10,z11]):P:=h
theorem BM{α:Type}(p:α→Bool)(l:List α):(fI p l=-1 ∧ ∀x∈l,p x=false) ∨ ∃m,∃hm:m<l.length,fI p l=(m:Int)∧p l[m]=true ∧ ∀j (hj:j<m),p (l[j]' omA)=false:=by
 unfold fI
 cases h:l.findIdx? p with
 | none=>exact .inl ⟨rfl,fun x hx=>by simpa using List.findIdx?_eq_none_iff.1 h x hx⟩
 | some m =>
   obtain⟨h1,h2,h3⟩:=List.findIdx?_eq_some_iff_getElem.1 h
   exact .inr ⟨m,h1,rfl,h2,fun j hj=>by simpa using h3 j hj⟩
theorem GV{α:Type}{p:α→Bool}{l:List α}{m:Nat}(hm:m<l.length)(h:p l[m]=true)(hno:∀j (hj:j<m),p (l[j]' omA)=false):l.find? p=some l[m]:=
 List.find?_eq_some_iff_getElem.2 ⟨h,m,hm,rfl,fun j hj=>by rw[hno j hj];rfl⟩
def gy(sq:List Int)(q:Int)(row:List Val):List Val:=row.mapIdx fun m y=>if sq.getD m 0=q then y else dS
theorem yV(sq:List Int)(q:Int)(row:List Val):(gy sq q row).length=row.length:=by simp[gy]
theorem Jc{sq:List Int}{q:Int}{row:List Val}{j:Nat}(hj:j<row.length)(hs:j<sq.length):(gy sq q row)[j]'(by rw[yV];exact hj)=if sq[j]=q then row[j] else dS:=by
 unfold gy
 rw[List.getElem_mapIdx,l9 hs]
section
variable {recs:List Rcd}{x:Chg}
theorem Dl{α:Type}{l:List α}(h:0<l.length)(d:α):l.headD d=l[0]:=by
 cases l with
 | nil=>simp at h
 | cons a l=>rfl
theorem II{r:Rcd}(h:0<r.seq.length):bH (aA r)=r.seq[0]:=Dl h 0
theorem IJ{r:Rcd}(h:0<r.row.length):ay (aA r)=r.row[0]:=Dl h _
theorem zN{m:Nat}(hm:m<recs.length)(h1:x.kind=1)(hq:bH (aA recs[m])=x.seq)(hno:∀j (hj:j<m),bH (aA (recs[j]' omA))≠x.seq):bS (recs.map aA) x=[⟨x.kind,x.seq,x.day,x.table,none,0,gy recs[m].seq x.seq x.row,x.key,x.column,x.val⟩]:=by
 have h:nC (recs.map aA) x.seq=some (aA recs[m]):=by
  unfold nC
  have h2:=GV (p:=fun r'=>decide (bH r'=x.seq)) (l:=recs.map aA) (m:=m) (by simpa using hm) (by simpa using hq) (fun j hj=>by simpa using hno j hj)
  rw[h2,List.getElem_map]
 unfold bS
 rw[if_pos h1,h]
 rfl
theorem BS(h1:x.kind=1)(hno:∀r∈recs,bH (aA r)≠x.seq):bS (recs.map aA) x=[]:=by
 have h:nC (recs.map aA) x.seq=none:=by
  unfold nC
  rw[List.find?_eq_none]
  intro r hr
  obtain⟨r0,hr0,rfl⟩:=List.mem_map.1 hr
  simpa using hno r0 hr0
 unfold bS
 rw[if_pos h1,h]
theorem yD{r:Rcd}{key:Val}(h:0<r.row.length):gK key r=decide (ay (aA r)=key):=by
 rw[pW h,IJ h]
theorem Pn{i:Int}(h2:x.kind=2)(hv:bT x.key=true)(hk:x.key.kind≠0)(h0:∀r∈recs,0<r.row.length)(hi:gm recs x.key=i):(i=-1∧bS (recs.map aA) x=[]) ∨ ∃m,∃hm:m<recs.length,i=(m:Int)∧bS (recs.map aA) x=if recs[m].seq.getD x.column.toNat 0=x.seq then [unC x] else []:=by
 have hf:gm recs x.key=fI (gK x.key) recs:=by
  unfold gm
  rw[hv,if_pos (by simpa using hk)]
 rw[hf]at hi
 rcases BM (gK x.key) recs with ⟨h3,h4⟩|⟨m,hm,h3,h4,h5⟩
 ·refine .inl ⟨by rw[←hi,h3],?_⟩
  have h:((recs.map aA).find? fun r=>decide (ay r=x.key))=none:=by
   rw[List.find?_eq_none]
   intro r hr
   obtain⟨r0,hr0,rfl⟩:=List.mem_map.1 hr
   have:=h4 r0 hr0
   rw[yD (h0 r0 hr0)]at this
   simpa using this
  unfold bS
  rw[if_neg omA,if_pos h2,h]
 ·refine .inr ⟨m,hm,by rw[←hi,h3],?_⟩
  have h:((recs.map aA).find? fun r=>decide (ay r=x.key))=some (aA recs[m]):=by
   have h6:=GV (p:=fun r=>decide (ay r=x.key)) (l:=recs.map aA) (m:=m) (by simpa using hm) (by rw[yD (h0 _ (lgm hm))]at h4;simpa using h4) (fun j hj=>by
    have:=h5 j hj
    rw[yD (h0 _ (lgm _))]at this
    simpa using this)
   rw[h6,List.getElem_map]
  unfold bS
  rw[if_neg omA,if_pos h2,h]
  rfl
theorem Pq(h1:x.kind≠1)(h2:x.kind≠2):bS (recs.map aA) x=[]:=by
 unfold bS
 rw[if_neg h1,if_neg h2]
end
end Go.Proofs.YtjidligipoldeaaGreat
set_option maxRecDepth 100000
namespace Go.Proofs.YtjidligipoldeaaGreat
open Go.RowKit Go
theorem xC(RA:Option Addr)(rc n:Nat)(recs:List Rcd)(kd sq dy tb:Int)(XA:Option Addr)(xc:Nat)(row:List Val)(key:Val)(cl:Int)(vl:Val)(w:World)(h1:kd≠1)(h2:kd≠2):
 Calls Tryz.prog 36 #[.slice RA recs.length rc,.agg #[.int .i64 kd,.int .i64 sq,.int .i64 dy,.int .i64 tb,.slice XA row.length xc,.int .i64 key.kind,.int .i64 key.num,.string key.text,.int .i64 cl,.int .i64 vl.kind,.int .i64 vl.num,.string vl.text]] w fun e w'=>(∃(y:Chg) (b:Bool),e=.returned (.tuple #[.agg #[.int .i64 y.kind,.int .i64 y.seq,.int .i64 y.day,.int .i64 y.table,.slice y.A y.row.length y.cap,.int .i64 y.key.kind,.int .i64 y.key.num,.string y.key.text,.int .i64 y.column,.int .i64 y.val.kind,.int .i64 y.val.num,.string y.val.text],.bool b])∧bS (recs.map aA) ⟨kd,sq,dy,tb,XA,xc,row,key,cl,vl⟩=(if b=true then [unC y] else [])∧aj w' w.heap.size 50 Val.cells 3 (.slice y.A y.row.length y.cap) y.row∧y.row.length≤8)∧Below w.heap.size w w':=by
 have k1:(kd==(1:Int))=false:=by simpa using h1
 have k1d:decide (kd=(1:Int))=false:=by simpa using h1
 have k2:(kd==(2:Int))=false:=by simpa using h2
 have k2d:decide (kd=(2:Int))=false:=by simpa using h2
 have HC0:Hid (bS (recs.map aA) ⟨kd,sq,dy,tb,XA,xc,row,key,cl,vl⟩=[]):=qh (Pq h1 h2)
 clear h1 h2
 go_enter Tryz.func36,Tryz.ntmps36
 go_upto_region 1 with (fail)
 refine ah (P:=fun u=>Code.wp _ _ _ _ u) (R:=fun u=>Blk u w.heap.size 52 #[.int .i64 kd,.int .i64 sq,.int .i64 dy,.int .i64 tb,.slice XA row.length xc,.int .i64 key.kind,.int .i64 key.num,.string key.text,.int .i64 cl,.int .i64 vl.kind,.int .i64 vl.num,.string vl.text]∧Blk u (w.heap.size+1) 52 #[.int .i64 0,.int .i64 0,.int .i64 0,.int .i64 0,.slice none 0 0,.int .i64 0,.int .i64 0,.string ⟨#[]⟩,.int .i64 0,.int .i64 0,.int .i64 0,.string ⟨#[]⟩]∧Below w.heap.size w u) ⟨(Blk.new _ _ _).alloc _,Blk.new' spA,by exact ai⟩ ?_
 rintro W ⟨hX,hZ,hbW⟩
 have HZ:=qh hZ
 have q0:=hX.cell 0
 simp only[gE3]at q0
 clear hX hZ
 ·have HCM:Hid (bS (recs.map aA) ⟨kd,sq,dy,tb,XA,xc,row,key,cl,vl⟩=[]):=qh (HC0.out)
  have hfz:=fun j=>HZ.out.frozen j
  obtain⟨⟨z0,z1,z2,z3⟩,z4,⟨z5,z6,z7⟩,z8,z9,z10,z11⟩:=Chg.eF (x:=⟨0,0,0,0,none,0,[],⟨0,0,⟨#[]⟩⟩,0,⟨0,0,⟨#[]⟩⟩⟩) HZ.out
  simp only[List.length_nil]at z0 z1 z2 z3 z4 z5 z6 z7 z8 z9 z10 z11
  have hzl:=HZ.out.lt
  go_wp2_with fail
  refine bodyPost_ret (v:= .tuple #[.agg #[.int .i64 0,.int .i64 0,.int .i64 0,.int .i64 0,.slice none 0 0,.int .i64 0,.int .i64 0,.string ⟨#[]⟩,.int .i64 0,.int .i64 0,.int .i64 0,.string ⟨#[]⟩],.bool false]) eI rfl ⟨⟨⟨0,0,0,0,none,0,[],⟨0,0,⟨#[]⟩⟩,0,⟨0,0,⟨#[]⟩⟩⟩,false,rfl,by rw[HCM.out];rfl,aj.nil,by simp⟩,?_⟩
  iterate 12 (refine Below.setCell ?_ spA _)
  exact hbW
theorem xE(RA:Option Addr)(rc n:Nat)(recs:List Rcd)(sq dy tb:Int)(XA:Option Addr)(xc:Nat)(row:List Val)(key:Val)(cl:Int)(vl:Val)(w:World)(hR:bU w w.heap.size RA recs)(hl:recs.length≤1000000)(hq:∀r∈recs,r.seq.length=n)(hn:0<n)(hn8:n≤8)(hx:ag w w.heap.size Val.cells 3 XA row)(hxl:row.length=n):
 Calls Tryz.prog 36 #[.slice RA recs.length rc,.agg #[.int .i64 1,.int .i64 sq,.int .i64 dy,.int .i64 tb,.slice XA row.length xc,.int .i64 key.kind,.int .i64 key.num,.string key.text,.int .i64 cl,.int .i64 vl.kind,.int .i64 vl.num,.string vl.text]] w fun e w'=>(∃(y:Chg) (b:Bool),e=.returned (.tuple #[.agg #[.int .i64 y.kind,.int .i64 y.seq,.int .i64 y.day,.int .i64 y.table,.slice y.A y.row.length y.cap,.int .i64 y.key.kind,.int .i64 y.key.num,.string y.key.text,.int .i64 y.column,.int .i64 y.val.kind,.int .i64 y.val.num,.string y.val.text],.bool b])∧bS (recs.map aA) ⟨1,sq,dy,tb,XA,xc,row,key,cl,vl⟩=(if b=true then [unC y] else [])∧aj w' w.heap.size 50 Val.cells 3 (.slice y.A y.row.length y.cap) y.row∧y.row.length≤8)∧Below w.heap.size w w':=by
 subst hxl
 obtain⟨b0,o0,rfl,hb0,hc0⟩:=hx hn
 have HR:=qh hR
 have HQ:=qh hq
 have HX:=qh hx
 clear hR hq hx hc0
 go_enter Tryz.func36,Tryz.ntmps36
 go_upto_region 1 with (fail)
 refine ah (P:=fun u=>Code.wp _ _ _ _ u) (R:=fun u=>Blk u w.heap.size 52 #[.int .i64 1,.int .i64 sq,.int .i64 dy,.int .i64 tb,.slice (some ⟨b0,o0,none⟩) row.length xc,.int .i64 key.kind,.int .i64 key.num,.string key.text,.int .i64 cl,.int .i64 vl.kind,.int .i64 vl.num,.string vl.text]∧Blk u (w.heap.size+1) 52 #[.int .i64 0,.int .i64 0,.int .i64 0,.int .i64 0,.slice none 0 0,.int .i64 0,.int .i64 0,.string ⟨#[]⟩,.int .i64 0,.int .i64 0,.int .i64 0,.string ⟨#[]⟩]∧Below w.heap.size w u) ⟨(Blk.new _ _ _).alloc _,Blk.new' spA,by exact ai⟩ ?_
 rintro W ⟨hX,hZ,hbW⟩
 have HXW:=qh hX
 have HZW:=qh hZ
 have hxW:=hX.lt
 have hzW:=hZ.lt
 have q0:=hX.cell 0
 simp only[gE3]at q0
 clear hX hZ
 go_upto_region 4 with (fail)
 clear q0
 go_loopw [17] (fun vi wr =>∃m:Nat,m≤recs.length∧vi=.int .i64 m∧Below W.heap.size W wr ∧ ∀i (h:i<recs.length),i<m→bH (aA recs[i])≠sq) (fun vi _=>recs.length-(intOf vi).toNat)
 case atStart=>exact⟨0,Nat.zero_le _,rfl,Below.refl _ _,fun i _ h=>by omega⟩
 case round =>
  obtain⟨m,hm,rfl,hbr,hno⟩:=hrel
  have HNO:=qh hno
  have hwz:=hbr.size
  have hxr:=aa hbW hbr hbW.size
  clear hno
  by_cases hlt:m<recs.length
  rotate_left
  ·have hlt':decide (m<recs.length)=false:=by simpa using hlt
   have kG:decide ((m:Int)<(recs.length:Int))=false:=by simp;omega
   have HZ:=qh (HZW.out.below hbr hzW)
   have HC0:Hid (bS (recs.map aA) ⟨1,sq,dy,tb,some ⟨b0,o0,none⟩,xc,row,key,cl,vl⟩=[]):=qh (BS rfl (fun r hr=>by
    obtain⟨i,hi,rfl⟩:=List.getElem_of_mem hr
    exact HNO.out i hi omA))
   have hfz:=fun j=>HZ.out.frozen j
   obtain⟨⟨z0,z1,z2,z3⟩,z4,⟨z5,z6,z7⟩,z8,z9,z10,z11⟩:=Chg.eF (x:=⟨0,0,0,0,none,0,[],⟨0,0,⟨#[]⟩⟩,0,⟨0,0,⟨#[]⟩⟩⟩) HZ.out
   simp only[List.length_nil]at z0 z1 z2 z3 z4 z5 z6 z7 z8 z9 z10 z11
   have hzl:=HZ.out.lt
   go_wp2_with fail
   refine bodyPost_ret (v:= .tuple #[.agg #[.int .i64 0,.int .i64 0,.int .i64 0,.int .i64 0,.slice none 0 0,.int .i64 0,.int .i64 0,.string ⟨#[]⟩,.int .i64 0,.int .i64 0,.int .i64 0,.string ⟨#[]⟩],.bool false]) eI rfl ⟨⟨⟨0,0,0,0,none,0,[],⟨0,0,⟨#[]⟩⟩,0,⟨0,0,⟨#[]⟩⟩⟩,false,rfl,by rw[HC0.out];rfl,aj.nil,by simp⟩,?_⟩
   iterate 12 (refine Below.setCell ?_ spA _)
   exact hxr
  have hlt':decide (m<recs.length)=true:=by simpa using hlt
  have kG:decide ((m:Int)<(recs.length:Int))=true:=by simp;omega
  have hrec:=HR.out.below hxr
  obtain⟨b,o,rfl,hb,hc⟩:=hrec.1.get hlt
  obtain⟨c0,c1,c2⟩:=Rcd.cells3 hc
  have hrow:=(HR.out.2 recs[m] (lgm hlt)).2
  have hql:=HQ.out recs[m] (lgm hlt)
  have HHQ:=qh (II (r:=recs[m]) omA)
  have HFD:=qh (fun h=>zN (x:=⟨1,sq,dy,tb,some ⟨b0,o0,none⟩,xc,row,key,cl,vl⟩) hlt rfl h (fun j hj=>HNO.out j omA hj))
  obtain⟨⟨RA2,rc2,QR,SA,sc,sq2,dy2⟩,hx⟩:∃x:Rcd,recs[m]=x:=⟨_,rfl⟩
  have HHX:=qh hx
  have hs0:0<sq2.length:=by
   have h:=hql
   rw[hx]at h
   simp only at h
   omega
  have HHS:Hid (bH (aA recs[m])=sq2[0]'hs0):=qh (by
   have h:=HHQ.out
   simp only[hx]at h ⊢
   exact h)
  rw[hx]at c0 c1 c2 hrow hql HFD
  simp only at c0 c1 c2 hrow hql HFD
  have iV:=qh hrow
  have hle1:sq2.length≤row.length:=by omega
  have hle2:row.length≤sq2.length:=by omega
  have TS:decide (0<sq2.length)=true:=by simpa using hs0
  clear hc hrec hrow hx HHQ hql
  go_upto_region 6 with (fail)
  refine ah (P:=fun u=>Code.wp _ _ _ _ u) (R:=fun u=>Blk u wr.heap.size 66 #[.slice RA2 QR.length rc2,.slice SA sq2.length sc,.int .i64 dy2]∧Below wr.heap.size wr u) ⟨Blk.new _ _ _,by exact ai⟩ ?_
  clear c0 c1 c2
  rintro u ⟨hu,hbu⟩
  have HU:=qh hu
  have hul:=hu.lt
  have hzu:=hbu.size
  have e1:=hu.cell 1
  simp only[gE3]at e1
  have zI:Below W.heap.size W u:=aa hbr hbu hwz
  have x1:=(HXW.out.below zI hxW).cell 1
  simp only[gE3]at x1
  have hxu:Below w.heap.size w u:=aa hbW zI hbW.size
  obtain⟨b6,o6,rfl,hb6,hc6⟩:=(iV.out.below hxu).get hs0
  have y0:=hc6 0 _ rfl
  simp only[Nat.zero_mul,Nat.add_zero,Nat.mul_one]at y0
  obtain⟨s0,hs⟩:∃s0,sq2[0]=s0:=⟨_,rfl⟩
  rw[hs]at y0 HHS
  have hk0:=az (w:=u) wr.heap.size hul
  have hk1:=az (w:=u) b6 omA
  have hk2:=az (w:=u) w.heap.size omA
  clear hc6 hu hs
  by_cases hqe:s0=sq
  rotate_left
  ·have Ug:(s0 != sq)=true:=by simpa using hqe
   have hqd:decide (s0=sq)=false:=by simpa using hqe
   have HNE:=qh hqe
   clear hqe
   refine af krA krA ?_;(repeat(go_big_quiet_step (fail)));refine wpQuiet_nil ?_;intro wq hq
   clear hk0 hk1 hk2 y0 e1 x1
   go_wp2_with fail
   go_roundw
   case rel=>exact⟨m+1,by omega,by go_num,aa zI hq omA,fun i h hi=>by
    rcases Nat.lt_or_ge i m with h1|h1
    ·exact HNO.out i h h1
    ·obtain rfl:i=m:=by omega
     rw[HHS.out]
     exact HNE.out⟩
   case measure=>exact meA
  have Ug:(s0 != sq)=false:=by rw[hqe];simp
  have hqd:decide (s0=sq)=true:=by rw[hqe];simp
  have HCF:Hid (bS (recs.map aA) ⟨1,sq,dy,tb,some ⟨b0,o0,none⟩,xc,row,key,cl,vl⟩=[⟨1,sq,dy,tb,none,0,gy sq2 sq row,key,cl,vl⟩]):=qh (HFD.out (by rw[←HHX.out,HHS.out,hqe]))
  clear hqe HFD HHS
  refine af krA krA ?_;(repeat(go_big_quiet_step (fail)));refine wpQuiet_nil ?_;intro wq hq
  clear hk0 hk1 hk2 y0 e1 x1 Ug hqd
  have RI:Below W.heap.size W wq:=aa zI hq omA
  have hxq:Below w.heap.size w wq:=aa hbW RI hbW.size
  have HXq:=qh (HXW.out.below RI hxW)
  have HZq:=qh (HZW.out.below RI hzW)
  have HUq:=qh (HU.out.below hq hul)
  obtain⟨⟨t0,t1,t2,t3⟩,t4,⟨t5,t6,t7⟩,t8,t9,t10,t11⟩:=Chg.eF (x:=⟨1,sq,dy,tb,some ⟨b0,o0,none⟩,xc,row,key,cl,vl⟩) HXq.out
  simp only at t0 t1 t2 t3 t4 t5 t6 t7 t8 t9 t10 t11
  have Fj:=HXq.out.lt
  have WC:=HZq.out.lt
  have WR:=HUq.out.lt
  go_upto_region 8 with (focus (
   (go_at_call 62;(with_reducible refine(cO 1 sq dy tb (some ⟨b0,o0,none⟩) xc row key cl vl _ (HX.out.next hxq) omA).mono ?_))
   rintro e w5 ⟨⟨A',c',rfl,hown'⟩,hb5⟩
   have HX5:=qh (HXq.out.below hb5 Fj)
   have HZ5:=qh (HZq.out.below hb5 WC)
   have HU5:=qh (HUq.out.below hb5 WR)
   have HOWN':=qh (hown'.mono hxq.size)
   have hx5:=aa hxq hb5 hxq.size
   clear hown' t0 t1 t2 t3 t4 t5 t6 t7 t8 t9 t10 t11
   have hf5:=fun j=>HX5.out.frozen j
   obtain⟨⟨t0,t1,t2,t3⟩,t4,⟨t5,t6,t7⟩,t8,t9,t10,t11⟩:=Chg.eF (x:=⟨1,sq,dy,tb,some ⟨b0,o0,none⟩,xc,row,key,cl,vl⟩) HX5.out
   simp only at t0 t1 t2 t3 t4 t5 t6 t7 t8 t9 t10 t11
   have WK:=HX5.out.lt))
  obtain⟨q,rfl⟩:∃q,A'=some ⟨q,0,none⟩:=by
   rcases HOWN'.out.2 with ⟨_,h⟩|⟨q,cap,cur,h,_⟩
   ·rw[h]at hn;simp at hn
   ·injection h with h
    exact⟨q,h⟩
  generalize hWU:World.setCell _ _ _=U
  have Uf:∀q',(Value.slice (some ⟨q,0,none⟩) row.length c').ownBlock=some q'→w.heap.size+1<q':=fun q' h=>by
   have h1:=HOWN'.out.aY HX5.out (by decide) q' h
   have h2:=HOWN'.out.aY HZ5.out (by decide) q' h
   have h3:=HOWN'.out.row q' h
   omega
  have HOU:Hid (aj U w.heap.size 50 Val.cells 3 (.slice (some ⟨q,0,none⟩) row.length c') row):=qh (by
   have hne:=HOWN'.out.aY HX5.out (by decide)
   rw[←hWU]
   iterate 12 (refine aj.far ?_ hne _)
   exact HOWN'.out)
  have hbU:Below w.heap.size w U:=by
   rw[←hWU]
   iterate 12 (refine Below.setCell ?_ spA _)
   exact hx5
  have HXU:Hid (Blk U w.heap.size 52 #[.int .i64 1,.int .i64 sq,.int .i64 dy,.int .i64 tb,.slice (some ⟨q,0,none⟩) row.length c',.int .i64 key.kind,.int .i64 key.num,.string key.text,.int .i64 cl,.int .i64 vl.kind,.int .i64 vl.num,.string vl.text]):=qh (by
   rw[←hWU]
   have h:=(((((((((((HX5.out.aH 0 (.int .i64 1)).aH 1 (.int .i64 sq)).aH 2 (.int .i64 dy)).aH 3 (.int .i64 tb)).aH 4 (.slice (some ⟨q,0,none⟩) row.length c')).aH 5 (.int .i64 key.kind)).aH 6 (.int .i64 key.num)).aH 7 (.string key.text)).aH 8 (.int .i64 cl)).aH 9 (.int .i64 vl.kind)).aH 10 (.int .i64 vl.num)).aH 11 (.string vl.text)
   simpa using h)
  have HZU:Hid (Blk U (w.heap.size+1) 52 #[.int .i64 0,.int .i64 0,.int .i64 0,.int .i64 0,.slice none 0 0,.int .i64 0,.int .i64 0,.string ⟨#[]⟩,.int .i64 0,.int .i64 0,.int .i64 0,.string ⟨#[]⟩]):=qh (by
   rw[←hWU]
   iterate 12 (refine Blk.far ?_ spA _)
   exact HZ5.out)
  have HUU:Hid (Blk U wr.heap.size 66 #[.slice RA2 QR.length rc2,.slice (some ⟨b6,o6,none⟩) sq2.length sc,.int .i64 dy2]):=qh (by
   rw[←hWU]
   iterate 12 (refine Blk.far ?_ (by show wr.heap.size≠w.heap.size;omega) _)
   exact HU5.out)
  clear hWU t0 t1 t2 t3 t4 t5 t6 t7 t8 t9 t10 t11 hf5
  have HQG:=qh Uf
  clear Uf
  have e1:=HUU.out.cell 1
  simp only[gE3]at e1
  have hUl:=HUU.out.lt
  go_upto_region 9 with (fail)
  clear e1
  have HLR:Hid ((gy sq2 sq row).length=row.length):=qh (yV sq2 sq row)
  have hqw:w.heap.size+1<q:=HQG.out q rfl
  go_loopw [33] (fun vi ws =>∃j:Nat,j≤sq2.length∧vi=.int .i64 j∧aj ws w.heap.size 50 Val.cells 3 (.slice (some ⟨q,0,none⟩) row.length c') (og (gy sq2 sq row) row j)∧Blk ws w.heap.size 52 #[.int .i64 1,.int .i64 sq,.int .i64 dy,.int .i64 tb,.slice (some ⟨q,0,none⟩) row.length c',.int .i64 key.kind,.int .i64 key.num,.string key.text,.int .i64 cl,.int .i64 vl.kind,.int .i64 vl.num,.string vl.text]∧Blk ws (w.heap.size+1) 52 #[.int .i64 0,.int .i64 0,.int .i64 0,.int .i64 0,.slice none 0 0,.int .i64 0,.int .i64 0,.string ⟨#[]⟩,.int .i64 0,.int .i64 0,.int .i64 0,.string ⟨#[]⟩]∧Below w.heap.size w ws) (fun vi _=>sq2.length-(intOf vi).toNat)
  case atStart=>exact⟨0,Nat.zero_le _,rfl,by rw[Ii];exact HOU.out,HXU.out,HZU.out,hbU⟩
  case round =>
   obtain⟨j,hj,rfl,ho,hX,hZ,hbs⟩:=hrel
   have hsz:=hbs.size
   have HO:=qh ho
   have HXs:=qh hX
   have HZs:=qh hZ
   have hxs:=hX.lt
   have hzs:=hZ.lt
   have HLM:Hid (row.length=(og (gy sq2 sq row) row j).length):=qh (Lj HLR.out omA).symm
   clear ho hX hZ
   by_cases hjl:j<sq2.length
   ·have uD:decide (j<sq2.length)=true:=by simpa using hjl
    have zH:decide ((j:Int)<(sq2.length:Int))=true:=by simp;omega
    have hjr:j<row.length:=by omega
    have hRj:j<(gy sq2 sq row).length:=by rw[HLR.out];exact hjr
    have HAT:Hid ((gy sq2 sq row)[j]=if sq2[j]=sq then row[j] else dS):=qh (Jc hjr hjl)
    obtain⟨b7,o7,e7,hb7,hc7⟩:=(iV.out.below hbs).get hjl
    injection e7 with e7
    injection e7 with e8 e9
    subst e8 e9
    have y0:=hc7 0 _ rfl
    simp only[Nat.mul_one,Nat.add_zero]at y0
    obtain⟨s1,hs⟩:∃s1,sq2[j]=s1:=⟨_,rfl⟩
    rw[hs]at y0 HAT
    have x1:=HXs.out.cell 1
    have x4:=HXs.out.cell 4
    simp only[gE3]at x1 x4
    clear hc7 hs
    by_cases hse:s1=sq
    ·have Rl:(s1 != sq)=false:=by rw[hse];simp
     have hsd:decide (s1=sq)=true:=by rw[hse];simp
     have HMX:Hid (og (gy sq2 sq row) row j=og (gy sq2 sq row) row (j+1)):=qh (Ij HLR.out hjr hRj (by rw[HAT.out,if_pos hse]))
     clear hse
     go_wp2_with fail
     go_roundw
     case rel=>exact⟨j+1,by omega,by go_num,by rw[←HMX.out];exact HO.out,HXs.out,HZs.out,hbs⟩
     case measure=>exact meA
    ·have Rl:(s1 != sq)=true:=by simpa using hse
     have hsd:decide (s1=sq)=false:=by simpa using hse
     have hjm:j<(og (gy sq2 sq row) row j).length:=by rw[←HLM.out];exact hjr
     have HMX:Hid ((og (gy sq2 sq row) row j).set j dS=og (gy sq2 sq row) row (j+1)):=qh (by
      have h:=Li HLR.out hjr hRj
      rw[HAT.out,if_neg hse]at h
      exact h)
     have ZQ:decide (j<row.length)=true:=by simpa using hjr
     have ZP:decide ((j:Int)<(row.length:Int))=true:=by simp;omega
     clear hse
     have c0:=HO.out.gq bC HLM.out hjm (j:= 0) rfl
     have c1:=HO.out.gq bC HLM.out hjm (j:= 1) rfl
     have c2:=HO.out.gq bC HLM.out hjm (j:= 2) rfl
     have hfz:=fun j=>HO.out.kH HLM.out j
     have ZB:=HO.out.lt q rfl
     simp only[Nat.add_zero]at c0
     go_wp2_with fail
     go_roundw
     case rel =>
      refine⟨j+1,by omega,by go_num,by rw[←HMX.out];with_reducible exact HO.out.QX HLM.out hjm dS,?_,?_,?_⟩
      ·iterate 3 (refine Blk.far ?_ (by show w.heap.size≠q;omega) _)
       exact HXs.out
      ·iterate 3 (refine Blk.far ?_ (by show w.heap.size+1≠q;omega) _)
       exact HZs.out
      ·iterate 3 (refine Below.setCell ?_ (by show w.heap.size≤q;omega) _)
       exact hbs
     case measure=>exact meA
   ·have uD:decide (j<sq2.length)=false:=by simpa using hjl
    have zH:decide ((j:Int)<(sq2.length:Int))=false:=by simp;omega
    have hje:j=row.length:=by omega
    have lN:Hid (aj wr w.heap.size 50 Val.cells 3 (.slice (some ⟨q,0,none⟩) (gy sq2 sq row).length c') (gy sq2 sq row)):=qh (by
     have h:=HO.out
     rw[hje,Lm HLR.out]at h
     rwa [HLR.out])
    clear hje
    obtain⟨⟨t0,t1,t2,t3⟩,t4,⟨t5,t6,t7⟩,t8,t9,t10,t11⟩:=Chg.eF (x:=⟨1,sq,dy,tb,some ⟨q,0,none⟩,c',row,key,cl,vl⟩) HXs.out
    simp only at t0 t1 t2 t3 t4 t5 t6 t7 t8 t9 t10 t11
    have hfz:=fun j=>HZs.out.frozen j
    obtain⟨⟨z0,z1,z2,z3⟩,z4,⟨z5,z6,z7⟩,z8,z9,z10,z11⟩:=Chg.eF (x:=⟨0,0,0,0,none,0,[],⟨0,0,⟨#[]⟩⟩,0,⟨0,0,⟨#[]⟩⟩⟩) HZs.out
    simp only[List.length_nil]at z0 z1 z2 z3 z4 z5 z6 z7 z8 z9 z10 z11
    go_wp2_with fail
    refine bodyPost_ret (v:= .tuple #[.agg #[.int .i64 1,.int .i64 sq,.int .i64 dy,.int .i64 tb,.slice (some ⟨q,0,none⟩) row.length c',.int .i64 key.kind,.int .i64 key.num,.string key.text,.int .i64 cl,.int .i64 vl.kind,.int .i64 vl.num,.string vl.text],.bool true]) eI rfl ⟨⟨⟨1,sq,dy,tb,some ⟨q,0,none⟩,c',gy sq2 sq row,key,cl,vl⟩,true,by rw[HLR.out],HCF.out,?_,by show (gy sq2 sq row).length≤8;rw[HLR.out];omega⟩,?_⟩
    ·have hne:=lN.out.aY HZs.out (by decide)
     iterate 12 (refine aj.far ?_ hne _)
     exact lN.out
    ·iterate 12 (refine Below.setCell ?_ spA _)
     exact hbs
theorem jm{w:World}{g:Nat}{kd sq dy tb:Int}{XA:Option Addr}{xc:Nat}{row:List Val}{key:Val}{cl:Int}{vl:Val}(h:Blk w g 52 #[.int .i64 kd,.int .i64 sq,.int .i64 dy,.int .i64 tb,.slice XA row.length xc,.int .i64 key.kind,.int .i64 key.num,.string key.text,.int .i64 cl,.int .i64 vl.kind,.int .i64 vl.num,.string vl.text]):(w.cell? ⟨g,0,none⟩=some (.int .i64 kd)∧w.cell? ⟨g,1,none⟩=some (.int .i64 sq)∧w.cell? ⟨g,2,none⟩=some (.int .i64 dy)∧w.cell? ⟨g,3,none⟩=some (.int .i64 tb)∧w.cell? ⟨g,4,none⟩=some (.slice XA row.length xc)∧w.cell? ⟨g,5,none⟩=some (.int .i64 key.kind)∧w.cell? ⟨g,6,none⟩=some (.int .i64 key.num)∧w.cell? ⟨g,7,none⟩=some (.string key.text)∧w.cell? ⟨g,8,none⟩=some (.int .i64 cl)∧w.cell? ⟨g,9,none⟩=some (.int .i64 vl.kind)∧w.cell? ⟨g,10,none⟩=some (.int .i64 vl.num)∧w.cell? ⟨g,11,none⟩=some (.string vl.text)):=
 ⟨h.cell 0,h.cell 1,h.cell 2,h.cell 3,h.cell 4,h.cell 5,h.cell 6,h.cell 7,h.cell 8,h.cell 9,h.cell 10,h.cell 11⟩
theorem xD(RA:Option Addr)(rc n:Nat)(recs:List Rcd)(sq dy tb:Int)(XA:Option Addr)(xc:Nat)(row:List Val)(key:Val)(j:Nat)(vl:Val)(w:World)(hR:bU w w.heap.size RA recs)(hl:recs.length≤1000000)(hq:∀r∈recs,r.seq.length=n∧r.row.length=n)(hn:0<n)(hn8:n≤8)(hx:ag w w.heap.size Val.cells 3 XA row)(hxl:row.length≤8)(hv:bT key=true)(hk:key.kind≠0)(hj:j<n):
 Calls Tryz.prog 36 #[.slice RA recs.length rc,.agg #[.int .i64 2,.int .i64 sq,.int .i64 dy,.int .i64 tb,.slice XA row.length xc,.int .i64 key.kind,.int .i64 key.num,.string key.text,.int .i64 (j:Int),.int .i64 vl.kind,.int .i64 vl.num,.string vl.text]] w fun e w'=>(∃(y:Chg) (b:Bool),e=.returned (.tuple #[.agg #[.int .i64 y.kind,.int .i64 y.seq,.int .i64 y.day,.int .i64 y.table,.slice y.A y.row.length y.cap,.int .i64 y.key.kind,.int .i64 y.key.num,.string y.key.text,.int .i64 y.column,.int .i64 y.val.kind,.int .i64 y.val.num,.string y.val.text],.bool b])∧bS (recs.map aA) ⟨2,sq,dy,tb,XA,xc,row,key,(j:Int),vl⟩=(if b=true then [unC y] else [])∧aj w' w.heap.size 50 Val.cells 3 (.slice y.A y.row.length y.cap) y.row∧y.row.length≤8)∧Below w.heap.size w w':=by
 have HR:=qh hR
 have HQ:=qh hq
 have HX:=qh hx
 have HV:=qh hv
 have HKK:=qh hk
 have HSR:Hid (∀x∈recs,0<x.row.length∧x.row.length≤1000000):=qh (fun r hr=>by have:=(hq r hr).2;omega)
 obtain⟨i,hfi⟩:∃i,gm recs key=i:=⟨_,rfl⟩
 have HFI:=qh hfi
 have HCU:=qh (Pn (x:=⟨2,sq,dy,tb,XA,xc,row,key,(j:Int),vl⟩) (i:=i) rfl hv hk (fun r hr=>by have:=(hq r hr).2;omega) hfi)
 clear hR hq hx hv hk hfi
 go_enter Tryz.func36,Tryz.ntmps36
 go_upto_region 1 with (fail)
 refine ah (P:=fun u=>Code.wp _ _ _ _ u) (R:=fun u=>Blk u w.heap.size 52 #[.int .i64 2,.int .i64 sq,.int .i64 dy,.int .i64 tb,.slice XA row.length xc,.int .i64 key.kind,.int .i64 key.num,.string key.text,.int .i64 (j:Int),.int .i64 vl.kind,.int .i64 vl.num,.string vl.text]∧Blk u (w.heap.size+1) 52 #[.int .i64 0,.int .i64 0,.int .i64 0,.int .i64 0,.slice none 0 0,.int .i64 0,.int .i64 0,.string ⟨#[]⟩,.int .i64 0,.int .i64 0,.int .i64 0,.string ⟨#[]⟩]∧Below w.heap.size w u) ⟨(Blk.new _ _ _).alloc _,Blk.new' spA,by exact ai⟩ ?_
 rintro W ⟨hX,hZ,hbW⟩
 have HXW:=qh hX
 have HZW:=qh hZ
 have hxW:=hX.lt
 have hzW:=hZ.lt
 obtain⟨⟨q0,q1,q2,q3⟩,q4,⟨q5,q6,q7⟩,q8,q9,q10,q11⟩:=Chg.eF (x:=⟨2,sq,dy,tb,XA,xc,row,key,(j:Int),vl⟩) hX
 simp only at q0 q1 q2 q3 q4 q5 q6 q7 q8 q9 q10 q11
 clear hX hZ
 go_upto_region 18 with (go_at_call 80;(with_reducible refine(KM RA rc recs.length recs key _ (HR.out.next hbW) rfl hl HSR.out HV.out HKK.out HFI.out).mono ?_);rintro e w1 ⟨rfl,hb1⟩)
 have hx1:Below w.heap.size w w1:=aa hbW hb1 hbW.size
 have HX1:=qh (HXW.out.below hb1 hxW)
 have HZ1:=qh (HZW.out.below hb1 hzW)
 have hbd:Below w.heap.size w w1.drew:=hx1.trans ((brf.drew).mono hx1.size)
 clear q0 q1 q2 q3 q4 q5 q6 q7 q8 q9 q10 q11
 rcases HCU.out with ⟨rfl,hcm⟩|⟨m,hm,rfl,hcm⟩
 ·have HCM:Hid (bS (recs.map aA) ⟨2,sq,dy,tb,XA,xc,row,key,(j:Int),vl⟩=[]):=qh hcm
  clear hcm HCU
  refine aJ (S:=fun u=>(u.cell? ⟨w.heap.size,0,none⟩=some (.int .i64 2)∧u.cell? ⟨w.heap.size,1,none⟩=some (.int .i64 sq)∧u.cell? ⟨w.heap.size,2,none⟩=some (.int .i64 dy)∧u.cell? ⟨w.heap.size,3,none⟩=some (.int .i64 tb)∧u.cell? ⟨w.heap.size,4,none⟩=some (.slice XA row.length xc)∧u.cell? ⟨w.heap.size,5,none⟩=some (.int .i64 key.kind)∧u.cell? ⟨w.heap.size,6,none⟩=some (.int .i64 key.num)∧u.cell? ⟨w.heap.size,7,none⟩=some (.string key.text)∧u.cell? ⟨w.heap.size,8,none⟩=some (.int .i64 (j:Int))∧u.cell? ⟨w.heap.size,9,none⟩=some (.int .i64 vl.kind)∧u.cell? ⟨w.heap.size,10,none⟩=some (.int .i64 vl.num)∧u.cell? ⟨w.heap.size,11,none⟩=some (.string vl.text))) [] krA (jm HX1.out) (fun hHeld =>?_)
  refine tkT 0 hHeld ?_
  refine tkT 2 hHeld ?_
  refine tkT 3 hHeld ?_
  refine r1T 1 (fun K hK =>?_)
  go_simp
  (go_at_call 62;(with_reducible refine(cO 2 sq dy tb XA xc row key (j:Int) vl _ (HX.out.next hbd) omA).mono ?_);rintro e w5 ⟨⟨A5,k5,rfl,ho5⟩,hb5⟩)
  have yG:Below w1.heap.size w1 w5:=brf.drew.trans hb5
  have hx5:Below w.heap.size w w5:=aa hx1 yG hx1.size
  have HX5:=qh (HX1.out.below yG HX1.out.lt)
  have HZ5:=qh (HZ1.out.below yG HZ1.out.lt)
  have HO5:Hid (aj w5 w.heap.size 50 Val.cells 3 (.slice A5 row.length k5) row):=qh (ho5.mono hbd.size)
  clear ho5
  go_wp2_with fail
  refine hK.out _ _ _ (jm HX5.out) (fun hHeld =>?_)
  clear hK K
  refine tkT 4 hHeld ?_
  refine unT 5 hHeld ?_
  refine unT 6 hHeld ?_
  refine unT 7 hHeld ?_
  refine unT 8 hHeld ?_
  refine unT 9 hHeld ?_
  refine unT 10 hHeld ?_
  refine unT 11 hHeld ?_
  refine unT 12 hHeld ?_
  refine unT 13 hHeld ?_
  refine unT 14 hHeld ?_
  refine unT 15 hHeld ?_
  refine unT 16 hHeld ?_
  refine tkT 17 hHeld ?_
  have hfz:=fun j=>HZ5.out.frozen j
  have Tk:=HZ5.out.lt
  obtain⟨⟨z0,z1,z2,z3⟩,z4,⟨z5,z6,z7⟩,z8,z9,z10,z11⟩:=Chg.eF (x:=⟨0,0,0,0,none,0,[],⟨0,0,⟨#[]⟩⟩,0,⟨0,0,⟨#[]⟩⟩⟩) HZ5.out
  simp only[List.length_nil]at z0 z1 z2 z3 z4 z5 z6 z7 z8 z9 z10 z11
  refine r1T 18 (fun K hK =>?_)
  go_simp
  have hbS:Below (w.heap.size+1) w5 _:=((((((((((((Below.refl (w.heap.size+1) w5).setCell (p:=⟨w.heap.size+1,0,none⟩) nlr (.int .i64 2)).setCell (p:=⟨w.heap.size+1,1,none⟩) nlr (.int .i64 sq)).setCell (p:=⟨w.heap.size+1,2,none⟩) nlr (.int .i64 dy)).setCell (p:=⟨w.heap.size+1,3,none⟩) nlr (.int .i64 tb)).setCell (p:=⟨w.heap.size+1,4,none⟩) nlr (.slice A5 row.length k5)).setCell (p:=⟨w.heap.size+1,5,none⟩) nlr (.int .i64 key.kind)).setCell (p:=⟨w.heap.size+1,6,none⟩) nlr (.int .i64 key.num)).setCell (p:=⟨w.heap.size+1,7,none⟩) nlr (.string key.text)).setCell (p:=⟨w.heap.size+1,8,none⟩) nlr (.int .i64 (j:Int))).setCell (p:=⟨w.heap.size+1,9,none⟩) nlr (.int .i64 vl.kind)).setCell (p:=⟨w.heap.size+1,10,none⟩) nlr (.int .i64 vl.num)).setCell (p:=⟨w.heap.size+1,11,none⟩) nlr (.string vl.text)
  have HXS:=qh (hbS.block w.heap.size omA |>.trans HX5.out)
  refine hK.out _ _ _ (jm HXS.out) (fun hHeld =>?_)
  clear hK K
  refine tkT 19 hHeld ?_
  refine aI krA ?_ _
  clear hHeld
  go_wp2_with fail
  refine bodyPost_ret (v:= .tuple #[.agg #[.int .i64 2,.int .i64 sq,.int .i64 dy,.int .i64 tb,.slice A5 row.length k5,.int .i64 key.kind,.int .i64 key.num,.string key.text,.int .i64 (j:Int),.int .i64 vl.kind,.int .i64 vl.num,.string vl.text],.bool false]) eI rfl ⟨⟨⟨2,sq,dy,tb,A5,k5,row,key,(j:Int),vl⟩,false,rfl,HCM.out,?_,by omega⟩,?_⟩
  ·have hne:=HO5.out.aY HZ5.out (by decide)
   iterate 12 (refine aj.far ?_ hne _)
   exact HO5.out
  ·iterate 12 (refine Below.setCell ?_ spA _)
   exact hx5
 ·have hrec:=HR.out
  obtain⟨b,o,rfl,hb,hc⟩:=hrec.1.get hm
  obtain⟨c0,c1,c2⟩:=Rcd.cells3 hc
  have hrow:=(hrec.2 recs[m] (lgm hm)).2
  have hql:=(HQ.out recs[m] (lgm hm)).1
  obtain⟨⟨RA2,rc2,QR,SA,sc,sq2,dy2⟩,hx⟩:∃x:Rcd,recs[m]=x:=⟨_,rfl⟩
  rw[hx]at c1 hrow hql hcm
  simp only[Int.toNat_natCast]at c1 hrow hql hcm
  have hjs:j<sq2.length:=by omega
  obtain⟨b6,o6,rfl,hb6,hc6⟩:=hrow.get hjs
  have y0:=hc6 0 _ rfl
  simp only[Nat.mul_one,Nat.add_zero]at y0
  simp only[l9 hjs]at hcm
  obtain⟨s0,hs⟩:∃s0,sq2[j]=s0:=⟨_,rfl⟩
  rw[hs]at y0
  simp only[hs]at hcm
  have hm':decide (m<recs.length)=true:=by simpa using hm
  have hmi:decide ((m:Int)<(recs.length:Int))=true:=by simp;omega
  have ZO:decide (j<sq2.length)=true:=by simpa using hjs
  have ZN:decide ((j:Int)<(sq2.length:Int))=true:=by simp;omega
  have ZH:decide ((0:Int)≤(m:Int))=true:=by simp
  have HC1:=qh c1
  have HY0:=qh y0
  have HSS:Hid (∀u,Below w.heap.size w u→u.cell? ⟨b,o+m*3+1,none⟩=some (.slice (some ⟨b6,o6,none⟩) sq2.length sc)∧u.cell? ⟨b6,o6+j,none⟩=some (.int .i64 s0)):=qh fun u hu=>⟨(hu.cell (p:=⟨b,o+m*3+1,none⟩) hb).trans c1,(hu.cell (p:=⟨b6,o6+j,none⟩) hb6).trans y0⟩
  clear hc hc6 hrec hrow hql hx hs c0 c1 c2 y0 HCU
  by_cases hse:s0=sq
  ·have HCM:Hid (bS (recs.map aA) ⟨2,sq,dy,tb,XA,xc,row,key,(j:Int),vl⟩=[unC (⟨2,sq,dy,tb,XA,xc,row,key,(j:Int),vl⟩:Chg)]):=qh (by rw[hcm,if_pos hse])
   have Rl:(s0==sq)=true:=by rw[hse];simp
   have hsd:decide (s0=sq)=true:=by rw[hse];simp
   clear hse hcm
   refine aJ (S:=fun u=>(u.cell? ⟨w.heap.size,0,none⟩=some (.int .i64 2)∧u.cell? ⟨w.heap.size,1,none⟩=some (.int .i64 sq)∧u.cell? ⟨w.heap.size,2,none⟩=some (.int .i64 dy)∧u.cell? ⟨w.heap.size,3,none⟩=some (.int .i64 tb)∧u.cell? ⟨w.heap.size,4,none⟩=some (.slice XA row.length xc)∧u.cell? ⟨w.heap.size,5,none⟩=some (.int .i64 key.kind)∧u.cell? ⟨w.heap.size,6,none⟩=some (.int .i64 key.num)∧u.cell? ⟨w.heap.size,7,none⟩=some (.string key.text)∧u.cell? ⟨w.heap.size,8,none⟩=some (.int .i64 (j:Int))∧u.cell? ⟨w.heap.size,9,none⟩=some (.int .i64 vl.kind)∧u.cell? ⟨w.heap.size,10,none⟩=some (.int .i64 vl.num)∧u.cell? ⟨w.heap.size,11,none⟩=some (.string vl.text))∧u.cell? ⟨b,o+m*3+1,none⟩=some (.slice (some ⟨b6,o6,none⟩) sq2.length sc)∧u.cell? ⟨b6,o6+j,none⟩=some (.int .i64 s0)) [] krA ⟨jm HX1.out,HSS.out _ hbd⟩ (fun hHeld =>?_)
   refine tkT 0 hHeld ?_
   refine tkT 2 hHeld ?_
   refine tkT 3 hHeld ?_
   refine r1T 1 (fun K hK =>?_)
   go_simp
   (go_at_call 62;(with_reducible refine(cO 2 sq dy tb XA xc row key (j:Int) vl _ (HX.out.next hbd) omA).mono ?_);rintro e w5 ⟨⟨A5,k5,rfl,ho5⟩,hb5⟩)
   have yG:Below w1.heap.size w1 w5:=brf.drew.trans hb5
   have hx5:Below w.heap.size w w5:=aa hx1 yG hx1.size
   have HX5:=qh (HX1.out.below yG HX1.out.lt)
   have HZ5:=qh (HZ1.out.below yG HZ1.out.lt)
   have HO5:Hid (aj w5 w.heap.size 50 Val.cells 3 (.slice A5 row.length k5) row):=qh (ho5.mono hbd.size)
   clear ho5
   go_wp2_with fail
   refine hK.out _ _ _ ⟨jm HX5.out,HSS.out _ hx5⟩ (fun hHeld =>?_)
   clear hK K
   refine tkT 4 hHeld ?_
   refine tkT 5 hHeld ?_
   refine tkT 6 hHeld ?_
   refine tkT 7 hHeld ?_
   refine tkT 8 hHeld ?_
   refine tkT 9 hHeld ?_
   refine tkT 10 hHeld ?_
   refine tkT 11 hHeld ?_
   refine tkT 12 hHeld ?_
   refine tkT 13 hHeld ?_
   refine tkT 14 hHeld ?_
   refine tkT 15 hHeld ?_
   refine tkT 16 hHeld ?_
   refine tkT 17 hHeld ?_
   have hfz:=fun j=>HZ5.out.frozen j
   have Tk:=HZ5.out.lt
   obtain⟨⟨z0,z1,z2,z3⟩,z4,⟨z5,z6,z7⟩,z8,z9,z10,z11⟩:=Chg.eF (x:=⟨0,0,0,0,none,0,[],⟨0,0,⟨#[]⟩⟩,0,⟨0,0,⟨#[]⟩⟩⟩) HZ5.out
   simp only[List.length_nil]at z0 z1 z2 z3 z4 z5 z6 z7 z8 z9 z10 z11
   refine r1T 18 (fun K hK =>?_)
   go_simp
   have hbS:Below (w.heap.size+1) w5 _:=((((((((((((Below.refl (w.heap.size+1) w5).setCell (p:=⟨w.heap.size+1,0,none⟩) nlr (.int .i64 2)).setCell (p:=⟨w.heap.size+1,1,none⟩) nlr (.int .i64 sq)).setCell (p:=⟨w.heap.size+1,2,none⟩) nlr (.int .i64 dy)).setCell (p:=⟨w.heap.size+1,3,none⟩) nlr (.int .i64 tb)).setCell (p:=⟨w.heap.size+1,4,none⟩) nlr (.slice A5 row.length k5)).setCell (p:=⟨w.heap.size+1,5,none⟩) nlr (.int .i64 key.kind)).setCell (p:=⟨w.heap.size+1,6,none⟩) nlr (.int .i64 key.num)).setCell (p:=⟨w.heap.size+1,7,none⟩) nlr (.string key.text)).setCell (p:=⟨w.heap.size+1,8,none⟩) nlr (.int .i64 (j:Int))).setCell (p:=⟨w.heap.size+1,9,none⟩) nlr (.int .i64 vl.kind)).setCell (p:=⟨w.heap.size+1,10,none⟩) nlr (.int .i64 vl.num)).setCell (p:=⟨w.heap.size+1,11,none⟩) nlr (.string vl.text)
   have HXS:=qh (hbS.block w.heap.size omA |>.trans HX5.out)
   refine hK.out _ _ _ ⟨jm HXS.out,HSS.out _ (hx5.trans (hbS.mono omA))⟩ (fun hHeld =>?_)
   clear hK K
   refine tkT 19 hHeld ?_
   refine aI krA ?_ _
   clear hHeld
   go_wp2_with fail
   refine bodyPost_ret (v:= .tuple #[.agg #[.int .i64 2,.int .i64 sq,.int .i64 dy,.int .i64 tb,.slice A5 row.length k5,.int .i64 key.kind,.int .i64 key.num,.string key.text,.int .i64 (j:Int),.int .i64 vl.kind,.int .i64 vl.num,.string vl.text],.bool true]) eI rfl ⟨⟨⟨2,sq,dy,tb,A5,k5,row,key,(j:Int),vl⟩,true,rfl,HCM.out,?_,by omega⟩,?_⟩
   ·have hne:=HO5.out.aY HZ5.out (by decide)
    iterate 12 (refine aj.far ?_ hne _)
    exact HO5.out
   ·iterate 12 (refine Below.setCell ?_ spA _)
    exact hx5
  ·have HCM:Hid (bS (recs.map aA) ⟨2,sq,dy,tb,XA,xc,row,key,(j:Int),vl⟩=[]):=qh (by rw[hcm,if_neg hse])
   have Rl:(s0==sq)=false:=by simpa using hse
   have hsd:decide (s0=sq)=false:=by simpa using hse
   clear hse hcm
   refine aJ (S:=fun u=>(u.cell? ⟨w.heap.size,0,none⟩=some (.int .i64 2)∧u.cell? ⟨w.heap.size,1,none⟩=some (.int .i64 sq)∧u.cell? ⟨w.heap.size,2,none⟩=some (.int .i64 dy)∧u.cell? ⟨w.heap.size,3,none⟩=some (.int .i64 tb)∧u.cell? ⟨w.heap.size,4,none⟩=some (.slice XA row.length xc)∧u.cell? ⟨w.heap.size,5,none⟩=some (.int .i64 key.kind)∧u.cell? ⟨w.heap.size,6,none⟩=some (.int .i64 key.num)∧u.cell? ⟨w.heap.size,7,none⟩=some (.string key.text)∧u.cell? ⟨w.heap.size,8,none⟩=some (.int .i64 (j:Int))∧u.cell? ⟨w.heap.size,9,none⟩=some (.int .i64 vl.kind)∧u.cell? ⟨w.heap.size,10,none⟩=some (.int .i64 vl.num)∧u.cell? ⟨w.heap.size,11,none⟩=some (.string vl.text))∧u.cell? ⟨b,o+m*3+1,none⟩=some (.slice (some ⟨b6,o6,none⟩) sq2.length sc)∧u.cell? ⟨b6,o6+j,none⟩=some (.int .i64 s0)) [] krA ⟨jm HX1.out,HSS.out _ hbd⟩ (fun hHeld =>?_)
   refine tkT 0 hHeld ?_
   refine tkT 2 hHeld ?_
   refine tkT 3 hHeld ?_
   refine r1T 1 (fun K hK =>?_)
   go_simp
   (go_at_call 62;(with_reducible refine(cO 2 sq dy tb XA xc row key (j:Int) vl _ (HX.out.next hbd) omA).mono ?_);rintro e w5 ⟨⟨A5,k5,rfl,ho5⟩,hb5⟩)
   have yG:Below w1.heap.size w1 w5:=brf.drew.trans hb5
   have hx5:Below w.heap.size w w5:=aa hx1 yG hx1.size
   have HX5:=qh (HX1.out.below yG HX1.out.lt)
   have HZ5:=qh (HZ1.out.below yG HZ1.out.lt)
   have HO5:Hid (aj w5 w.heap.size 50 Val.cells 3 (.slice A5 row.length k5) row):=qh (ho5.mono hbd.size)
   clear ho5
   go_wp2_with fail
   refine hK.out _ _ _ ⟨jm HX5.out,HSS.out _ hx5⟩ (fun hHeld =>?_)
   clear hK K
   refine tkT 4 hHeld ?_
   refine tkT 5 hHeld ?_
   refine tkT 6 hHeld ?_
   refine tkT 7 hHeld ?_
   refine tkT 8 hHeld ?_
   refine tkT 9 hHeld ?_
   refine tkT 10 hHeld ?_
   refine tkT 11 hHeld ?_
   refine tkT 12 hHeld ?_
   refine tkT 13 hHeld ?_
   refine tkT 14 hHeld ?_
   refine tkT 15 hHeld ?_
   refine tkT 16 hHeld ?_
   refine tkT 17 hHeld ?_
   have hfz:=fun j=>HZ5.out.frozen j
   have Tk:=HZ5.out.lt
   obtain⟨⟨z0,z1,z2,z3⟩,z4,⟨z5,z6,z7⟩,z8,z9,z10,z11⟩:=Chg.eF (x:=⟨0,0,0,0,none,0,[],⟨0,0,⟨#[]⟩⟩,0,⟨0,0,⟨#[]⟩⟩⟩) HZ5.out
   simp only[List.length_nil]at z0 z1 z2 z3 z4 z5 z6 z7 z8 z9 z10 z11
   refine r1T 18 (fun K hK =>?_)
   go_simp
   have hbS:Below (w.heap.size+1) w5 _:=((((((((((((Below.refl (w.heap.size+1) w5).setCell (p:=⟨w.heap.size+1,0,none⟩) nlr (.int .i64 2)).setCell (p:=⟨w.heap.size+1,1,none⟩) nlr (.int .i64 sq)).setCell (p:=⟨w.heap.size+1,2,none⟩) nlr (.int .i64 dy)).setCell (p:=⟨w.heap.size+1,3,none⟩) nlr (.int .i64 tb)).setCell (p:=⟨w.heap.size+1,4,none⟩) nlr (.slice A5 row.length k5)).setCell (p:=⟨w.heap.size+1,5,none⟩) nlr (.int .i64 key.kind)).setCell (p:=⟨w.heap.size+1,6,none⟩) nlr (.int .i64 key.num)).setCell (p:=⟨w.heap.size+1,7,none⟩) nlr (.string key.text)).setCell (p:=⟨w.heap.size+1,8,none⟩) nlr (.int .i64 (j:Int))).setCell (p:=⟨w.heap.size+1,9,none⟩) nlr (.int .i64 vl.kind)).setCell (p:=⟨w.heap.size+1,10,none⟩) nlr (.int .i64 vl.num)).setCell (p:=⟨w.heap.size+1,11,none⟩) nlr (.string vl.text)
   have HXS:=qh (hbS.block w.heap.size omA |>.trans HX5.out)
   refine hK.out _ _ _ ⟨jm HXS.out,HSS.out _ (hx5.trans (hbS.mono omA))⟩ (fun hHeld =>?_)
   clear hK K
   refine tkT 19 hHeld ?_
   refine aI krA ?_ _
   clear hHeld
   go_wp2_with fail
   refine bodyPost_ret (v:= .tuple #[.agg #[.int .i64 2,.int .i64 sq,.int .i64 dy,.int .i64 tb,.slice A5 row.length k5,.int .i64 key.kind,.int .i64 key.num,.string key.text,.int .i64 (j:Int),.int .i64 vl.kind,.int .i64 vl.num,.string vl.text],.bool false]) eI rfl ⟨⟨⟨2,sq,dy,tb,A5,k5,row,key,(j:Int),vl⟩,false,rfl,HCM.out,?_,by omega⟩,?_⟩
   ·have hne:=HO5.out.aY HZ5.out (by decide)
    iterate 12 (refine aj.far ?_ hne _)
    exact HO5.out
   ·iterate 12 (refine Below.setCell ?_ spA _)
    exact hx5
theorem zl(RA:Option Addr)(rc n:Nat)(recs:List Rcd)(kd sq dy tb:Int)(XA:Option Addr)(xc:Nat)(row:List Val)(key:Val)(cl:Int)(vl:Val)(w:World)(hR:bU w w.heap.size RA recs)(hl:recs.length≤1000000)(hq:∀r∈recs,r.seq.length=n∧r.row.length=n)(hn:0<n)(hn8:n≤8)(hx:ag w w.heap.size Val.cells 3 XA row)
 (hk:(kd=1∧row.length=n)∨(kd=2∧row.length≤8∧bT key=true∧key.kind≠0 ∧ ∃j:Nat,cl=(j:Int)∧j<n)∨(kd≠1∧kd≠2)):
 Calls Tryz.prog 36 #[.slice RA recs.length rc,.agg #[.int .i64 kd,.int .i64 sq,.int .i64 dy,.int .i64 tb,.slice XA row.length xc,.int .i64 key.kind,.int .i64 key.num,.string key.text,.int .i64 cl,.int .i64 vl.kind,.int .i64 vl.num,.string vl.text]] w fun e w'=>(∃(y:Chg) (b:Bool),e=.returned (.tuple #[.agg #[.int .i64 y.kind,.int .i64 y.seq,.int .i64 y.day,.int .i64 y.table,.slice y.A y.row.length y.cap,.int .i64 y.key.kind,.int .i64 y.key.num,.string y.key.text,.int .i64 y.column,.int .i64 y.val.kind,.int .i64 y.val.num,.string y.val.text],.bool b])∧bS (recs.map aA) ⟨kd,sq,dy,tb,XA,xc,row,key,cl,vl⟩=(if b=true then [unC y] else [])∧aj w' w.heap.size 50 Val.cells 3 (.slice y.A y.row.length y.cap) y.row∧y.row.length≤8)∧Below w.heap.size w w':=by
 rcases hk with ⟨rfl,h1⟩|⟨rfl,h1,h2,h3,j,rfl,h4⟩|⟨h1,h2⟩
 ·exact xE RA rc n recs sq dy tb XA xc row key cl vl w hR hl (fun r hr=>(hq r hr).1) hn hn8 hx h1
 ·exact xD RA rc n recs sq dy tb XA xc row key j vl w hR hl hq hn hn8 hx h1 h2 h3 h4
 ·exact xC RA rc n recs kd sq dy tb XA xc row key cl vl w h1 h2
theorem GZ{ts:List Tab}{k:Nat}(hk:k<ts.length):bW ts (k:Int)=ts[k].ae:=by
 unfold bW
 simp[hk]
theorem Aw{ts:List Tab}{k:Nat}{x:Chg}(hok:aN ts)(hf:aV ts x=0)(ht:x.table=(k:Int))(hk:k<ts.length):
 (x.kind=1∧x.row.length=ts[k].ae.length)∨(x.kind=2∧x.row.length≤8∧bT x.key=true∧x.key.kind≠0 ∧ ∃j:Nat,x.column=(j:Int)∧j<ts[k].ae.length)∨(x.kind≠1∧x.kind≠2):=by
 obtain⟨k',hin⟩:=fF hf
 obtain⟨hv,hkk⟩:=ll hf hok
 have e:k'=k:=by have:=hin.tab;omega
 subst e
 rcases hin.kind with h|h|h
 ·exact .inl ⟨h,by rw[hin.ins h,GZ hk]⟩
 ·have hko:keyOf x=x.key:=by
   unfold keyOf
   rw[if_neg smA]
  rw[hko]at hv hkk
  obtain⟨j,h1,h2⟩:=hin.upd h
  rw[GZ hk]at h2
  exact .inr (.inl ⟨h,by rw[hin.rest omA];omega,hv,hkk,j,h1,h2⟩)
 ·exact .inr (.inr ⟨by omega,by omega⟩)
theorem uX{ts:List Tab}{k:Nat}{q:Int}{T:List aG}{recs:List Rcd}(hk:k<ts.length)(hg:Good ts[k].ae T q)(hp:recs.map aA=T):∀r∈recs,r.seq.length=ts[k].ae.length∧r.row.length=ts[k].ae.length:=fun r hr=>by
 have h:=hg.ok.rcd (aA r) (by rw[←hp];exact List.mem_map_of_mem hr)
 exact⟨h.oO,h.len⟩
end Go.Proofs.YtjidligipoldeaaGreat
