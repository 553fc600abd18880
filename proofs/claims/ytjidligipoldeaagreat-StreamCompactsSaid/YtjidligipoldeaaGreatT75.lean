/-
  Contracts and plain laws of this seat, part 75.
-/
import Derived.RangeFuncNested
import Derived.RangeFuncBound
import Derived.Shelf.RegionOpen
import Derived.OwnWalkIn
import Derived.LoopNIn
import Derived.Sort.CutIn
import Derived.Test.YtjidligipoldeaaGreatT59
import Derived.Test.YtjidligipoldeaaGreatT20
set_option linter.unusedVariables false
set_option linter.unusedSimpArgs false
set_option maxRecDepth 100000
set_option maxHeartbeats 16000000
namespace Go.Proofs.YtjidligipoldeaaGreat
open Go.RowKit Go
theorem ee{P:Prop}(h:P:=by have:=hown6;rw[aj,List.length_append]at this;exact this):P:=h
theorem eg{P:Prop}(h:P:=by rw[List.length_append];exact hown6):P:=h
theorem eh{P:Prop}(h:P:=by have:=HLL.out;simp[maxLen];omega):P:=h
theorem ei{P:Prop}(h:P:=by have:=HB5.out.size;simp;omega):P:=h
theorem ej{P:Prop}(h:P:=by have:=HLL.out;simp;omega):P:=h
structure Ent where
 off:Int
 chg:Chg
def Ent.cells(x:Ent):List Value:= [.int .i64 x.off,.int .i64 x.chg.kind,.int .i64 x.chg.seq,.int .i64 x.chg.day,.int .i64 x.chg.table,.slice x.chg.A x.chg.row.length x.chg.cap,.int .i64 x.chg.key.kind,.int .i64 x.chg.key.num,.string x.chg.key.text,.int .i64 x.chg.column,.int .i64 x.chg.val.kind,.int .i64 x.chg.val.num,.string x.chg.val.text,.slice none 0 0,.slice none 0 0]
theorem iH:∀x:Ent,(Ent.cells x).length=15:=fun _=>rfl
theorem jU:∀(x:Ent) (u:Value),u∈Ent.cells x→u.oneCell'=true:=fun x u hu=>by
 simp only[Ent.cells,List.mem_cons,List.not_mem_nil,or_false]at hu
 rcases hu with rfl|rfl|rfl|rfl|rfl|rfl|rfl|rfl|rfl|rfl|rfl|rfl|rfl|rfl|rfl<;>rfl
theorem Ent.bZ{w:World}{b o:Nat}{x:Ent}(h:∀j u,x.cells[j]?=some u→w.cell? ⟨b,o+j,none⟩=some u):
 w.cell? ⟨b,o,none⟩=some (.int .i64 x.off)∧(w.cell? ⟨b,o+1,none⟩=some (.int .i64 x.chg.kind)∧w.cell? ⟨b,o+2,none⟩=some (.int .i64 x.chg.seq)∧w.cell? ⟨b,o+3,none⟩=some (.int .i64 x.chg.day)∧w.cell? ⟨b,o+4,none⟩=some (.int .i64 x.chg.table))∧w.cell? ⟨b,o+5,none⟩=some (.slice x.chg.A x.chg.row.length x.chg.cap) ∧
 (w.cell? ⟨b,o+6,none⟩=some (.int .i64 x.chg.key.kind)∧w.cell? ⟨b,o+7,none⟩=some (.int .i64 x.chg.key.num)∧w.cell? ⟨b,o+8,none⟩=some (.string x.chg.key.text))∧w.cell? ⟨b,o+9,none⟩=some (.int .i64 x.chg.column) ∧
 (w.cell? ⟨b,o+10,none⟩=some (.int .i64 x.chg.val.kind)∧w.cell? ⟨b,o+11,none⟩=some (.int .i64 x.chg.val.num)∧w.cell? ⟨b,o+12,none⟩=some (.string x.chg.val.text))∧w.cell? ⟨b,o+13,none⟩=some (.slice none 0 0)∧w.cell? ⟨b,o+14,none⟩=some (.slice none 0 0):=
 ⟨h 0 _ rfl,⟨h 1 _ rfl,h 2 _ rfl,h 3 _ rfl,h 4 _ rfl⟩,h 5 _ rfl,⟨h 6 _ rfl,h 7 _ rfl,h 8 _ rfl⟩,h 9 _ rfl,⟨h 10 _ rfl,h 11 _ rfl,h 12 _ rfl⟩,h 13 _ rfl,h 14 _ rfl⟩
theorem wU:(Tryz.prog.info? 56).map (fun i=>(i.zero,i.size,i.bytes))=some (some (.agg #[.int .i64 0,.int .i64 0,.int .i64 0,.int .i64 0,.int .i64 0,.slice none 0 0,.int .i64 0,.int .i64 0,.string ⟨#[]⟩,.int .i64 0,.int .i64 0,.int .i64 0,.string ⟨#[]⟩,.slice none 0 0,.slice none 0 0]),15,184):=by kernel_rfl
def di(w:World)(B:Nat)(A:Option Addr)(l:List Ent):Prop:=ag w B Ent.cells 15 A l ∧ ∀x∈l,ag w B Val.cells 3 x.chg.A x.chg.row
section
variable {w w':World}{B B':Nat}{A:Option Addr}
theorem di.below{l:List Ent}(h:di w B A l)(hb:Below B w w'):di w' B A l:=⟨h.1.below hb,fun x hx=>(h.2 x hx).below hb⟩
theorem di.mono{l:List Ent}(h:di w B A l)(hb:B≤B'):di w B' A l:=⟨h.1.mono hb,fun x hx=>(h.2 x hx).mono hb⟩
theorem di.next{l:List Ent}(h:di w w.heap.size A l)(hb:Below w.heap.size w w'):di w' w'.heap.size A l:=(h.below hb).mono hb.size
end
open Go.RowKit Go Go.Shelf
attribute [local go_sem] Oper.semAt_some
def Ent.val(x:Ent):Value:= .agg #[.int .i64 x.off,.int .i64 x.chg.kind,.int .i64 x.chg.seq,.int .i64 x.chg.day,.int .i64 x.chg.table,.slice x.chg.A x.chg.row.length x.chg.cap,.int .i64 x.chg.key.kind,.int .i64 x.chg.key.num,.string x.chg.key.text,.int .i64 x.chg.column,.int .i64 x.chg.val.kind,.int .i64 x.chg.val.num,.string x.chg.val.text,.slice none 0 0,.slice none 0 0]
theorem zT(F:Fence)(n:Nat)(hF:F.fn 55)(hro:F.round=none)(o a0 a1 a2 a3:Int)(A:Option Addr)(m c:Nat)(a5 a6:Int)(s7:ByteArray)(a8 a9 a10:Int)(s11:ByteArray)(w:World):CallsIn F n Tryz.prog 55 #[.agg #[.int .i64 o,.int .i64 a0,.int .i64 a1,.int .i64 a2,.int .i64 a3,.slice A m c,.int .i64 a5,.int .i64 a6,.string s7,.int .i64 a8,.int .i64 a9,.int .i64 a10,.string s11,.slice none 0 0,.slice none 0 0]] w fun e w'=>e=.returned (.bool false) ∧ ∃o,w'=w.alloc o:=by
 refine callsIn_of_wp Tryz.func55 rfl hF ?_ hro
 simp only[Tryz.ntmps55,List.size_toArray,List.length_cons,List.length_nil,Nat.reduceAdd,Nat.reduceSub,Array.replicate_succ,Array.replicate_zero,List.push_toArray,List.append_toArray,List.nil_append,List.cons_append]
 gi_wp2
 go_ret
 exact⟨rfl,_,rfl⟩
theorem KO(n:Nat)(hn:1≤n)(l Bs n₀:Nat)(A:Option Addr)(cap:Nat)(es:List Ent)(hlen:es.length≤1000000)(J Jx:List Ent→World→Prop)(hJ:∀s A B,J s A→A.grownBy B none→J s B)
 (hY:∀pre x W,J pre W→pre.length<es.length→x∈es→YieldAt Fence.wide (n-1) Tryz.prog l #[Ent.val x] W fun e W' =>
   (e=.returned (.bool true)∧J (pre ++ [x]) W'∧Below n₀ W W')∨(e=.returned (.bool false)∧Jx (pre ++ [x]) W'))
 (W:World) (hn0:n₀≤W.heap.size) (hBs:W.cell? ⟨Bs,0,none⟩=some (.slice A es.length cap)) (hc:ag W n₀ Ent.cells 15 A es) (h0:J [] W):
 CallsIn Fence.wide n Tryz.prog 79 #[.func (.yield l) #[] #[],.pointer (some ⟨Bs,0,none⟩)] W fun e W'=>(∃v,e=.returned v) ∧
  ((∃ys,ys=es∧J ys W')∨(∃pre,(∃k,k≤es.length∧pre=es.take k)∧Jx pre W')):=by
 have HC:=qh hc
 clear hc
 refine callsIn_of_wp Tryz.func79 rfl trivial ?_ rfl
 simp only[Tryz.ntmps79,List.size_toArray,List.length_cons,List.length_nil,Nat.reduceAdd,Nat.reduceSub,Array.replicate_succ,Array.replicate_zero,List.push_toArray,List.append_toArray,List.nil_append,List.cons_append]
 gi_wp2
 gi_loopw [7] (fun i wr =>∃k:Nat,k≤es.length∧i=.int .i64 k∧J (es.take k) wr∧Below n₀ W wr) (fun i _=>es.length-(intOf i).toNat)
 case atStart=>exact⟨0,Nat.zero_le _,rfl,h0,Below.refl _ _⟩
 case round =>
  obtain⟨k,hk,rfl,hJs,hnx⟩:=hrel
  by_cases hlt:k<es.length
  ·have hlt':decide (k<es.length)=true:=by simpa using hlt
   obtain⟨b,o,rfl,hb,hcc⟩:=(HC.out.below hnx).get hlt
   obtain⟨q0,⟨q1,q2,q3,q4⟩,q5,⟨q6,q7,q8⟩,q9,⟨q10,q11,q12⟩,q13,q14⟩:=Ent.bZ hcc
   gi_upto_region 3 with (fail)
   have hz:=hnx.size
   refine(fun(P:World→Prop) (R:World→Prop) (w:World) (hR:R w) (h:∀u,R u→P u)=>h w hR) (fun u=>Code.wpIn _ _ _ _ _ _ u) (fun u=>Blk u wr.heap.size 56 (Ent.cells es[k]).toArray∧wr.grownBy u none) _ ⟨Blk.new _ _ _,World.grownBy_alloc _ _ _⟩ ?_
   rintro u ⟨hu,hgu⟩
   have hJu:=hJ _ _ _ hJs hgu
   have hbu:Below n₀ wr u:=brf.grown hgu omA (fun _ e=>by cases e)
   obtain⟨c0,⟨c1,c2,c3,c4⟩,c5,⟨c6,c7,c8⟩,c9,⟨c10,c11,c12⟩,c13,c14⟩:=Ent.bZ (o:= 0) (x:=es[k]) (w:=u) (b:=wr.heap.size) (fun j v hv=>by rw[Nat.zero_add,hu.cell];simpa using hv)
   simp only[Nat.zero_add]at c0 c1 c2 c3 c4 c5 c6 c7 c8 c9 c10 c11 c12 c13 c14
   have hul:=hu.lt
   gi_wp2_with (refine⟨trivial,?_⟩;gi_at_call 55;refine(zT Fence.wide _ trivial rfl _ _ _ _ _ _ _ _ _ _ _ _ _ _ _ _).mono ?_;rintro e w3 ⟨rfl,o3,rfl⟩;have hJ3:=hJ _ _ _ hJu (World.grownBy_alloc u o3 none);obtain⟨fn,tmps,assign,body,hy,hR⟩:=hY _ es[k] _ hJ3 (by rw[List.length_take];omega) (lgm hlt);dsimp only[Ent.val]at hy)
   refine hR.mono ?_
   rintro e W3 (⟨rfl,hJ5,hk5⟩|⟨rfl,X9⟩)
   ·have ht:es.take (k+1)=es.take k ++ [es[k]]:=by rw[List.take_succ_eq_append_getElem hlt]
    have hb5:Below n₀ W W3:=(hnx.trans (hbu.alloc omA o3)).trans hk5
    gi_wp2
    go_roundw
    case rel=>exact⟨k+1,by omega,by simp,by rw[ht];exact hJ5,hb5⟩
    case measure=>exact meA
   ·gi_wp2
    refine bodyPost_ret (results_none rfl _ _ _) rfl ?_
    exact⟨⟨_,rfl⟩,.inr ⟨_,⟨k+1,by omega,(List.take_succ_eq_append_getElem hlt).symm⟩,X9⟩⟩
  ·have hlt':decide (k<es.length)=false:=by simpa using hlt
   obtain rfl:k=es.length:=by omega
   gi_wp2
   go_end0
   exact⟨⟨_,rfl⟩,.inl ⟨_,rfl,by rw[List.take_length]at hJs;exact hJs⟩⟩
theorem zS(n:Nat)(hn:1≤n)(Bs n₀:Nat)(A:Option Addr)(cap:Nat)(es:List Ent)(hlen:es.length≤1000000)(w:World)(hBs:Bs<w.heap.size)(hn₀:n₀≤w.heap.size)
 (hc:w.cell? ⟨Bs,0,none⟩=some (.slice A es.length cap)) (hI:ag w n₀ Ent.cells 15 A es):
 SeqStopsK Fence.wide n Tryz.prog 79 #[.pointer (some ⟨Bs,0,none⟩)] (fun x:{x:Ent // x∈es} =>#[Ent.val x.1]) (Below n₀) (fun ys=>ys.map Subtype.val=es) (fun pre =>∃k,k≤es.length∧pre.map Subtype.val=es.take k) es.length w:=fun l J Jx W hW hJ _ hY h0 =>
 (KO n hn l Bs n₀ A cap es hlen (fun p X =>∃p':List {x:Ent // x∈es},p'.map Subtype.val=p∧J p' X) (fun p X =>∃p':List {x:Ent // x∈es},p'.map Subtype.val=p∧Jx p' X)
   (fun s X Y ⟨p',e,hs⟩ hg=>⟨p',e,hJ p' X Y none hs hg (fun r e=>by cases e)⟩)
   (fun pre x X ⟨p',e,hs⟩ hl hx=>(hY p' ⟨x,hx⟩ X hs (by rw[←e,List.length_map]at hl;exact hl)).mono fun e' X' h=>by
     rcases h with ⟨h1,h2,h3⟩|⟨h1,h2⟩
     ·exact .inl ⟨h1,⟨p' ++ [⟨x,hx⟩],by simp[e],h2⟩,h3⟩
     ·exact .inr ⟨h1,⟨p' ++ [⟨x,hx⟩],by simp[e],h2⟩⟩)
   W (Nat.le_trans hn₀ hW.size) ((hW.cell (p:=⟨Bs,0,none⟩) hBs).trans hc) (hI.below (hW.mono hn₀)) ⟨[],rfl,h0⟩).mono fun e W' h=>by
    obtain⟨h1,⟨ys,rfl,p',h3,h4⟩|⟨pre,⟨k,h2,rfl⟩,p',h3,h4⟩⟩:=h
    ·exact⟨h1,.inl ⟨p',h3,h4⟩⟩
    ·exact⟨h1,.inr ⟨p',⟨k,h2,h3⟩,h4⟩⟩
theorem vX(n:Nat)(A:Option Addr)(m cap:Nat)(w:World):
 CallsIn Fence.wide n Tryz.prog 35 #[.slice A m cap] w fun e w'=>e=.returned (.func (.func 79) #[] #[.pointer (some ⟨w.heap.size,0,none⟩)])∧w'=w.alloc (.cells #[.slice A m cap] 37):=by
 refine callsIn_of_wp Tryz.func35 rfl trivial ?_ rfl
 simp only[Tryz.ntmps35,List.size_toArray,List.length_cons,List.length_nil,Nat.reduceAdd,Nat.reduceSub,Array.replicate_succ,Array.replicate_zero,List.push_toArray,List.append_toArray,List.nil_append,List.cons_append]
 gi_wp2
 go_ret
 exact⟨rfl,rfl⟩
open Go.RowKit Go
theorem cO(kd sq dy tb:Int)(A0:Option Addr)(cp:Nat)(row:List Val)(key:Val)(cl:Int)(vl:Val)(w:World)(hr:ag w w.heap.size Val.cells 3 A0 row)(hl:row.length≤1000000):
 Calls Tryz.prog 62 #[.agg #[.int .i64 kd,.int .i64 sq,.int .i64 dy,.int .i64 tb,.slice A0 row.length cp,.int .i64 key.kind,.int .i64 key.num,.string key.text,.int .i64 cl,.int .i64 vl.kind,.int .i64 vl.num,.string vl.text]] w fun e w' =>
  (∃A' c',e=.returned (.agg #[.int .i64 kd,.int .i64 sq,.int .i64 dy,.int .i64 tb,.slice A' row.length c',.int .i64 key.kind,.int .i64 key.num,.string key.text,.int .i64 cl,.int .i64 vl.kind,.int .i64 vl.num,.string vl.text])∧aj w' w.heap.size 50 Val.cells 3 (.slice A' row.length c') row)∧Below w.heap.size w w':=by
 have HR:=qh hr
 clear hr
 go_enter Tryz.func62,Tryz.ntmps62
 go_upto_region 1 with (fail)
 refine ah (P:=fun u=>Code.wp _ _ _ _ u) (R:=fun u=>Blk u w.heap.size 52 #[.int .i64 kd,.int .i64 sq,.int .i64 dy,.int .i64 tb,.slice A0 row.length cp,.int .i64 key.kind,.int .i64 key.num,.string key.text,.int .i64 cl,.int .i64 vl.kind,.int .i64 vl.num,.string vl.text]∧Blk u (w.heap.size+1) 52 #[.int .i64 0,.int .i64 0,.int .i64 0,.int .i64 0,.slice none 0 0,.int .i64 0,.int .i64 0,.string ⟨#[]⟩,.int .i64 0,.int .i64 0,.int .i64 0,.string ⟨#[]⟩]∧Below w.heap.size w u) ⟨?_,?_,?_⟩ ?_
 ·exact(Blk.new _ _ _).alloc _
 ·exact Blk.new' spA
 ·exact ai
 rintro W ⟨hX,hZ,hbW⟩
 have hxl:=hX.lt
 have hzl:=hZ.lt
 have HX:=qh hX
 have HZ:=qh hZ
 have c4:=hX.cell 4
 simp only[gE3]at c4
 clear hX hZ
 go_upto_region 2 with (focus (
  (go_at_call 96;(with_reducible refine(DX A0 cp row.length row _ (HR.out.next hbW) rfl hl).mono ?_))
  rintro e w5 ⟨⟨A',c',rfl,hown'⟩,hb5⟩
  have HX5:=qh (HX.out.below hb5 hxl)
  have HZ5:=qh (HZ.out.below hb5 hzl)
  have HOWN':=qh (hown'.mono hbW.size)
  have hx5:=aa hbW hb5 hbW.size
  clear hown'
  have f4:=HX5.out.frozen 4
  replace c4:=HX5.out.cell 4
  simp only[gE3]at c4))
 obtain⟨U,hU⟩:∃U,w5.setCell ⟨w.heap.size,4,none⟩ (.slice A' row.length c')=U:=⟨_,rfl⟩
 rw[hU]
 have HO:Hid (aj U w.heap.size 50 Val.cells 3 (.slice A' row.length c') row):=qh (by rw[←hU];exact HOWN'.out.jy HX5.out (by decide) _)
 have hbU:Below w.heap.size w U:=by rw[←hU];exact hx5.setCell spA _
 have hX:Blk U w.heap.size 52 (Chg.cells ⟨kd,sq,dy,tb,A',c',row,key,cl,vl⟩).toArray:=by
  rw[←hU]
  have h:=HX5.out.aH 4 (.slice A' row.length c')
  simpa[Chg.cells]using h
 have hZ:Blk U (w.heap.size+1) 52 #[.int .i64 0,.int .i64 0,.int .i64 0,.int .i64 0,.slice none 0 0,.int .i64 0,.int .i64 0,.string ⟨#[]⟩,.int .i64 0,.int .i64 0,.int .i64 0,.string ⟨#[]⟩]:=by
  rw[←hU]
  exact HZ5.out.far spA _
 clear hU
 obtain⟨⟨q0,q1,q2,q3⟩,q4,⟨q5,q6,q7⟩,q8,q9,q10,q11⟩:=Chg.eF hX
 simp only at q0 q1 q2 q3 q4 q5 q6 q7 q8 q9 q10 q11
 have Tm:=hZ.lt
 have hfz:=fun j=>hZ.frozen j
 have HZU:=qh hZ
 obtain⟨⟨z0,z1,z2,z3⟩,z4,⟨z5,z6,z7⟩,z8,z9,z10,z11⟩:=Chg.eF (x:=⟨0,0,0,0,none,0,[],⟨0,0,⟨#[]⟩⟩,0,⟨0,0,⟨#[]⟩⟩⟩) hZ
 simp only[List.length_nil]at z0 z1 z2 z3 z4 z5 z6 z7 z8 z9 z10 z11
 clear hX hZ
 go_wp2_with fail
 refine bodyPost_ret (v:= .agg #[.int .i64 kd,.int .i64 sq,.int .i64 dy,.int .i64 tb,.slice A' row.length c',.int .i64 key.kind,.int .i64 key.num,.string key.text,.int .i64 cl,.int .i64 vl.kind,.int .i64 vl.num,.string vl.text]) (by simp[results,Tryz.results62,go_sem,z0,z1,z2,z3,z4,z5,z6,z7,z8,z9,z10,z11]) rfl ⟨⟨A',c',rfl,HO.out.xR HZU.out (by decide)⟩,?_⟩
 repeat(refine Below.setCell ?_ spA _)
 exact hbU
open Go.RowKit Go Go.Shelf
attribute [local go_sem] Oper.semAt_some
theorem KeepsOthers.below'{w w':World}(h:Below w.heap.size w w'):KeepsOthers w w':=⟨h.size,fun k o hk _=>(h.block k (Array.getElem?_eq_some_iff.1 hk).1).trans hk⟩
theorem qz{α:Type}{w w':World}{base:Nat}{e:TypeId}{enc:α→List Value}{k:Nat}{v:Value}{l:List α}{row:Option Nat}(h:aj w base e enc k v l)(hg:w.grownBy w' row)(hr:∀r,row=some r→∃o:Obj,w.heap[r]?=some o∧o.isCells=false):aj w' base e enc k v l:=
 h.kept hg fun q hq e1=>by
  obtain⟨cs,hc⟩:=h.typ hq
  obtain⟨o,ho,hn⟩:=hr q e1.symm
  rw[hc]at ho
  cases ho
  cases hn
theorem Ad{w w':World}{base:Nat}{A:Option Addr}{c:Nat}{l:List Chg}{row:Option Nat}(h:jM w base A c l)(hg:w.grownBy w' row)(hr:∀r,row=some r→∃o:Obj,w.heap[r]?=some o∧o.isCells=false):jM w' base A c l:=
 ⟨qz h.own hg hr,fun x hx=>qz (h.rows x hx) hg hr,h.len⟩
theorem Gi{w w':World}{b:Nat}{t:TypeId}{v:Value}{row:Option Nat}(h:Boxed w b t v)(hg:w.grownBy w' row)(hr:∀r,row=some r→∃o:Obj,w.heap[r]?=some o∧o.isCells=false):Boxed w' b t v:=
 h.kept hg fun e1=>by
  obtain⟨o,ho,hn⟩:=hr b e1.symm
  rw[show w.heap[b]?=_ from h]at ho
  cases ho
  cases hn
theorem pO{w:World}{base g:Nat}{A:Option Addr}{c:Nat}{l:List Chg}{t:TypeId}{v:Value}(h:jM w base A c l)(hb:Boxed w g t v)(h1:52≠t)(h2:50≠t)(u:Value):jM (w.setCell ⟨g,0,none⟩ u) base A c l:=
 ⟨h.own.kept (grownBy_setCell' w g u) fun q hq e=>by injection e with e;exact h.own.aY (e':=t) (cs:= #[v]) hb h1 q hq e,fun x hx=>(h.rows x hx).kept (grownBy_setCell' w g u) fun q hq e=>by injection e with e;exact(h.rows x hx).aY (e':=t) (cs:= #[v]) hb h2 q hq e,h.len⟩
theorem fA{F:Fence}{nF:Nat}{P:Program}{α:Type}{ops:Array Oper}{o:Oper}{a:Act}{K:Act→World→Prop}{Q:Exit→Act→World→Prop}{E:Prop}(w:World)(hgd:o.guard=none)(s x:Operand)(t:TypeId)(ho:o.op=.call { callee:= .builtin .append,args:= #[s,x],argTypes:= #[t,t] })
 (e:TypeId) (i:TypeInfo) (z:Value) (enc:α→List Value) (k bytes:Nat) (ht:P.underlying t=some (.slice e)) (hi:P.info? e=some i) (hz:i.zero=some z)
 (hsize:i.size=k) (hby:i.bytes=bytes) (hzs:z.cells.size=k) (hsz:0<k) (hk:∀x,(enc x).length=k) (h1:∀x,∀u∈enc x,u.oneCell'=true)
 (base:Nat) (v:Value) (l:List α) (hs:a.eval s=v) (hown:aj w base e enc k v l) (A:Option Addr) (m c:Nat) (l':List α) (hx:a.eval x=.slice A m c) (hm:m=l'.length) (hr:ag w w.heap.size enc k A l')
 (hlen:(l.length+l'.length)*bytes≤140737488355328) (h63:l.length+l'.length≤maxLen) (hbase:base≤w.heap.size)
 (h:∀v' w',aj w' base e enc k v' (l++l')→w.grownBy w' v.ownBlock→(v'.ownBlock=v.ownBlock∨v'.ownBlock=some w.heap.size)→K (a.put o.dst v') w'):
 if Region.wanted o (yielded ops a.tmps)=true then Oper.wpIn F nF P o a w K Q else E:=by
 have hw:Region.wanted o (yielded ops a.tmps)=true:=by simp[Region.wanted,hgd]
 rw[if_pos hw]
 obtain⟨v',w',hrun,h2,h3,h4⟩:=kD (P:=P) w t o.type e i z enc k bytes ht hi hz hsize hby hzs hsz hk h1 base v l hown A m c l' hm hr hlen h63 hbase
 unfold Oper.wpIn
 refine⟨by simp[Oper.about,ho,resolve,Target.leads,Sem.run_pure],?_⟩
 rw[Oper.semAt_plain F _ _ (by rw[ho];intro c hc';cases hc')]
 simp[execOp,ho,resolve,invoke,builtin,hs,hx,hrun,Result.andThen]
 exact h v' w' h2 h3 h4
theorem jW(A:Option Addr)(cap:Nat)(es:List Ent)(w:World)(hE:di w w.heap.size A es)(hlen:es.length≤1000)(h8:∀x∈es,x.chg.row.length≤8):
 Calls Tryz.prog 34 #[.slice A es.length cap] w fun e w' =>
  (∃A' c' l,e=.returned (.slice A' l.length c')∧l.map unC=(es.map Ent.chg).map unC∧jM w' w.heap.size A' c' l)∧Below w.heap.size w w':=by
 have HE:=qh hE
 clear hE
 obtain⟨ic,hic,lL,lK,lJ⟩:=info_parts l7
 refine(callsIn_wide (n:= 9)).1 ?_
 refine callsIn_of_wp_marks Tryz.func34 rfl trivial ?_ rfl
 simp only[Tryz.ntmps34,List.size_toArray,List.length_cons,List.length_nil,Nat.reduceAdd,Nat.reduceSub,Array.replicate_succ,Array.replicate_zero,List.push_toArray,List.append_toArray,List.nil_append,List.cons_append]
 gi_wp2_with (refine⟨trivial,?_⟩;gi_at_call 35;refine(vX _ _ _ _ _).mono ?_;rintro e w' ⟨rfl,rfl⟩)
 have bR:=Boxed.new w 34 (.slice none 0 0)
 have bL:=Boxed.new (w.alloc (.cells #[.slice none 0 0] 34)) 37 (.slice A es.length cap)
 rw[World.size_alloc]at bL
 have hB0:Below w.heap.size w ((w.alloc (.cells #[.slice none 0 0] 34)).alloc (.cells #[.slice A es.length cap] 37)):=((Below.refl _ w).alloc nlr _).alloc spA _
 have hsz:((w.alloc (.cells #[.slice none 0 0] 34)).alloc (.cells #[.slice A es.length cap] 37)).heap.size=w.heap.size+2:=by simp
 have bR0:=bR.alloc (.cells #[.slice A es.length cap] 37)
 obtain⟨W0,hW0⟩:∃W0,(w.alloc (.cells #[.slice none 0 0] 34)).alloc (.cells #[.slice A es.length cap] 37)=W0:=⟨_,rfl⟩
 rw[hW0]at bL bR0 hB0 hsz ⊢
 clear hW0 bR
 refine wpIn_rangeFunc_ownH rfl omA (gf:= 79) (lb:= #[.pointer (some ⟨w.heap.size+1,0,none⟩)]) rfl trivial (enters_of Tryz.func79 krA rfl)
  (zS 8 omA (w.heap.size+1) w.heap.size A cap es omA W0 omA omA bL.cell (HE.out.1.below hB0)) belowK_t (belowK_b omA) brf (fun _=>rfl)
  (fun pre W=>(∃A' c' l,Boxed W w.heap.size 34 (.slice A' l.length c')∧jM W w.heap.size A' c' l∧l.map unC=(pre.map fun x=>unC x.1.chg)∧w.heap.size+2≤W.heap.size)∧Below w.heap.size w W)
  (fun _ _ _=>False)
  (OwnFrom.and (Own.from (fun s X Y row hs hg hr=>by obtain⟨A',c',l,h1,h2,h3,h4⟩:=hs;exact⟨A',c',l,Gi h1 hg hr,Ad h2 hg hr,h3,Nat.le_trans h4 hg.size⟩) _) (ownFrom_below nlr omA))
  (fun _ _ _ _ _ hs _ _=>hs)
  ⟨⟨none,0,[],bR0,⟨aj.nil,(fun x h=>by cases h),(fun x h=>by cases h)⟩,rfl,by omega⟩,hB0⟩
  (fun x a' W =>∃Bx,w.heap.size+1<Bx∧Blk W Bx 56 (Ent.cells x.1).toArray∧a'={ tmps:= #[.slice A es.length cap,undef,.slice none 0 0,.pointer (some ⟨w.heap.size,0,none⟩),.pointer (some ⟨Bx,0,none⟩),.slice A es.length cap,.func (.func 79) #[] #[.pointer (some ⟨w.heap.size+1,0,none⟩)],Ent.val x.1,undef,undef,undef,undef,undef,undef,undef],defers:= [] })
  (fun x a' s X Y row hs hg hr=>by obtain⟨Bx,h1,h2,h3⟩:=hs;exact⟨Bx,h1,h2.grown hg (fun e'=>by obtain⟨_,o,ho,hc⟩:=hr Bx e'.symm;rw[show X.heap[Bx]?=_ from h2]at ho;cases ho;cases hc),h3⟩)
  ?assign ?body ?done ?stop
 case assign =>
  rintro l pre x W K ⟨⟨A',c',l',h1,h2,h3,h4⟩,hB1⟩ hK
  simp only[Ent.val]
  gi_wp2
  have hb:=(Below.refl w.heap.size W).alloc hB1.size
  exact hK _ _ ((KeepsOthers.alloc _ _).from _) (hb _) ⟨⟨A',c',l',h1.alloc _,h2.below (brf.alloc nlr _),h3,by simp;omega⟩,hB1.alloc hB1.size _⟩ ⟨W.heap.size,by omega,Blk.new _ _ _,rfl⟩
 case body =>
  rintro l pre x a' W hl ⟨r,hr⟩ ⟨⟨A',c',l',h1,h2,h3,h4⟩,hB1⟩ ⟨Bx,hBx,hx,rfl⟩ hlt
  have cR:=h1.cell
  have fR:=h1.frozen
  obtain⟨c0,⟨c1,c2,c3,c4⟩,c5,⟨c6,c7,c8⟩,c9,⟨c10,c11,c12⟩,c13,c14⟩:=Ent.bZ (o:= 0) (x:=x.1) (w:=W) (b:=Bx) (fun j v hv=>by rw[Nat.zero_add,hx.cell];simpa using hv)
  simp only[Nat.zero_add]at c0 c1 c2 c3 c4 c5 c6 c7 c8 c9 c10 c11 c12 c13 c14
  have hsw:=hB1.size
  have hrow:=((HE.out.2 x.1 x.2).below hB1).mono hsw
  have hr8:=h8 x.1 x.2
  have H2:=qh h2
  have H1:=qh h1
  have hxl:=hx.lt
  have h1l:=h1.lt
  clear h1 h2
  have Xk:Tryz.prog.follows .mixedOrders=true:=by kernel_rfl
  have hbD:Below W.heap.size W W.drew:=brf.drew
  have GL:=hrow.next hbD
  have HLL:Hid (l'.length≤1000):=qh (by have h:=congrArg List.length h3;rw[List.length_map,List.length_map]at h;omega)
  have H3:=qh h3
  clear h3
  gi_wp2
  refine wpIn_region_any Xk ?_
  change wpAnyIn _ _ _ _ _ _ _ _ _ (World.drew _)
  refine wpAnyIn_ready (rs:= [0,1]) krA spA ?_
  refine AllReadyIn.cons rfl (fun K hK =>?_) (AllReadyIn.cons rfl (fun K hK =>?_) AllReadyIn.nil)
  ·(go_simp;refine hK _ _ ?_;clear hK K)
   refine wpAnyIn_ready (rs:= [1]) krA spA ?_
   refine AllReadyIn.cons rfl (fun K hK =>?_) AllReadyIn.nil
   (go_simp;refine hK _ _ ?_;clear hK K)
   refine wpAnyIn_ready (rs:= [2]) krA spA ?_
   refine AllReadyIn.cons rfl (fun K hK =>?_) AllReadyIn.nil
   (go_simp;refine hK _ _ ?_;clear hK K)
   refine wpAnyIn_ready (rs:= [3]) krA spA ?_
   refine AllReadyIn.cons rfl (fun K hK =>?_) AllReadyIn.nil
   (go_simp;refine⟨trivial,?_⟩;refine(CallsIn.inRound l (callsIn_wide.2 (cO _ _ _ _ _ _ _ x.1.chg.key _ x.1.chg.val W.drew GL omA))).mono ?_;rintro e w5 ⟨⟨A5,k5,rfl,ho5⟩,hb5⟩;have hb5:=hbD.trans hb5;have H15:=qh (show Boxed w5 _ _ _ from (hb5.block _ H1.out.lt).trans H1.out);have cR5:=H15.out.cell;have fR5:=H15.out.frozen;have hl5:=H15.out.lt;have H25:=qh (H2.out.below hb5);have HO5:=qh ho5;have HB5:=qh hb5;clear ho5 hb5;refine hK _ _ ?_;clear hK K)
   refine wpAnyIn_ready (rs:= [4]) krA spA ?_
   refine AllReadyIn.cons rfl (fun K hK =>?_) AllReadyIn.nil
   (go_simp;refine hK _ _ ?_;clear hK K)
   refine wpAnyIn_ready (rs:= [5]) krA spA ?_
   refine AllReadyIn.cons rfl (fun K hK =>?_) AllReadyIn.nil
   refine fA _ rfl (.tmp 8) (.tmp 12) 34 rfl 52 ic _ Chg.cells 12 128 Tryz.underlying34 hic lL lK lJ rfl omA eu iI w.heap.size (.slice A' l'.length c') l' rfl (H25.out.own.alloc _) _ _ _ [⟨x.1.chg.kind,x.1.chg.seq,x.1.chg.day,x.1.chg.table,A5,k5,x.1.chg.row,x.1.chg.key,x.1.chg.column,x.1.chg.val⟩] rfl rfl (Blk.one (enc:=Chg.cells) (x:=⟨x.1.chg.kind,x.1.chg.seq,x.1.chg.day,x.1.chg.table,A5,k5,x.1.chg.row,x.1.chg.key,x.1.chg.column,x.1.chg.val⟩) (Blk.new' rfl) spA) ej eh ei ?_
   intro v6 w6 hown6 hg6 j4
   obtain⟨A6,c6,hv6,_,_⟩:=hown6.form
   subst hv6
   rw[List.length_append,List.length_singleton]at hown6
   obtain⟨g1,g2,g3,g4,g5⟩:=H15.out.appended (by decide) H25.out.own (Nat.le_trans hsw HB5.out.size) nlr ee hg6
   have cR6:=g1.cell
   have fR6:=g1.frozen
   have hl6:=g1.lt
   have HC6:=qh (pO ((H25.out.below (brf.alloc nlr _)).app (x:=⟨x.1.chg.kind,x.1.chg.seq,x.1.chg.day,x.1.chg.table,A5,k5,x.1.chg.row,x.1.chg.key,x.1.chg.column,x.1.chg.val⟩) hg6 eg ((HO5.out.mono (show w.heap.size≤W.drew.heap.size from hsw)).alloc _) hr8) g1 (by decide) (by decide) (.slice A6 (l'.length+1) c6))
   refine hK _ _ ?_
   clear hK K hown6 hg6 j4
   refine wpAnyIn_ready (rs:= [6]) krA spA ?_
   refine AllReadyIn.cons rfl (fun K hK =>?_) AllReadyIn.nil
   (go_simp;refine hK _ _ ?_;clear hK K)
   refine wpAnyIn_done krA ?_ _
   gi_wp2
   exact⟨((KeepsOthers.below' HB5.out).trans g4).from _,(HB5.out.mono hsw).trans g5,⟨A6,c6,l' ++ [⟨x.1.chg.kind,x.1.chg.seq,x.1.chg.day,x.1.chg.table,A5,k5,x.1.chg.row,x.1.chg.key,x.1.chg.column,x.1.chg.val⟩],by rw[List.length_append];exact g2,HC6.out,by rw[List.map_append,List.map_append,H3.out];rfl,by have h5:=HB5.out.size;have h6:=g4.size;omega⟩,hB1.trans ((HB5.out.mono hsw).trans g5)⟩
  ·(go_simp;refine hK _ _ ?_;clear hK K)
   refine wpAnyIn_ready (rs:= [0,2]) krA spA ?_
   refine AllReadyIn.cons rfl (fun K hK =>?_) (AllReadyIn.cons rfl (fun K hK =>?_) AllReadyIn.nil)
   ·(go_simp;refine hK _ _ ?_;clear hK K)
    refine wpAnyIn_ready (rs:= [2]) krA spA ?_
    refine AllReadyIn.cons rfl (fun K hK =>?_) AllReadyIn.nil
    (go_simp;refine hK _ _ ?_;clear hK K)
    refine wpAnyIn_ready (rs:= [3]) krA spA ?_
    refine AllReadyIn.cons rfl (fun K hK =>?_) AllReadyIn.nil
    (go_simp;refine⟨trivial,?_⟩;refine(CallsIn.inRound l (callsIn_wide.2 (cO _ _ _ _ _ _ _ x.1.chg.key _ x.1.chg.val W.drew GL omA))).mono ?_;rintro e w5 ⟨⟨A5,k5,rfl,ho5⟩,hb5⟩;have hb5:=hbD.trans hb5;have H15:=qh (show Boxed w5 _ _ _ from (hb5.block _ H1.out.lt).trans H1.out);have cR5:=H15.out.cell;have fR5:=H15.out.frozen;have hl5:=H15.out.lt;have H25:=qh (H2.out.below hb5);have HO5:=qh ho5;have HB5:=qh hb5;clear ho5 hb5;refine hK _ _ ?_;clear hK K)
    refine wpAnyIn_ready (rs:= [4]) krA spA ?_
    refine AllReadyIn.cons rfl (fun K hK =>?_) AllReadyIn.nil
    (go_simp;refine hK _ _ ?_;clear hK K)
    refine wpAnyIn_ready (rs:= [5]) krA spA ?_
    refine AllReadyIn.cons rfl (fun K hK =>?_) AllReadyIn.nil
    refine fA _ rfl (.tmp 8) (.tmp 12) 34 rfl 52 ic _ Chg.cells 12 128 Tryz.underlying34 hic lL lK lJ rfl omA eu iI w.heap.size (.slice A' l'.length c') l' rfl (H25.out.own.alloc _) _ _ _ [⟨x.1.chg.kind,x.1.chg.seq,x.1.chg.day,x.1.chg.table,A5,k5,x.1.chg.row,x.1.chg.key,x.1.chg.column,x.1.chg.val⟩] rfl rfl (Blk.one (enc:=Chg.cells) (x:=⟨x.1.chg.kind,x.1.chg.seq,x.1.chg.day,x.1.chg.table,A5,k5,x.1.chg.row,x.1.chg.key,x.1.chg.column,x.1.chg.val⟩) (Blk.new' rfl) spA) ej eh ei ?_
    intro v6 w6 hown6 hg6 j4
    obtain⟨A6,c6,hv6,_,_⟩:=hown6.form
    subst hv6
    rw[List.length_append,List.length_singleton]at hown6
    obtain⟨g1,g2,g3,g4,g5⟩:=H15.out.appended (by decide) H25.out.own (Nat.le_trans hsw HB5.out.size) nlr ee hg6
    have cR6:=g1.cell
    have fR6:=g1.frozen
    have hl6:=g1.lt
    have HC6:=qh (pO ((H25.out.below (brf.alloc nlr _)).app (x:=⟨x.1.chg.kind,x.1.chg.seq,x.1.chg.day,x.1.chg.table,A5,k5,x.1.chg.row,x.1.chg.key,x.1.chg.column,x.1.chg.val⟩) hg6 eg ((HO5.out.mono (show w.heap.size≤W.drew.heap.size from hsw)).alloc _) hr8) g1 (by decide) (by decide) (.slice A6 (l'.length+1) c6))
    refine hK _ _ ?_
    clear hK K hown6 hg6 j4
    refine wpAnyIn_ready (rs:= [6]) krA spA ?_
    refine AllReadyIn.cons rfl (fun K hK =>?_) AllReadyIn.nil
    (go_simp;refine hK _ _ ?_;clear hK K)
    refine wpAnyIn_done krA ?_ _
    gi_wp2
    exact⟨((KeepsOthers.below' HB5.out).trans g4).from _,(HB5.out.mono hsw).trans g5,⟨A6,c6,l' ++ [⟨x.1.chg.kind,x.1.chg.seq,x.1.chg.day,x.1.chg.table,A5,k5,x.1.chg.row,x.1.chg.key,x.1.chg.column,x.1.chg.val⟩],by rw[List.length_append];exact g2,HC6.out,by rw[List.map_append,List.map_append,H3.out];rfl,by have h5:=HB5.out.size;have h6:=g4.size;omega⟩,hB1.trans ((HB5.out.mono hsw).trans g5)⟩
   (go_simp;refine hK _ _ ?_;clear hK K)
   refine wpAnyIn_ready (rs:= [0,3]) krA spA ?_
   refine AllReadyIn.cons rfl (fun K hK =>?_) (AllReadyIn.cons rfl (fun K hK =>?_) AllReadyIn.nil)
   ·(go_simp;refine hK _ _ ?_;clear hK K)
    refine wpAnyIn_ready (rs:= [3]) krA spA ?_
    refine AllReadyIn.cons rfl (fun K hK =>?_) AllReadyIn.nil
    (go_simp;refine⟨trivial,?_⟩;refine(CallsIn.inRound l (callsIn_wide.2 (cO _ _ _ _ _ _ _ x.1.chg.key _ x.1.chg.val W.drew GL omA))).mono ?_;rintro e w5 ⟨⟨A5,k5,rfl,ho5⟩,hb5⟩;have hb5:=hbD.trans hb5;have H15:=qh (show Boxed w5 _ _ _ from (hb5.block _ H1.out.lt).trans H1.out);have cR5:=H15.out.cell;have fR5:=H15.out.frozen;have hl5:=H15.out.lt;have H25:=qh (H2.out.below hb5);have HO5:=qh ho5;have HB5:=qh hb5;clear ho5 hb5;refine hK _ _ ?_;clear hK K)
    refine wpAnyIn_ready (rs:= [4]) krA spA ?_
    refine AllReadyIn.cons rfl (fun K hK =>?_) AllReadyIn.nil
    (go_simp;refine hK _ _ ?_;clear hK K)
    refine wpAnyIn_ready (rs:= [5]) krA spA ?_
    refine AllReadyIn.cons rfl (fun K hK =>?_) AllReadyIn.nil
    refine fA _ rfl (.tmp 8) (.tmp 12) 34 rfl 52 ic _ Chg.cells 12 128 Tryz.underlying34 hic lL lK lJ rfl omA eu iI w.heap.size (.slice A' l'.length c') l' rfl (H25.out.own.alloc _) _ _ _ [⟨x.1.chg.kind,x.1.chg.seq,x.1.chg.day,x.1.chg.table,A5,k5,x.1.chg.row,x.1.chg.key,x.1.chg.column,x.1.chg.val⟩] rfl rfl (Blk.one (enc:=Chg.cells) (x:=⟨x.1.chg.kind,x.1.chg.seq,x.1.chg.day,x.1.chg.table,A5,k5,x.1.chg.row,x.1.chg.key,x.1.chg.column,x.1.chg.val⟩) (Blk.new' rfl) spA) ej eh ei ?_
    intro v6 w6 hown6 hg6 j4
    obtain⟨A6,c6,hv6,_,_⟩:=hown6.form
    subst hv6
    rw[List.length_append,List.length_singleton]at hown6
    obtain⟨g1,g2,g3,g4,g5⟩:=H15.out.appended (by decide) H25.out.own (Nat.le_trans hsw HB5.out.size) nlr ee hg6
    have cR6:=g1.cell
    have fR6:=g1.frozen
    have hl6:=g1.lt
    have HC6:=qh (pO ((H25.out.below (brf.alloc nlr _)).app (x:=⟨x.1.chg.kind,x.1.chg.seq,x.1.chg.day,x.1.chg.table,A5,k5,x.1.chg.row,x.1.chg.key,x.1.chg.column,x.1.chg.val⟩) hg6 eg ((HO5.out.mono (show w.heap.size≤W.drew.heap.size from hsw)).alloc _) hr8) g1 (by decide) (by decide) (.slice A6 (l'.length+1) c6))
    refine hK _ _ ?_
    clear hK K hown6 hg6 j4
    refine wpAnyIn_ready (rs:= [6]) krA spA ?_
    refine AllReadyIn.cons rfl (fun K hK =>?_) AllReadyIn.nil
    (go_simp;refine hK _ _ ?_;clear hK K)
    refine wpAnyIn_done krA ?_ _
    gi_wp2
    exact⟨((KeepsOthers.below' HB5.out).trans g4).from _,(HB5.out.mono hsw).trans g5,⟨A6,c6,l' ++ [⟨x.1.chg.kind,x.1.chg.seq,x.1.chg.day,x.1.chg.table,A5,k5,x.1.chg.row,x.1.chg.key,x.1.chg.column,x.1.chg.val⟩],by rw[List.length_append];exact g2,HC6.out,by rw[List.map_append,List.map_append,H3.out];rfl,by have h5:=HB5.out.size;have h6:=g4.size;omega⟩,hB1.trans ((HB5.out.mono hsw).trans g5)⟩
   (go_simp;refine⟨trivial,?_⟩;refine(CallsIn.inRound l (callsIn_wide.2 (cO _ _ _ _ _ _ _ x.1.chg.key _ x.1.chg.val W.drew GL omA))).mono ?_;rintro e w5 ⟨⟨A5,k5,rfl,ho5⟩,hb5⟩;have hb5:=hbD.trans hb5;have H15:=qh (show Boxed w5 _ _ _ from (hb5.block _ H1.out.lt).trans H1.out);have cR5:=H15.out.cell;have fR5:=H15.out.frozen;have hl5:=H15.out.lt;have H25:=qh (H2.out.below hb5);have HO5:=qh ho5;have HB5:=qh hb5;clear ho5 hb5;refine hK _ _ ?_;clear hK K)
   refine wpAnyIn_ready (rs:= [0,4]) krA spA ?_
   refine AllReadyIn.cons rfl (fun K hK =>?_) (AllReadyIn.cons rfl (fun K hK =>?_) AllReadyIn.nil)
   ·(go_simp;refine hK _ _ ?_;clear hK K)
    refine wpAnyIn_ready (rs:= [4]) krA spA ?_
    refine AllReadyIn.cons rfl (fun K hK =>?_) AllReadyIn.nil
    (go_simp;refine hK _ _ ?_;clear hK K)
    refine wpAnyIn_ready (rs:= [5]) krA spA ?_
    refine AllReadyIn.cons rfl (fun K hK =>?_) AllReadyIn.nil
    refine fA _ rfl (.tmp 8) (.tmp 12) 34 rfl 52 ic _ Chg.cells 12 128 Tryz.underlying34 hic lL lK lJ rfl omA eu iI w.heap.size (.slice A' l'.length c') l' rfl (H25.out.own.alloc _) _ _ _ [⟨x.1.chg.kind,x.1.chg.seq,x.1.chg.day,x.1.chg.table,A5,k5,x.1.chg.row,x.1.chg.key,x.1.chg.column,x.1.chg.val⟩] rfl rfl (Blk.one (enc:=Chg.cells) (x:=⟨x.1.chg.kind,x.1.chg.seq,x.1.chg.day,x.1.chg.table,A5,k5,x.1.chg.row,x.1.chg.key,x.1.chg.column,x.1.chg.val⟩) (Blk.new' rfl) spA) ej eh ei ?_
    intro v6 w6 hown6 hg6 j4
    obtain⟨A6,c6,hv6,_,_⟩:=hown6.form
    subst hv6
    rw[List.length_append,List.length_singleton]at hown6
    obtain⟨g1,g2,g3,g4,g5⟩:=H15.out.appended (by decide) H25.out.own (Nat.le_trans hsw HB5.out.size) nlr ee hg6
    have cR6:=g1.cell
    have fR6:=g1.frozen
    have hl6:=g1.lt
    have HC6:=qh (pO ((H25.out.below (brf.alloc nlr _)).app (x:=⟨x.1.chg.kind,x.1.chg.seq,x.1.chg.day,x.1.chg.table,A5,k5,x.1.chg.row,x.1.chg.key,x.1.chg.column,x.1.chg.val⟩) hg6 eg ((HO5.out.mono (show w.heap.size≤W.drew.heap.size from hsw)).alloc _) hr8) g1 (by decide) (by decide) (.slice A6 (l'.length+1) c6))
    refine hK _ _ ?_
    clear hK K hown6 hg6 j4
    refine wpAnyIn_ready (rs:= [6]) krA spA ?_
    refine AllReadyIn.cons rfl (fun K hK =>?_) AllReadyIn.nil
    (go_simp;refine hK _ _ ?_;clear hK K)
    refine wpAnyIn_done krA ?_ _
    gi_wp2
    exact⟨((KeepsOthers.below' HB5.out).trans g4).from _,(HB5.out.mono hsw).trans g5,⟨A6,c6,l' ++ [⟨x.1.chg.kind,x.1.chg.seq,x.1.chg.day,x.1.chg.table,A5,k5,x.1.chg.row,x.1.chg.key,x.1.chg.column,x.1.chg.val⟩],by rw[List.length_append];exact g2,HC6.out,by rw[List.map_append,List.map_append,H3.out];rfl,by have h5:=HB5.out.size;have h6:=g4.size;omega⟩,hB1.trans ((HB5.out.mono hsw).trans g5)⟩
   (go_simp;refine hK _ _ ?_;clear hK K)
   refine wpAnyIn_ready (rs:= [0]) krA spA ?_
   refine AllReadyIn.cons rfl (fun K hK =>?_) AllReadyIn.nil
   (go_simp;refine hK _ _ ?_;clear hK K)
   refine wpAnyIn_ready (rs:= [5]) krA spA ?_
   refine AllReadyIn.cons rfl (fun K hK =>?_) AllReadyIn.nil
   refine fA _ rfl (.tmp 8) (.tmp 12) 34 rfl 52 ic _ Chg.cells 12 128 Tryz.underlying34 hic lL lK lJ rfl omA eu iI w.heap.size (.slice A' l'.length c') l' rfl (H25.out.own.alloc _) _ _ _ [⟨x.1.chg.kind,x.1.chg.seq,x.1.chg.day,x.1.chg.table,A5,k5,x.1.chg.row,x.1.chg.key,x.1.chg.column,x.1.chg.val⟩] rfl rfl (Blk.one (enc:=Chg.cells) (x:=⟨x.1.chg.kind,x.1.chg.seq,x.1.chg.day,x.1.chg.table,A5,k5,x.1.chg.row,x.1.chg.key,x.1.chg.column,x.1.chg.val⟩) (Blk.new' rfl) spA) ej eh ei ?_
   intro v6 w6 hown6 hg6 j4
   obtain⟨A6,c6,hv6,_,_⟩:=hown6.form
   subst hv6
   rw[List.length_append,List.length_singleton]at hown6
   obtain⟨g1,g2,g3,g4,g5⟩:=H15.out.appended (by decide) H25.out.own (Nat.le_trans hsw HB5.out.size) nlr ee hg6
   have cR6:=g1.cell
   have fR6:=g1.frozen
   have hl6:=g1.lt
   have HC6:=qh (pO ((H25.out.below (brf.alloc nlr _)).app (x:=⟨x.1.chg.kind,x.1.chg.seq,x.1.chg.day,x.1.chg.table,A5,k5,x.1.chg.row,x.1.chg.key,x.1.chg.column,x.1.chg.val⟩) hg6 eg ((HO5.out.mono (show w.heap.size≤W.drew.heap.size from hsw)).alloc _) hr8) g1 (by decide) (by decide) (.slice A6 (l'.length+1) c6))
   refine hK _ _ ?_
   clear hK K hown6 hg6 j4
   refine wpAnyIn_ready (rs:= [6]) krA spA ?_
   refine AllReadyIn.cons rfl (fun K hK =>?_) AllReadyIn.nil
   (go_simp;refine hK _ _ ?_;clear hK K)
   refine wpAnyIn_done krA ?_ _
   gi_wp2
   exact⟨((KeepsOthers.below' HB5.out).trans g4).from _,(HB5.out.mono hsw).trans g5,⟨A6,c6,l' ++ [⟨x.1.chg.kind,x.1.chg.seq,x.1.chg.day,x.1.chg.table,A5,k5,x.1.chg.row,x.1.chg.key,x.1.chg.column,x.1.chg.val⟩],by rw[List.length_append];exact g2,HC6.out,by rw[List.map_append,List.map_append,H3.out];rfl,by have h5:=HB5.out.size;have h6:=g4.size;omega⟩,hB1.trans ((HB5.out.mono hsw).trans g5)⟩
 case done =>
  rintro D ys W hD hys ⟨⟨A',c',l',h1,h2,h3,h4⟩,hB1⟩ hK
  have cR:=h1.cell
  gi_wp2
  refine⟨by simp,.inl ⟨_,_,rfl,run_takeDeferred hK,?_⟩⟩
  have hD2:w.heap.size≤D:=by omega
  exact⟨_,results_tmp rfl _ _ _,⟨A',c',l',rfl,by rw[h3];have h9:=congrArg (List.map fun e:Ent=>unC e.chg) hys;rw[List.map_map]at h9;rw[List.map_map];exact h9,Ad h2 (grownBy_putObj' W D _) (fun r e=>by cases e;exact⟨_,hK,rfl⟩)⟩,hB1.trans (belowK_b (w:=w) nlr W D _ _ hD2 hK rfl rfl)⟩
 case stop =>
  rintro D c pre W _ _ h _
  exact h.elim
open Go.RowKit Go Go.Shelf
theorem zA(p:Addr)(w:World):CallsD Tryz.prog 71 #[.pointer (some p)] .returning w fun e u' w'=>e=.returned (.tuple #[])∧u'=.returning∧w'=w:=by
 refine callsD_of_wpS Tryz.func71 rfl fun c₀ cs hu =>?_
 apply wpS_seq
 apply wpS_region
 simp[wpOpsS,go_sem,recoverD,hu,Tryz.ntmps71,Exit.thenS]
 refine wpS_cond (t:=false) (by simp[Act.eval,Array.replicate]) ?_
 simp only[Bool.false_eq_true,if_false]
 refine wpS_of_wp (wp_skip ?_)
 cases c₀
 simp_all[bodyPostS,results,Tryz.results71]
theorem yu(p:Addr)(w:World):CallsD Tryz.prog 39 #[.pointer (some p)] .returning w fun e u' w'=>e=.returned (.tuple #[])∧u'=.returning∧w'=w:=by
 refine callsD_of_wpS Tryz.func39 rfl fun c₀ cs hu =>?_
 apply wpS_seq
 apply wpS_region
 simp[wpOpsS,go_sem,recoverD,hu,Tryz.ntmps39,Exit.thenS]
 refine wpS_cond (t:=false) (by simp[Act.eval,Array.replicate]) ?_
 simp only[Bool.false_eq_true,if_false]
 refine wpS_of_wp (wp_skip ?_)
 cases c₀
 simp_all[bodyPostS,results,Tryz.results39]
theorem jM.mono{w:World}{base base':Nat}{A:Option Addr}{c:Nat}{l:List Chg}(h:jM w base A c l)(hb:base'≤base):jM w base' A c l:=⟨h.own.mono hb,fun x hx=>(h.rows x hx).mono hb,h.len⟩
end Go.Proofs.YtjidligipoldeaaGreat
