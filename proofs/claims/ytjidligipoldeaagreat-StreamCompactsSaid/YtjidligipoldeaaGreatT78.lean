/-
  Contracts and plain laws of this seat, part 78.
-/
import Derived.Test.YtjidligipoldeaaGreatT75
import Derived.Test.YtjidligipoldeaaGreatT77
set_option linter.unusedVariables false
set_option linter.unusedSimpArgs false
set_option maxRecDepth 100000
set_option maxHeartbeats 16000000
namespace Go.Proofs.YtjidligipoldeaaGreat
open Go.RowKit Go Go.Shelf
theorem eo{P:Prop}(h:P:=by have:=hq.size;show wr.heap.size<wq.heap.size;omega):P:=h
theorem ep{P:Prop}(h:P:=by have:=hbu.size;have:=hq.size;omega):P:=h
theorem FQ(w:World):Calls Tryz.prog 81 #[.slice none 0 0] w fun e w'=>e=.returned (.slice none 0 0)∧w'=w:=by
 have hnil:(binOp .eql 53 (.slice none 0 0) (.slice none 0 0)).run Tryz.prog w=.ok (.bool true) w:=Lib.run_eql_slice_nil w 53 130 none 0 0 0 0 Tryz.underlying53
 go_enter Tryz.func81,Tryz.ntmps81
 go_wp2_with fail
 go_ret
 exact⟨rfl,rfl⟩
theorem FT(w:World):Calls Tryz.prog 82 #[.slice none 0 0] w fun e w'=>e=.returned (.slice none 0 0)∧w'=w:=by
 have hnil:(binOp .eql 54 (.slice none 0 0) (.slice none 0 0)).run Tryz.prog w=.ok (.bool true) w:=Lib.run_eql_slice_nil w 54 133 none 0 0 0 0 Tryz.underlying54
 go_enter Tryz.func82,Tryz.ntmps82
 go_wp2_with fail
 go_ret
 exact⟨rfl,rfl⟩
theorem pz(x:Ent)(w:World)(hr:ag w w.heap.size Val.cells 3 x.chg.A x.chg.row)(hl:x.chg.row.length≤1000000):
 Calls Tryz.prog 37 #[.agg #[.int .i64 x.off,.int .i64 x.chg.kind,.int .i64 x.chg.seq,.int .i64 x.chg.day,.int .i64 x.chg.table,.slice x.chg.A x.chg.row.length x.chg.cap,.int .i64 x.chg.key.kind,.int .i64 x.chg.key.num,.string x.chg.key.text,.int .i64 x.chg.column,.int .i64 x.chg.val.kind,.int .i64 x.chg.val.num,.string x.chg.val.text,.slice none 0 0,.slice none 0 0]] w fun e w' =>
  (∃y:Ent,e=.returned (Ent.val y)∧y.off=x.off∧unC y.chg=unC x.chg∧aj w' w.heap.size 50 Val.cells 3 (.slice y.chg.A y.chg.row.length y.chg.cap) y.chg.row)∧Below w.heap.size w w':=by
 obtain⟨o,⟨kd,sq,dy,tb,A0,cp,row,key,cl,vl⟩⟩:=x
 simp only at hr hl
 have HR:=qh hr
 clear hr
 go_enter Tryz.func37,Tryz.ntmps37
 go_upto_region 1 with (fail)
 refine(fun(P:World→Prop) (R:World→Prop) (w:World) (hR:R w) (h:∀u,R u→P u)=>h w hR) (fun u=>Code.wp _ _ _ _ u) (fun u=>Blk u w.heap.size 56 (Ent.cells ⟨o,⟨kd,sq,dy,tb,A0,cp,row,key,cl,vl⟩⟩).toArray∧Blk u (w.heap.size+1) 56 #[.int .i64 0,.int .i64 0,.int .i64 0,.int .i64 0,.int .i64 0,.slice none 0 0,.int .i64 0,.int .i64 0,.string ⟨#[]⟩,.int .i64 0,.int .i64 0,.int .i64 0,.string ⟨#[]⟩,.slice none 0 0,.slice none 0 0]∧Below w.heap.size w u) _ ⟨(Blk.new _ _ _).alloc _,Blk.new' spA,by exact ai⟩ ?_
 rintro W ⟨hX,hZ,hbW⟩
 have hxl:=hX.lt
 have hzl:=hZ.lt
 have HX:=qh hX
 have HZ:=qh hZ
 obtain⟨c0,⟨c1,c2,c3,c4⟩,c5,⟨c6,c7,c8⟩,c9,⟨c10,c11,c12⟩,c13,c14⟩:=Ent.bZ (o:= 0) (x:=⟨o,⟨kd,sq,dy,tb,A0,cp,row,key,cl,vl⟩⟩) (w:=W) (b:=w.heap.size) (fun j v hv=>by rw[Nat.zero_add,hX.cell];simpa using hv)
 simp only[Nat.zero_add]at c0 c1 c2 c3 c4 c5 c6 c7 c8 c9 c10 c11 c12 c13 c14
 clear hX hZ
 go_upto_region 2 with (focus (
  (go_at_call 62;(with_reducible refine(cO kd sq dy tb A0 cp row key cl vl _ (HR.out.next hbW) hl).mono ?_))
  rintro e w5 ⟨⟨A',c',rfl,hown'⟩,hb5⟩
  have HX5:=qh (HX.out.below hb5 hxl)
  have HZ5:=qh (HZ.out.below hb5 hzl)
  have HOWN':=qh (hown'.mono hbW.size)
  have hx5:=aa hbW hb5 hbW.size
  have WK:=HX5.out.lt
  clear hown'
  have f4:=fun j=>HX5.out.frozen j
  clear c0 c1 c2 c3 c4 c5 c6 c7 c8 c9 c10 c11 c12 c13 c14
  obtain⟨c0,⟨c1,c2,c3,c4⟩,c5,⟨c6,c7,c8⟩,c9,⟨c10,c11,c12⟩,c13,c14⟩:=Ent.bZ (o:= 0) (x:=⟨o,⟨kd,sq,dy,tb,A0,cp,row,key,cl,vl⟩⟩) (w:=w5) (b:=w.heap.size) (fun j v hv=>by rw[Nat.zero_add,HX5.out.cell];simpa using hv)
  simp only[Nat.zero_add]at c0 c1 c2 c3 c4 c5 c6 c7 c8 c9 c10 c11 c12 c13 c14))
 obtain⟨U,hU⟩:∃U,((((((((((((w5.setCell ⟨w.heap.size,1,none⟩ (.int .i64 kd)).setCell ⟨w.heap.size,2,none⟩ (.int .i64 sq)).setCell ⟨w.heap.size,3,none⟩ (.int .i64 dy)).setCell ⟨w.heap.size,4,none⟩ (.int .i64 tb)).setCell ⟨w.heap.size,5,none⟩ (.slice A' row.length c')).setCell ⟨w.heap.size,6,none⟩ (.int .i64 key.kind)).setCell ⟨w.heap.size,7,none⟩ (.int .i64 key.num)).setCell ⟨w.heap.size,8,none⟩ (.string key.text)).setCell ⟨w.heap.size,9,none⟩ (.int .i64 cl)).setCell ⟨w.heap.size,10,none⟩ (.int .i64 vl.kind)).setCell ⟨w.heap.size,11,none⟩ (.int .i64 vl.num)).setCell ⟨w.heap.size,12,none⟩ (.string vl.text))=U:=⟨_,rfl⟩
 rw[hU]
 have HO:Hid (aj U w.heap.size 50 Val.cells 3 (.slice A' row.length c') row):=qh (by
  have hne:=HOWN'.out.aY HX5.out (by decide)
  rw[←hU]
  iterate 12 (refine aj.far ?_ hne _)
  exact HOWN'.out)
 have hbU:Below w.heap.size w U:=by
  rw[←hU]
  iterate 12 (refine Below.setCell ?_ spA _)
  exact hx5
 have hX:Blk U w.heap.size 56 (Ent.cells ⟨o,⟨kd,sq,dy,tb,A',c',row,key,cl,vl⟩⟩).toArray:=by
  rw[←hU]
  have h:=((((((((((((HX5.out.aH 1 (.int .i64 kd)).aH 2 (.int .i64 sq)).aH 3 (.int .i64 dy)).aH 4 (.int .i64 tb)).aH 5 (.slice A' row.length c')).aH 6 (.int .i64 key.kind)).aH 7 (.int .i64 key.num)).aH 8 (.string key.text)).aH 9 (.int .i64 cl)).aH 10 (.int .i64 vl.kind)).aH 11 (.int .i64 vl.num)).aH 12 (.string vl.text))
  simpa[Ent.cells]using h
 have hZ:Blk U (w.heap.size+1) 56 #[.int .i64 0,.int .i64 0,.int .i64 0,.int .i64 0,.int .i64 0,.slice none 0 0,.int .i64 0,.int .i64 0,.string ⟨#[]⟩,.int .i64 0,.int .i64 0,.int .i64 0,.string ⟨#[]⟩,.slice none 0 0,.slice none 0 0]:=by
  rw[←hU]
  iterate 12 (refine Blk.far ?_ spA _)
  exact HZ5.out
 clear hU c0 c1 c2 c3 c4 c5 c6 c7 c8 c9 c10 c11 c12 c13 c14 f4
 obtain⟨c0,⟨c1,c2,c3,c4⟩,c5,⟨c6,c7,c8⟩,c9,⟨c10,c11,c12⟩,c13,c14⟩:=Ent.bZ (o:= 0) (x:=⟨o,⟨kd,sq,dy,tb,A',c',row,key,cl,vl⟩⟩) (w:=U) (b:=w.heap.size) (fun j v hv=>by rw[Nat.zero_add,hX.cell];simpa using hv)
 simp only[Nat.zero_add]at c0 c1 c2 c3 c4 c5 c6 c7 c8 c9 c10 c11 c12 c13 c14
 have f4:=fun j=>hX.frozen j
 have fz:=fun j=>hZ.frozen j
 have hul:=hX.lt
 have Tm:=hZ.lt
 have HXU:=qh hX
 have HZU:=qh hZ
 have z0:=hZ.cell 0
 clear hX hZ
 go_upto_region 4 with (first
  | (go_at_call 81;(with_reducible refine(FQ _).mono ?_);rintro e w6 ⟨rfl,rfl⟩)
  | (go_at_call 82;(with_reducible refine(FT _).mono ?_);rintro e w6 ⟨rfl,rfl⟩))
 obtain⟨V,hV⟩:∃V,(w6.setCell ⟨w.heap.size,13,none⟩ (.slice none 0 0)).setCell ⟨w.heap.size,14,none⟩ (.slice none 0 0)=V:=⟨_,rfl⟩
 rw[hV]
 have HOV:Hid (aj V w.heap.size 50 Val.cells 3 (.slice A' row.length c') row):=qh (by
  have hne:=HO.out.aY HXU.out (by decide)
  rw[←hV]
  iterate 2 (refine aj.far ?_ hne _)
  exact HO.out)
 have HBV:Hid (Below w.heap.size w V):=qh (by
  rw[←hV]
  iterate 2 (refine Below.setCell ?_ spA _)
  exact hbU)
 have hX:Blk V w.heap.size 56 (Ent.cells ⟨o,⟨kd,sq,dy,tb,A',c',row,key,cl,vl⟩⟩).toArray:=by
  rw[←hV]
  have h:=(HXU.out.aH 13 (.slice none 0 0)).aH 14 (.slice none 0 0)
  simpa[Ent.cells]using h
 have hZ:Blk V (w.heap.size+1) 56 (Ent.cells ⟨0,⟨0,0,0,0,none,0,[],⟨0,0,⟨#[]⟩⟩,0,⟨0,0,⟨#[]⟩⟩⟩⟩).toArray:=by
  rw[←hV]
  iterate 2 (refine Blk.far ?_ spA _)
  exact HZU.out
 clear hV c0 c1 c2 c3 c4 c5 c6 c7 c8 c9 c10 c11 c12 c13 c14 f4 fz z0 hul Tm
 obtain⟨c0,⟨c1,c2,c3,c4⟩,c5,⟨c6,c7,c8⟩,c9,⟨c10,c11,c12⟩,c13,c14⟩:=Ent.bZ (o:= 0) (x:=⟨o,⟨kd,sq,dy,tb,A',c',row,key,cl,vl⟩⟩) (w:=V) (b:=w.heap.size) (fun j v hv=>by rw[Nat.zero_add,hX.cell];simpa using hv)
 obtain⟨z0,⟨z1,z2,z3,z4⟩,z5,⟨z6,z7,z8⟩,z9,⟨z10,z11,z12⟩,z13,z14⟩:=Ent.bZ (o:= 0) (x:=⟨0,⟨0,0,0,0,none,0,[],⟨0,0,⟨#[]⟩⟩,0,⟨0,0,⟨#[]⟩⟩⟩⟩) (w:=V) (b:=w.heap.size+1) (fun j v hv=>by rw[Nat.zero_add,hZ.cell];simpa using hv)
 simp only[Nat.zero_add,List.length_nil]at c0 c1 c2 c3 c4 c5 c6 c7 c8 c9 c10 c11 c12 c13 c14 z0 z1 z2 z3 z4 z5 z6 z7 z8 z9 z10 z11 z12 z13 z14
 have fz:=fun j=>hZ.frozen j
 have Y7:=hZ.lt
 have HZV:=qh hZ
 clear hX hZ
 go_wp2_with fail
 refine bodyPost_ret (v:=Ent.val ⟨o,⟨kd,sq,dy,tb,A',c',row,key,cl,vl⟩⟩) (by simp[Ent.val,results,Tryz.results37,go_sem,z0,z1,z2,z3,z4,z5,z6,z7,z8,z9,z10,z11,z12,z13,z14]) rfl ⟨⟨⟨o,⟨kd,sq,dy,tb,A',c',row,key,cl,vl⟩⟩,rfl,rfl,rfl,?_⟩,?_⟩
 ·have hne:=HOV.out.aY HZV.out (by decide)
  iterate 15 (refine aj.far ?_ hne _)
  exact HOV.out
 ·iterate 15 (refine Below.setCell ?_ spA _)
  exact HBV.out
open Go.RowKit Go Go.Shelf
structure fK (w:World) (base:Nat) (A:Option Addr) (c:Nat) (l:List Ent):Prop where
 own:aj w base 56 Ent.cells 15 (.slice A l.length c) l
 rows:∀x∈l,aj w base 50 Val.cells 3 (.slice x.chg.A x.chg.row.length x.chg.cap) x.chg.row
 len:∀x∈l,x.chg.row.length≤8
theorem fK.below{w w':World}{base:Nat}{A:Option Addr}{c:Nat}{l:List Ent}(h:fK w base A c l)(hb:Below w.heap.size w w'):fK w' base A c l:=
 ⟨h.own.below hb nlr,fun x hx=>(h.rows x hx).below hb nlr,h.len⟩
theorem fK.mono{w:World}{base base':Nat}{A:Option Addr}{c:Nat}{l:List Ent}(h:fK w base A c l)(hb:base'≤base):fK w base' A c l:=⟨h.own.mono hb,fun x hx=>(h.rows x hx).mono hb,h.len⟩
theorem fK.app{w w':World}{base:Nat}{A A':Option Addr}{c c':Nat}{l:List Ent}{x:Ent}(h:fK w base A c l)(hg:w.grownBy w' (Value.slice A l.length c).ownBlock)(ho:aj w' base 56 Ent.cells 15 (.slice A' (l ++ [x]).length c') (l ++ [x]))
 (hx:aj w base 50 Val.cells 3 (.slice x.chg.A x.chg.row.length x.chg.cap) x.chg.row) (hl:x.chg.row.length≤8):fK w' base A' c' (l ++ [x]):=by
 refine⟨ho,fun y hy =>?_,fun y hy =>?_⟩
 ·rcases List.mem_append.1 hy with h1|h1
  ·exact(h.rows y h1).kept hg ((h.rows y h1).eT h.own (by decide))
  ·rw[List.mem_singleton.1 h1]
   exact hx.kept hg (hx.eT h.own (by decide))
 ·rcases List.mem_append.1 hy with h1|h1
  ·exact h.len y h1
  ·rw[List.mem_singleton.1 h1]
   exact hl
theorem fK.read{w:World}{base:Nat}{A:Option Addr}{c:Nat}{l:List Ent}(h:fK w base A c l):di w w.heap.size A l:=⟨dM iH h.own,fun x hx=>dM bC (h.rows x hx)⟩
theorem xW{w:World}{base g:Nat}{A:Option Addr}{c:Nat}{l:List Ent}{t:TypeId}{cs:Array Value}(h:fK w base A c l)(hb:Blk w g t cs)(h1:56≠t)(h2:50≠t)(i:Nat)(u:Value):fK (w.setCell ⟨g,i,none⟩ u) base A c l:=
 ⟨h.own.far (h.own.aY hb h1) u,fun x hx=>(h.rows x hx).far ((h.rows x hx).aY hb h2) u,h.len⟩
theorem Ac{w w':World}{base:Nat}{A:Option Addr}{c:Nat}{l:List Ent}{row:Option Nat}(h:fK w base A c l)(hg:w.grownBy w' row)(hr:∀r,row=some r→∃o:Obj,w.heap[r]?=some o∧o.isCells=false):fK w' base A c l:=
 ⟨qz h.own hg hr,fun x hx=>qz (h.rows x hx) hg hr,h.len⟩
theorem Ie{α:Type}{enc:α→List Value}{k base g c:Nat}{t:TypeId}{w:World}{cs:Array Value}(h:Blk w g t cs)(hb:base≤g)(hs:cs.size=c*k)(hc:c≤maxLen):aj w base t enc k (.slice (some ⟨g,0,none⟩) 0 c) ([]:List α):=
 ⟨by simp,.inr ⟨g,c,cs,rfl,hb,h,Nat.zero_le _,hc,hs,by simp⟩⟩
theorem zm{P:Program}(t e:TypeId)(i:TypeInfo)(z:Value)(ht:P.underlying t=some (.slice e))(hi:P.info? e=some i)(hz:i.zero=some z)
 (kl kc:IntKind) (n c:Nat) (hnc:n≤c) (hbytes:i.bytes*c≤281474976710656) (h63:c≤9223372036854775807) (w:World):
 (Instr.makeSlice t (.int kl (n:Int)) (.int kc (c:Int))).run P w=.ok (.slice (some ⟨w.heap.size,0,none⟩) n c) (w.alloc (.cells (madeCells z.cells (c*i.size)) e)):=by
 have hb:(i.bytes:Int)*(c:Int)≤281474976710656:=by
  have h:((i.bytes*c:Nat):Int)≤281474976710656:=by omega
  rwa [Int.natCast_mul]at h
 have hr:=run_make (P:=P) w t e i z ht hi hz kl kc n c omA omA hb omA
 simp only[Int.toNat_natCast]at hr
 exact hr
theorem Ik(z:Array Value)(n:Nat):(madeCells z n).size=n:=by
 simp[madeCells]
theorem AP(lo nx:Int)(A:Option Addr)(cap:Nat)(es:List Ent)(w:World)(hE:di w w.heap.size A es)(hlen:es.length≤1000)(h8:∀x∈es,x.chg.row.length≤8):
 Calls Tryz.prog 61 #[.agg #[.int .i64 lo,.int .i64 nx,.slice A es.length cap]] w fun e w' =>
  (∃A' c' l,e=.returned (.agg #[.int .i64 lo,.int .i64 nx,.slice A' l.length c'])∧(l.map fun x=>(x.off,unC x.chg))=(es.map fun x=>(x.off,unC x.chg))∧fK w' w.heap.size A' c' l)∧Below w.heap.size w w':=by
 have HE:=qh hE
 clear hE
 obtain⟨ie,hie,uA,uz,uy⟩:=info_parts wU
 have hmk:∀u:World,(Instr.makeSlice 37 (.int .i64 0) (.int .i64 ((es.length:Int)+1))).run Tryz.prog u=.ok (.slice (some ⟨u.heap.size,0,none⟩) 0 (es.length+1)) (u.alloc (.cells (madeCells (Ent.cells ⟨0,⟨0,0,0,0,none,0,[],⟨0,0,⟨#[]⟩⟩,0,⟨0,0,⟨#[]⟩⟩⟩⟩).toArray ((es.length+1)*15)) 56)):=fun u=>by
  have h:=zm (P:=Tryz.prog) 37 56 ie _ Tryz.underlying37 hie uA .i64 .i64 0 (es.length+1) omA (by rw[uy];omega) omA u
  rw[uz]at h
  exact h
 go_enter Tryz.func61,Tryz.ntmps61
 go_upto_region 2 with (fail)
 refine(fun(P:World→Prop) (R:World→Prop) (w:World) (hR:R w) (h:∀u,R u→P u)=>h w hR) (fun u=>Code.wp _ _ _ _ u) (fun u=>Blk u w.heap.size 39 #[.int .i64 lo,.int .i64 nx,.slice A es.length cap]∧Blk u (w.heap.size+1) 39 #[.int .i64 0,.int .i64 0,.slice none 0 0]∧fK u w.heap.size (some ⟨w.heap.size+2,0,none⟩) (es.length+1) []∧Below w.heap.size w u) _ ⟨((Blk.new _ _ _).alloc _).alloc _,(Blk.new' spA).alloc _,⟨Ie (Blk.new' spA) omA (Ik _ _) mxA,(fun x h=>by cases h),(fun x h=>by cases h)⟩,by exact ai⟩ ?_
 rintro U ⟨hX,hZ,hO,hbU⟩
 have x2:=hX.cell 2
 simp only[gE3]at x2
 have hxl:=hX.lt
 have hzl:=hZ.lt
 have HX:=qh hX
 have HZ:=qh hZ
 have HO:=qh hO
 clear hX hZ hO hmk
 go_wp2_with fail
 go_loopw [3,14] (fun v3 vi wr =>∃(k:Nat) (A':Option Addr) (c':Nat) (l:List Ent),k≤es.length∧vi=.int .i64 k∧v3=.slice A' l.length c'∧fK wr w.heap.size A' c' l∧(l.map fun x=>(x.off,unC x.chg))=((es.take k).map fun x=>(x.off,unC x.chg))∧Blk wr w.heap.size 39 #[.int .i64 lo,.int .i64 nx,.slice A es.length cap]∧Blk wr (w.heap.size+1) 39 #[.int .i64 0,.int .i64 0,.slice none 0 0]∧Below w.heap.size w wr) (fun v3 vi _=>es.length-(intOf vi).toNat)
 case atStart=>exact⟨0,_,_,[],Nat.zero_le _,rfl,rfl,HO.out,rfl,HX.out,HZ.out,hbU⟩
 case round =>
  obtain⟨k,A',c',l',hk,rfl,rfl,hO,hm,hX,hZ,hbr⟩:=hrel
  have HL:Hid (l'.length≤1000):=qh (by have h:=congrArg List.length hm;rw[List.length_map,List.length_map,List.length_take]at h;omega)
  have HM:=qh hm
  have HOr:=qh hO
  have HXr:=qh hX
  have HZr:=qh hZ
  have hwr:=hbr.size
  clear hm hO hX hZ x2 hxl hzl
  by_cases hlt:k<es.length
  ·have hlt':decide (k<es.length)=true:=by simpa using hlt
   have h88:=h8 _ (lgm hlt)
   have hrow:=((HE.out.2 _ (lgm hlt)).below hbr).mono hwr
   obtain⟨b,o,rfl,hb,hcc⟩:=(HE.out.1.below hbr).get hlt
   have HTK:Hid (es.take (k+1)=es.take k ++ [es[k]]):=qh (List.take_succ_eq_append_getElem hlt)
   obtain⟨x,hx⟩:∃x,es[k]=x:=⟨_,rfl⟩
   rw[hx]at hcc h88 hrow HTK
   clear hx
   obtain⟨q0,⟨q1,q2,q3,q4⟩,q5,⟨q6,q7,q8⟩,q9,⟨q10,q11,q12⟩,q13,q14⟩:=Ent.bZ hcc
   go_upto_region 5 with (fail)
   refine(fun(P:World→Prop) (R:World→Prop) (w:World) (hR:R w) (h:∀u,R u→P u)=>h w hR) (fun u=>Code.wp _ _ _ _ u) (fun u=>Blk u wr.heap.size 56 (Ent.cells x).toArray∧Below wr.heap.size wr u) _ ⟨Blk.new _ _ _,by exact ai⟩ ?_
   rintro u ⟨hu,hbu⟩
   clear q0 q1 q2 q3 q4 q5 q6 q7 q8 q9 q10 q11 q12 q13 q14 hcc
   obtain⟨c0,⟨c1,c2,c3,c4⟩,c5,⟨c6,c7,c8⟩,c9,⟨c10,c11,c12⟩,c13,c14⟩:=Ent.bZ (o:= 0) (x:=x) (w:=u) (b:=wr.heap.size) (fun j v hv=>by rw[Nat.zero_add,hu.cell];simpa using hv)
   simp only[Nat.zero_add]at c0 c1 c2 c3 c4 c5 c6 c7 c8 c9 c10 c11 c12 c13 c14
   have hul:=hu.lt
   have TZ:=hrow.next hbu
   clear hu
   go_wp2_with (first
    | (go_at_call 37;(with_reducible refine(pz x _ TZ omA).mono ?_);rintro e w5 ⟨⟨⟨yo,⟨yk,ys,yd,yt,yA,yc,qL,wI,ycl,yvl⟩⟩,he,hy1,hy2,hyo⟩,hb5⟩;simp only[Ent.val]at he;subst he;have HB5:=qh (hbu.trans (hb5.mono hbu.size));have HY1:=qh hy1;have HY2:=qh hy2;have HYO:=qh hyo;have HYR:Hid (qL.length≤8):=qh (by have h:=congrArg Chg.row hy2;simp only[unC]at h;rw[h];exact h88);have HO5:=qh (HOr.out.below HB5.out);clear hy1 hy2 hyo hb5)
    | (at_builtin;go_must (refine aO _ rfl (.tmp 18) (.tmp 21) 37 rfl 56 ie _ Ent.cells 15 184 Tryz.underlying37 hie uA uz uy rfl omA iH jU w.heap.size (.slice A' l'.length c') l' rfl (HO5.out.own.alloc _) _ _ _ [⟨yo,⟨yk,ys,yd,yt,yA,yc,qL,wI,ycl,yvl⟩⟩] rfl rfl (Blk.one (enc:=Ent.cells) (x:=⟨yo,⟨yk,ys,yd,yt,yA,yc,qL,wI,ycl,yvl⟩⟩) (Blk.new' rfl) spA) (by have:=HL.out;simp;omega) (by have:=HL.out;simp[maxLen];omega) (by have:=HB5.out.size;simp;omega) ?_);intro v6 w6 hown6 hg6 j4;obtain⟨A6,c6,hv6,_,_⟩:=hown6.form;subst hv6;have HW6:=qh hown6;have HG6:=qh hg6;clear hown6 hg6 j4))
   go_roundw
   case rel =>
    refine⟨k+1,A6,c6,l' ++ [⟨yo,⟨yk,ys,yd,yt,yA,yc,qL,wI,ycl,yvl⟩⟩],by omega,by simp,by simp,(HO5.out.below (brf.alloc nlr _)).app HG6.out HW6.out ?_ HYR.out,?_,?_,?_,?_⟩
    ·exact(HYO.out.mono (Nat.le_trans hwr hbu.size)).alloc _
    ·have e1:=HY1.out
     have e2:=HY2.out
     rw[HTK.out,List.map_append,List.map_append,HM.out,List.map_singleton,List.map_singleton,←e1,←e2]
    ·exact((HXr.out.below HB5.out HXr.out.lt).alloc _).grown HG6.out (fun e=>HO5.out.own.aY (HXr.out.below HB5.out HXr.out.lt) (by decide) _ e.symm rfl)
    ·exact((HZr.out.below HB5.out HZr.out.lt).alloc _).grown HG6.out (fun e=>HO5.out.own.aY (HZr.out.below HB5.out HZr.out.lt) (by decide) _ e.symm rfl)
    ·exact((hbr.trans (HB5.out.mono hwr)).alloc (Nat.le_trans hwr HB5.out.size) _).grown HG6.out (by have:=HB5.out.size;simp;omega) (fun q e=>HO5.out.own.row q e)
   case measure=>exact meA
  ·have hlt':decide (k<es.length)=false:=by simpa using hlt
   have hke:k=es.length:=by omega
   subst hke
   have lN:Hid ((l'.map fun x=>(x.off,unC x.chg))=(es.map fun x=>(x.off,unC x.chg))):=qh (by rw[HM.out,List.take_length])
   have x0:=HXr.out.cell 0
   have x1:=HXr.out.cell 1
   have z0:=HZr.out.cell 0
   have z1:=HZr.out.cell 1
   have z2:=HZr.out.cell 2
   have xf:=fun j=>HXr.out.frozen j
   have zf:=fun j=>HZr.out.frozen j
   have hxl:=HXr.out.lt
   have hzl:=HZr.out.lt
   have x2:=HXr.out.cell 2
   simp only[gE3]at x0 x1 x2 z0 z1 z2
   go_wp2_with fail
   refine bodyPost_ret (v:= .agg #[.int .i64 lo,.int .i64 nx,.slice A' l'.length c']) (by simp[results,Tryz.results61,go_sem,z0,z1,z2,x0,x1,x2]) rfl ⟨⟨A',c',l',rfl,lN.out,?_⟩,?_⟩
   ·have n1:=HOr.out.own.aY HXr.out (by decide)
    have n2:=HOr.out.own.aY HZr.out (by decide)
    refine⟨?_,fun x hx =>?_,HOr.out.len⟩
    ·iterate 3 (refine aj.far ?_ n2 _)
     refine aj.far ?_ n1 _
     exact HOr.out.own
    ·have m1:=(HOr.out.rows x hx).aY HXr.out (by decide)
     have m2:=(HOr.out.rows x hx).aY HZr.out (by decide)
     iterate 3 (refine aj.far ?_ m2 _)
     refine aj.far ?_ m1 _
     exact HOr.out.rows x hx
   ·iterate 4 (refine Below.setCell ?_ spA _)
    exact hbr
open Go.RowKit Go Go.Shelf
def Ent.p(e:Ent):ja:=(e.off,unC e.chg)
section
variable {ts:List Tab}{k:Nat}{low next:Int}{es:List Ent}
theorem dF.off(h:dF ts k low next (es.map Ent.p)){i:Nat}(hi:i<es.length):(0≤es[i].off∧es[i].off<next)∧es[i].chg.table=(k:Int):=
 ⟨h.log.off (Ent.p es[i]) (List.mem_map_of_mem (lgm hi)),h.tab (unC es[i].chg) (List.mem_map_of_mem (f:=Prod.snd) (List.mem_map_of_mem (f:=Ent.p) (lgm hi)))⟩
theorem dF.asc(h:dF ts k low next (es.map Ent.p)){i j:Nat}(hi:i<es.length)(hj:j<i):(es[j]' omA).off<es[i].off:=by
 have h1:=List.pairwise_iff_getElem.1 h.log.asc j i smA (by simpa using hi) hj
 rw[List.getElem_map,List.getElem_map]at h1
 exact h1
theorem dF.len'(h:dF ts k low next (es.map Ent.p)):es.length≤256:=by simpa using h.len
theorem dF.Te(h:dF ts k low next (es.map Ent.p)){l:List Chg}(hl:l.map unC=(es.map Ent.chg).map unC):bK ts l:=by
 refine Bd ?_
 rw[hl]
 have h1:=h.ord
 rw[List.map_map]at h1 ⊢
 exact h1
end
theorem xB(o a0 a1 a2 a3:Int)(A:Option Addr)(m c:Nat)(a5 a6:Int)(s7:ByteArray)(a8 a9 a10:Int)(s11:ByteArray)(w:World):Calls Tryz.prog 55 #[.agg #[.int .i64 o,.int .i64 a0,.int .i64 a1,.int .i64 a2,.int .i64 a3,.slice A m c,.int .i64 a5,.int .i64 a6,.string s7,.int .i64 a8,.int .i64 a9,.int .i64 a10,.string s11,.slice none 0 0,.slice none 0 0]] w fun e w'=>e=.returned (.bool false)∧Below w.heap.size w w':=
 ((callsIn_wide (n:= 1)).1 (zT Fence.wide 1 trivial rfl o a0 a1 a2 a3 A m c a5 a6 s7 a8 a9 a10 s11 w)).mono fun e w' ⟨h,o,h2⟩=>⟨h,by rw[h2];exact ai⟩
theorem xL{d:Nat}{v:Value}(hd:d≠6)(t:Array Value):results Tryz.f32 (t.setIfInBounds d v)=results Tryz.f32 t:=by
 simp[results,Tryz.results32,Array.getElem?_setIfInBounds_ne hd]
theorem uR(A:Option Addr)(c m:Nat)(ts:List Tab)(k:Nat)(lo nx:Int)(EA:Option Addr)(ec en:Nat)(es:List Ent)(w:World)(ht:aF w w.heap.size A ts)(hm:ts.length=m)(hs:aM ts)(hE:di w w.heap.size EA es)(hen:es.length=en)(hlo:dF ts k lo nx (es.map Ent.p))(h8:∀x∈es,x.chg.row.length≤8):
 Calls Tryz.prog 32 #[.agg #[.slice A m c,.slice none 0 0,.slice none 0 0,.slice none 0 0,.slice none 0 0,.slice none 0 0,.slice none 0 0,.slice none 0 0],.int .i64 k,.agg #[.int .i64 lo,.int .i64 nx,.slice EA en ec]] w fun e w'=>e=.returned (.bool true)∧Below w.heap.size w w':=by
 subst hm hen
 have h1:=hlo.log.EU
 have h2:=hlo.log.Im
 have h3:=hlo.top
 have hk:=hlo.lt
 have h5:=hlo.len'
 have g1:decide (lo<0)=false:=by simp;omega
 have g2:decide (nx<lo)=false:=by simp;omega
 have g3:decide (1099511627776<nx)=false:=by simp;omega
 have g4:decide (256<es.length)=false:=by simp;omega
 have g4i:decide ((256:Int)<(es.length:Int))=false:=by simp;omega
 have g5:decide ((k:Int)<0)=false:=by simp
 have g6:decide ((ts.length:Int)≤(k:Int))=false:=by simp;omega
 have g6n:decide (ts.length≤k)=false:=by simp;omega
 have HCG:Hid (∀u,Below w.heap.size w u→Calls Tryz.prog 72 #[.agg #[.slice A ts.length c,.slice none 0 0,.slice none 0 0,.slice none 0 0,.slice none 0 0,.slice none 0 0,.slice none 0 0,.slice none 0 0]] u fun e u'=>e=.returned (.bool true)∧Below u.heap.size u u'):=qh fun u hu=>(gF.nil (c:=c) ht hs hlo.cat).prog u hu
 have HT:=qh ht
 have HS:=qh hs
 have HE:=qh hE
 have HLO:=qh hlo
 have H8:=qh h8
 clear ht hs hE hlo h8
 go_enter_defers Tryz.func32,Tryz.ntmps32
 go_upto_region 2 with (fail)
 refine ah (P:=fun u=>Code.wp _ _ _ _ u) (R:=fun u=>Blk u w.heap.size 33 #[.slice A ts.length c,.slice none 0 0,.slice none 0 0,.slice none 0 0,.slice none 0 0,.slice none 0 0,.slice none 0 0,.slice none 0 0]∧Blk u (w.heap.size+1) 39 #[.int .i64 lo,.int .i64 nx,.slice EA es.length ec]∧Blk u (w.heap.size+2) 4 #[.bool false]∧Below w.heap.size w u) ⟨?_,?_,?_,?_⟩ ?_
 ·exact((Blk.new _ _ _).alloc _).alloc _
 ·exact(Blk.new' spA).alloc _
 ·exact Blk.new' spA
 ·exact ai
 rintro W ⟨hC,hL,hO,hbW⟩
 have HC:=qh hC
 have HL:=qh hL
 have HO:=qh hO
 have hcl:=hC.lt
 have hll:=hL.lt
 have hol:=hO.lt
 obtain⟨p0,p1,p2,p3,p4,p5,p6,p7⟩:=Cat.blk hC
 clear hC hL hO
 go_upto_region 4 with (go_at_call 72;(with_reducible refine(HCG.out _ hbW).mono ?_);rintro e w1 ⟨rfl,hb1⟩;clear p0 p1 p2 p3 p4 p5 p6 p7;obtain⟨p0,p1,p2,p3,p4,p5,p6,p7⟩:=Cat.blk (HC.out.below hb1 hcl))
 have hx1:Below w.heap.size w w1:=aa hbW hb1 hbW.size
 have HC1:=qh (HC.out.below hb1 hcl)
 have HL1:=qh (HL.out.below hb1 hll)
 have HO1:=qh (HO.out.below hb1 hol)
 have IL:=HC1.out.lt
 have oo:=HL1.out.lt
 have Xc:=HO1.out.lt
 have l0:=HL1.out.cell 0
 have l1:=HL1.out.cell 1
 have l2:=HL1.out.cell 2
 simp only[gE3]at l0 l1 l2
 clear p0 p1 p2 p3 p4 p5 p6 p7 g5 g6 g6n
 go_upto_region 7 with (fail)
 clear g1 g2 g3 g4 g4i
 go_loopw [48] (fun vi wr =>∃i:Nat,i≤es.length∧vi=.int .i64 i∧Below w1.heap.size w1 wr) (fun vi _=>es.length-(intOf vi).toNat)
 case atStart=>exact⟨0,Nat.zero_le _,rfl,Below.refl _ _⟩
 case round =>
  obtain⟨i,hi,rfl,hbr⟩:=hrel
  have hwz:=hbr.size
  have hxr:=aa hx1 hbr hx1.size
  clear l0 l1 l2
  have l0:=(HL1.out.below hbr oo).cell 0
  have l1:=(HL1.out.below hbr oo).cell 1
  have l2:=(HL1.out.below hbr oo).cell 2
  simp only[gE3]at l0 l1 l2
  by_cases hlt:i<es.length
  ·have hlt':decide (i<es.length)=true:=by simpa using hlt
   have kG:decide ((i:Int)<(es.length:Int))=true:=by simp;omega
   obtain⟨b5,o5,rfl,hb5,hc5⟩:=(HE.out.1.below hxr).get hlt
   obtain⟨q0,⟨q1,q2,q3,q4⟩,q5,⟨q6,q7,q8⟩,q9,⟨q10,q11,q12⟩,q13,q14⟩:=Ent.bZ hc5
   obtain⟨⟨f0,f1⟩,f2⟩:=HLO.out.off hlt
   have sS:=qh (fun(j:Nat) (hj:j<i)=>HLO.out.asc hlt hj)
   obtain⟨x,hx⟩:∃x,es[i]=x:=⟨_,rfl⟩
   rw[hx]at q0 q1 q2 q3 q4 q5 q6 q7 q8 q9 q10 q11 q12 f0 f1 f2 sS
   clear hx hc5
   have e1:decide (x.off<0)=false:=by simp;omega
   have e2:decide (nx≤x.off)=false:=by simp;omega
   have e3:(x.chg.table != (k:Int))=false:=by rw[f2];simp
   have e3d:decide (x.chg.table=(k:Int))=true:=by rw[f2];simp
   clear f2
   go_upto_region 9 with (fail)
   refine ah (P:=fun u=>Code.wp _ _ _ _ u) (R:=fun u=>Blk u wr.heap.size 56 (Ent.cells x).toArray∧Below wr.heap.size wr u) ⟨Blk.new _ _ _,by exact ai⟩ ?_
   clear q0 q1 q2 q3 q4 q5 q6 q7 q8 q9 q10 q11 q12 q13 q14
   rintro u ⟨hu,hbu⟩
   have hul:=hu.lt
   have HU:=qh hu
   obtain⟨c0,⟨c1,c2,c3,c4⟩,c5,⟨c6,c7,c8⟩,c9,⟨c10,c11,c12⟩,c13,c14⟩:=Ent.bZ (o:= 0) (x:=x) (w:=u) (b:=wr.heap.size) (fun j v hv=>by rw[Nat.zero_add,hu.cell];simpa using hv)
   simp only[Nat.zero_add]at c0 c1 c2 c3 c4 c5 c6 c7 c8 c9 c10 c11 c12 c13 c14
   have l1:=(hbu.cell (p:=⟨w.heap.size+1,1,none⟩) (show w.heap.size+1<wr.heap.size by omega)).trans l1
   have l2:=(hbu.cell (p:=⟨w.heap.size+1,2,none⟩) (show w.heap.size+1<wr.heap.size by omega)).trans l2
   have hk0:=az (w:=u) wr.heap.size hul
   have hk1:=az (w:=u) (w.heap.size+1) omA
   clear hu
   by_cases h0:0<i
   ·have hkz:decide ((0:Int)<(i:Int))=true:=by simp;omega
    have kZ:decide (0<i)=true:=by simpa using h0
    have oP:i-1<es.length:=by omega
    have nu:decide (i-1<es.length)=true:=by simpa using oP
    have hwrap:IntKind.i64.wrap ((i:Int)-1)=((i-1:Nat):Int):=by rw[show (i:Int)-1=((i-1:Nat):Int) by omega];exact IntWalk.i64_in _ omA
    obtain⟨b3,o3,he3,hb3,hc3⟩:=((HE.out.1.below hxr).below (hbu.mono hxr.size)).get oP
    injection he3 with he3
    injection he3 with he4 he5
    subst he4 he5
    have z0:=hc3 0 _ rfl
    have hz:=sS.out (i-1) omA
    obtain⟨y,hy⟩:∃y,es[i-1].off=y:=⟨_,rfl⟩
    rw[hy]at z0 hz
    simp only[Nat.add_zero]at z0
    have e4:decide (x.off≤y)=false:=by simp;omega
    have hk2:=az (w:=u) b5 omA
    clear hc3 hy h0
    refine af krA krA ?_;(repeat(go_big_quiet_step (fail)));refine wpQuiet_nil ?_;intro wq hq
    clear hk0 hk1 hk2 z0 hkz kZ nu hwrap e4 l0 l1 l2
    have hql:=hq.size
    clear c0 c1 c2 c3 c4 c5 c6 c7 c8 c9 c10 c11 c12 c13 c14
    obtain⟨c0,⟨c1,c2,c3,c4⟩,c5,⟨c6,c7,c8⟩,c9,⟨c10,c11,c12⟩,c13,c14⟩:=Ent.bZ (o:= 0) (x:=x) (w:=wq) (b:=wr.heap.size) (fun j v hv=>by rw[Nat.zero_add];refine(hq.cell (p:=⟨wr.heap.size,j,none⟩) hul).trans ?_;rw[HU.out.cell];simpa using hv)
    simp only[Nat.zero_add]at c0 c1 c2 c3 c4 c5 c6 c7 c8 c9 c10 c11 c12 c13 c14
    go_wp2_with (go_at_call 55;(with_reducible refine(xB _ _ _ _ _ _ _ _ _ _ _ _ _ _ _ _).mono ?_);rintro e w5 ⟨rfl,hb5⟩;clear c0 c1 c2 c3 c4 c5 c6 c7 c8 c9 c10 c11 c12 c13 c14;obtain⟨c0,⟨c1,c2,c3,c4⟩,c5,⟨c6,c7,c8⟩,c9,⟨c10,c11,c12⟩,c13,c14⟩:=Ent.bZ (o:= 0) (x:=x) (w:=w5) (b:=wr.heap.size) (fun j v hv=>by rw[Nat.zero_add];refine((hb5.cell (p:=⟨wr.heap.size,j,none⟩) eo).trans ((hq.cell (p:=⟨wr.heap.size,j,none⟩) hul).trans ?_));rw[HU.out.cell];simpa using hv);simp only[Nat.zero_add]at c0 c1 c2 c3 c4 c5 c6 c7 c8 c9 c10 c11 c12 c13 c14)
    go_roundw
    case rel=>exact⟨i+1,by omega,by go_num,aa (aa (aa hbr hbu hwz) hq (by have:=hbu.size;omega)) hb5 ep⟩
    case measure=>exact meA
   ·have hkz:decide ((0:Int)<(i:Int))=false:=by simp;omega
    have kZ:decide (0<i)=false:=by simpa using h0
    clear h0
    refine af krA krA ?_;(repeat(go_big_quiet_step (fail)));refine wpQuiet_nil ?_;intro wq hq
    clear hk0 hk1 hkz kZ l0 l1 l2
    have hql:=hq.size
    clear c0 c1 c2 c3 c4 c5 c6 c7 c8 c9 c10 c11 c12 c13 c14
    obtain⟨c0,⟨c1,c2,c3,c4⟩,c5,⟨c6,c7,c8⟩,c9,⟨c10,c11,c12⟩,c13,c14⟩:=Ent.bZ (o:= 0) (x:=x) (w:=wq) (b:=wr.heap.size) (fun j v hv=>by rw[Nat.zero_add];refine(hq.cell (p:=⟨wr.heap.size,j,none⟩) hul).trans ?_;rw[HU.out.cell];simpa using hv)
    simp only[Nat.zero_add]at c0 c1 c2 c3 c4 c5 c6 c7 c8 c9 c10 c11 c12 c13 c14
    go_wp2_with (go_at_call 55;(with_reducible refine(xB _ _ _ _ _ _ _ _ _ _ _ _ _ _ _ _).mono ?_);rintro e w5 ⟨rfl,hb5⟩;clear c0 c1 c2 c3 c4 c5 c6 c7 c8 c9 c10 c11 c12 c13 c14;obtain⟨c0,⟨c1,c2,c3,c4⟩,c5,⟨c6,c7,c8⟩,c9,⟨c10,c11,c12⟩,c13,c14⟩:=Ent.bZ (o:= 0) (x:=x) (w:=w5) (b:=wr.heap.size) (fun j v hv=>by rw[Nat.zero_add];refine((hb5.cell (p:=⟨wr.heap.size,j,none⟩) eo).trans ((hq.cell (p:=⟨wr.heap.size,j,none⟩) hul).trans ?_));rw[HU.out.cell];simpa using hv);simp only[Nat.zero_add]at c0 c1 c2 c3 c4 c5 c6 c7 c8 c9 c10 c11 c12 c13 c14)
    go_roundw
    case rel=>exact⟨i+1,by omega,by go_num,aa (aa (aa hbr hbu hwz) hq (by have:=hbu.size;omega)) hb5 ep⟩
    case measure=>exact meA
  ·have hlt':decide (i<es.length)=false:=by simpa using hlt
   have kG:decide ((i:Int)<(es.length:Int))=false:=by simp;omega
   have HCr:=qh (HC1.out.below hbr IL)
   have HOr:=qh (HO1.out.below hbr Xc)
   have HLr:=qh (HL1.out.below hbr oo)
   obtain⟨p0,p1,p2,p3,p4,p5,p6,p7⟩:=Cat.blk HCr.out
   have hbd:Below w.heap.size w wr.drew:=hxr.trans ((brf.drew).mono hxr.size)
   clear l0 l1
   go_upto_region 17 with (fail)
   refine wp_region_held_drew (S:=fun u=>(u.cell? ⟨w.heap.size,0,none⟩=some (.slice A ts.length c)∧u.cell? ⟨w.heap.size,1,none⟩=some (.slice none 0 0)∧u.cell? ⟨w.heap.size,2,none⟩=some (.slice none 0 0)∧u.cell? ⟨w.heap.size,3,none⟩=some (.slice none 0 0)∧u.cell? ⟨w.heap.size,4,none⟩=some (.slice none 0 0)∧u.cell? ⟨w.heap.size,5,none⟩=some (.slice none 0 0)∧u.cell? ⟨w.heap.size,6,none⟩=some (.slice none 0 0)∧u.cell? ⟨w.heap.size,7,none⟩=some (.slice none 0 0))∧u.cell? ⟨w.heap.size+1,2,none⟩=some (.slice EA es.length ec)) krA ⟨⟨p0,p1,p2,p3,p4,p5,p6,p7⟩,l2⟩ (fun hHeld =>?_)
   refine tkH 0 hHeld ?_ (hQ:=by exact fun c a w h=>fJ (d:= 92) (xL (by decide)) c a w h)
   refine tkH 1 hHeld ?_ (hQ:=by exact fun c a w h=>fJ (d:= 93) (xL (by decide)) c a w h)
   refine tkH 2 hHeld ?_ (hQ:=by exact fun c a w h=>fJ (d:= 94) (xL (by decide)) c a w h)
   refine wpAnyH_ready (rs:= [3]) krA spA ?_
   refine AllReadyH.cons rfl (fun K hK =>?_) AllReadyH.nil
   go_simp
   (go_at_call 34;(with_reducible refine(jW EA ec es _ (HE.out.next hbd) omA H8.out).mono ?_);rintro e w2 ⟨⟨LA,lc,l,rfl,hlm,hlo2⟩,hb2⟩)
   have hx2:Below w.heap.size w w2:=aa hbd hb2 hbd.size
   have mP:=qh hlo2
   have qX:=qh (HLO.out.Te hlm)
   have jZ:Below wr.heap.size wr w2:=brf.drew.trans hb2
   have HS2:Hid (_∧_):=qh ⟨Cat.blk (HCr.out.below jZ HCr.out.lt),(jZ.cell (p:=⟨w.heap.size+1,2,none⟩) (show w.heap.size+1<wr.heap.size by omega)).trans l2⟩
   clear hlm hlo2 p0 p1 p2 p3 p4 p5 p6 p7 l2
   go_wp2_with fail
   refine hK.out _ _ HS2.out (fun hHeld =>?_)
   clear hK K
   (try simp only[Act.put,gP6])
   refine wpAnyH_ready (rs:= [4]) krA spA ?_
   refine AllReadyH.cons rfl (fun K hK =>?_) AllReadyH.nil
   go_simp
   (go_at_call 60;(with_reducible refine(sW A c ts.length ts LA lc l.length l _ (HT.out.next hx2) rfl HS.out mP.out.read rfl qX.out).mono ?_);rintro e w3 ⟨rfl,hb3⟩)
   have hx3:Below w.heap.size w w3:=aa hx2 hb3 hx2.size
   have Dq:Below wr.heap.size wr w3:=aa jZ hb3 jZ.size
   have HO3:=qh (HOr.out.below Dq HOr.out.lt)
   have HC3:=qh (HCr.out.below Dq HCr.out.lt)
   have HL3:=qh (HLr.out.below Dq HLr.out.lt)
   have k0:=HO3.out.cell 0
   have k0f:=HO3.out.frozen 0
   have k0l:=HO3.out.lt
   simp only[gE3]at k0
   have HS3:=qh (show (_∧_) from ⟨Cat.blk HC3.out,(hb3.cell (p:=⟨w.heap.size+1,2,none⟩) (show w.heap.size+1<w2.heap.size by have:=jZ.size;omega)).trans HS2.out.2⟩)
   go_wp2_with fail
   refine hK.out _ _ HS3.out (fun hHeld =>?_)
   clear hK K
   (try simp only[Act.put,gP6])
   refine wpAnyH_ready (rs:= [5]) krA spA ?_
   refine AllReadyH.cons rfl (fun K hK =>?_) AllReadyH.nil
   go_simp
   have HS4:=qh (show (_∧_) from ⟨Cat.blk (HC3.out.far (p:=⟨w.heap.size+2,0,none⟩) spA (.bool true)),(HL3.out.far (p:=⟨w.heap.size+2,0,none⟩) spA (.bool true)).cell 2⟩)
   refine hK.out _ _ HS4.out (fun hHeld =>?_)
   clear hK K
   (try simp only[Act.put,gP6])
   refine wpAnyH_done krA ?_ _
   clear hHeld
   go_wp2_with fail
   have hc:(w3.setCell ⟨w.heap.size+2,0,none⟩ (.bool true)).cell? ⟨w.heap.size+2,0,none⟩=some (.bool true):=World.cell?_setCell_same' _ _ _ (by rw[k0];rfl)
   refine leaves_cons (f:= 71) (args:= #[.pointer (some ⟨w.heap.size+2,0,none⟩)]) spA (by simp[go_sem]) ?_
   refine(zA _ _).mono ?_
   rintro e u' w'' ⟨rfl,rfl,rfl⟩
   refine⟨.bool true,by simp[results,Tryz.results32,go_sem,hc],rfl,hx3.setCell (by show w.heap.size≤w.heap.size+2;omega) _⟩
end Go.Proofs.YtjidligipoldeaaGreat
