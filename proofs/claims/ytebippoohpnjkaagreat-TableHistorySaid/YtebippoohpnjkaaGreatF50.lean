/-
  Contracts and plain laws of this seat, part 50.
-/
import Derived.Test.YtebippoohpnjkaaGreatF48
import Derived.Test.YtebippoohpnjkaaGreatF20
set_option linter.unusedVariables false
set_option linter.unusedSimpArgs false
set_option maxRecDepth 100000
set_option maxHeartbeats 16000000
namespace Go.Proofs.YtebippoohpnjkaaGreat
open Go.RowKit Go
theorem Ro{α:Type}{enc:α→List Value}{s c base g m:Nat}{w:World}{e:TypeId}{l:List α} (hk:∀x,(enc x).length=s)(h:ax w base e enc s (.slice (some ⟨g,0,none⟩) l.length c) l)(hm:m≤l.length):ax w base e enc s (.slice (some ⟨g,0,none⟩) m c) (l.take m):=by
 have hml:(l.take m).length=m:=by rw[List.length_take];omega
 have hf:(l.take m).flatMap enc=(l.flatMap enc).take (m*s):=by
  have h1:l.flatMap enc=(l.take m).flatMap enc++(l.drop m).flatMap enc:=by rw[← List.flatMap_append,List.take_append_drop]
  rw[h1,List.take_left' (by rw[dA hk,hml])]
 refine ⟨by rw[dA hk],?_⟩
 rcases h.2 with ⟨h1,_⟩|⟨g',cap,cur,hv,hb,hg,hn,hmx,hs,ht⟩
 ·cases h1
 ·injection hv with h1 h2 h3
  injection h1 with h1
  injection h1 with h1
  subst h1 h3
  refine .inr ⟨g,c,cur,by rw[hml],hb,hg,by rw[hml];omega,hmx,hs,?_⟩
  rw[hml,hf,← ht,List.take_take,Nat.min_eq_left (Nat.mul_le_mul_right _ hm)]
theorem fh{P:Prop}(h:P:=by simp[Chg.cells]):P:=h
theorem fi{P:Prop}(h:P:=by simpa using hi):P:=h
theorem OJ{P:Prop}(h:P:=by
 (
 refine aY (S:=(fun _=>True)) [] krA trivial (fun hHeld =>?_)
 refine tkT 0 hHeld ?_
 refine tkT 1 hHeld ?_
 refine tkT 2 hHeld ?_
 refine tkT 3 hHeld ?_
 refine tkT 4 hHeld ?_
 refine tkT 5 hHeld ?_
 refine tkT 6 hHeld ?_
 refine r1T 7 (fun K hK =>?_)
 (refine aC _ rfl (.tmp 34) (.tmp 38) 44 rfl 64 ic _ Chg.cells 12 128 Tryz.underlying44 hic sV sU sS rfl omA bS tQ w.heap.size (.slice (some ⟨b1,0,none⟩) r1 cap) (l.take r1) rfl (by first|exact HT3.out|exact HT3.out.drew) _ _ _ (l.drop (r1+1)) rfl spA (by first|exact hcut|exact(hcut).next ak) smA mxA (by first|omega|(simp;omega)) ?_;intro v6 w6 hown' hg' hat')
 have hg6:w3.grownBy w6 (some b1):=by first|exact hg'|exact az (au _ brf.drew) hg'
 obtain⟨A6,c6,hv6,_,_⟩:=hown'.form
 obtain⟨n6,hn6⟩:∃n6,n6=(l.take r1++l.drop (r1+1)).length:=⟨_,rfl⟩
 rw[←hn6]at hv6
 subst hv6
 have HN6:=qh hn6
 clear hn6
 have HOWN':=qh hown'
 have HG6:=qh hg6
 clear hown' hg' hat' hg6
 refine hK.out _ _ _ trivial (fun hHeld =>?_)
 clear hK K
 refine tkT 8 hHeld ?_
 refine bE krA ?_ _
 clear hHeld
 go_wp2_with fail
 go_ret
 have hgw:w.grownBy w6 (some g):=gu HS3.out.grow.grown HG6.out (bR hbb (o:= 0) (n:= 0) (c:= 0))
 have hn6:=HN6.out
 subst hn6
 exact⟨A6,c6,l.take r1++l.drop (r1+1),rfl,by simp;omega,⟨HOWN'.out.mono hbase,fun x hx=>by
  have hin:x∈l:=by
   rcases List.mem_append.1 hx with h|h
   ·exact List.mem_of_mem_take h
   ·exact List.mem_of_mem_drop h
  exact HE.out _ hgw x hin,fun x hx=>by
  have hin:x∈l:=by
   rcases List.mem_append.1 hx with h|h
   ·exact List.mem_of_mem_take h
   ·exact List.mem_of_mem_drop h
  exact HS3.out.len x hin⟩,HS3.out.grow.tape.uM HG6.out inA inA,hgw⟩)):P:=h
structure zD (w:World) (base:Nat) (A:Option Addr) (c:Nat) (l:List Chg):Prop where
 own:ax w base 64 Chg.cells 12 (.slice A l.length c) l
 rows:∀x∈l,ax w base 62 Val.cells 3 (.slice x.A x.row.length x.cap) x.row
 len:∀x∈l,x.row.length≤9
theorem zD.kept{w w':World}{base g:Nat}{A:Option Addr}{c:Nat}{l:List Chg}(h:zD w base A c l)(hg:w.grownBy w' (some g))(hb:g<base):zD w' base A c l:=
 ⟨h.own.kept hg fun q hq e=>by have:=h.own.row q hq;injection e with e;omega,fun x hx=>(h.rows x hx).kept hg fun q hq e=>by have:=(h.rows x hx).row q hq;injection e with e;omega,h.len⟩
theorem zD.read{w:World}{base:Nat}{A:Option Addr}{c:Nat}{l:List Chg}(h:zD w base A c l):dh w w.heap.size A l:=⟨gQ bS h.own,fun x hx=>gQ bP (h.rows x hx)⟩
def GG(w:World)(base g b n:Nat)(e:Ending)(w':World):Prop:= ∃A' c' out,e=.returned (.slice A' out.length c')∧out.length≤n+1∧zD w' base A' c' out∧aO w' g b∧w.grownBy w' (some g)
theorem M8{w:World}{q:Nat}{e:TypeId}{cs:Array Value}(h:w.heap[q]?=some (.cells cs e))(p:Nat)(z:Value):∃cs,(w.setCell ⟨q,p,none⟩ z).heap[q]?=some (.cells cs e):=
 ⟨_,Blk.bM (show Blk w q e cs from h) p z⟩
theorem OB:64≠62:=by decide
theorem ax.PW{w:World}{base g cap i:Nat}{l:List Chg}(h:ax w base 64 Chg.cells 12 (.slice (some ⟨g,0,none⟩) l.length cap) l)(hi:i<l.length)(x:Chg):
 ax ((((((((((((w.setCell ⟨g,i*12,none⟩ (.int .i64 x.kind)).setCell ⟨g,i*12+1,none⟩ (.int .i64 x.seq)).setCell ⟨g,i*12+2,none⟩ (.int .i64 x.day)).setCell ⟨g,i*12+3,none⟩ (.int .i64 x.table)).setCell ⟨g,i*12+4,none⟩ (.slice x.A x.row.length x.cap)).setCell ⟨g,i*12+5,none⟩ (.int .i64 x.key.kind)).setCell ⟨g,i*12+6,none⟩ (.int .i64 x.key.num)).setCell ⟨g,i*12+7,none⟩ (.string x.key.text)).setCell ⟨g,i*12+8,none⟩ (.int .i64 x.column)).setCell ⟨g,i*12+9,none⟩ (.int .i64 x.val.kind)).setCell ⟨g,i*12+10,none⟩ (.int .i64 x.val.num)).setCell ⟨g,i*12+11,none⟩ (.string x.val.text)) base 64 Chg.cells 12 (.slice (some ⟨g,0,none⟩) l.length cap) (l.set i x):=by
 have h0:=h.dJ bS rfl (i:=i) hi ⟨x.kind,l[i].seq,l[i].day,l[i].table,l[i].A,l[i].cap,l[i].row,l[i].key,l[i].column,l[i].val⟩ (j:= 0) (o:=i*12) (u:= .int .i64 x.kind) omA rfl rfl
 have h1:=h0.dJ bS spA (i:=i) fi ⟨x.kind,x.seq,l[i].day,l[i].table,l[i].A,l[i].cap,l[i].row,l[i].key,l[i].column,l[i].val⟩ (j:= 1) (o:=i*12+1) (u:= .int .i64 x.seq) omA rfl fh
 have h2:=h1.dJ bS spA (i:=i) fi ⟨x.kind,x.seq,x.day,l[i].table,l[i].A,l[i].cap,l[i].row,l[i].key,l[i].column,l[i].val⟩ (j:= 2) (o:=i*12+2) (u:= .int .i64 x.day) omA rfl fh
 have h3:=h2.dJ bS spA (i:=i) fi ⟨x.kind,x.seq,x.day,x.table,l[i].A,l[i].cap,l[i].row,l[i].key,l[i].column,l[i].val⟩ (j:= 3) (o:=i*12+3) (u:= .int .i64 x.table) omA rfl fh
 have h4:=h3.dJ bS spA (i:=i) fi ⟨x.kind,x.seq,x.day,x.table,x.A,x.cap,x.row,l[i].key,l[i].column,l[i].val⟩ (j:= 4) (o:=i*12+4) (u:= .slice x.A x.row.length x.cap) omA rfl fh
 have h5:=h4.dJ bS spA (i:=i) fi ⟨x.kind,x.seq,x.day,x.table,x.A,x.cap,x.row,⟨x.key.kind,l[i].key.num,l[i].key.text⟩,l[i].column,l[i].val⟩ (j:= 5) (o:=i*12+5) (u:= .int .i64 x.key.kind) omA rfl fh
 have h6:=h5.dJ bS spA (i:=i) fi ⟨x.kind,x.seq,x.day,x.table,x.A,x.cap,x.row,⟨x.key.kind,x.key.num,l[i].key.text⟩,l[i].column,l[i].val⟩ (j:= 6) (o:=i*12+6) (u:= .int .i64 x.key.num) omA rfl fh
 have h7:=h6.dJ bS spA (i:=i) fi ⟨x.kind,x.seq,x.day,x.table,x.A,x.cap,x.row,x.key,l[i].column,l[i].val⟩ (j:= 7) (o:=i*12+7) (u:= .string x.key.text) omA rfl fh
 have h8:=h7.dJ bS spA (i:=i) fi ⟨x.kind,x.seq,x.day,x.table,x.A,x.cap,x.row,x.key,x.column,l[i].val⟩ (j:= 8) (o:=i*12+8) (u:= .int .i64 x.column) omA rfl fh
 have h9:=h8.dJ bS spA (i:=i) fi ⟨x.kind,x.seq,x.day,x.table,x.A,x.cap,x.row,x.key,x.column,⟨x.val.kind,l[i].val.num,l[i].val.text⟩⟩ (j:= 9) (o:=i*12+9) (u:= .int .i64 x.val.kind) omA rfl fh
 have h10:=h9.dJ bS spA (i:=i) fi ⟨x.kind,x.seq,x.day,x.table,x.A,x.cap,x.row,x.key,x.column,⟨x.val.kind,x.val.num,l[i].val.text⟩⟩ (j:= 10) (o:=i*12+10) (u:= .int .i64 x.val.num) omA rfl fh
 have h11:=h10.dJ bS spA (i:=i) fi ⟨x.kind,x.seq,x.day,x.table,x.A,x.cap,x.row,x.key,x.column,x.val⟩ (j:= 11) (o:=i*12+11) (u:= .string x.val.text) omA rfl fh
 simpa only[List.set_set]using h11
structure SpH (w:World) (g b base b1 cap:Nat) (l:List Chg) (u:World):Prop where
 own:ax u w.heap.size 64 Chg.cells 12 (.slice (some ⟨b1,0,none⟩) l.length cap) l
 rows:∀x∈l,ax u base 62 Val.cells 3 (.slice x.A x.row.length x.cap) x.row
 len:∀x∈l,x.row.length≤9
 grow:aL w g b u
section
variable {w u v:World}{g b base b1 cap n:Nat}{l:List Chg}
theorem SpH.below(h:SpH w g b base b1 cap l u)(hb:Below u.heap.size u v):SpH w g b base b1 cap l v:=
 ⟨h.own.below hb nlr,fun x hx=>(h.rows x hx).below hb nlr,h.len,h.grow.below hb⟩
theorem SpH.call(h:SpH w g b base b1 cap l u)(hg:g<base)(hb:base≤w.heap.size)(hk:aO v g b)(hv:u.grownBy v (some g)):SpH w g b base b1 cap l v:=
 ⟨h.own.kept hv fun q hq e=>by have:=h.own.row q hq;injection e with e;omega,fun x hx=>(h.rows x hx).kept hv fun q hq e=>by have:=(h.rows x hx).row q hq;injection e with e;omega,h.len,h.grow.call hk hv⟩
theorem SpH.cell(h:SpH w g b base b1 cap l u)(hg:g<w.heap.size)(hb:b<w.heap.size)(p:Nat)(y:Value):(∀x∈l,ax (u.setCell ⟨b1,p,none⟩ y) base 62 Val.cells 3 (.slice x.A x.row.length x.cap) x.row)∧aL w g b (u.setCell ⟨b1,p,none⟩ y):=by
 obtain⟨cs,hc⟩:=h.own.typ (q:=b1) rfl
 exact⟨fun x hx=>(h.rows x hx).iG hc OB _,h.grow.far (h.own.row b1 rfl) hb hg _⟩
theorem SpH.set(h:SpH w g b base b1 cap l u)(hg:g<w.heap.size)(hb:b<w.heap.size){i j:Nat}(hi:i<l.length)(x:Chg)(hj:j<12){y:Value}(hx:Chg.cells x=(Chg.cells l[i]).set j y)(hr:x.A=l[i].A∧x.cap=l[i].cap∧x.row=l[i].row):SpH w g b base b1 cap (l.set i x) (u.setCell ⟨b1,i*12+j,none⟩ y):=by
 obtain⟨h1,h2⟩:=h.cell hg hb (i*12+j) y
 obtain⟨e1,e2,e3⟩:=hr
 refine⟨by simpa using h.own.dJ bS rfl hi x hj rfl hx,fun z hz =>?_,fun z hz =>?_,h2⟩
 ·rcases List.mem_or_eq_of_mem_set hz with h3|rfl
  ·exact h1 z h3
  ·rw[e1,e2,e3];exact h1 _ (lgm hi)
 ·rcases List.mem_or_eq_of_mem_set hz with h3|rfl
  ·exact h.len z h3
  ·rw[e3];exact h.len _ (lgm hi)
theorem SpH.put(h:SpH w g b base b1 cap l u)(hg:g<w.heap.size)(hb:b<w.heap.size){i:Nat}(hi:i<l.length)(x:Chg)(hx:ax u base 62 Val.cells 3 (.slice x.A x.row.length x.cap) x.row)(hl:x.row.length≤9):SpH w g b base b1 cap (l.set i x) ((((((((((((u.setCell ⟨b1,i*12,none⟩ (.int .i64 x.kind)).setCell ⟨b1,i*12+1,none⟩ (.int .i64 x.seq)).setCell ⟨b1,i*12+2,none⟩ (.int .i64 x.day)).setCell ⟨b1,i*12+3,none⟩ (.int .i64 x.table)).setCell ⟨b1,i*12+4,none⟩ (.slice x.A x.row.length x.cap)).setCell ⟨b1,i*12+5,none⟩ (.int .i64 x.key.kind)).setCell ⟨b1,i*12+6,none⟩ (.int .i64 x.key.num)).setCell ⟨b1,i*12+7,none⟩ (.string x.key.text)).setCell ⟨b1,i*12+8,none⟩ (.int .i64 x.column)).setCell ⟨b1,i*12+9,none⟩ (.int .i64 x.val.kind)).setCell ⟨b1,i*12+10,none⟩ (.int .i64 x.val.num)).setCell ⟨b1,i*12+11,none⟩ (.string x.val.text)):=by
 have h1:=h.own.PW hi x
 have hall:∀v:World,(∃cs,v.heap[b1]?=some (.cells cs 64))∧aL w g b v∧(∀y,(y∈l∨y=x)→ax v base 62 Val.cells 3 (.slice y.A y.row.length y.cap) y.row)→∀p z,(∃cs,(v.setCell ⟨b1,p,none⟩ z).heap[b1]?=some (.cells cs 64))∧aL w g b (v.setCell ⟨b1,p,none⟩ z)∧(∀y,(y∈l∨y=x)→ax (v.setCell ⟨b1,p,none⟩ z) base 62 Val.cells 3 (.slice y.A y.row.length y.cap) y.row):=by
  rintro v ⟨⟨cs,hc⟩,hgw,hr⟩ p z
  exact⟨M8 hc p z,hgw.far (h.own.row b1 rfl) hb hg _,fun y hy=>(hr y hy).iG hc OB _⟩
 have h0:=hall _ (hall _ (hall _ (hall _ (hall _ (hall _ (hall _ (hall _ (hall _ (hall _ (hall _ (hall u ⟨h.own.typ (q:=b1) rfl,h.grow,fun y hy=>by
  rcases hy with hy|rfl
  ·exact h.rows y hy
  ·exact hx⟩ (i*12) (.int .i64 x.kind)) (i*12+1) (.int .i64 x.seq)) (i*12+2) (.int .i64 x.day)) (i*12+3) (.int .i64 x.table)) (i*12+4) (.slice x.A x.row.length x.cap)) (i*12+5) (.int .i64 x.key.kind)) (i*12+6) (.int .i64 x.key.num)) (i*12+7) (.string x.key.text)) (i*12+8) (.int .i64 x.column)) (i*12+9) (.int .i64 x.val.kind)) (i*12+10) (.int .i64 x.val.num)) (i*12+11) (.string x.val.text)
 refine⟨by simpa using h1,fun z hz =>?_,fun z hz =>?_,h0.2.1⟩
 ·rcases List.mem_or_eq_of_mem_set hz with h3|rfl
  ·exact h0.2.2 z (.inl h3)
  ·exact h0.2.2 _ (.inr rfl)
 ·rcases List.mem_or_eq_of_mem_set hz with h3|rfl
  ·exact h.len z h3
  ·exact hl
theorem SpH.fin(h:SpH w g b base b1 cap l u)(hb:base≤w.heap.size)(hn:l.length≤n+1){e:Ending}(he:e=.returned (.slice (some ⟨b1,0,none⟩) l.length cap)):GG w base g b n e u:=
 ⟨_,cap,l,he,hn,⟨h.own.mono hb,h.rows,h.len⟩,h.grow.tape,h.grow.grown⟩
end
theorem ja(g b base:Nat)(A:Option Addr)(c n:Nat)(l:List Chg)(w:World)(hk:aO w g b)(hl:qz w base A c l)(hgb:g<base)(hbase:base≤w.heap.size)(hln:l.length=n)(hn:n≤100000):
 Calls Tryz.prog 23 #[.pointer (some ⟨g,0,none⟩),.slice A n c] w (GG w base g b n):=by
 subst hln
 obtain⟨ic,hic,sV,sU,sS⟩:=info_parts Ba
 have hgl:=hk.ltg
 have hbl:=hk.lt
 have HK:=qh hk
 have HE:Hid (∀v,w.grownBy v (some g)→∀x∈l,ax v base 62 Val.cells 3 (.slice x.A x.row.length x.cap) x.row):=qh fun v hv=>(hl.kept hv hgb).rows
 have HLEN:Hid (∀x∈l,x.row.length≤8):=qh hl.len
 have HL:=qh hl.read.1
 clear hk hl
 by_cases h0:l.length=0
 ·have h0':((l.length:Int) == 0)=true:=by rw[h0];rfl
  clear hic sV sU sS
  go_enter Tryz.func23,Tryz.ntmps23
  go_wp2
  go_ret
  refine⟨_,_,[⟨0,0,0,0,none,0,[],⟨0,0,⟨#[]⟩⟩,0,⟨0,0,⟨#[]⟩⟩⟩],rfl,by simp,⟨(ax.one (Blk.new' rfl) nlr bS).mono hbase,fun x hx =>?_,fun x hx =>?_⟩,HK.out.alloc _,aN ak _⟩
  ·obtain rfl:=List.mem_singleton.1 hx
   exact ax.nil
  ·obtain rfl:=List.mem_singleton.1 hx
   simp
 ·have h0':((l.length:Int) == 0)=false:=by rw[beq_eq_false_iff_ne];omega
  go_enter Tryz.func23,Tryz.ntmps23
  go_upto_region 3 with (fail)
  go_upto_region 4 with ((at_builtin;go_must (refine aK _ rfl (.tmp 12) (.tmp 13) 44 rfl 64 ic _ Chg.cells 12 128 Tryz.underlying44 hic sV sU sS rfl omA bS tQ w.heap.size (.slice (some ⟨w.heap.size,0,none⟩) 0 0) [] rfl (ax.empty (Blk.new' rfl) nlr) _ _ _ l rfl rfl (HL.out.next ak) smA mxA spA ?_);intro v' w1 hown' hg' hat';have hbel:Below w.heap.size w w1:=Below.grown ak hg' spA (bR nlr);rw[List.nil_append]at hown';obtain⟨b1,cap,rfl,hbb⟩:=hat'.elim (fun h=>hown'.gW h) (fun h=>hown'.gW h);have HOWN':=qh hown';clear hown'))
  have HS1:=qh (SpH.mk (w:=w) (g:=g) (b:=b) (base:=base) (b1:=b1) (cap:=cap) (l:=l) (u:=w1) HOWN'.out (HE.out w1 (aN hbel _)) (fun x hx=>by have:=HLEN.out x hx;omega) ⟨HK.out.below hbel,au _ hbel⟩)
  clear hg' hat' HK HL HOWN'
  go_wp2_with fail
  with_reducible refine(aA g b (l.length:Int) _ HS1.out.grow.tape omA omA).mono ?_
  rintro e w2 ⟨r1,rfl,hr1,hk2,hg2⟩
  have hr1':r1<l.length:=by rcases hr1 with h|h<;>omega
  have HS2:=qh (HS1.out.call hgb hbase hk2 hg2)
  clear HS1 hg2 hk2 hr1
  go_wp2_with fail
  with_reducible refine(aA g b 6 _ HS2.out.grow.tape omA omA).mono ?_
  rintro e w3 ⟨r2,rfl,hr2,hk3,hg3⟩
  have hr2':r2<6:=by rcases hr2 with h|h<;>omega
  have HS3:=qh (HS2.out.call hgb hbase hk3 hg3)
  have hb1:=HS3.out.own.F6
  have hz3:=HS3.out.grow.size
  clear HS2 hg3 hk3 hr2
  rcases(show r2=0∨r2=1∨r2=2∨r2=3∨r2=4∨r2=5 by omega) with rfl|rfl|rfl|rfl|rfl|rfl
  ·have hcap:=sF HS3.out.own
   have HT3:Hid (ax w3 w.heap.size 64 Chg.cells 12 (.slice (some ⟨b1,0,none⟩) r1 cap) (l.take r1)):=qh (Ro bS HS3.out.own omA)
   have hrc:r1≤cap:=by omega
   have WA:r1+1≤cap:=by omega
   have hjw:IntKind.i64.wrap ((r1:Int)+1)=((r1+1:Nat):Int):=by rw[show (r1:Int)+1=((r1+1:Nat):Int) by omega];exact IntWalk.i64_in _ omA
   have hi1:(r1:Int)≤(r1:Int)+1:=by omega
   have hi2:(0:Int)≤(r1:Int)+1:=by omega
   have hi3:(r1:Int)+1≤(l.length:Int):=by omega
   have HR3:=qh (gQ bS HS3.out.own)
   go_upto_region 8 with (fail)
   by_cases hcm:cap=r1+1
   ·have hcut:ah w3 w3.heap.size Chg.cells 12 (some ⟨b1,0,none⟩) (l.drop (r1+1)):=by
     rw[List.drop_eq_nil_of_le omA]
     exact ah.nil
    have hcm':=eq_true hcm
    clear hcm
    exact OJ
   ·have hcut:ah w3 w3.heap.size Chg.cells 12 (some ⟨b1,(r1+1)*12,none⟩) (l.drop (r1+1)):=by have h:=HR3.out.cut (c:=cap) (r1+1) omA;rw[if_neg hcm]at h;simpa using h
    exact OJ
  ·have h00:0<l.length:=by omega
   have Xp:decide (0<l.length)=true:=by simpa using h00
   have Xo:decide ((0:Int)<(l.length:Int))=true:=by simp;omega
   obtain⟨⟨q0,q1,q2,q3⟩,q4,⟨q5,q6,q7⟩,q8,q9,q10,q11⟩:=Chg.dE (b:=b1) (o:=r1*12) (x:=l[r1]) (fun j u hu=>HS3.out.own.pE bS hr1' hu)
   obtain⟨⟨f0,f1,f2,f3⟩,f4,⟨f5,f6,f7⟩,f8,f9,f10,f11⟩:=Chg.dE (b:=b1) (o:= 0) (x:=l[0]) (fun j u hu=>by have h:=HS3.out.own.pE bS h00 hu;rw[Nat.zero_mul]at h;exact h)
   simp only[Nat.zero_add]at f0 f1 f2 f3 f4 f5 f6 f7 f8 f9 f10 f11
   obtain⟨⟨kd,sq,dy,tb,A0,cp,row,key,cl,vl⟩,hx⟩:∃x:Chg,l[r1]=x:=⟨_,rfl⟩
   obtain⟨⟨pk,ps,pd,pt,PA,pp,qp,uA,pc,pv⟩,hy⟩:∃x:Chg,l[0]=x:=⟨_,rfl⟩
   have HX:=qh hx
   have HY:=qh hy
   rw[hx]at q0 q1 q2 q3 q4 q5 q6 q7 q8 q9 q10 q11
   rw[hy]at f0 f1 f2 f3 f4 f5 f6 f7 f8 f9 f10 f11
   simp only at q0 q1 q2 q3 q4 q5 q6 q7 q8 q9 q10 q11
   simp only at f0 f1 f2 f3 f4 f5 f6 f7 f8 f9 f10 f11
   have hfz:∀j,w3.frozen? ⟨b1,j,none⟩=false:=fun j=>HS3.out.own.frz j
   have HRY:Hid (ax w3 base 62 Val.cells 3 (.slice PA qp.length pp) qp):=qh (by have h:=HS3.out.rows l[0] (lgm h00);rw[hy]at h;exact h)
   have HRX:Hid (∀v,w.grownBy v (some g)→ax v base 62 Val.cells 3 (.slice A0 row.length cp) row):=qh fun v hv=>by have h:=HE.out v hv l[r1] (lgm hr1');rw[hx]at h;exact h
   have HLY:Hid (qp.length≤9):=qh (by have h:=HS3.out.len l[0] (lgm h00);rw[hy]at h;exact h)
   have HLX:Hid (row.length≤9):=qh (by have h:=HS3.out.len l[r1] (lgm hr1');rw[hx]at h;exact h)
   clear hx hy
   go_upto_region 10 with (fail)
   refine aY (S:=(fun _=>True)) [] krA trivial (fun hHeld =>?_)
   refine tkT 0 hHeld ?_
   refine tkT 1 hHeld ?_
   refine tkT 2 hHeld ?_
   refine tkT 3 hHeld ?_
   refine tkT 4 hHeld ?_
   refine tkT 6 hHeld ?_
   refine tkT 7 hHeld ?_
   refine tkT 8 hHeld ?_
   refine r2T 5 9 (fun K hK =>?_) (fun K hK =>?_)
   ·go_simp
    refine hK.out _ _ _ trivial (fun hHeld =>?_)
    clear hK K
    refine r1T 9 (fun K hK =>?_)
    go_simp
    refine hK.out _ _ _ trivial (fun hHeld =>?_)
    clear hK K
    (
    refine tkT 10 hHeld ?_
    refine r1T 11 (fun K hK =>?_)
    go_simp
    refine hK.out _ _ _ trivial (fun hHeld =>?_)
    clear hK K hHeld f0 f1 f2 f3 f4 f5 f6 f7 f8 f9 f10 f11 q0 q1 q2 q3 q4 q5 q6 q7 q8 q9 q10 q11 hfz
    have h5:=(HS3.out.put hgl hbl hr1' ⟨pk,ps,pd,pt,PA,pp,qp,uA,pc,pv⟩ HRY.out HLY.out).below brf.drew
    refine ai (P:=fun u=>wpT _ _ _ _ _ _ _ _ _ u) (R:=fun u=>SpH w g b base b1 cap (l.set r1 ⟨pk,ps,pd,pt,PA,pp,qp,uA,pc,pv⟩) u) (by with_reducible exact h5) ?_
    clear h5
    intro u5 hS5
    obtain⟨l5,hl5⟩:∃l5,l.set r1 (⟨pk,ps,pd,pt,PA,pp,qp,uA,pc,pv⟩:Chg)=l5:=⟨_,rfl⟩
    have CV:l5.length=l.length:=by rw[←hl5];simp
    rw[hl5]at hS5
    clear hl5
    have h05:0<l5.length:=by omega
    obtain⟨⟨q0,q1,q2,q3⟩,q4,⟨q5,q6,q7⟩,q8,q9,q10,q11⟩:=Chg.dE (b:=b1) (o:= 0) (x:=l5[0]) (fun j u hu=>by have h:=hS5.own.pE bS h05 hu;rw[Nat.zero_mul]at h;exact h)
    obtain⟨⟨mk,ms,md,mt,MA,mp,Ui,Uj,mc,mv⟩,hm⟩:∃x:Chg,l5[0]=x:=⟨_,rfl⟩
    rw[hm]at q0 q1 q2 q3 q4 q5 q6 q7 q8 q9 q10 q11
    simp only[Nat.zero_add]at q0 q1 q2 q3 q4 q5 q6 q7 q8 q9 q10 q11
    have hfz:∀j,u5.frozen? ⟨b1,j,none⟩=false:=fun j=>hS5.own.frz j
    have HS5:=qh hS5
    have hHeld:True:=trivial
    have D6:=qh CV
    clear hS5 hm CV
    refine tkT 12 hHeld ?_
    refine r1T 13 (fun K hK =>?_)
    go_simp
    refine hK.out _ _ _ trivial (fun hHeld =>?_)
    clear hK K
    refine bE krA ?_ _
    clear hHeld q0 q1 q2 q3 q4 q5 q6 q7 q8 q9 q10 q11
    go_wp2_with fail
    go_ret
    have h9:=HS5.out.put hgl hbl h05 ⟨kd,sq,dy,tb,A0,cp,row,key,cl,vl⟩ (HRX.out _ HS5.out.grow.grown) HLX.out
    simp only[Nat.zero_mul,Nat.zero_add]at h9
    refine SpH.fin (n:=l.length) (by with_reducible exact h9) hbase ?_ ?_
    ·simp[D6.out]
    ·simp[D6.out])
   ·go_simp
    refine hK.out _ _ _ trivial (fun hHeld =>?_)
    clear hK K
    refine r1T 5 (fun K hK =>?_)
    go_simp
    refine hK.out _ _ _ trivial (fun hHeld =>?_)
    clear hK K
    (
    refine tkT 10 hHeld ?_
    refine r1T 11 (fun K hK =>?_)
    go_simp
    refine hK.out _ _ _ trivial (fun hHeld =>?_)
    clear hK K hHeld f0 f1 f2 f3 f4 f5 f6 f7 f8 f9 f10 f11 q0 q1 q2 q3 q4 q5 q6 q7 q8 q9 q10 q11 hfz
    have h5:=(HS3.out.put hgl hbl hr1' ⟨pk,ps,pd,pt,PA,pp,qp,uA,pc,pv⟩ HRY.out HLY.out).below brf.drew
    refine ai (P:=fun u=>wpT _ _ _ _ _ _ _ _ _ u) (R:=fun u=>SpH w g b base b1 cap (l.set r1 ⟨pk,ps,pd,pt,PA,pp,qp,uA,pc,pv⟩) u) (by with_reducible exact h5) ?_
    clear h5
    intro u5 hS5
    obtain⟨l5,hl5⟩:∃l5,l.set r1 (⟨pk,ps,pd,pt,PA,pp,qp,uA,pc,pv⟩:Chg)=l5:=⟨_,rfl⟩
    have CV:l5.length=l.length:=by rw[←hl5];simp
    rw[hl5]at hS5
    clear hl5
    have h05:0<l5.length:=by omega
    obtain⟨⟨q0,q1,q2,q3⟩,q4,⟨q5,q6,q7⟩,q8,q9,q10,q11⟩:=Chg.dE (b:=b1) (o:= 0) (x:=l5[0]) (fun j u hu=>by have h:=hS5.own.pE bS h05 hu;rw[Nat.zero_mul]at h;exact h)
    obtain⟨⟨mk,ms,md,mt,MA,mp,Ui,Uj,mc,mv⟩,hm⟩:∃x:Chg,l5[0]=x:=⟨_,rfl⟩
    rw[hm]at q0 q1 q2 q3 q4 q5 q6 q7 q8 q9 q10 q11
    simp only[Nat.zero_add]at q0 q1 q2 q3 q4 q5 q6 q7 q8 q9 q10 q11
    have hfz:∀j,u5.frozen? ⟨b1,j,none⟩=false:=fun j=>hS5.own.frz j
    have HS5:=qh hS5
    have hHeld:True:=trivial
    have D6:=qh CV
    clear hS5 hm CV
    refine tkT 12 hHeld ?_
    refine r1T 13 (fun K hK =>?_)
    go_simp
    refine hK.out _ _ _ trivial (fun hHeld =>?_)
    clear hK K
    refine bE krA ?_ _
    clear hHeld q0 q1 q2 q3 q4 q5 q6 q7 q8 q9 q10 q11
    go_wp2_with fail
    go_ret
    have h9:=HS5.out.put hgl hbl h05 ⟨kd,sq,dy,tb,A0,cp,row,key,cl,vl⟩ (HRX.out _ HS5.out.grow.grown) HLX.out
    simp only[Nat.zero_mul,Nat.zero_add]at h9
    refine SpH.fin (n:=l.length) (by with_reducible exact h9) hbase ?_ ?_
    ·simp[D6.out]
    ·simp[D6.out])
  ·obtain⟨⟨q0,q1,q2,q3⟩,q4,⟨q5,q6,q7⟩,q8,q9,q10,q11⟩:=Chg.dE (b:=b1) (o:=r1*12) (x:=l[r1]) (fun j u hu=>HS3.out.own.pE bS hr1' hu)
   have hfz:∀j,w3.frozen? ⟨b1,j,none⟩=false:=fun j=>HS3.out.own.frz j
   obtain⟨⟨kd,sq,dy,tb,A0,cp,row,key,cl,vl⟩,hx⟩:∃x:Chg,l[r1]=x:=⟨_,rfl⟩
   have HX:=qh hx
   rw[hx]at q0 q1 q2 q3 q4 q5 q6 q7 q8 q9 q10 q11
   simp only at q0 q1 q2 q3 q4 q5 q6 q7 q8 q9 q10 q11
   clear hx
   go_wp2_with (at_builtin;go_must (refine aK _ rfl (.tmp 56) (.tmp 61) 44 rfl 64 ic _ Chg.cells 12 128 Tryz.underlying44 hic sV sU sS rfl omA bS tQ w.heap.size (.slice (some ⟨b1,0,none⟩) l.length cap) l rfl (HS3.out.own.alloc _) _ _ _ [⟨kd,sq,dy,tb,A0,cp,row,key,cl,vl⟩] rfl rfl (Blk.one (enc:=Chg.cells) (x:=⟨kd,sq,dy,tb,A0,cp,row,key,cl,vl⟩) (Blk.new' spA) spA) smA mxA (by have:=HS3.out.grow.size;simp at this ⊢;omega) ?_);intro v' w6 hown' hg' hat';obtain⟨A6,c6,rfl,_,_⟩:=hown'.form;have HOWN':=qh hown';clear hown';have HK6:Hid (aO w6 g b):=qh ((HS3.out.grow.tape.alloc _).uM hg' (gL omA) (gL omA));have HG6:Hid (w.grownBy w6 (some g)):=qh (gu (bW HS3.out.grow.grown _) hg' (bR hbb)))
   go_ret
   have hin:∀x,x∈l ++ [(⟨kd,sq,dy,tb,A0,cp,row,key,cl,vl⟩:Chg)]→x∈l:=fun x hx=>by
    rcases List.mem_append.1 hx with hx|hx
    ·exact hx
    ·obtain rfl:=List.mem_singleton.1 hx
     rw[←HX.out]
     exact lgm hr1'
   exact⟨A6,c6,l ++ [⟨kd,sq,dy,tb,A0,cp,row,key,cl,vl⟩],congrArg (fun n=>Ending.returned (Value.slice A6 n c6)) spA,by simp,⟨HOWN'.out.mono hbase,fun x hx=>HE.out _ HG6.out x (hin x hx),fun x hx=>HS3.out.len x (hin x hx)⟩,HK6.out,HG6.out⟩
  ·obtain⟨⟨q0,q1,q2,q3⟩,q4,⟨q5,q6,q7⟩,q8,q9,q10,q11⟩:=Chg.dE (b:=b1) (o:=r1*12) (x:=l[r1]) (fun j u hu=>HS3.out.own.pE bS hr1' hu)
   have hfz:∀j,w3.frozen? ⟨b1,j,none⟩=false:=fun j=>HS3.out.own.frz j
   go_wp2_with fail
   go_ret
   have h9:=HS3.out.set hgl hbl (i:=r1) (j:= 1) (y:= .int .i64 (wrap64 (l[r1].seq+1))) hr1' ⟨l[r1].kind,wrap64 (l[r1].seq+1),l[r1].day,l[r1].table,l[r1].A,l[r1].cap,l[r1].row,l[r1].key,l[r1].column,l[r1].val⟩ omA rfl ⟨rfl,rfl,rfl⟩
   refine h9.fin (n:=l.length) hbase ?_ ?_
   ·simp
   ·simp
  ·obtain⟨⟨q0,q1,q2,q3⟩,q4,⟨q5,q6,q7⟩,q8,q9,q10,q11⟩:=Chg.dE (b:=b1) (o:=r1*12) (x:=l[r1]) (fun j u hu=>HS3.out.own.pE bS hr1' hu)
   have hfz:∀j,w3.frozen? ⟨b1,j,none⟩=false:=fun j=>HS3.out.own.frz j
   go_wp2_with fail
   go_ret
   have h9:=HS3.out.set hgl hbl (i:=r1) (j:= 2) (y:= .int .i64 (wrap64 (l[r1].day+3))) hr1' ⟨l[r1].kind,l[r1].seq,wrap64 (l[r1].day+3),l[r1].table,l[r1].A,l[r1].cap,l[r1].row,l[r1].key,l[r1].column,l[r1].val⟩ omA rfl ⟨rfl,rfl,rfl⟩
   refine h9.fin (n:=l.length) hbase ?_ ?_
   ·simp
   ·simp
  ·obtain⟨⟨q0,q1,q2,q3⟩,q4,⟨q5,q6,q7⟩,q8,q9,q10,q11⟩:=Chg.dE (b:=b1) (o:=r1*12) (x:=l[r1]) (fun j u hu=>HS3.out.own.pE bS hr1' hu)
   have hfz:∀j,w3.frozen? ⟨b1,j,none⟩=false:=fun j=>HS3.out.own.frz j
   obtain⟨⟨kd,sq,dy,tb,A0,cp,row,key,cl,vl⟩,hx⟩:∃x:Chg,l[r1]=x:=⟨_,rfl⟩
   have hrow:=HS3.out.rows l[r1] (lgm hr1')
   have hrl:=HLEN.out l[r1] (lgm hr1')
   rw[hx]at q0 q1 q2 q3 q4 q5 q6 q7 q8 q9 q10 q11 hrow hrl
   simp only at q0 q1 q2 q3 q4 q5 q6 q7 q8 q9 q10 q11 hrow hrl
   have jy:=qh hrow
   clear hx hrow
   go_wp2_with fail
   with_reducible refine(uj g b kd sq dy tb A0 cp row.length row key cl vl _ HS3.out.grow.tape (gQ bP jy.out) rfl omA).mono ?_
   rintro e w5 ⟨⟨kd',sq',dy',tb',A',cp',row',key',cl',vl'⟩,he,hr9,how,hk5,hg5⟩
   simp only[Chg.cells]at he
   simp only at hr9 how
   subst he
   have HS5:=qh (HS3.out.call hgb hbase hk5 hg5)
   have Q6:=qh (how.mono (b':=base) omA)
   have hfz:∀j,w5.frozen? ⟨b1,j,none⟩=false:=fun j=>HS5.out.own.frz j
   have hb5:=HS5.out.own.F6
   clear how hk5 hg5 q0 q1 q2 q3 q4 q5 q6 q7 q8 q9 q10 q11
   obtain⟨⟨q0,q1,q2,q3⟩,q4,⟨q5,q6,q7⟩,q8,q9,q10,q11⟩:=Chg.dE (b:=b1) (o:=r1*12) (x:=l[r1]) (fun j u hu=>HS5.out.own.pE bS hr1' hu)
   go_wp2_with fail
   go_ret
   exact SpH.fin (HS5.out.put hgl hbl hr1' ⟨kd',sq',dy',tb',A',cp',row',key',cl',vl'⟩ Q6.out (by simp only;omega)) hbase spA spA
end Go.Proofs.YtebippoohpnjkaaGreat
