/-
  Contracts and plain laws of this seat, part 7.
-/
import Derived.Test.YtjidligipoldeaaGreatT2
import Derived.Deep.RegionHeld
import Derived.Lib.AppendZeros
set_option linter.unusedVariables false
set_option linter.unusedSimpArgs false
set_option maxRecDepth 100000
set_option maxHeartbeats 16000000
namespace Go.Proofs.YtjidligipoldeaaGreat
open Go.RowKit
theorem dq{P:Prop}(h:P:=by first|exact aj.kept ig hgs hne|exact aj.kept (ig.alloc _) hgs hne|exact aj.kept ig.drew hgs hne|exact aj.kept (ig.alloc _).drew hgs hne):P:=h
theorem dr{P:Prop}(h:P:=by first|exact Blk.new' sdA|exact(Blk.new' sdA).drew|exact Blk.grown nbA hgr (jF omA)):P:=h
theorem dt{P:Prop}(h:P:=by have:=hbr.size;omega):P:=h
theorem du{P:Prop}(h:P:=by rw[HCT.out.len]):P:=h
theorem dv{P:Prop}(h:P:=by simpa[Value.ownBlock]using e):P:=h
theorem ea{P:Prop}(h:P:=by simp[results,Tryz.results85,go_sem]):P:=h
theorem eb{P:Prop}(h:P:=by rw[ha];rfl):P:=h
def yO(n:Nat):UInt8:=UInt8.ofNat (48+n)
theorem digit_num{n:Nat}(hn:n<10):(48+(n:Int) % 10).toNat=48+n:=by omega
theorem Ah(s:ByteArray)(n:Nat)(hn:n<10)(hs:s.size≤1000)(w:World):
 Calls Tryz.prog 63 #[.string s,.int .i64 n] w fun e w' =>
  e=.returned (.string (s++⟨#[yO n]⟩))∧Below w.heap.size w w':=by
 have kc:(convert 155 9 (.slice (some ⟨w.heap.size,0,none⟩) 1 1)).run Tryz.prog (w.alloc (.cells #[.int .u8 (48+(n:Int) % 10)] 5))=.ok (.string ⟨#[yO n]⟩) (w.alloc (.cells #[.int .u8 (48+(n:Int) % 10)] 5)):=by
  have hB:=(Blk.new w 5 #[.int .u8 (48+(n:Int) % 10)])
  have:=run_convert_bytes_arg (P:=Tryz.prog) (w.alloc (.cells #[.int .u8 (48+(n:Int) % 10)] 5)) 155 5 Tryz.underlying155 Tryz.underlying5 w.heap.size 0 1 1 [48+(n:Int) % 10] rfl (fun i hi=>by
   obtain rfl:i=0:=by omega
   exact(hB.cell 0).trans rfl) 9 Tryz.underlying9
  rw[this]
  simp[strOfNums,digit_num hn,yO]
 go_enter Tryz.func63,Tryz.ntmps63
 go_wp2
 go_ret
 refine⟨rfl,?_⟩
 exact ai
structure Rcd where
 A:Option Addr
 cap:Nat
 row:List Val
 SA:Option Addr
 xJ:Nat
 seq:List Int
 day:Int
structure RTab where
 A:Option Addr
 cap:Nat
 recs:List Rcd
structure Chg where
 kind:Int
 seq:Int
 day:Int
 table:Int
 A:Option Addr
 cap:Nat
 row:List Val
 key:Val
 column:Int
 val:Val
def Rcd.cells(x:Rcd):List Value:= [.slice x.A x.row.length x.cap,.slice x.SA x.seq.length x.xJ,.int .i64 x.day]
def RTab.cells(x:RTab):List Value:= [.slice x.A x.recs.length x.cap]
def Chg.cells(x:Chg):List Value:= [.int .i64 x.kind,.int .i64 x.seq,.int .i64 x.day,.int .i64 x.table,.slice x.A x.row.length x.cap,.int .i64 x.key.kind,.int .i64 x.key.num,.string x.key.text,.int .i64 x.column,.int .i64 x.val.kind,.int .i64 x.val.num,.string x.val.text]
theorem bC:∀x:Val,(Val.cells x).length=3:=fun _=>rfl
theorem bG:∀x:Rcd,(Rcd.cells x).length=3:=fun _=>rfl
theorem dH:∀x:RTab,(RTab.cells x).length=1:=fun _=>rfl
theorem eu:∀x:Chg,(Chg.cells x).length=12:=fun _=>rfl
theorem val_one:∀x:Val,∀u∈Val.cells x,u.oneCell'=true:=by
 intro x u hu
 simp only[Val.cells,List.mem_cons,List.not_mem_nil,or_false]at hu
 rcases hu with rfl|rfl|rfl<;>rfl
theorem eQ:∀x:Rcd,∀u∈Rcd.cells x,u.oneCell'=true:=by
 intro x u hu
 simp only[Rcd.cells,List.mem_cons,List.not_mem_nil,or_false]at hu
 rcases hu with rfl|rfl|rfl<;>rfl
theorem iI:∀x:Chg,∀u∈Chg.cells x,u.oneCell'=true:=by
 intro x u hu
 simp only[Chg.cells,List.mem_cons,List.not_mem_nil,or_false]at hu
 rcases hu with rfl|rfl|rfl|rfl|rfl|rfl|rfl|rfl|rfl|rfl|rfl|rfl<;>rfl
theorem Val.cells3{w:World}{b o:Nat}{x:Val}(h:∀j u,x.cells[j]?=some u→w.cell? ⟨b,o+j,none⟩=some u):
 w.cell? ⟨b,o,none⟩=some (.int .i64 x.kind)∧w.cell? ⟨b,o+1,none⟩=some (.int .i64 x.num)∧w.cell? ⟨b,o+2,none⟩=some (.string x.text):=
 ⟨h 0 _ rfl,h 1 _ rfl,h 2 _ rfl⟩
theorem Rcd.cells3{w:World}{b o:Nat}{x:Rcd}(h:∀j u,x.cells[j]?=some u→w.cell? ⟨b,o+j,none⟩=some u):
 w.cell? ⟨b,o,none⟩=some (.slice x.A x.row.length x.cap)∧w.cell? ⟨b,o+1,none⟩=some (.slice x.SA x.seq.length x.xJ)∧w.cell? ⟨b,o+2,none⟩=some (.int .i64 x.day):=
 ⟨h 0 _ rfl,h 1 _ rfl,h 2 _ rfl⟩
theorem Chg.mg{w:World}{b o:Nat}{x:Chg}(h:∀j u,x.cells[j]?=some u→w.cell? ⟨b,o+j,none⟩=some u):
 (w.cell? ⟨b,o,none⟩=some (.int .i64 x.kind)∧w.cell? ⟨b,o+1,none⟩=some (.int .i64 x.seq)∧w.cell? ⟨b,o+2,none⟩=some (.int .i64 x.day)∧w.cell? ⟨b,o+3,none⟩=some (.int .i64 x.table))∧w.cell? ⟨b,o+4,none⟩=some (.slice x.A x.row.length x.cap) ∧
 (w.cell? ⟨b,o+5,none⟩=some (.int .i64 x.key.kind)∧w.cell? ⟨b,o+6,none⟩=some (.int .i64 x.key.num)∧w.cell? ⟨b,o+7,none⟩=some (.string x.key.text))∧w.cell? ⟨b,o+8,none⟩=some (.int .i64 x.column) ∧
 (w.cell? ⟨b,o+9,none⟩=some (.int .i64 x.val.kind)∧w.cell? ⟨b,o+10,none⟩=some (.int .i64 x.val.num)∧w.cell? ⟨b,o+11,none⟩=some (.string x.val.text)):=
 ⟨⟨h 0 _ rfl,h 1 _ rfl,h 2 _ rfl,h 3 _ rfl⟩,h 4 _ rfl,⟨h 5 _ rfl,h 6 _ rfl,h 7 _ rfl⟩,h 8 _ rfl,h 9 _ rfl,h 10 _ rfl,h 11 _ rfl⟩
theorem uo:(Tryz.prog.info? 50).map (fun i=>(i.zero,i.size,i.bytes))=some (some (.agg #[.int .i64 0,.int .i64 0,.string ⟨#[]⟩]),3,32):=by kernel_rfl
theorem om:(Tryz.prog.info? 66).map (fun i=>(i.zero,i.size,i.bytes))=some (some (.agg #[.slice none 0 0,.slice none 0 0,.int .i64 0]),3,56):=by kernel_rfl
theorem ym:(Tryz.prog.info? 46).map (fun i=>(i.zero,i.size,i.bytes))=some (some (.slice none 0 0),1,24):=by kernel_rfl
theorem l7:(Tryz.prog.info? 52).map (fun i=>(i.zero,i.size,i.bytes))=some (some (.agg #[.int .i64 0,.int .i64 0,.int .i64 0,.int .i64 0,.slice none 0 0,.int .i64 0,.int .i64 0,.string ⟨#[]⟩,.int .i64 0,.int .i64 0,.int .i64 0,.string ⟨#[]⟩]),12,128):=by kernel_rfl
def oK(w:World)(B:Nat)(x:Rcd):Prop:=ag w B Val.cells 3 x.A x.row∧ag w B intCells 1 x.SA x.seq
def bU(w:World)(B:Nat)(A:Option Addr)(l:List Rcd):Prop:=ag w B Rcd.cells 3 A l ∧ ∀x∈l,oK w B x
def aR(w:World)(B:Nat)(A:Option Addr)(l:List RTab):Prop:=ag w B RTab.cells 1 A l ∧ ∀x∈l,bU w B x.A x.recs
def dQ(w:World)(B:Nat)(A:Option Addr)(l:List Chg):Prop:=ag w B Chg.cells 12 A l ∧ ∀x∈l,ag w B Val.cells 3 x.A x.row
section
variable {w w':World}{B B':Nat}{A:Option Addr}
theorem oK.below{x:Rcd}(h:oK w B x)(hb:Below B w w'):oK w' B x:=⟨h.1.below hb,h.2.below hb⟩
theorem oK.mono{x:Rcd}(h:oK w B x)(hb:B≤B'):oK w B' x:=⟨h.1.mono hb,h.2.mono hb⟩
theorem oK.next{x:Rcd}(h:oK w w.heap.size x)(hb:Below w.heap.size w w'):oK w' w'.heap.size x:=(h.below hb).mono hb.size
theorem bU.below{l:List Rcd}(h:bU w B A l)(hb:Below B w w'):bU w' B A l:=⟨h.1.below hb,fun x hx=>(h.2 x hx).below hb⟩
theorem bU.mono{l:List Rcd}(h:bU w B A l)(hb:B≤B'):bU w B' A l:=⟨h.1.mono hb,fun x hx=>(h.2 x hx).mono hb⟩
theorem bU.next{l:List Rcd}(h:bU w w.heap.size A l)(hb:Below w.heap.size w w'):bU w' w'.heap.size A l:=(h.below hb).mono hb.size
theorem aR.below{l:List RTab}(h:aR w B A l)(hb:Below B w w'):aR w' B A l:=⟨h.1.below hb,fun x hx=>(h.2 x hx).below hb⟩
theorem aR.mono{l:List RTab}(h:aR w B A l)(hb:B≤B'):aR w B' A l:=⟨h.1.mono hb,fun x hx=>(h.2 x hx).mono hb⟩
theorem aR.next{l:List RTab}(h:aR w w.heap.size A l)(hb:Below w.heap.size w w'):aR w' w'.heap.size A l:=(h.below hb).mono hb.size
theorem dQ.below{l:List Chg}(h:dQ w B A l)(hb:Below B w w'):dQ w' B A l:=⟨h.1.below hb,fun x hx=>(h.2 x hx).below hb⟩
theorem dQ.mono{l:List Chg}(h:dQ w B A l)(hb:B≤B'):dQ w B' A l:=⟨h.1.mono hb,fun x hx=>(h.2 x hx).mono hb⟩
theorem dQ.next{l:List Chg}(h:dQ w w.heap.size A l)(hb:Below w.heap.size w w'):dQ w' w'.heap.size A l:=(h.below hb).mono hb.size
end
def fI{α:Type}(p:α→Bool)(l:List α):Int:=match l.findIdx? p with
 | some i=>i
 | none => -1
theorem sN{α:Type}{p:α→Bool}{l:List α}{m:Nat}(h:m<l.length)(hp:p l[m]=true)(hno:∀i (h:i<l.length),i<m→p l[i]=false):fI p l=(m:Int):=by
 have e:l.findIdx? p=some m:=by
  rw[List.findIdx?_eq_some_iff_getElem]
  exact⟨h,hp,fun j hj=>by rw[hno j omA hj];decide⟩
 unfold fI
 rw[e]
theorem uJ{α:Type}{p:α→Bool}{l:List α}(hno:∀i (h:i<l.length),p l[i]=false):fI p l=-1:=by
 have e:l.findIdx? p=none:=by
  rw[List.findIdx?_eq_none_iff]
  intro x hx
  obtain⟨i,hi,rfl⟩:=List.getElem_of_mem hx
  exact hno i hi
 unfold fI
 rw[e]
theorem wF{α:Type}{p:α→Bool}{l:List α}(h:0≤fI p l):∃m:Nat,∃hm:m<l.length,fI p l=(m:Int)∧p l[m]=true:=by
 unfold fI at h ⊢
 cases e:l.findIdx? p with
 | none=>rw[e]at h;simp at h
 | some i =>
   rw[List.findIdx?_eq_some_iff_getElem]at e
   obtain⟨hi,hp,_⟩:=e
   exact⟨i,hi,rfl,hp⟩
def dz(v:Val)(t:Int):Bool:=v.kind == 0||v.kind==t
def gK(key:Val)(r:Rcd):Bool:=decide (r.row.head?=some key)
def gm(l:List Rcd)(key:Val):Int:=if (bT key&&key.kind != 0)=true then fI (gK key) l else -1
theorem bu{x y:Val}{b:Bool}(h:decide (x=y)=b):∀w:World,(Op.equalIn 10000 50 (.agg #[.int .i64 x.kind,.int .i64 x.num,.string x.text]) (.agg #[.int .i64 y.kind,.int .i64 y.num,.string y.text])).run Tryz.prog w=.ok b w:=
 fun w=>by rw[M8,h]
theorem bO(x:Val)(w:World){r:Bool}(hr:bT x=r):
 Calls Tryz.prog 45 #[.agg #[.int .i64 x.kind,.int .i64 x.num,.string x.text]] w fun e w'=>e=.returned (.bool r)∧Ext w w':=by
 subst hr
 exact wu _ _ _ _
theorem cz(v:Val)(t:Int)(w:World){r:Bool}(hr:dz v t=r):
 Calls Tryz.prog 86 #[.agg #[.int .i64 v.kind,.int .i64 v.num,.string v.text],.int .i64 t] w fun e w'=>e=.returned (.bool r)∧Ext w w':=by
 subst hr
 by_cases h0:v.kind=0
 ·have h0':(v.kind == 0)=true:=by simpa using h0
  have HR:Hid (dz v t=true):=qh (by simp[dz,h0])
  clear h0
  go_enter Tryz.func86,Tryz.ntmps86
  go_wp2_with fail
  go_ret
  exact⟨ax HR.out.symm,by exact zK⟩
 ·have h0':(v.kind == 0)=false:=by simpa using h0
  have HR:Hid (dz v t=(v.kind==t)):=qh (by simp[dz,h0'])
  clear h0
  go_enter Tryz.func86,Tryz.ntmps86
  go_wp2_with fail
  go_ret
  exact⟨ax HR.out.symm,by exact zK⟩
def qN(l:List Val):Bool:=decide (l.length≤16)&&l.all bT
theorem pJ(A:Option Addr)(c n:Nat)(l:List Val)(w:World)(hl:ag w w.heap.size Val.cells 3 A l)(hln:l.length=n)(hn:n≤1000000){r:Bool}(hr:qN l=r):
 Calls Tryz.prog 129 #[.slice A n c] w fun e w'=>e=.returned (.bool r)∧Below w.heap.size w w':=by
 subst hln hr
 by_cases h16:16<l.length
 ·have Sg:decide (16<l.length)=true:=by simpa using h16
  go_enter Tryz.func129,Tryz.ntmps129
  go_wp2_with fail
  go_ret
  refine⟨ax ?_,by exact ai⟩
  have h:decide (l.length≤16)=false:=by simpa using h16
  rw[qN,h]
  rfl
 have Sg:decide (16<l.length)=false:=by simpa using h16
 go_enter Tryz.func129,Tryz.ntmps129
 go_wp2_with fail
 go_loopw [3] (fun vi wr =>∃m:Nat,m≤l.length∧vi=.int .i64 m∧Below w.heap.size w wr∧(∀i (h:i<l.length),i<m→bT l[i]=true)) (fun vi _=>l.length-(intOf vi).toNat)
 case atStart=>exact⟨0,Nat.zero_le _,rfl,by exact ai,fun i _ h=>by omega⟩
 case round =>
  obtain⟨m,hm,rfl,hbw,hok⟩:=hrel
  have HOK:=qh hok
  clear hok
  by_cases hlt:m<l.length
  ·obtain⟨b,o,rfl,hb,hc⟩:=(hl.below hbw).get hlt
   obtain⟨h0,h1,h2⟩:=Val.cells3 hc
   clear hc
   cases hk:bT l[m]
   ·have HK:=qh hk
    clear hk
    go_wp2_with (go_at_call 45;(with_reducible refine(bO l[m] _ HK.out).mono ?_);rintro e w1 ⟨rfl,hb1⟩;have hx1:Below w.heap.size w w1:=aa hbw hb1.1 hbw.size)
    go_ret
    refine⟨ax ?_,hx1⟩
    have h:l.all bT=false:=by
     rw[List.all_eq_false]
     exact⟨l[m],lgm hlt,by rw[HK.out];decide⟩
    rw[qN,h,Bool.and_false]
   ·have HK:=qh hk
    clear hk
    go_wp2_with (go_at_call 45;(with_reducible refine(bO l[m] _ HK.out).mono ?_);rintro e w1 ⟨rfl,hb1⟩;have hx1:Below w.heap.size w w1:=aa hbw hb1.1 hbw.size)
    go_roundw
    case rel=>exact⟨m+1,by omega,by go_num,hx1,fun i h hi=>by
     rcases Nat.lt_or_ge i m with h1|h1
     ·exact HOK.out i h h1
     ·obtain rfl:i=m:=by omega
      exact HK.out⟩
    case measure=>exact meA
  ·have hlt':decide (m<l.length)=false:=by simpa using hlt
   go_wp2_with fail
   go_ret
   refine⟨ax ?_,hbw⟩
   have h:l.all bT=true:=by
    rw[List.all_eq_true]
    intro x hx
    obtain⟨i,hi,rfl⟩:=List.getElem_of_mem hx
    exact HOK.out i hi omA
   rw[qN,h,Bool.and_true]
   exact(decide_eq_true omA).symm
def keyOf(x:Chg):Val:=if x.kind == 1 then x.row.headD ⟨0,0,⟨#[]⟩⟩ else x.key
theorem gT(x:Chg)(w:World)(hx:ag w w.heap.size Val.cells 3 x.A x.row)(hl:x.row.length≤1000000)(h1:x.kind=1→0<x.row.length){k:Val}(hk:keyOf x=k):
 Calls Tryz.prog 85 #[.agg #[.int .i64 x.kind,.int .i64 x.seq,.int .i64 x.day,.int .i64 x.table,.slice x.A x.row.length x.cap,.int .i64 x.key.kind,.int .i64 x.key.num,.string x.key.text,.int .i64 x.column,.int .i64 x.val.kind,.int .i64 x.val.num,.string x.val.text]] w fun e w'=>e=.returned (.agg #[.int .i64 k.kind,.int .i64 k.num,.string k.text])∧Below w.heap.size w w':=by
 obtain⟨kd,sq,dy,tb,A,cp,row,key,cl,vl⟩:=x
 simp only at hx hl h1
 by_cases hd:kd=1
 ·have hr0:0<row.length:=h1 hd
  have hke:row[0]=k:=by
   rw[←hk]
   cases row with
   | nil=>simp at hr0
   | cons a t=>simp[keyOf,hd]
  have hd':(kd == 1)=true:=by simpa using hd
  obtain⟨b,o,rfl,hb,hc⟩:=hx.get hr0
  obtain⟨c0,c1,c2⟩:=Val.cells3 hc
  rw[hke]at c0 c1 c2
  simp only[Nat.zero_mul,Nat.add_zero]at c0 c1 c2
  have mM:decide (0<row.length)=true:=by simpa using hr0
  clear hk hke hc hx h1 hd
  go_enter Tryz.func85,Tryz.ntmps85
  go_wp2_with fail
  refine bodyPost_ret (v:= .agg #[.int .i64 k.kind,.int .i64 k.num,.string k.text]) ea rfl ⟨rfl,?_⟩
  exact ai
 ·have hke:key=k:=by
   rw[←hk]
   simp[keyOf,hd]
  have hd':(kd == 1)=false:=by simpa using hd
  clear hk hx h1 hd
  subst hke
  go_enter Tryz.func85,Tryz.ntmps85
  go_wp2_with fail
  refine bodyPost_ret (v:= .agg #[.int .i64 key.kind,.int .i64 key.num,.string key.text]) ea rfl ⟨rfl,?_⟩
  exact ai
theorem pW{key:Val}{r:Rcd}(h:0<r.row.length):gK key r=decide (r.row[0]=key):=by
 unfold gK
 rw[List.head?_eq_getElem?,List.getElem?_eq_getElem h]
 simp
theorem Di{key:Val}{r:Rcd}(h:r.row.length=0):gK key r=false:=by
 unfold gK
 rw[List.eq_nil_of_length_eq_zero h]
 simp
theorem gJ(A:Option Addr)(c n:Nat)(l:List Rcd)(key:Val)(w:World)(hl:bU w w.heap.size A l)(hln:l.length=n)(hn:n≤1000000)(hsr:∀x∈l,x.row.length≤1000000){r:Int}(hr:gm l key=r):
 Calls Tryz.prog 15 #[.slice A n c,.agg #[.int .i64 key.kind,.int .i64 key.num,.string key.text]] w fun e w'=>e=.returned (.int .i64 r)∧Below w.heap.size w w':=by
 subst hln hr
 have hg:Tryz.prog.eqGuardType Tryz.prog.depth 50=false:=by kernel_rfl
 have HL:=qh hl
 have HSR:=qh hsr
 clear hl hsr
 cases hv:bT key
 ·have HF:Hid (gm l key=-1):=qh (by rw[gm,hv];rfl)
  have HV:=qh hv
  clear hv
  go_enter Tryz.func15,Tryz.ntmps15
  go_wp2_with fail
  obtain⟨W,hW⟩:∃W:World,w.alloc (.cells #[.int .i64 key.kind,.int .i64 key.num,.string key.text] 50)=W:=⟨_,rfl⟩
  have hbW:Below w.heap.size w W:=by rw[←hW];exact ai
  have hB:Blk W w.heap.size 50 #[.int .i64 key.kind,.int .i64 key.num,.string key.text]:=by rw[←hW];exact Blk.new _ _ _
  rw[hW]
  clear hW
  have hzW:=hB.lt
  have HB:=qh hB
  clear hB
  go_loopw [5] (fun vi wr=>vi=.int .i64 0∧Below W.heap.size W wr) (fun vi _ =>0)
  case atStart=>exact⟨rfl,Below.refl _ _⟩
  case round =>
   obtain⟨rfl,hbr⟩:=hrel
   have hxr:=aa hbW hbr hbW.size
   have q0:=(HB.out.below hbr hzW).cell 0
   have q1:=(HB.out.below hbr hzW).cell 1
   have q2:=(HB.out.below hbr hzW).cell 2
   simp only[gE3]at q0 q1 q2
   by_cases h0:0<l.length
   ·go_wp2_with (go_at_call 45;(with_reducible refine(bO key _ HV.out).mono ?_);rintro e w1 ⟨rfl,hb1⟩;have hx1:Below W.heap.size W w1:=aa hbr hb1.1 hbr.size;obtain⟨k1,_,_⟩:=bN hb1.1 w.heap.size dt)
    go_ret
    exact⟨aS (a:= -1) HF.out.symm,aa hbW hx1 hbW.size⟩
   ·have h0':decide (0<l.length)=false:=by simpa using h0
    go_wp2_with fail
    go_ret
    exact⟨aS (a:= -1) HF.out.symm,hxr⟩
 by_cases hk:key.kind=0
 ·have hk':(key.kind != 0)=false:=by simpa using hk
  have HF:Hid (gm l key=-1):=qh (by rw[gm,hk'];simp)
  have HV:=qh hv
  clear hv hk
  go_enter Tryz.func15,Tryz.ntmps15
  go_wp2_with fail
  obtain⟨W,hW⟩:∃W:World,w.alloc (.cells #[.int .i64 key.kind,.int .i64 key.num,.string key.text] 50)=W:=⟨_,rfl⟩
  have hbW:Below w.heap.size w W:=by rw[←hW];exact ai
  have hB:Blk W w.heap.size 50 #[.int .i64 key.kind,.int .i64 key.num,.string key.text]:=by rw[←hW];exact Blk.new _ _ _
  rw[hW]
  clear hW
  have hzW:=hB.lt
  have HB:=qh hB
  clear hB
  go_loopw [5] (fun vi wr=>vi=.int .i64 0∧Below W.heap.size W wr) (fun vi _ =>0)
  case atStart=>exact⟨rfl,Below.refl _ _⟩
  case round =>
   obtain⟨rfl,hbr⟩:=hrel
   have hxr:=aa hbW hbr hbW.size
   have q0:=(HB.out.below hbr hzW).cell 0
   have q1:=(HB.out.below hbr hzW).cell 1
   have q2:=(HB.out.below hbr hzW).cell 2
   simp only[gE3]at q0 q1 q2
   by_cases h0:0<l.length
   ·go_wp2_with (go_at_call 45;(with_reducible refine(bO key _ HV.out).mono ?_);rintro e w1 ⟨rfl,hb1⟩;have hx1:Below W.heap.size W w1:=aa hbr hb1.1 hbr.size;obtain⟨k1,_,_⟩:=bN hb1.1 w.heap.size dt)
    go_ret
    exact⟨aS (a:= -1) HF.out.symm,aa hbW hx1 hbW.size⟩
   ·have h0':decide (0<l.length)=false:=by simpa using h0
    go_wp2_with fail
    go_ret
    exact⟨aS (a:= -1) HF.out.symm,hxr⟩
 have hk':(key.kind != 0)=true:=by simpa using hk
 have HF:Hid (gm l key=fI (gK key) l):=qh (by rw[gm,hv,hk'];rfl)
 have HV:=qh hv
 clear hv hk
 go_enter Tryz.func15,Tryz.ntmps15
 go_wp2_with fail
 obtain⟨W,hW⟩:∃W:World,w.alloc (.cells #[.int .i64 key.kind,.int .i64 key.num,.string key.text] 50)=W:=⟨_,rfl⟩
 have hbW:Below w.heap.size w W:=by rw[←hW];exact ai
 have hB:Blk W w.heap.size 50 #[.int .i64 key.kind,.int .i64 key.num,.string key.text]:=by rw[←hW];exact Blk.new _ _ _
 rw[hW]
 clear hW
 have hzW:=hB.lt
 have HB:=qh hB
 clear hB
 go_loopw [5] (fun vi wr =>∃m:Nat,m≤l.length∧vi=.int .i64 m∧Below W.heap.size W wr∧(∀i (h:i<l.length),i<m→gK key l[i]=false)) (fun vi _=>l.length-(intOf vi).toNat)
 case atStart=>exact⟨0,Nat.zero_le _,rfl,Below.refl _ _,fun i _ h=>by omega⟩
 case round =>
  obtain⟨m,hm,rfl,hbr,hno⟩:=hrel
  have HNO:=qh hno
  clear hno
  have hxr:=aa hbW hbr hbW.size
  have hwz:=hbr.size
  have q0:=(HB.out.below hbr hzW).cell 0
  have q1:=(HB.out.below hbr hzW).cell 1
  have q2:=(HB.out.below hbr hzW).cell 2
  simp only[gE3]at q0 q1 q2
  by_cases hlt:m<l.length
  ·have hrec:=HL.out.below hxr
   obtain⟨b,o,rfl,hb,hc⟩:=hrec.1.get hlt
   obtain⟨c0,c1,c2⟩:=Rcd.cells3 hc
   have hrow:=(hrec.2 l[m] (lgm hlt)).1
   have hrl:=HSR.out l[m] (lgm hlt)
   have HN0:=qh (Di (key:=key) (r:=l[m]))
   have HN1:=qh (pW (key:=key) (r:=l[m]))
   obtain⟨⟨RA,rc,row,SA,sc,sq,dy⟩,hx⟩:∃x:Rcd,l[m]=x:=⟨_,rfl⟩
   have HX:=qh hx
   rw[hx]at c0 hrow hrl
   simp only at c0 hrow hrl
   clear hc hrec c1 c2 hx
   by_cases hr0:0<row.length
   ·have mM:decide (0<row.length)=true:=by simpa using hr0
    obtain⟨b6,o6,rfl,hb6,hc6⟩:=hrow.get hr0
    obtain⟨y0,y1,y2⟩:=Val.cells3 hc6
    simp only[Nat.zero_mul,Nat.add_zero]at y0 y1 y2
    clear hc6 hrow
    have hhit:gK key l[m]=decide (row[0]=key):=by have:=HN1.out;rw[HX.out]at this ⊢;exact this hr0
    cases he:decide (row[0]=key)
    ·have heq:=bu he
     have HH:Hid (gK key l[m]=false):=qh (hhit.trans he)
     clear hhit he
     go_upto_region 4 with (go_at_call 45;(with_reducible refine(bO key _ HV.out).mono ?_);rintro e w1 ⟨rfl,hb1⟩;have hx1:Below W.heap.size W w1:=aa hbr hb1.1 hbr.size;obtain⟨k1,_,_⟩:=bN hb1.1 w.heap.size dt)
     have Vd:=hb1.1.size
     have q0:=(k1 _).trans q0
     have q1:=(k1 _).trans q1
     have q2:=(k1 _).trans q2
     obtain⟨e1,_,_⟩:=bN hb1.1 b omA
     obtain⟨e6,_,_⟩:=bN hb1.1 b6 omA
     have c0:=(e1 _).trans c0
     have y0:=(e6 _).trans y0
     have y1:=(e6 _).trans y1
     have y2:=(e6 _).trans y2
     clear k1 e1 e6
     have hk0:=az (w:=w1) b omA
     have hk1:=az (w:=w1) b6 omA
     have hk2:=az (w:=w1) w.heap.size omA
     refine af krA krA ?_;(repeat(go_big_quiet_step (fail)));refine wpQuiet_nil ?_;intro wq hq
     clear hk0 hk1 hk2 q0 q1 q2 c0 y0 y1 y2 heq
     go_wp2_with fail
     go_roundw
     case rel=>exact⟨m+1,by omega,by go_num,aa hx1 hq hx1.size,fun i h hi=>by
      rcases Nat.lt_or_ge i m with h1|h1
      ·exact HNO.out i h h1
      ·obtain rfl:i=m:=by omega
       exact HH.out⟩
     case measure=>exact meA
    ·have heq:=bu he
     have HH:Hid (gK key l[m]=true):=qh (hhit.trans he)
     clear hhit he
     go_upto_region 4 with (go_at_call 45;(with_reducible refine(bO key _ HV.out).mono ?_);rintro e w1 ⟨rfl,hb1⟩;have hx1:Below W.heap.size W w1:=aa hbr hb1.1 hbr.size;obtain⟨k1,_,_⟩:=bN hb1.1 w.heap.size dt)
     have Vd:=hb1.1.size
     have q0:=(k1 _).trans q0
     have q1:=(k1 _).trans q1
     have q2:=(k1 _).trans q2
     obtain⟨e1,_,_⟩:=bN hb1.1 b omA
     obtain⟨e6,_,_⟩:=bN hb1.1 b6 omA
     have c0:=(e1 _).trans c0
     have y0:=(e6 _).trans y0
     have y1:=(e6 _).trans y1
     have y2:=(e6 _).trans y2
     clear k1 e1 e6
     have hk0:=az (w:=w1) b omA
     have hk1:=az (w:=w1) b6 omA
     have hk2:=az (w:=w1) w.heap.size omA
     refine af krA krA ?_;(repeat(go_big_quiet_step (fail)));refine wpQuiet_nil ?_;intro wq hq
     clear hk0 hk1 hk2 q0 q1 q2 c0 y0 y1 y2 heq
     go_wp2_with fail
     go_ret
     exact⟨aS (a:=(m:Int)) (by rw[HF.out,sN hlt HH.out HNO.out]),aa hbW (aa hx1 hq hx1.size) hbW.size⟩
   ·have mM:decide (0<row.length)=false:=by simpa using hr0
    have hre:row.length=0:=by omega
    have HH:Hid (gK key l[m]=false):=qh (by have:=HN0.out;rw[HX.out]at this ⊢;exact this hre)
    clear hrow hre
    go_upto_region 4 with (go_at_call 45;(with_reducible refine(bO key _ HV.out).mono ?_);rintro e w1 ⟨rfl,hb1⟩;have hx1:Below W.heap.size W w1:=aa hbr hb1.1 hbr.size;obtain⟨k1,_,_⟩:=bN hb1.1 w.heap.size dt)
    have Vd:=hb1.1.size
    have q0:=(k1 _).trans q0
    have q1:=(k1 _).trans q1
    have q2:=(k1 _).trans q2
    obtain⟨e1,_,_⟩:=bN hb1.1 b omA
    have c0:=(e1 _).trans c0
    clear k1 e1
    have hk0:=az (w:=w1) b omA
    have hk2:=az (w:=w1) w.heap.size omA
    refine af krA krA ?_;(repeat(go_big_quiet_step (fail)));refine wpQuiet_nil ?_;intro wq hq
    clear hk0 hk2 q0 q1 q2 c0
    go_wp2_with fail
    go_roundw
    case rel=>exact⟨m+1,by omega,by go_num,aa hx1 hq hx1.size,fun i h hi=>by
     rcases Nat.lt_or_ge i m with h1|h1
     ·exact HNO.out i h h1
     ·obtain rfl:i=m:=by omega
      exact HH.out⟩
    case measure=>exact meA
  ·have hlt':decide (m<l.length)=false:=by simpa using hlt
   go_wp2_with fail
   go_ret
   exact⟨aS (a:= -1) (by rw[HF.out,uJ fun i hi=>HNO.out i hi omA]),hxr⟩
def nR(rt:List RTab):List Int:=rt.flatMap fun t=>t.recs.flatMap Rcd.seq
def qZ(l:List Int):Int:=l.foldl max 0
def uj(rt:List RTab):Int:=qZ (nR rt)
theorem EB(l:List Int)(x:Int):qZ (l ++ [x])=max (qZ l) x:=by simp[qZ,List.foldl_append]
structure mi (rt:List RTab):Prop where
 len:rt.length≤1000000
 recs:∀t∈rt,t.recs.length≤1000000
 row:∀t∈rt,∀r∈t.recs,r.row.length≤1000000
 seq:∀t∈rt,∀r∈t.recs,r.seq.length≤1000000
theorem EK(A:Option Addr)(c n:Nat)(rt:List RTab)(w:World)(hl:aR w w.heap.size A rt)(hln:rt.length=n)(hs:mi rt){r:Int}(hr:uj rt=r):
 Calls Tryz.prog 144 #[.slice A n c] w fun e w'=>e=.returned (.int .i64 r)∧w=w':=by
 subst hln hr
 have hn:=hs.len
 have HL:=qh hl
 have HS:=qh hs
 clear hl hs
 go_enter Tryz.func144,Tryz.ntmps144
 go_wp2_with fail
 go_loopw [3,4] (fun vo vi wr =>∃(m:Nat) (top:Int),m≤rt.length∧vi=.int .i64 m∧vo=.int .i64 top∧qZ (nR (rt.take m))=top∧w=wr) (fun _ vi _=>rt.length-(intOf vi).toNat)
 case atStart=>exact⟨0,0,Nat.zero_le _,rfl,rfl,rfl,rfl⟩
 case round =>
  obtain⟨m,top,hm,rfl,rfl,htop,rfl⟩:=hrel
  have HT:=qh htop
  clear htop
  by_cases hlt:m<rt.length
  ·obtain⟨b,o,rfl,hb,hc⟩:=HL.out.1.get hlt
   have c0:=hc 0 _ rfl
   have dw:=HL.out.2 rt[m] (lgm hlt)
   have hrl:=HS.out.recs rt[m] (lgm hlt)
   have hql:=HS.out.seq rt[m] (lgm hlt)
   obtain⟨⟨TA,tc,recs⟩,hx⟩:∃x:RTab,rt[m]=x:=⟨_,rfl⟩
   have HX:=qh hx
   rw[hx]at c0 dw hrl hql
   simp only[Nat.mul_one,Nat.add_zero]at c0 dw hrl hql
   have HR:=qh dw
   have HQ:=qh hql
   clear hc hx dw hql
   go_wp2_with fail
   go_loopw [3,5] (fun vo vk wi =>∃(k:Nat) (top:Int),k≤recs.length∧vk=.int .i64 k∧vo=.int .i64 top∧qZ (nR (rt.take m)++(recs.take k).flatMap Rcd.seq)=top∧w=wi) (fun _ vk _=>recs.length-(intOf vk).toNat)
   case atStart=>exact⟨0,top,Nat.zero_le _,rfl,rfl,by simpa using HT.out,rfl⟩
   case round =>
    obtain⟨k,QP,hk,rfl,rfl,P8,rfl⟩:=hrel
    have HT2:=qh P8
    clear P8
    by_cases hkl:k<recs.length
    ·obtain⟨b2,o2,rfl,hb2,hc2⟩:=HR.out.1.get hkl
     obtain⟨_,d1,_⟩:=Rcd.cells3 hc2
     have hseq:=(HR.out.2 recs[k] (lgm hkl)).2
     have hsl:=HQ.out recs[k] (lgm hkl)
     obtain⟨⟨RA,rc,row,SA,sc,sq,dy⟩,hy⟩:∃x:Rcd,recs[k]=x:=⟨_,rfl⟩
     have HY:=qh hy
     rw[hy]at d1 hseq hsl
     simp only at d1 hseq hsl
     have HSQ:=qh hseq
     clear hc2 hy hseq
     go_wp2_with fail
     go_loopw [3,6] (fun vo vj wj =>∃(j:Nat) (top:Int),j≤sq.length∧vj=.int .i64 j∧vo=.int .i64 top∧qZ (nR (rt.take m)++(recs.take k).flatMap Rcd.seq++sq.take j)=top∧w=wj) (fun _ vj _=>sq.length-(intOf vj).toNat)
     case atStart=>exact⟨0,QP,Nat.zero_le _,rfl,rfl,by simpa using HT2.out,rfl⟩
     case round =>
      obtain⟨j,NU,hj,rfl,rfl,P7,rfl⟩:=hrel
      have HT3:=qh P7
      clear P7
      by_cases hjl:j<sq.length
      ·obtain⟨b3,o3,rfl,hb3,hc3⟩:=HSQ.out.get hjl
       have e0:=hc3 0 _ rfl
       simp only[Nat.mul_one,Nat.add_zero]at e0
       have HST:Hid (qZ (nR (rt.take m)++(recs.take k).flatMap Rcd.seq++sq.take (j+1))=max NU sq[j]):=qh (by rw[List.take_succ_eq_append_getElem hjl,←List.append_assoc,EB,HT3.out])
       obtain⟨z,hz⟩:∃z,sq[j]=z:=⟨_,rfl⟩
       rw[hz]at e0
       have HZ:=qh hz
       clear hc3 hz
       go_wp2_with fail
       all_goals go_roundw
       all_goals(try(case rel=>exact⟨j+1,max NU z,by omega,by go_num,congrArg (Value.int .i64) (by first|omega|(split<;>omega)),by rw[HST.out,HZ.out],by first|rfl|trivial⟩))
       all_goals(simp[intOf];omega)
      ·have uD:decide (j<sq.length)=false:=by simpa using hjl
       have hje:j=sq.length:=by omega
       have HF:Hid (qZ (nR (rt.take m)++(recs.take (k+1)).flatMap Rcd.seq)=NU):=qh (by
        rw[List.take_succ_eq_append_getElem hkl,List.flatMap_append,←List.append_assoc,←HT3.out,hje,List.take_length,HY.out]
        simp)
       clear hje
       go_wp2_with fail
       go_roundw
       case rel=>exact⟨k+1,NU,by omega,by go_num,rfl,HF.out,by first|rfl|trivial⟩
       case measure=>exact meA
    ·have hkl':decide (k<recs.length)=false:=by simpa using hkl
     have hke:k=recs.length:=by omega
     have HF:Hid (qZ (nR (rt.take (m+1)))=QP):=qh (by
      rw[List.take_succ_eq_append_getElem hlt,nR,List.flatMap_append,←HT2.out,hke,List.take_length,HX.out]
      simp[nR])
     clear hke
     go_wp2_with fail
     go_roundw
     case rel=>exact⟨m+1,QP,by omega,by go_num,rfl,HF.out,by first|rfl|trivial⟩
     case measure=>exact meA
  ·have hlt':decide (m<rt.length)=false:=by simpa using hlt
   have hme:m=rt.length:=by omega
   have HF:Hid (uj rt=top):=qh (by rw[uj,←HT.out,hme,List.take_length])
   clear hme
   go_wp2_with fail
   go_ret
   exact⟨aS HF.out.symm,rfl⟩
section
variable {α β:Type}{w w':World}{base base':Nat}{e e':TypeId}{enc:α→List Value}{enc':β→List Value}{k k':Nat}{v v':Value}{l:List α}{l':List β}
theorem aj.kept(h:aj w base e enc k v l){row:Option Nat}(hg:w.grownBy w' row)(hr:∀q,v.ownBlock=some q→some q≠row):aj w' base e enc k v l:=by
 refine⟨h.1,?_⟩
 rcases h.2 with h1|⟨g,cap,cur,rfl,hbs,hgg,hrest⟩
 ·exact .inl h1
 ·refine .inr ⟨g,cap,cur,rfl,hbs,?_,hrest⟩
  have hlt:g<w.heap.size:=by
   rcases Nat.lt_or_ge g w.heap.size with hlt|hge
   ·exact hlt
   ·rw[Array.getElem?_eq_none hge]at hgg;cases hgg
  rw[hg.block g hlt (hr g rfl)]
  exact hgg
theorem aj.typ(h:aj w base e enc k v l){q:Nat}(hq:v.ownBlock=some q):∃cs,w.heap[q]?=some (.cells cs e (0,0)):=by
 rcases h.2 with ⟨rfl,_⟩|⟨g,cap,cur,rfl,hbs,hgg,hrest⟩
 ·simp[Value.ownBlock]at hq
 ·have:g=q:=by simpa[Value.ownBlock]using hq
  subst this
  exact⟨cur,hgg⟩
theorem aj.eT(h:aj w base e enc k v l)(h':aj w base' e' enc' k' v' l')(he:e≠e'):∀q,v.ownBlock=some q→some q≠v'.ownBlock:=by
 intro q hq hq'
 obtain⟨cs,h1⟩:=h.typ hq
 obtain⟨cs',h2⟩:=h'.typ hq'.symm
 rw[h1]at h2
 injection h2 with h2
 injection h2 with _ h2 _
 exact he h2
theorem aj.aY(h:aj w base e enc k v l){g:Nat}{cs:Array Value}(hb:Blk w g e' cs)(he:e≠e'):∀q,v.ownBlock=some q→q≠g:=by
 intro q hq hq'
 obtain⟨cs',h1⟩:=h.typ hq
 unfold Blk at hb
 rw[hq',hb]at h1
 injection h1 with h1
 injection h1 with _ h1 _
 exact he h1.symm
end
section
variable {α:Type}{w:World}{base:Nat}{e:TypeId}{enc:α→List Value}{k:Nat}{l:List α}{g n cap:Nat}
theorem aj.gq(hk:∀x,(enc x).length=k)(h:aj w base e enc k (.slice (some ⟨g,0,none⟩) n cap) l)(hn:n=l.length){i:Nat}(hi:i<l.length){j:Nat}{u:Value}(hu:(enc l[i])[j]?=some u):w.cell? ⟨g,i*k+j,none⟩=some u:=by
 subst hn
 exact h.Vu hk hi hu
theorem aj.kH(h:aj w base e enc k (.slice (some ⟨g,0,none⟩) n cap) l)(hn:n=l.length)(j:Nat):w.frozen? ⟨g,j,none⟩=false:=by
 subst hn
 exact h.frz j
end
theorem Ls{α:Type}{enc:α→List Value}{s:Nat}(hk:∀x,(enc x).length=s)(hs:0<s)(x:α)(n:Nat):(madeCells (enc x).toArray (n*s)).toList=(List.replicate n x).flatMap enc:=by
 apply List.ext_getElem?
 intro i
 rcases Nat.lt_or_ge i (n*s) with h|h
 ·have hq:i / s<n:=(Nat.div_lt_iff_lt_mul hs).2 h
  have hr:i % s<s:=Nat.mod_lt _ hs
  have hr':i % s<(enc x).length:=by rw[hk];exact hr
  have e:i / s*s+i % s=i:=by rw[Nat.mul_comm];exact Nat.div_add_mod i s
  have h1:=flat_get hk (List.replicate n x) (i / s) (by simpa using hq) (i % s) (enc x)[i % s] spA
  rw[e]at h1
  rw[h1]
  have hsz:(enc x).toArray.size=s:=by simpa using hk x
  simp only[madeCells,hsz,Array.getElem?_toList,Array.getElem?_map]
  rw[Array.getElem?_eq_getElem (by simpa using h)]
  simp only[Array.getElem_range,Option.map_some]
  rw[getElem!_pos (enc x).toArray (i % s) (by rw[hsz];exact hr)]
  simp
 ·rw[List.getElem?_eq_none (by simp[size_madeCells];omega),List.getElem?_eq_none (by rw[dx hk];simpa using h)]
theorem aj.made{α:Type}{enc:α→List Value}{s g base n:Nat}{t:TypeId}{w:World}{x:α}(hk:∀x,(enc x).length=s)(hs:0<s)(hb:Blk w g t (madeCells (enc x).toArray (n*s)))(hg:base≤g)(hn:n≤maxLen):aj w base t enc s (.slice (some ⟨g,0,none⟩) n n) (List.replicate n x):=by
 have e:=Ls hk hs x n
 refine⟨by rw[dx hk],.inr ⟨g,n,_,by rw[List.length_replicate],hg,hb,by simp,hn,by simp[size_madeCells],?_⟩⟩
 rw[e,List.length_replicate,List.take_of_length_le (by rw[dx hk];simp)]
def dA(w:World)(base:Nat)(r:Rcd):Prop:=aj w base 50 Val.cells 3 (.slice r.A r.row.length r.cap) r.row∧aj w base 3 intCells 1 (.slice r.SA r.seq.length r.xJ) r.seq
def kJ(A B:Option Addr):Prop:= ∀a b,A=some a→B=some b→a.block≠b.block
theorem kJ.symm{A B:Option Addr}(h:kJ A B):kJ B A:=fun a b ha hb e=>h b a hb ha e.symm
def dO(r s:Rcd):Prop:=kJ r.A s.A∧kJ r.SA s.SA
theorem dO.symm{r s:Rcd}(h:dO r s):dO s r:=⟨h.1.symm,h.2.symm⟩
structure dB (w:World) (base:Nat) (l:List RTab):Prop where
 tab:∀t∈l,aj w base 66 Rcd.cells 3 (.slice t.A t.recs.length t.cap) t.recs
 row:∀t∈l,∀r∈t.recs,dA w base r
 mD:∀i j (hi:i<l.length) (hj:j<l.length),i≠j→kJ l[i].A l[j].A
 jf:∀i j (hi:i<l.length) (hj:j<l.length),i≠j→∀r∈l[i].recs,∀s∈l[j].recs,dO r s
 mU:∀t∈l,t.recs.Pairwise dO
def dY:RTab:=⟨none,0,[]⟩
def aA(r:Rcd):List Val × List Int × Int:=(r.row,r.seq,r.day)
def aD(t:RTab):List (List Val × List Int × Int):=t.recs.map aA
theorem dB.zero(w:World)(base n:Nat):dB w base (List.replicate n dY):=by
 have hz:∀t∈List.replicate n dY,t=dY:=fun t ht=>(List.mem_replicate.1 ht).2
 refine⟨fun t ht =>?_,fun t ht r hr =>?_,fun i j hi hj _ =>?_,fun i j hi hj _ r hr =>?_,fun t ht =>?_⟩
 ·rw[hz t ht];exact aj.nil
 ·rw[hz t ht]at hr;cases hr
 ·intro a b ha;simp[dY]at ha
 ·simp[dY]at hr
 ·rw[hz t ht];exact List.Pairwise.nil
section
variable {w w':World}{base:Nat}{l:List RTab}
theorem dA.keep{r:Rcd}(h:dA w base r){row:Option Nat}(hg:w.grownBy w' row)(h1:∀q,row=some q→∀cs,w.heap[q]? ≠ some (.cells cs 50 (0,0)))(h2:∀q,row=some q→∀cs,w.heap[q]? ≠ some (.cells cs 3 (0,0))):dA w' base r:=
 ⟨h.1.kept hg fun q hq e=>by obtain⟨cs,hc⟩:=h.1.typ hq;exact h1 q e.symm cs hc,h.2.kept hg fun q hq e=>by obtain⟨cs,hc⟩:=h.2.typ hq;exact h2 q e.symm cs hc⟩
theorem dB.below{B:Nat}(h:dB w base l)(hb:Below B w w')(hB:w.heap.size≤B):dB w' base l:=
 ⟨fun t ht=>(h.tab t ht).below hb hB,fun t ht r hr=>⟨(h.row t ht r hr).1.below hb hB,(h.row t ht r hr).2.below hb hB⟩,h.mD,h.jf,h.mU⟩
theorem dA.read{r:Rcd}(h:dA w base r):oK w w.heap.size r:=by
 obtain⟨A,c,e,_,hs,_⟩:=h.1.slice bC
 obtain⟨A',c',e',_,hs',_⟩:=h.2.slice bE
 injection e with e _ _
 injection e' with e' _ _
 subst e e'
 exact⟨hs,hs'⟩
theorem dB.read(h:dB w base l){A:Option Addr}{n c:Nat}(ho:aj w base 46 RTab.cells 1 (.slice A n c) l):aR w w.heap.size A l:=by
 obtain⟨A',c',e,_,hs,_⟩:=ho.slice dH
 injection e with e _ _
 subst e
 refine⟨hs,fun t ht =>?_⟩
 obtain⟨A2,c2,e2,_,hs2,_⟩:=(h.tab t ht).slice bG
 injection e2 with e2 _ _
 subst e2
 exact⟨hs2,fun r hr=>(h.row t ht r hr).read⟩
theorem AA:66≠50:=by decide
theorem Ez:66≠3:=by decide
theorem Ey:46≠50:=by decide
theorem KF:46≠3:=by decide
theorem nO:46≠66:=by decide
theorem lC{w:World}{q:Nat}{cs:Array Value}{e e':TypeId}(h:w.heap[q]?=some (.cells cs e (0,0)))(he:e≠e')(cs':Array Value):w.heap[q]? ≠ some (.cells cs' e' (0,0)):=by
 intro h'
 rw[h]at h'
 injection h' with h'
 injection h' with _ h' _
 exact he h'
theorem dB.far(h:dB w base l){q i:Nat}{cs:Array Value}(hq:w.heap[q]?=some (.cells cs 46 (0,0)))(u:Value):dB (w.setCell ⟨q,i,none⟩ u) base l:=by
 have hne:∀ {α:Type}{enc:α→List Value}{k:Nat}{e:TypeId}{v:Value}{m:List α},aj w base e enc k v m→46≠e→aj (w.setCell ⟨q,i,none⟩ u) base e enc k v m:=by
  intro α enc k e v m ho he
  refine ho.far (fun g hg e' =>?_) u
  obtain⟨cs',hc⟩:=ho.typ hg
  have e':g=q:=e'
  rw[e']at hc
  exact lC hq he cs' hc
 exact⟨fun t ht=>hne (h.tab t ht) nO,fun t ht r hr=>⟨hne (h.row t ht r hr).1 Ey,hne (h.row t ht r hr).2 KF⟩,h.mD,h.jf,h.mU⟩
theorem dB.more(h:dB w base l){m:Nat}(hm:m<l.length)(hbase:base≤w.heap.size){A3:Option Addr}{c3:Nat}{r':Rcd}(hg:w.grownBy w' (Value.slice l[m].A l[m].recs.length l[m].cap).ownBlock)
 (hT:aj w' base 66 Rcd.cells 3 (.slice A3 (l[m].recs.length+1) c3) (l[m].recs ++ [r'])) (hat:∀a,A3=some a→(Value.slice l[m].A l[m].recs.length l[m].cap).ownBlock=some a.block∨w.heap.size≤a.block)
 (hr:dA w base r') (hrn:(∀t∈l,∀s∈t.recs,dO s r')):dB w' base (l.set m ⟨A3,c3,l[m].recs ++ [r']⟩):=by
 have hown:=h.tab l[m] (lgm hm)
 have fD:∀q,(Value.slice l[m].A l[m].recs.length l[m].cap).ownBlock=some q→∀cs,w.heap[q]? ≠ some (.cells cs 50 (0,0)):=fun q hq cs=>by
  obtain⟨cs',hc⟩:=hown.typ hq
  exact lC hc AA cs
 have hrow2:∀q,(Value.slice l[m].A l[m].recs.length l[m].cap).ownBlock=some q→∀cs,w.heap[q]? ≠ some (.cells cs 3 (0,0)):=fun q hq cs=>by
  obtain⟨cs',hc⟩:=hown.typ hq
  exact lC hc Ez cs
 have hR:∀r,dA w base r→dA w' base r:=fun r h=>h.keep hg fD hrow2
 have hmem:∀t∈l.set m ⟨A3,c3,l[m].recs ++ [r']⟩,(∃i,∃hi:i<l.length,i≠m∧t=l[i])∨t=⟨A3,c3,l[m].recs ++ [r']⟩:=by
  intro t ht
  obtain⟨i,hi,rfl⟩:=List.getElem_of_mem ht
  rw[List.getElem_set]
  split
  ·exact .inr rfl
  ·rename_i hne
   exact .inl ⟨i,by simpa using hi,fun e=>hne e.symm,rfl⟩
 have M3:∀i (hi:i<l.length),i≠m→kJ l[i].A A3:=by
  intro i hi hne a b ha hb e
  rcases hat b hb with h1|h1
  ·have h2:=h.mD i m hi hm hne
   cases hlA:l[m].A with
   | none=>rw[hlA]at h1;simp[Value.ownBlock]at h1
   | some c =>
     rw[hlA]at h1 h2
     have:c.block=b.block:=by simpa[Value.ownBlock]using h1
     exact h2 a c ha rfl (by rw[e,this])
  ·have h2:=(h.tab l[i] (lgm hi)).lt a.block eb
   omega
 refine⟨fun t ht =>?_,fun t ht r hr2 =>?_,fun i j hi hj hne =>?_,fun i j hi hj hne r hr1 s hs =>?_,fun t ht =>?_⟩
 ·rcases hmem t ht with ⟨i,hi,hne,rfl⟩|rfl
  ·refine(h.tab l[i] (lgm hi)).kept hg fun q hq e =>?_
   have h2:=h.mD i m hi hm hne
   cases hA:l[i].A with
   | none=>rw[hA]at hq;simp[Value.ownBlock]at hq
   | some a =>
     cases hB:l[m].A with
     | none=>rw[hB]at e;simp[Value.ownBlock]at e
     | some b =>
       rw[hA,hB]at h2
       rw[hA]at hq
       rw[hB]at e
       have e1:a.block=q:=by simpa[Value.ownBlock]using hq
       have e2:q=b.block:=by simpa[Value.ownBlock]using e
       exact h2 a b rfl rfl (e1.trans e2)
  ·simpa using hT
 ·rcases hmem t ht with ⟨i,hi,hne,rfl⟩|rfl
  ·exact hR r (h.row l[i] (lgm hi) r hr2)
  ·rcases List.mem_append.1 hr2 with h1|h1
   ·exact hR r (h.row l[m] (lgm hm) r h1)
   ·rw[List.mem_singleton.1 h1]
    exact hR r' hr
 ·rw[List.length_set]at hi hj
  rw[List.getElem_set,List.getElem_set]
  by_cases him:m=i
  ·rw[if_pos him,if_neg omA]
   exact(M3 j hj omA).symm
  ·rw[if_neg him]
   by_cases hjm:m=j
   ·rw[if_pos hjm]
    exact M3 i hi omA
   ·rw[if_neg hjm]
    exact h.mD i j hi hj hne
 ·rw[List.length_set]at hi hj
  rw[List.getElem_set]at hr1 hs
  by_cases him:m=i
  ·rw[if_pos him]at hr1
   rw[if_neg omA]at hs
   rcases List.mem_append.1 hr1 with h1|h1
   ·exact h.jf m j hm hj omA r h1 s hs
   ·rw[List.mem_singleton.1 h1]
    exact(hrn l[j] (lgm hj) s hs).symm
  ·rw[if_neg him]at hr1
   by_cases hjm:m=j
   ·rw[if_pos hjm]at hs
    rcases List.mem_append.1 hs with h1|h1
    ·exact h.jf i m hi hm omA r hr1 s h1
    ·rw[List.mem_singleton.1 h1]
     exact hrn l[i] (lgm hi) r hr1
   ·rw[if_neg hjm]at hs
    exact h.jf i j hi hj hne r hr1 s hs
 ·rcases hmem t ht with ⟨i,hi,hne,rfl⟩|rfl
  ·exact h.mU _ (lgm hi)
  ·refine List.pairwise_append.2 ⟨h.mU _ (lgm hm),by simp,fun s hs r hr1 =>?_⟩
   rw[List.mem_singleton.1 hr1]
   exact hrn l[m] (lgm hm) s hs
end
open Go.RowKit Go
section
variable {P:Program}{ops:Array Oper}{Q:Exit→Act→World→Prop}{md:Region.Mode}{S:World→Prop}{Z:List Nat}
def wpT(P:Program)(md:Region.Mode)(ops:Array Oper)(Q:Exit→Act→World→Prop)(S:World→Prop)(Z:List Nat):Nat→Array Bool→Act→World→Prop
 | 0,listed,a,w=>Region.ready md ops listed=[]∧Q .normal a w
 | n + 1,listed,a,w=>(Region.ready md ops listed = []→Q .normal a w) ∧
   ∀i∈Region.ready md ops listed,wpOp P ops Q i (fun a' w'=>(i ∉ Z→S w')∧wpT P md ops Q S Z n (listed.setIfInBounds i true) a' w') a w
theorem Gs:∀(n:Nat) (listed:Array Bool) (a:Act) (w:World),wpT P md ops Q S Z n listed a w→wpAny P md ops Q n listed a w
 | 0,_,_,_,h=>h
 | n+1,_,_,_,h=>⟨h.1,fun i hi=>wpOp_mono (fun a' w' h'=>Gs n _ a' w' h'.2) (h.2 i hi)⟩
def Cj(md:Region.Mode)(ops:Array Oper)(Z:List Nat)(i:Nat):Bool:=Z.all fun z=>match ops[z]? with
 | some o=>o.after.any fun e=>Region.binds md e&&e.on==i
 | none=>false
theorem Ex{i j:Nat}{listed:Array Bool}(h:Cj md ops Z i=true)(hi:i∈Region.ready md ops listed)(hj:j∈Region.ready md ops listed):j ∉ Z:=by
 intro hz
 have h1:=List.all_eq_true.1 h j hz
 obtain⟨hi0,_⟩:=mem_ready.1 hi
 obtain⟨_,o,ho,hall⟩:=mem_ready.1 hj
 rw[ho]at h1
 obtain⟨e,he,hb⟩:=Array.any_eq_true'.1 h1
 simp only[Bool.and_eq_true,beq_iff_eq]at hb
 have h2:=hall e he hb.1
 rw[hb.2]at h2
 rcases Nat.lt_or_ge i listed.size with h'|h'
 ·simp[h']at hi0 h2
  rw[hi0]at h2
  cases h2
 ·simp[Array.getElem?_eq_none h']at h2
theorem Hm{i:Nat}{oi:Oper}{v:Value}(hi:ops[i]?=some oi)(hsel:∀(j:Nat) (o:Oper) cs b,ops[j]?=some o→o.op≠.select cs b)
 (hw:Cj md ops Z i=true) (hQ:∀c a w,Q (.panic c) (a.put oi.dst v) w→Q (.panic c) a w):
 ∀(n:Nat) (listed:Array Bool) (a:Act) (w:World),
  (∀j oj,ops[j]?=some oj→j≠i→listed.getD j true=false→(∀e∈oj.after,Region.binds md e=true→e.on≠i)→oi.apart ops oj=true) →
  i∈Region.ready md ops listed→YieldsIf P ops S oi v a→S w →
  wpT P md ops Q S Z n (listed.setIfInBounds i true) (a.put oi.dst v) w→wpT P md ops Q S Z (n+1) listed a w:=by
 intro n
 induction n with
 | zero =>
   intro listed a w _ hr hy hS H
   refine⟨fun h=>absurd (h▸hr) spA,fun j hj =>?_⟩
   by_cases hji:j=i
   ·subst hji
    exact hy.wpOp hi hS ⟨fun _=>hS,H⟩
   ·have h0:=ready_mono hj hji
    rw[H.1]at h0
    cases h0
 | succ n ih =>
   intro listed a w hap hr hy hS H
   refine⟨fun h=>absurd (h▸hr) spA,fun j hj =>?_⟩
   by_cases hji:j=i
   ·subst hji
    exact hy.wpOp hi hS ⟨fun _=>hS,H⟩
   ·have hjz:=Ex hw hr hj
    obtain⟨hjun,oj,hoj,hall⟩:=mem_ready.1 hj
    have hno:∀e∈oj.after,Region.binds md e=true→e.on≠i:=fun e he hb heq=>by
     have h1:=hall e he hb
     have h0:=(mem_ready.1 hr).1
     rw[heq]at h1
     rcases Nat.lt_or_ge i listed.size with h'|h'
     ·simp[h']at h0 h1
      rw[h0]at h1
      cases h1
     ·simp[Array.getElem?_eq_none h']at h1
    have hgo:=wpOp_putIf hoj (hap j oj hoj hji hjun hno) (fun cs b=>hsel i oi cs b hi) (fun cs b=>hsel j oj cs b hoj) hQ hy (H.2 j (ready_mono hj hji))
    have O3:∀k ok,ops[k]?=some ok→k≠i→(listed.setIfInBounds j true).getD k true=false→(∀e∈ok.after,Region.binds md e=true→e.on≠i)→oi.apart ops ok=true:=fun k ok hk hki hun hn=>by
     refine hap k ok hk hki ?_ hn
     by_cases hjk:j=k
     ·subst hjk
      exact hjun
     ·rw[getD_set_ne true hjk]at hun
      exact hun
    refine wpOp_mono (fun a' w' h3 =>?_) hgo
    have hS':=h3.2.1 hjz
    refine⟨fun _=>hS',ih (listed.setIfInBounds j true) a' w' O3 (ready_mono hr (Ne.symm hji)) h3.1 hS' ?_⟩
    rw[Array.setIfInBounds_comm _ _ hji]
    exact h3.2.2
theorem Ci{i:Nat}{oi:Oper}{v:Value}{n:Nat}{listed:Array Bool}{a:Act}{w:World}(hi:ops[i]?=some oi)
 (hs:Region.noSelect ops=true) (hf:Region.free md ops listed i=true) (hr:(Region.ready md ops listed).contains i=true) (hw:Cj md ops Z i=true)
 (hQ:∀c a w,Q (.panic c) (a.put oi.dst v) w→Q (.panic c) a w) (hy:YieldsIf P ops S oi v a) (hS:S w)
 (h:wpT P md ops Q S Z n (listed.setIfInBounds i true) (a.put oi.dst v) w):wpT P md ops Q S Z (n+1) listed a w:=
 Hm hi (Region.noSelect_spec hs) hw hQ n listed a w (Region.free_spec hi hf) (by simpa using hr) hy hS h
theorem tkT(i:Nat){oi:Oper}{v:Value}{n:Nat}{listed:Array Bool}{a a':Act}{w:World}(hS:S w)(h:wpT P md ops Q S Z n (listed.setIfInBounds i true) a' w)
 (hi:ops[i]?=some oi:=by exact rfl) (hs:Region.noSelect ops=true:=by kernel_rfl) (hf:Region.free md ops listed i=true:=by kernel_rfl) (hr:(Region.ready md ops listed).contains i=true:=by kernel_rfl) (hw:Cj md ops Z i=true:=by kernel_rfl)
 (hQ:∀c a w,Q (.panic c) (a.put oi.dst v) w→Q (.panic c) a w:=by exact fun _ _ _ h=>h) (hn:Region.wanted oi (yielded ops a.tmps)=true:=by kernel_rfl)
 (hy:∀w,S w→(execOp a.eval oi).run P w=.ok (.value v) w:=by(intro w hSw;(try dsimp only at hSw);go_simp;first|done|with_reducible rfl))
 (ha:a.put oi.dst v=a':=by((try simp only[Act.put,gP6]);exact rfl)):wpT P md ops Q S Z (n+1) listed a w:=
 Ci hi hs hf hr hw hQ (Or.inl ⟨hn,hy⟩) hS (ha▸h)
theorem unT(i:Nat){oi:Oper}{n:Nat}{listed:Array Bool}{a a':Act}{w:World}(hS:S w)(h:wpT P md ops Q S Z n (listed.setIfInBounds i true) a' w)
 (hi:ops[i]?=some oi:=by exact rfl) (hs:Region.noSelect ops=true:=by kernel_rfl) (hf:Region.free md ops listed i=true:=by kernel_rfl) (hr:(Region.ready md ops listed).contains i=true:=by kernel_rfl) (hw:Cj md ops Z i=true:=by kernel_rfl)
 (hQ:∀c a w,Q (.panic c) (a.put oi.dst undef) w→Q (.panic c) a w:=by exact fun _ _ _ h=>h) (hn:Region.wanted oi (yielded ops a.tmps)=false:=by kernel_rfl)
 (ha:a.put oi.dst undef=a':=by((try simp only[Act.put,gP6]);exact rfl)):wpT P md ops Q S Z (n+1) listed a w:=
 Ci hi hs hf hr hw hQ (Or.inr ⟨hn,rfl⟩) hS (ha▸h)
def jv(P:Program)(md:Region.Mode)(ops:Array Oper)(Q:Exit→Act→World→Prop)(S:World→Prop)(Z:List Nat)(n:Nat)(listed:Array Bool)(a:Act)(w:World)(rs:List Nat):Prop:=
 ∀i∈rs,wpOp P ops Q i (fun a' w'=>(i ∉ Z→S w')∧wpT P md ops Q S Z n (listed.setIfInBounds i true) a' w') a w
theorem jv.nil{n:Nat}{listed:Array Bool}{a:Act}{w:World}:jv P md ops Q S Z n listed a w []:=fun _ h=>by cases h
theorem jv.cons{n:Nat}{listed:Array Bool}{a:Act}{w:World}{i:Nat}{o:Oper}{rs:List Nat}(ho:ops[i]?=some o)
 (h:∀K':Act→World→Prop,Shut (∀a a' w,S w→(S w→wpT P md ops Q S Z n (listed.setIfInBounds i true) a' w)→(ha:a=a':=by((try simp only[Act.put,gP6]);exact rfl))→K' a w)→if Region.wanted o (yielded ops a.tmps)=true then Oper.wp P o a w K' Q else K' (a.put o.dst undef) w)
 (hs:jv P md ops Q S Z n listed a w rs):jv P md ops Q S Z n listed a w (i::rs):=fun j hj=>by
 rcases List.mem_cons.1 hj with rfl|hj
 ·exact wpOp_step ho (fun K' hK=>h K' (fun a a' w hS hW ha=>hK a w ⟨fun _=>hS,ha▸hW hS⟩))
 ·exact hs j hj
theorem jv.last{n:Nat}{listed:Array Bool}{a:Act}{w:World}{i:Nat}{o:Oper}{rs:List Nat}(ho:ops[i]?=some o)(hz:i∈Z)
 (h:∀K':Act→World→Prop,Shut (∀a a' w,wpT P md ops Q S Z n (listed.setIfInBounds i true) a' w→(ha:a=a':=by((try simp only[Act.put,gP6]);exact rfl))→K' a w)→if Region.wanted o (yielded ops a.tmps)=true then Oper.wp P o a w K' Q else K' (a.put o.dst undef) w)
 (hs:jv P md ops Q S Z n listed a w rs):jv P md ops Q S Z n listed a w (i::rs):=fun j hj=>by
 rcases List.mem_cons.1 hj with rfl|hj
 ·exact wpOp_step ho (fun K' hK=>h K' (fun a a' w hW ha=>hK a w ⟨fun hn=>absurd hz hn,ha▸hW⟩))
 ·exact hs j hj
theorem kS{rs:List Nat}{n:Nat}{listed:Array Bool}{a:Act}{w:World}(hr:Region.ready md ops listed=rs)(hne:rs≠[])
 (h:jv P md ops Q S Z n listed a w rs):wpT P md ops Q S Z (n+1) listed a w:=⟨fun h0=>absurd (hr▸h0) hne,hr▸h⟩
theorem r1T(i:Nat){o:Oper}{n:Nat}{listed:Array Bool}{a:Act}{w:World}
 (h:∀K':Act→World→Prop,Shut (∀a a' w,S w→(S w→wpT P md ops Q S Z n (listed.setIfInBounds i true) a' w)→(ha:a=a':=by((try simp only[Act.put,gP6]);exact rfl))→K' a w)→if Region.wanted o (yielded ops a.tmps)=true then Oper.wp P o a w K' Q else K' (a.put o.dst undef) w)
 (ho:ops[i]?=some o:=by exact rfl) (hr:Region.ready md ops listed=[i]:=by kernel_rfl):wpT P md ops Q S Z (n+1) listed a w:=kS hr spA (jv.cons ho h jv.nil)
theorem rzT(i:Nat){o:Oper}{n:Nat}{listed:Array Bool}{a:Act}{w:World}
 (h:∀K':Act→World→Prop,Shut (∀a a' w,wpT P md ops Q S Z n (listed.setIfInBounds i true) a' w→(ha:a=a':=by((try simp only[Act.put,gP6]);exact rfl))→K' a w)→if Region.wanted o (yielded ops a.tmps)=true then Oper.wp P o a w K' Q else K' (a.put o.dst undef) w)
 (ho:ops[i]?=some o:=by exact rfl) (hr:Region.ready md ops listed=[i]:=by kernel_rfl) (hz:i∈Z:=by decide):wpT P md ops Q S Z (n+1) listed a w:=kS hr spA (jv.last ho hz h jv.nil)
theorem r2T(i j:Nat){o o':Oper}{n:Nat}{listed:Array Bool}{a:Act}{w:World}
 (h:∀K':Act→World→Prop,Shut (∀a a' w,S w→(S w→wpT P md ops Q S Z n (listed.setIfInBounds i true) a' w)→(ha:a=a':=by((try simp only[Act.put,gP6]);exact rfl))→K' a w)→if Region.wanted o (yielded ops a.tmps)=true then Oper.wp P o a w K' Q else K' (a.put o.dst undef) w)
 (h':∀K':Act→World→Prop,Shut (∀a a' w,S w→(S w→wpT P md ops Q S Z n (listed.setIfInBounds j true) a' w)→(ha:a=a':=by((try simp only[Act.put,gP6]);exact rfl))→K' a w)→if Region.wanted o' (yielded ops a.tmps)=true then Oper.wp P o' a w K' Q else K' (a.put o'.dst undef) w)
 (ho:ops[i]?=some o:=by exact rfl) (ho':ops[j]?=some o':=by exact rfl) (hr:Region.ready md ops listed=[i,j]:=by kernel_rfl):wpT P md ops Q S Z (n+1) listed a w:=kS hr spA (jv.cons ho h (jv.cons ho' h' jv.nil))
theorem aI{listed:Array Bool}{a:Act}{w:World}(hr:Region.ready md ops listed=[])(h:Q .normal a w):∀n,wpT P md ops Q S Z n listed a w
 | 0=>⟨hr,h⟩
 | _+1=>⟨fun _=>h,by rw[hr];simp⟩
theorem aJ(Z:List Nat){id:Nat}{a:Act}{w:World}(hm:P.follows .mixedOrders=true)(hS:S w.drew)
 (h:S w.drew→wpT P .any ops Q S Z ops.size (Array.replicate ops.size false) a w.drew):(Code.region id ops true).wp P Q a w:=
 wp_region_any hm (Gs _ _ _ _ (h hS))
end
theorem EX{P:Prop}(h:P:=by
 refine tkT 16 hHeld ?_
 refine r1T 17 (fun K hK =>?_)
 go_simp
 refine hK.out _ _ _ ⟨?_,?_,?_,?_⟩ (fun hHeld =>?_)
 iterate 4 (go_simp)
 clear hK K
 refine r1T 18 (fun K hK =>?_)
 (refine av _ rfl (.tmp 37) (.tmp 49) 46 rfl 66 ir _ Rcd.cells 3 56 Tryz.underlying46 hir uw uu uq rfl omA bG eQ w.heap.size (.slice TA2 cur.length tc2) cur rfl (HTB.out.below (B:=W9.heap.size) ai nlr) _ _ _ [⟨RA',rcp,row,SA',scp,sq,dy⟩] rfl rfl (Blk.one (enc:=Rcd.cells) (x:=⟨RA',rcp,row,SA',scp,sq,dy⟩) neA spA) smA mxA smA ?_;intro v3 w3 hown3 hg3 qR;obtain⟨A3,c3,rfl,hO3,hT3⟩:=Jd PK.out VY.out omA ai hml HLM.out (by first|exact Bu.alloc _|exact(Bu.alloc _).drew) (by first|exact rM.alloc _|exact(rM.alloc _).drew) hown3 hg3 qR;have g3:=hO3.gq dH du hml (j:= 0) rfl;have f3:=hO3.kH du m;rw[HLM.out]at g3;simp only[Nat.mul_one,Nat.add_zero]at g3;have kx3:=(fun j=>World.cell?_of_block (a:=⟨X,j,none⟩) (hg3.block X smA (fun e=>by have:=HTX.out X e.symm;omega)));have hx3:Below w.heap.size w w3:=Below.grown (aa hx9 ai omA) hg3 smA HTB.out.row)
 refine hK.out _ _ _ ⟨?_,?_,?_,?_⟩ (fun hHeld =>?_)
 iterate 4 (go_simp)
 clear hK K
 refine tkT 19 hHeld ?_
 refine rzT 20 (fun K hK =>?_)
 go_simp
 refine hK.out _ _ _ ?_
 clear hK K
 refine aI krA ?_ _
 clear hHeld
 obtain⟨hO4,hT4⟩:=FN hO3 du (by simpa using hT3) hml
 have HO4:=qh hO4
 have HT4:=qh hT4
 clear hO4 hT4 hO3 hT3 g3 f3 g0 gf e0 e1 e2
 go_wp2_with fail
 go_roundw
 case rel=>exact⟨k+1,_,by omega,by go_num,by(have h:=HPK.out ⟨RA',rcp,row,SA',scp,sq,dy⟩ rfl A3 c3;rw[HLM.out]at h;exact h),by simpa using HO4.out,by simpa using HT4.out,hx3.setCell nlr _⟩
 case measure=>exact meA):P:=h
structure gD (rt l:List RTab) (m k:Nat):Prop where
 len:l.length=rt.length
 lo:∀i (hi:i<l.length) (hi':i<rt.length),i<m→aD l[i]=aD rt[i]
 at_:∀i (hi:i<l.length) (hi':i<rt.length),i=m→aD l[i]=(aD rt[i]).take k
 hi:∀i (hi:i<l.length),m<i→aD l[i]=[]
theorem gD.zero(rt:List RTab):gD rt (List.replicate rt.length dY) 0 0:=
 ⟨by simp,fun i _ _ h=>by omega,fun i hi hi' _=>by simp[aD,dY],fun i hi _=>by simp[aD,dY]⟩
theorem gD.put{rt l:List RTab}{m k:Nat}(h:gD rt l m k)(hm:m<rt.length)(hm':m<l.length)(hk:k<rt[m].recs.length){r':Rcd}(hr:aA r'=aA rt[m].recs[k])(A3:Option Addr)(c3:Nat):gD rt (l.set m ⟨A3,c3,l[m].recs ++ [r']⟩) m (k+1):=by
 refine⟨by simp[h.len],fun i hi hi' hlt =>?_,fun i hi hi' e =>?_,fun i hi hlt =>?_⟩
 ·rw[List.getElem_set,if_neg omA]
  exact h.lo i (by simpa using hi) hi' hlt
 ·subst e
  rw[List.getElem_set_self]
  have h1:=h.at_ i hm' hi' rfl
  have h2:k<(aD rt[i]).length:=by simpa[aD]using hk
  rw[List.take_succ_eq_append_getElem h2,←h1]
  simp[aD,hr]
 ·rw[List.getElem_set,if_neg omA]
  exact h.hi i (by simpa using hi) hlt
theorem gD.next{rt l:List RTab}{m k:Nat}(h:gD rt l m k)(hm:m<rt.length)(hk:k=rt[m].recs.length):gD rt l (m+1) 0:=by
 refine⟨h.len,fun i hi hi' hlt =>?_,fun i hi hi' e =>?_,fun i hi hlt=>h.hi i hi omA⟩
 ·rcases Nat.lt_or_ge i m with h1|h1
  ·exact h.lo i hi hi' h1
  ·obtain rfl:i=m:=by omega
   rw[h.at_ i hi hi' rfl,hk,List.take_of_length_le (by simp[aD])]
 ·rw[h.hi i hi omA]
  simp
theorem gD.done{rt l:List RTab}(h:gD rt l rt.length 0):l.map aD=rt.map aD:=by
 apply List.ext_getElem (by simp[h.len])
 intro i h1 h2
 rw[List.getElem_map,List.getElem_map]
 exact h.lo i (by simpa using h1) (by simpa using h2) (by simpa using h2)
theorem gD.reclen{rt l:List RTab}{m k:Nat}(h:gD rt l m k)(hm:m<rt.length)(hm':m<l.length)(hk:k≤rt[m].recs.length):l[m].recs.length=k:=by
 have h1:=h.at_ m hm' hm rfl
 have h2:=congrArg List.length h1
 simp[aD]at h2
 omega
theorem Jd{base q n m:Nat}{W9 Wc w3:World}{l:List RTab}{cur:List Rcd}{TA2:Option Addr}{tc2:Nat}{r':Rcd}{v3:Value}(hO:aj W9 base 46 RTab.cells 1 (.slice (some ⟨q,0,none⟩) n n) l)(hT:dB W9 base l)(hbW:base≤W9.heap.size)(hb:Below W9.heap.size W9 Wc)(hm:m<l.length)(hlm:l[m]=⟨TA2,tc2,cur⟩)
 (hr1:aj Wc W9.heap.size 50 Val.cells 3 (.slice r'.A r'.row.length r'.cap) r'.row) (hr2:aj Wc W9.heap.size 3 intCells 1 (.slice r'.SA r'.seq.length r'.xJ) r'.seq) (hown3:aj w3 base 66 Rcd.cells 3 v3 (cur ++ [r'])) (hg3:Wc.grownBy w3 (Value.slice TA2 cur.length tc2).ownBlock)
 (qR:v3.ownBlock=(Value.slice TA2 cur.length tc2).ownBlock∨v3.ownBlock=some Wc.heap.size):
 ∃A3 c3,v3=.slice A3 (cur.length+1) c3∧aj w3 base 46 RTab.cells 1 (.slice (some ⟨q,0,none⟩) n n) l∧dB w3 base (l.set m ⟨A3,c3,cur ++ [r']⟩):=by
 obtain⟨A3,c3,rfl,hc3,hA3⟩:=hown3.form
 have hOc:=hO.below hb nlr
 have hTc:=hT.below hb nlr
 have hmT:=hTc.tab l[m] (lgm hm)
 have hsz:=hb.size
 refine⟨A3,c3,by simp,hOc.kept hg3 (fun g hg =>?_),?_⟩
 ·rw[hlm]at hmT
  exact hOc.eT hmT nO g hg
 ·have h:=dB.more (w':=w3) (A3:=A3) (c3:=c3) (r':=r') hTc hm omA (by rw[hlm];exact hg3) (by rw[hlm];simpa using hown3) (fun a ha =>?_) ⟨hr1.mono hbW,hr2.mono hbW⟩ (fun t ht s hs=>⟨fun a b ha hb' e =>?_,fun a b ha hb' e =>?_⟩)
  ·rw[hlm]at h
   exact h
  ·rw[hlm]
   subst ha
   rcases qR with h1|h1
   ·exact .inl (h1.symm.trans rfl)
   ·have e1:a.block=Wc.heap.size:=by simpa[Value.ownBlock]using h1
    exact .inr omA
  ·have h1:=(hT.row t ht s hs).1.lt a.block eb
   have h2:=hr1.row b.block (by rw[hb'];rfl)
   omega
  ·have h1:=(hT.row t ht s hs).2.lt a.block eb
   have h2:=hr2.row b.block (by rw[hb'];rfl)
   omega
theorem FN{base q n m:Nat}{w3:World}{l:List RTab}{A3:Option Addr}{c3:Nat}{rs:List Rcd}(hO:aj w3 base 46 RTab.cells 1 (.slice (some ⟨q,0,none⟩) n n) l)(hn:n=l.length)(hT:dB w3 base (l.set m ⟨A3,c3,rs⟩))(hm:m<l.length):
 aj (w3.setCell ⟨q,m,none⟩ (.slice A3 rs.length c3)) base 46 RTab.cells 1 (.slice (some ⟨q,0,none⟩) n n) (l.set m ⟨A3,c3,rs⟩)∧dB (w3.setCell ⟨q,m,none⟩ (.slice A3 rs.length c3)) base (l.set m ⟨A3,c3,rs⟩):=by
 obtain⟨cs,hc⟩:=hO.typ (q:=q) rfl
 exact⟨hO.gV dH hn hm ⟨A3,c3,rs⟩ (j:= 0) omA omA rfl,hT.far hc _⟩
theorem nU(A:Option Addr)(c n:Nat)(rt:List RTab)(w:World)(hl:aR w w.heap.size A rt)(hln:rt.length=n)(hs:mi rt):
 Calls Tryz.prog 88 #[.slice A n c] w fun e w' =>∃q rt',e=.returned (.slice (some ⟨q,0,none⟩) n n)∧w.heap.size≤q∧rt'.length=n∧aj w' w.heap.size 46 RTab.cells 1 (.slice (some ⟨q,0,none⟩) n n) rt'∧dB w' w.heap.size rt'∧rt'.map aD=rt.map aD∧Below w.heap.size w w':=by
 subst hln
 have hn:=hs.len
 obtain⟨i7,hi7,hz7,hs7,hb7⟩:=info_parts ym
 obtain⟨iv,hiv,Bn,Bl,Bj⟩:=info_parts uo
 obtain⟨ii,hii,LZ,LY,LX⟩:=info_parts kY
 obtain⟨ir,hir,uw,uu,uq⟩:=info_parts om
 have hmk:∀u:World,(Instr.makeSlice 57 (.int .i64 (rt.length:Int)) (.int .i64 (rt.length:Int))).run Tryz.prog u=.ok (.slice (some ⟨u.heap.size,0,none⟩) rt.length rt.length) (u.alloc (.cells (madeCells (RTab.cells dY).toArray (rt.length*1)) 46)):=fun u=>by
  have:=iN (P:=Tryz.prog) 57 46 i7 (.slice none 0 0) Tryz.underlying57 hi7 hz7 .i64 .i64 rt.length rt.length nlr (by rw[hb7];omega) omA u
  rw[hs7]at this
  exact this
 have HL:=qh hl
 have HS:=qh hs
 clear hl hs hi7 hz7 hs7 hb7
 go_enter Tryz.func88,Tryz.ntmps88
 go_upto_region 2 with (fail)
 clear hmk
 obtain⟨q,hq⟩:∃q,w.heap.size=q:=⟨_,rfl⟩
 refine ah (P:=fun u=>Code.wp _ _ _ _ u) (R:=fun u=>aj u w.heap.size 46 RTab.cells 1 (.slice (some ⟨w.heap.size,0,none⟩) rt.length rt.length) (List.replicate rt.length dY)∧Below w.heap.size w u) ⟨?_,?_⟩ ?_
 ·exact aj.made dH omA (by rw[Nat.mul_one];exact Blk.new' rfl) nlr mxA
 ·exact ai
 rintro W ⟨hO,hbW⟩
 have HO:=qh hO
 have hqW:=hO.lt w.heap.size rfl
 clear hO hq
 go_wp2_with fail
 go_loopw [4] (fun vi wr =>∃(m:Nat) (l:List RTab),m≤rt.length∧vi=.int .i64 m∧gD rt l m 0∧aj wr w.heap.size 46 RTab.cells 1 (.slice (some ⟨w.heap.size,0,none⟩) rt.length rt.length) l∧dB wr w.heap.size l∧Below w.heap.size w wr) (fun vi _=>rt.length-(intOf vi).toNat)
 case atStart=>exact⟨0,_,Nat.zero_le _,rfl,gD.zero rt,HO.out,dB.zero _ _ _,hbW⟩
 case round =>
  obtain⟨m,l,hm,rfl,hct,hol,hot,hbr⟩:=hrel
  have HCT:=qh hct
  have HOL:=qh hol
  have HOT:=qh hot
  clear hct hol hot
  by_cases hlt:m<rt.length
  ·obtain⟨b,o,hAe,hb,hc⟩:=HL.out.1.get hlt
   have c0:=hc 0 _ rfl
   have dw:=HL.out.2 rt[m] (lgm hlt)
   have hrl:=HS.out.recs rt[m] (lgm hlt)
   have hrw:=HS.out.row rt[m] (lgm hlt)
   have hsq:=HS.out.seq rt[m] (lgm hlt)
   have HNX:=qh (fun(l:List RTab) (h:gD rt l m rt[m].recs.length)=>h.next hlt rfl)
   have HPT:=qh (fun(l:List RTab) (k:Nat) (h:gD rt l m k)=>h.put hlt)
   have HRL:=qh (fun(l:List RTab) (k:Nat) (h:gD rt l m k)=>h.reclen hlt)
   obtain⟨⟨TA,tc,recs⟩,hx⟩:∃x:RTab,rt[m]=x:=⟨_,rfl⟩
   rw[hx]at c0 dw hrl hrw hsq HNX HPT HRL
   simp only[Nat.mul_one,Nat.add_zero]at c0 dw hrl hrw hsq HNX HPT HRL
   have HR:=qh dw
   have HRW:=qh hrw
   have HSQ:=qh hsq
   have HC0:=qh c0
   subst hAe
   clear hc hx dw c0 hrw hsq
   go_wp2_with fail
   obtain⟨wo,rfl⟩:∃wo:World,wo=wr:=⟨_,rfl⟩
   go_loopw [5] (fun vk wi =>∃(k:Nat) (l:List RTab),k≤recs.length∧vk=.int .i64 k∧gD rt l m k∧aj wi w.heap.size 46 RTab.cells 1 (.slice (some ⟨w.heap.size,0,none⟩) rt.length rt.length) l∧dB wi w.heap.size l∧Below w.heap.size w wi) (fun vk _=>recs.length-(intOf vk).toNat)
   case atStart=>exact⟨0,l,Nat.zero_le _,rfl,HCT.out,HOL.out,HOT.out,hbr⟩
   case round =>
    clear HCT HOL HOT
    obtain⟨k,l,hk,rfl,hct,hol,hot,hbi⟩:=hrel
    have HCT:=qh hct
    have hml:m<l.length:=by rw[hct.len];exact hlt
    have hrk:=HRL.out l k hct hml hk
    have hwz:=hbi.size
    have c0:=(hbi.cell (p:=⟨b,o+m,none⟩) (by exact hb)).trans HC0.out
    have HOL:=qh hol
    have HOT:=qh hot
    clear hct hol hot
    by_cases hkl:k<recs.length
    ·obtain⟨b2,o2,rfl,hb2,hc2⟩:=(HR.out.1.below hbi).get hkl
     obtain⟨d0,d1,d2⟩:=Rcd.cells3 hc2
     have hri:=(HR.out.2 recs[k] (lgm hkl)).below hbi
     have hr1:=HRW.out recs[k] (lgm hkl)
     have hr2:=HSQ.out recs[k] (lgm hkl)
     have HPK:=qh (fun(r':Rcd) (h:aA r'=aA recs[k])=>HPT.out l k HCT.out hml hkl h)
     obtain⟨⟨RA,rc,row,SA,sc,sq,dy⟩,hy⟩:∃x:Rcd,recs[k]=x:=⟨_,rfl⟩
     rw[hy]at d0 d1 d2 hri hr1 hr2 HPK
     simp only at d0 d1 d2 hri hr1 hr2 HPK
     have HRI:=qh hri
     clear hc2 hy hri
     go_upto_region 9 with (fail)
     obtain⟨X,hX⟩:∃X,wr.heap.size=X:=⟨_,rfl⟩
     have htx:=(HOT.out.tab l[m] (lgm hml)).lt
     rw[hX]at htx
     rw[hX]
     refine ah (P:=fun u=>Code.wp _ _ _ _ u) (R:=fun u=>Blk u X 66 #[.slice RA row.length rc,.slice SA sq.length sc,.int .i64 dy]∧Below wr.heap.size wr u) ⟨?_,?_⟩ ?_
     ·exact Blk.new' hX
     ·exact ai
     clear hX
     rintro W9 ⟨hB9,hb9⟩
     have Zi:=hb9.size
     have HR9:Hid (oK W9 W9.heap.size ⟨RA,rc,row,SA,sc,sq,dy⟩):=qh ((HRI.out.mono hwz).next hb9)
     have PK:=qh (HOL.out.below hb9 nlr)
     have VY:=qh (HOT.out.below hb9 nlr)
     have hx9:Below w.heap.size w W9:=aa hbi hb9 hwz
     have g0:=PK.out.gq dH du hml (j:= 0) rfl
     have gf:=PK.out.kH du (0+m)
     obtain⟨⟨TA2,tc2,cur⟩,hlm⟩:∃x:RTab,l[m]=x:=⟨_,rfl⟩
     have HLM:=qh hlm
     have htb:=VY.out.tab l[m] (lgm hml)
     rw[hlm]at htb
     have HTB:=qh htb
     clear htb
     rw[hlm]at htx
     have HTX:=qh htx
     clear htx
     rw[hlm]at g0 hrk
     simp only[Nat.mul_one,Nat.add_zero]at g0 hrk
     have e0:=hB9.cell 0
     have e1:=hB9.cell 1
     have e2:=hB9.cell 2
     simp only[gE3]at e0 e1 e2
     have hXz:=hB9.lt
     have hqz:w.heap.size<W9.heap.size:=(PK.out.lt w.heap.size rfl)
     have hcl:cur.length≤1000000:=by omega
     have HRK:=qh hrk
     clear hB9 HOL HOT hlm d0 d1 d2 c0 hrk
     refine aJ (S:=(fun w'=>w'.cell? ⟨X,0,none⟩=some (.slice RA row.length rc)∧w'.cell? ⟨X,1,none⟩=some (.slice SA sq.length sc)∧w'.cell? ⟨X,2,none⟩=some (.int .i64 dy)∧w'.cell? ⟨w.heap.size,m,none⟩=some (.slice TA2 cur.length tc2))) [20] krA ⟨e0,e1,e2,g0⟩ (fun hHeld =>?_)
     refine tkT 0 hHeld ?_
     refine tkT 1 hHeld ?_
     refine tkT 2 hHeld ?_
     refine tkT 3 hHeld ?_
     refine tkT 4 hHeld ?_
     refine tkT 5 hHeld ?_
     refine tkT 7 hHeld ?_
     refine tkT 8 hHeld ?_
     refine tkT 11 hHeld ?_
     refine tkT 12 hHeld ?_
     refine tkT 14 hHeld ?_
     refine tkT 15 hHeld ?_
     refine r2T 6 10 (fun K hK =>?_) (fun K hK =>?_)
     ·go_simp
      refine hK.out _ _ _ ⟨?_,?_,?_,?_⟩ (fun hHeld =>?_)
      iterate 4 (go_simp)
      clear hK K
      refine r2T 9 10 (fun K hK =>?_) (fun K hK =>?_)
      ·(refine av _ rfl (.tmp 38) (.tmp 40) 48 rfl 50 iv _ Val.cells 3 32 Tryz.underlying48 hiv Bn Bl Bj rfl omA bC val_one W9.heap.size (.slice (some ⟨W9.heap.size,0,none⟩) 0 0) [] rfl (aj.empty nbA leA) _ _ _ row rfl rfl (HR9.out.1.next ai) smA mxA leA ?_;intro vr wr1 ig hgr MX;have yF:Below W9.heap.size W9 wr1:=Below.grown ai hgr leA (bX leA);have TK:=yF.size;have Me:=hgr.size;simp at Me;rw[List.nil_append]at ig;obtain⟨RA',rcp,rfl,Ub,Vm⟩:=ig.form;have kxr:=(bN yF X hXz).1;have kqr:=(bN yF w.heap.size hqz).1;have hXr:X<wr1.heap.size:=omA;have hqr:w.heap.size<wr1.heap.size:=omA)
       refine hK.out _ _ _ ⟨?_,?_,?_,?_⟩ (fun hHeld =>?_)
       iterate 4 (go_simp)
       clear hK K
       refine r1T 10 (fun K hK =>?_)
       go_simp
       refine hK.out _ _ _ ⟨?_,?_,?_,?_⟩ (fun hHeld =>?_)
       iterate 4 (go_simp)
       clear hK K
       refine r1T 13 (fun K hK =>?_)
       (refine av _ rfl (.tmp 42) (.tmp 44) 22 rfl 3 ii _ intCells 1 8 Tryz.underlying22 hii LZ LY LX rfl omA bE dZ W9.heap.size (.slice (some ⟨wr1.heap.size,0,none⟩) 0 0) [] rfl (aj.empty dr leA) _ _ _ sq rfl rfl (HR9.out.2.next ai) smA mxA leA ?_;intro vs ws1 rM hgs Ve;have sI:Below W9.heap.size W9 ws1:=Below.grown ai hgs leA (bX leA);have TJ:=sI.size;rw[List.nil_append]at rM;obtain⟨SA',scp,rfl,TP,Vk⟩:=rM.form;have hne:∀q,(Value.slice RA' row.length rcp).ownBlock=some q→some q≠(Value.slice (some ⟨wr1.heap.size,0,none⟩) 0 0).ownBlock:=(fun q hq e=>by have h1:=ig.lt q hq;have e':q=wr1.heap.size:=dv;rcases MX with h|h<;>(rw[h]at hq;simp[Value.ownBlock]at hq;omega));have Bu:=dq;have kxs:=(bN sI X hXz).1;have kqs:=(bN sI w.heap.size hqz).1;clear kxr kqr;have hXs:X<ws1.heap.size:=omA;have hqs:w.heap.size<ws1.heap.size:=omA)
       refine hK.out _ _ _ ⟨?_,?_,?_,?_⟩ (fun hHeld =>?_)
       iterate 4 (go_simp)
       clear hK K
       exact EX
      ·go_simp
       refine hK.out _ _ _ ⟨?_,?_,?_,?_⟩ (fun hHeld =>?_)
       iterate 4 (go_simp)
       clear hK K
       refine r1T 9 (fun K hK =>?_)
       (refine av _ rfl (.tmp 38) (.tmp 40) 48 rfl 50 iv _ Val.cells 3 32 Tryz.underlying48 hiv Bn Bl Bj rfl omA bC val_one W9.heap.size (.slice (some ⟨W9.heap.size,0,none⟩) 0 0) [] rfl (aj.empty nbA leA) _ _ _ row rfl rfl (HR9.out.1.next ai) smA mxA leA ?_;intro vr wr1 ig hgr MX;have yF:Below W9.heap.size W9 wr1:=Below.grown ai hgr leA (bX leA);have TK:=yF.size;have Me:=hgr.size;simp at Me;rw[List.nil_append]at ig;obtain⟨RA',rcp,rfl,Ub,Vm⟩:=ig.form;have kxr:=(bN yF X hXz).1;have kqr:=(bN yF w.heap.size hqz).1;have hXr:X<wr1.heap.size:=omA;have hqr:w.heap.size<wr1.heap.size:=omA)
       refine hK.out _ _ _ ⟨?_,?_,?_,?_⟩ (fun hHeld =>?_)
       iterate 4 (go_simp)
       clear hK K
       refine r1T 13 (fun K hK =>?_)
       (refine av _ rfl (.tmp 42) (.tmp 44) 22 rfl 3 ii _ intCells 1 8 Tryz.underlying22 hii LZ LY LX rfl omA bE dZ W9.heap.size (.slice (some ⟨(W9.heap.size+1),0,none⟩) 0 0) [] rfl (aj.empty dr leA) _ _ _ sq rfl rfl (HR9.out.2.next ai) smA mxA leA ?_;intro vs ws1 rM hgs Ve;have sI:Below W9.heap.size W9 ws1:=Below.grown ai hgs leA (bX leA);have TJ:=sI.size;rw[List.nil_append]at rM;obtain⟨SA',scp,rfl,TP,Vk⟩:=rM.form;have hne:∀q,(Value.slice RA' row.length rcp).ownBlock=some q→some q≠(Value.slice (some ⟨(W9.heap.size+1),0,none⟩) 0 0).ownBlock:=(fun q hq e=>by have h1:=ig.lt q hq;have e':q=(W9.heap.size+1):=dv;rcases MX with h|h<;>(rw[h]at hq;simp[Value.ownBlock]at hq;omega));have Bu:=dq;have kxs:=(bN sI X hXz).1;have kqs:=(bN sI w.heap.size hqz).1;clear kxr kqr;have hXs:X<ws1.heap.size:=omA;have hqs:w.heap.size<ws1.heap.size:=omA)
       refine hK.out _ _ _ ⟨?_,?_,?_,?_⟩ (fun hHeld =>?_)
       iterate 4 (go_simp)
       clear hK K
       exact EX
     ·go_simp
      refine hK.out _ _ _ ⟨?_,?_,?_,?_⟩ (fun hHeld =>?_)
      iterate 4 (go_simp)
      clear hK K
      refine r1T 6 (fun K hK =>?_)
      go_simp
      refine hK.out _ _ _ ⟨?_,?_,?_,?_⟩ (fun hHeld =>?_)
      iterate 4 (go_simp)
      clear hK K
      refine r1T 9 (fun K hK =>?_)
      (refine av _ rfl (.tmp 38) (.tmp 40) 48 rfl 50 iv _ Val.cells 3 32 Tryz.underlying48 hiv Bn Bl Bj rfl omA bC val_one W9.heap.size (.slice (some ⟨(W9.heap.size+1),0,none⟩) 0 0) [] rfl (aj.empty nbA leA) _ _ _ row rfl rfl (HR9.out.1.next ai) smA mxA leA ?_;intro vr wr1 ig hgr MX;have yF:Below W9.heap.size W9 wr1:=Below.grown ai hgr leA (bX leA);have TK:=yF.size;have Me:=hgr.size;simp at Me;rw[List.nil_append]at ig;obtain⟨RA',rcp,rfl,Ub,Vm⟩:=ig.form;have kxr:=(bN yF X hXz).1;have kqr:=(bN yF w.heap.size hqz).1;have hXr:X<wr1.heap.size:=omA;have hqr:w.heap.size<wr1.heap.size:=omA)
      refine hK.out _ _ _ ⟨?_,?_,?_,?_⟩ (fun hHeld =>?_)
      iterate 4 (go_simp)
      clear hK K
      refine r1T 13 (fun K hK =>?_)
      (refine av _ rfl (.tmp 42) (.tmp 44) 22 rfl 3 ii _ intCells 1 8 Tryz.underlying22 hii LZ LY LX rfl omA bE dZ W9.heap.size (.slice (some ⟨W9.heap.size,0,none⟩) 0 0) [] rfl (aj.empty dr leA) _ _ _ sq rfl rfl (HR9.out.2.next ai) smA mxA leA ?_;intro vs ws1 rM hgs Ve;have sI:Below W9.heap.size W9 ws1:=Below.grown ai hgs leA (bX leA);have TJ:=sI.size;rw[List.nil_append]at rM;obtain⟨SA',scp,rfl,TP,Vk⟩:=rM.form;have hne:∀q,(Value.slice RA' row.length rcp).ownBlock=some q→some q≠(Value.slice (some ⟨W9.heap.size,0,none⟩) 0 0).ownBlock:=(fun q hq e=>by have h1:=ig.lt q hq;have e':q=W9.heap.size:=dv;rcases MX with h|h<;>(rw[h]at hq;simp[Value.ownBlock]at hq;omega));have Bu:=dq;have kxs:=(bN sI X hXz).1;have kqs:=(bN sI w.heap.size hqz).1;clear kxr kqr;have hXs:X<ws1.heap.size:=omA;have hqs:w.heap.size<ws1.heap.size:=omA)
      refine hK.out _ _ _ ⟨?_,?_,?_,?_⟩ (fun hHeld =>?_)
      iterate 4 (go_simp)
      clear hK K
      exact EX
    ·have hkl':decide (k<recs.length)=false:=by simpa using hkl
     have hke:k=recs.length:=by omega
     have SG:Hid (gD rt l (m+1) 0):=qh (HNX.out l (by rw[←hke];exact HCT.out))
     clear hke
     go_wp2_with fail
     go_roundw
     case rel=>exact⟨m+1,l,by omega,by go_num,SG.out,HOL.out,HOT.out,hbi⟩
     case measure=>exact meA
  ·have hlt':decide (m<rt.length)=false:=by simpa using hlt
   have hme:m=rt.length:=by omega
   have HDN:Hid (l.map aD=rt.map aD):=qh (gD.done (by rw[←hme];exact HCT.out))
   have HLN:=qh HCT.out.len
   clear hme
   go_wp2_with fail
   go_ret
   exact⟨w.heap.size,l,rfl,Nat.le_refl _,HLN.out,HOL.out,HOT.out,HDN.out,hbr⟩
def RUp(B:Nat)(A:Option Addr)(rt:List RTab):Prop:=(∀a,A=some a→B≤a.block) ∧ ∀t∈rt,(∀a,t.A=some a→B≤a.block) ∧ ∀x∈t.recs,(∀a,x.A=some a→B≤a.block)∧(∀a,x.SA=some a→B≤a.block)
abbrev aG:=List Val × List Int × Int
def ay(r:aG):Val:=r.1.headD ⟨0,0,⟨#[]⟩⟩
def gZ(l:List aG)(r:aG):Nat:=(l.takeWhile fun y=>decide (aU (ay y) (ay r)<0)).length
def mK(l:List aG)(r:aG):List aG:=l.take (gZ l r) ++ [r]++l.drop (gZ l r)
def iL(l:List aG)(j:Nat):List aG:=l.take j++l.drop (j+1)
def rU(l:List aG)(j:Nat)(x:Chg):List aG:=match l[j]? with
 | some r=>l.set j (r.1.set x.column.toNat x.val,r.2.1.set x.column.toNat x.seq,r.2.2)
 | none=>l
def dX(x:Chg):aG:=(x.row,List.replicate x.row.length x.seq,x.day)
def dV(l:List aG)(key:Val):Int:=if (bT key&&key.kind != 0)=true then fI (fun r=>decide (r.1.head?=some key)) l else -1
def aW(l:List aG)(x:Chg):List aG:=
 if x.kind=1 then (if 0≤dV l (keyOf x) then mK (iL l (dV l (keyOf x)).toNat) (dX x) else if 64≤l.length then l else mK l (dX x))
 else if dV l (keyOf x)<0 then l else if x.kind=2 then rU l (dV l (keyOf x)).toNat x else iL l (dV l (keyOf x)).toNat
def pq(pl:List (List aG))(k:Int):List aG:=match pl[k.toNat]? with
 | some l=>l
 | none =>[]
def aQ(pl:List (List aG))(x:Chg):List (List aG):=pl.set x.table.toNat (aW (pq pl x.table) x)
theorem fG(recs:List Rcd)(key:Val):gm recs key=dV (recs.map aA) key:=by
 unfold gm dV fI
 rw[List.findIdx?_map]
 rfl
theorem kg{l:List aG}{key:Val}(h:0≤dV l key):∃j:Nat,j<l.length∧dV l key=(j:Int):=by
 unfold dV at h ⊢
 split at h
 ·rename_i hc
  rw[if_pos hc]
  obtain⟨m,hm,he,_⟩:=wF h
  exact⟨m,hm,he⟩
 ·omega
theorem jV{pl:List (List aG)}{k:Nat}(h:k<pl.length):pq pl (k:Int)=pl[k]:=by
 unfold pq
 rw[Int.toNat_natCast,List.getElem?_eq_getElem h]
theorem mW{rt l:List RTab}(h:l.map aD=rt.map aD){k:Nat}(hk:k<l.length){x:Chg}(hx:x.table=(k:Int)){A3:Option Addr}{c3:Nat}{new:List Rcd}(hnew:new.map aA=aW (l[k].recs.map aA) x):(l.set k ⟨A3,c3,new⟩).map aD=aQ (rt.map aD) x:=by
 unfold aQ
 rw[List.map_set,←h,hx,jV (by simpa using hk),List.getElem_map]
 show (l.map aD).set k (new.map aA)=_
 rw[hnew]
 rfl
theorem Ic{rt l:List RTab}(h:l.map aD=rt.map aD){k:Nat}(hk:k<l.length){x:Chg}(hx:x.table=(k:Int))(hnew:l[k].recs.map aA=aW (l[k].recs.map aA) x):l.map aD=aQ (rt.map aD) x:=by
 unfold aQ
 rw[←h,hx,jV (by simpa using hk),List.getElem_map,Int.toNat_natCast]
 show _=(l.map aD).set k (aW (l[k].recs.map aA) x)
 rw[←hnew]
 apply List.ext_getElem
 ·simp
 ·intro i h1 h2
  rw[List.getElem_set]
  split
  ·rename_i he
   subst he
   rw[List.getElem_map]
   rfl
  ·rfl
section
variable {w:World}{base q n k:Nat}{l:List RTab}
theorem aj.jy{α:Type}{enc:α→List Value}{s base' i:Nat}{e e':TypeId}{v:Value}{m:List α}{cs:Array Value}(ho:aj w base' e enc s v m)(hq:w.heap[q]?=some (.cells cs e' (0,0)))(he:e'≠e)(u:Value):aj (w.setCell ⟨q,i,none⟩ u) base' e enc s v m:=by
 refine ho.far (fun g hg e1 =>?_) u
 obtain⟨cs',hc⟩:=ho.typ hg
 have e1:g=q:=e1
 rw[e1]at hc
 exact lC hq he cs' hc
theorem Bc{α:Type}{enc:α→List Value}{s c:Nat}{e:TypeId}{A:Option Addr}{m:List α}(ho:aj w base e enc s (.slice A m.length c) m):∀a,A=some a→base≤a.block:=fun a ha=>ho.row a.block eb
theorem dM{α:Type}{enc:α→List Value}{s c:Nat}{e:TypeId}{A:Option Addr}{m:List α}(hk:∀x,(enc x).length=s)(ho:aj w base e enc s (.slice A m.length c) m):ag w w.heap.size enc s A m:=by
 obtain⟨A2,c2,e2,_,hs2,_⟩:=ho.slice hk
 injection e2 with e2 _ _
 subst e2
 exact hs2
def iJ(w:World)(base:Nat)(A:Option Addr)(c:Nat)(recs:List Rcd):Prop:=aj w base 66 Rcd.cells 3 (.slice A recs.length c) recs ∧ ∀x∈recs,dA w base x
theorem iJ.read{A:Option Addr}{c:Nat}{recs:List Rcd}(h:iJ w base A c recs):bU w w.heap.size A recs:=⟨dM bG h.1,fun x hx=>(h.2 x hx).read⟩
theorem dB.recs(h:dB w base l)(hk:k<l.length):iJ w base l[k].A l[k].cap l[k].recs:=⟨h.tab _ (lgm hk),fun x hx=>h.row _ (lgm hk) x hx⟩
theorem qj{c:Nat}{A:Option Addr}(hO:aj w base 46 RTab.cells 1 (.slice A l.length c) l)(hT:∀t∈l,iJ w base t.A t.cap t.recs):aR w w.heap.size A l∧RUp base A l:=
 ⟨⟨dM dH hO,fun t ht=>(hT t ht).read⟩,Bc hO,fun t ht=>⟨Bc (hT t ht).1,fun x hx=>⟨Bc ((hT t ht).2 x hx).1,Bc ((hT t ht).2 x hx).2⟩⟩⟩
theorem EP(hO:aj w base 46 RTab.cells 1 (.slice (some ⟨q,0,none⟩) n n) l)(hn:n=l.length)(hT:dB w base l)(hk:k<l.length){A3:Option Addr}{c3:Nat}{new:List Rcd}(hnew:iJ w base A3 c3 new):
 aR (w.setCell ⟨q,k,none⟩ (.slice A3 new.length c3)) (w.setCell ⟨q,k,none⟩ (.slice A3 new.length c3)).heap.size (some ⟨q,0,none⟩) (l.set k ⟨A3,c3,new⟩)∧RUp base (some ⟨q,0,none⟩) (l.set k ⟨A3,c3,new⟩):=by
 obtain⟨cs,hc⟩:=hO.typ (q:=q) rfl
 have hO2:=hO.gV dH hn hk ⟨A3,c3,new⟩ (j:= 0) (o:=k) (u:= .slice A3 new.length c3) omA omA rfl
 refine qj (c:=n) (by simpa[hn]using hO2) fun t ht =>?_
 have hone:∀ {A:Option Addr}{c:Nat}{recs:List Rcd},iJ w base A c recs→iJ (w.setCell ⟨q,k,none⟩ (.slice A3 new.length c3)) base A c recs:=fun h=>⟨h.1.jy hc nO _,fun x hx=>⟨(h.2 x hx).1.jy hc Ey _,(h.2 x hx).2.jy hc KF _⟩⟩
 rcases List.mem_or_eq_of_mem_set ht with h1|rfl
 ·exact hone ⟨hT.tab t h1,hT.row t h1⟩
 ·exact hone hnew
end
section
variable {w w':World}{base k j:Nat}{l:List RTab}
theorem aj.same{α:Type}{enc:α→List Value}{s b:Nat}{e:TypeId}{v:Value}{m:List α}(h:aj w b e enc s v m)(hh:∀g,v.ownBlock=some g→w'.heap[g]?=w.heap[g]?):aj w' b e enc s v m:=by
 refine⟨h.1,?_⟩
 rcases h.2 with h1|⟨g,cap,cur,rfl,hbs,hgg,hrest⟩
 ·exact .inl h1
 ·exact .inr ⟨g,cap,cur,rfl,hbs,(hh g rfl).trans hgg,hrest⟩
theorem jS{α:Type}{enc:α→List Value}{s b c:Nat}{e:TypeId}{A:Option Addr}{m:List α}{j:Nat}{x:α}(hj:j<m.length)(hx:enc x=enc m[j])(h:aj w b e enc s (.slice A m.length c) m):aj w b e enc s (.slice A (m.set j x).length c) (m.set j x):=by
 have e1:(m.set j x).flatMap enc=m.flatMap enc:=by
  rw[List.flatMap_def,List.flatMap_def,List.map_set,hx]
  have:(m.map enc)[j]'(by simpa using hj)=enc m[j]:=List.getElem_map ..
  rw[←this,List.set_getElem_self]
 unfold aj at h ⊢
 rw[List.length_set,e1]
 exact h
theorem jh{A B:Option Addr}(h:kJ A B){n c:Nat}{g:Nat}(hg:(Value.slice A n c).ownBlock=some g):∀b,B=some b→g≠b.block:=by
 intro b hb
 cases A with
 | none=>simp[Value.ownBlock]at hg
 | some a =>
   have e:a.block=g:=by simpa[Value.ownBlock]using hg
   rw[←e]
   exact h a b rfl hb
theorem dE{α β:Type}{enc:α→List Value}{enc':β→List Value}{s s' b b':Nat}{e e':TypeId}{v:Value}{B:Option Addr}{n c:Nat}{m:List α}{m':List β}(h:aj w b e enc s v m)(h':aj w b' e' enc' s' (.slice B n c) m')(he:e≠e'){g:Nat}(hg:v.ownBlock=some g):∀a,B=some a→g≠a.block:=by
 intro a ha e1
 refine h.eT h' he g hg ?_
 rw[ha,e1]
 rfl
theorem xK{recs:List Rcd}(h:recs.Pairwise dO){i j:Nat}(hi:i<recs.length)(hj:j<recs.length)(hne:i≠j):dO recs[i] recs[j]:=by
 rw[List.pairwise_iff_getElem]at h
 rcases Nat.lt_or_gt_of_ne hne with h1|h1
 ·exact h i j hi hj h1
 ·exact(h j i hj hi h1).symm
theorem J3{A:Option Addr}{n:Nat}(hO:aj w base 46 RTab.cells 1 (.slice A n n) l)(hn:n=l.length)(hT:dB w base l)(hk:k<l.length)(hj:j<l[k].recs.length){r':Rcd}(hcell:Rcd.cells r'=Rcd.cells l[k].recs[j])(hnew:dA w' base r')
 (iK:∀g,(∀a,l[k].recs[j].A=some a→g≠a.block)→(∀a,l[k].recs[j].SA=some a→g≠a.block)→w'.heap[g]?=w.heap[g]?):
 aR w' w'.heap.size A (l.set k ⟨l[k].A,l[k].cap,l[k].recs.set j r'⟩)∧RUp base A (l.set k ⟨l[k].A,l[k].cap,l[k].recs.set j r'⟩):=by
 have hr:=hT.row l[k] (lgm hk) l[k].recs[j] (lgm hj)
 have hrow:∀s,dA w base s→dO s l[k].recs[j]→dA w' base s:=fun s hs hap =>
  ⟨hs.1.same fun g hg=>iK g (jh hap.1 hg) (dE hs.1 hr.2 (by decide) hg),hs.2.same fun g hg=>iK g (dE hs.2 hr.1 (by decide) hg) (jh hap.2 hg)⟩
 have htab:∀t∈l,aj w' base 66 Rcd.cells 3 (.slice t.A t.recs.length t.cap) t.recs:=fun t ht=>(hT.tab t ht).same fun g hg=>iK g (dE (hT.tab t ht) hr.1 (by decide) hg) (dE (hT.tab t ht) hr.2 (by decide) hg)
 have hO2:aj w' base 46 RTab.cells 1 (.slice A n n) l:=hO.same fun g hg=>iK g (dE hO hr.1 (by decide) hg) (dE hO hr.2 (by decide) hg)
 subst hn
 refine qj (c:=l.length) (jS hk ?_ hO2) fun t ht =>?_
 ·show [Value.slice _ _ _]=[Value.slice _ _ _]
  rw[List.length_set]
 ·obtain⟨i,hi,rfl⟩:=List.getElem_of_mem ht
  rw[List.getElem_set]
  by_cases hik:k=i
  ·rw[if_pos hik]
   refine⟨jS hj hcell (htab _ (lgm hk)),fun x hx =>?_⟩
   obtain⟨m,hm,rfl⟩:=List.getElem_of_mem hx
   have hm:m<(l[k].recs.set j r').length:=hm
   rw[List.length_set]at hm
   show dA w' base ((l[k].recs.set j r')[m]'_)
   rw[List.getElem_set]
   by_cases hjm:j=m
   ·rw[if_pos hjm]
    exact hnew
   ·rw[if_neg hjm]
    exact hrow _ (hT.row _ (lgm hk) _ (lgm hm)) (xK (hT.mU _ (lgm hk)) hm hj omA)
  ·rw[if_neg hik]
   have hi':i<l.length:=by simpa using hi
   exact⟨htab _ (lgm hi'),fun x hx=>hrow x (hT.row _ (lgm hi') x hx) (hT.jf i k hi' hk omA x hx _ (lgm hj))⟩
end
theorem RUp.mono{B B':Nat}{A:Option Addr}{rt:List RTab}(h:RUp B A rt)(hb:B'≤B):RUp B' A rt:=
 ⟨fun a ha=>Nat.le_trans hb (h.1 a ha),fun t ht=>⟨fun a ha=>Nat.le_trans hb ((h.2 t ht).1 a ha),fun x hx=>⟨fun a ha=>Nat.le_trans hb (((h.2 t ht).2 x hx).1 a ha),fun a ha=>Nat.le_trans hb (((h.2 t ht).2 x hx).2 a ha)⟩⟩⟩
def iU(w:World)(n:Nat)(pl:List (List aG))(e:Ending)(w':World):Prop:=
 (∃A' c' l',e=.returned (.slice A' n c')∧l'.length=n∧aR w' w'.heap.size A' l'∧RUp w.heap.size A' l'∧l'.map aD=pl)∧Below w.heap.size w w'
theorem iU.drew{w w':World}{n:Nat}{pl:List (List aG)}{e:Ending}(h:iU w n pl e w'):iU w n pl e w'.drew:=by
 obtain⟨⟨A,c,l,h1,h2,h3,h4,h5⟩,hb⟩:=h
 exact⟨⟨A,c,l,h1,h2,h3.next brf.drew,h4,h5⟩,hb.drew⟩
theorem Bf{rt l:List RTab}(h:l.map aD=rt.map aD){k:Nat}(hk:k<l.length)(hk':k<rt.length):l[k].recs.map aA=aD rt[k]:=by
 have h1:(l.map aD)[k]?=(rt.map aD)[k]?:= by rw[h]
 rw[List.getElem?_map,List.getElem?_map,List.getElem?_eq_getElem hk,List.getElem?_eq_getElem hk']at h1
 exact Option.some.inj h1
theorem gP{α:Type}{enc:α→List Value}{s c base:Nat}{w:World}{e:TypeId}{A:Option Addr}{m:List α}(h:aj w base e enc s (.slice A m.length c) m)(hl:0<m.length):∃g,A=some ⟨g,0,none⟩:=by
 rcases h.2 with ⟨hv,_⟩|⟨g,cap,cur,hv,_⟩
 ·injection hv with _ h2 _
  omega
 ·injection hv with h1 _ _
  exact⟨g,h1⟩
theorem uh{α:Type}{enc:α→List Value}{s c base:Nat}{w:World}{e:TypeId}{A:Option Addr}{m:List α}(h:aj w base e enc s (.slice A m.length c) m):m.length≤c:=by
 obtain⟨A',c',e1,h2,_⟩:=h.form
 injection e1 with _ _ h3
 omega
section
variable {l:List aG}{x:Chg}{j:Nat}
theorem jE(hk:x.kind≠1)(hz:dV l (keyOf x)<0):aW l x=l:=by
 unfold aW
 rw[if_neg hk,if_pos hz]
theorem mZ(hk:x.kind≠1)(hk2:x.kind≠2)(hz:dV l (keyOf x)=(j:Int)):aW l x=iL l j:=by
 unfold aW
 rw[if_neg hk,hz,if_neg omA,if_neg hk2,Int.toNat_natCast]
theorem mX(hk2:x.kind=2)(hz:dV l (keyOf x)=(j:Int)):aW l x=rU l j x:=by
 unfold aW
 rw[if_neg omA,hz,if_neg omA,if_pos hk2,Int.toNat_natCast]
theorem xV(hk:x.kind=1)(hz:dV l (keyOf x)<0)(hl:64≤l.length):aW l x=l:=by
 unfold aW
 rw[if_pos hk,if_neg omA,if_pos hl]
theorem mY(hk:x.kind=1)(hz:dV l (keyOf x)<0)(hl:¬ 64≤l.length):aW l x=mK l (dX x):=by
 unfold aW
 rw[if_pos hk,if_neg omA,if_neg hl]
theorem qy(hk:x.kind=1)(hz:dV l (keyOf x)=(j:Int)):aW l x=mK (iL l j) (dX x):=by
 unfold aW
 rw[if_pos hk,hz,if_pos omA,Int.toNat_natCast]
end
theorem ve{w U u2:World}{q n k B:Nat}{l rt:List RTab}{x:Chg}(hO:aj U B 46 RTab.cells 1 (.slice (some ⟨q,0,none⟩) n n) l)(hn:l.length=n)(hT:dB U B l)(hk:k<l.length)(hpl:l.map aD=rt.map aD)(hx:x.table=(k:Int))(hbW:w.heap.size≤B)(hxU:Below w.heap.size w U)(hb2:Below U.heap.size U u2)
 {A3:Option Addr}{c3:Nat}{new:List Rcd}(hnew:iJ u2 B A3 c3 new) (Mm:new.map aA=aW (l[k].recs.map aA) x) {v:Value}(hv:v=.slice A3 new.length c3):
 iU w n (aQ (rt.map aD) x) (.returned (.slice (some ⟨q,0,none⟩) n n)) (u2.setCell ⟨q,k,none⟩ v):=by
 subst hv
 have hO2:=hO.below hb2 nlr
 have hT2:=hT.below hb2 nlr
 have hqb:=hO.row q rfl
 have hr:=EP hO2 hn.symm hT2 hk hnew
 refine⟨⟨_,_,_,rfl,by rw[List.length_set];exact hn,hr.1,hr.2.mono hbW,mW hpl hk hx Mm⟩,?_⟩
 exact(aa hxU hb2 hxU.size).setCell (by show w.heap.size≤q;omega) _
theorem J4{w U u2:World}{q n k j B:Nat}{l rt:List RTab}{x:Chg}(hO:aj U B 46 RTab.cells 1 (.slice (some ⟨q,0,none⟩) n n) l)(hn:l.length=n)(hT:dB U B l)(hk:k<l.length)(hpl:l.map aD=rt.map aD)(hx:x.table=(k:Int))(hbW:w.heap.size≤B)(hxU:Below w.heap.size w u2)
 (hj:j<l[k].recs.length) {r':Rcd}(hcell:Rcd.cells r'=Rcd.cells l[k].recs[j]) (hnew:dA u2 B r')
 (iK:∀g,(∀a,l[k].recs[j].A=some a→g≠a.block)→(∀a,l[k].recs[j].SA=some a→g≠a.block)→u2.heap[g]?=U.heap[g]?) (Mm:(l[k].recs.set j r').map aA=aW (l[k].recs.map aA) x):
 iU w n (aQ (rt.map aD) x) (.returned (.slice (some ⟨q,0,none⟩) n n)) u2:=by
 have hr:=J3 hO hn.symm hT hk hj hcell hnew iK
 exact⟨⟨_,_,_,rfl,by rw[List.length_set];exact hn,hr.1,hr.2.mono hbW,mW hpl hk hx Mm⟩,hxU⟩
theorem CP{w:World}{base g n cap:Nat}{l:List Val}(h:aj w base 50 Val.cells 3 (.slice (some ⟨g,0,none⟩) n cap) l)(hn:n=l.length){i:Nat}(hi:i<l.length)(x:Val):
 aj (((w.setCell ⟨g,i*3,none⟩ (.int .i64 x.kind)).setCell ⟨g,i*3+1,none⟩ (.int .i64 x.num)).setCell ⟨g,i*3+2,none⟩ (.string x.text)) base 50 Val.cells 3 (.slice (some ⟨g,0,none⟩) n cap) (l.set i x):=by
 obtain⟨xk,xn,xt⟩:=x
 obtain⟨⟨yk,yn,yt⟩,hy⟩:∃y,l[i]=y:=⟨_,rfl⟩
 have h1:=h.gV bC hn hi (⟨xk,yn,yt⟩:Val) (j:= 0) (o:=i*3) (u:= .int .i64 xk) omA omA (by rw[hy];rfl)
 have hi1:i<(l.set i (⟨xk,yn,yt⟩:Val)).length:=by simpa using hi
 have h2:=h1.gV bC (by simpa using hn) hi1 (⟨xk,xn,yt⟩:Val) (j:= 1) (o:=i*3+1) (u:= .int .i64 xn) omA omA (by rw[List.getElem_set_self];rfl)
 rw[List.set_set]at h2
 have hi2:i<(l.set i (⟨xk,xn,yt⟩:Val)).length:=by simpa using hi
 have h3:=h2.gV bC (by simpa using hn) hi2 (⟨xk,xn,xt⟩:Val) (j:= 2) (o:=i*3+2) (u:= .string xt) omA omA (by rw[List.getElem_set_self];rfl)
 rw[List.set_set]at h3
 exact h3
theorem fu{w:World}{a p1 p2 p3:Addr}{u1 u2 u3 v:Value}(h:w.cell? a=some v)(h1:p1.block≠a.block)(h2:p2.block≠a.block)(h3:p3.block≠a.block):(((w.setCell p1 u1).setCell p2 u2).setCell p3 u3).cell? a=some v:=by
 rw[World.cell?_setCell_far _ _ _ _ h3,World.cell?_setCell_far _ _ _ _ h2,World.cell?_setCell_far _ _ _ _ h1]
 exact h
theorem Cm{recs:List Rcd}{j col:Nat}{A S:Option Addr}{c s:Nat}{row:List Val}{seq:List Int}{d:Int}(hj:j<recs.length)(hr:recs[j]=⟨A,c,row,S,s,seq,d⟩){x:Chg}(hx:x.column=(col:Int)){A' S':Option Addr}{c' s':Nat}:
 (recs.set j ⟨A',c',row.set col x.val,S',s',seq.set col x.seq,d⟩).map aA=rU (recs.map aA) j x:=by
 unfold rU
 rw[List.getElem?_map,List.getElem?_eq_getElem hj,hr,List.map_set,hx,Int.toNat_natCast]
 rfl
theorem Chg.eF{w:World}{g:Nat}{x:Chg}(h:Blk w g 52 x.cells.toArray):
 (w.cell? ⟨g,0,none⟩=some (.int .i64 x.kind)∧w.cell? ⟨g,1,none⟩=some (.int .i64 x.seq)∧w.cell? ⟨g,2,none⟩=some (.int .i64 x.day)∧w.cell? ⟨g,3,none⟩=some (.int .i64 x.table))∧w.cell? ⟨g,4,none⟩=some (.slice x.A x.row.length x.cap) ∧
 (w.cell? ⟨g,5,none⟩=some (.int .i64 x.key.kind)∧w.cell? ⟨g,6,none⟩=some (.int .i64 x.key.num)∧w.cell? ⟨g,7,none⟩=some (.string x.key.text))∧w.cell? ⟨g,8,none⟩=some (.int .i64 x.column) ∧
 w.cell? ⟨g,9,none⟩=some (.int .i64 x.val.kind)∧w.cell? ⟨g,10,none⟩=some (.int .i64 x.val.num)∧w.cell? ⟨g,11,none⟩=some (.string x.val.text):=
 ⟨⟨h.cell 0,h.cell 1,h.cell 2,h.cell 3⟩,h.cell 4,⟨h.cell 5,h.cell 6,h.cell 7⟩,h.cell 8,h.cell 9,h.cell 10,h.cell 11⟩
theorem pK(a b:Val)(w:World){r:Int}(hr:aU a b=r):
 Calls Tryz.prog 89 #[.agg #[.int .i64 a.kind,.int .i64 a.num,.string a.text],.agg #[.int .i64 b.kind,.int .i64 b.num,.string b.text]] w fun e w'=>e=.returned (.int .i64 r)∧Ext w w':=by
 subst hr
 exact rD _ _ _ _ _ _ _
theorem MJ{x:Rcd}(h:0<x.row.length):ay (aA x)=x.row[0]:=by
 obtain⟨A,c,row,SA,sc,sq,dy⟩:=x
 cases row with
 | nil=>simp at h
 | cons a t=>rfl
theorem kU{x:Chg}(h:0<x.row.length):ay (dX x)=x.row[0]:=by
 obtain⟨kd,sq,dy,tb,A,cp,row,key,cl,vl⟩:=x
 cases row with
 | nil=>simp at h
 | cons a t=>rfl
theorem uY{L:List Rcd}{r:aG}{m:Nat}(hm:m≤L.length)(hlo:∀i (h:i<L.length),i<m→decide (aU (ay (aA L[i])) (ay r)<0)=true)(hhi:∀h:m<L.length,decide (aU (ay (aA L[m])) (ay r)<0)=false):gZ (L.map aA) r=m:=by
 refine mE _ _ m (by simpa using hm) (fun j h hj =>?_) (fun h =>?_)
 ·rw[List.getElem_map]
  exact hlo j (by simpa using h) hj
 ·rw[List.getElem_map]
  exact hhi (by simpa using h)
theorem Ig{α:Type}{enc:α→List Value}{s c base:Nat}{w:World}{e:TypeId}{A:Option Addr}{m:List α}(h:aj w base e enc s (.slice A m.length c) m):(A=none∧m=[]∧c=0) ∨ ∃g,A=some ⟨g,0,none⟩:=by
 rcases h.2 with ⟨hv,_⟩|⟨g,cap,cur,hv,_⟩
 ·injection hv with h1 h2 h3
  exact .inl ⟨h1,List.length_eq_zero_iff.1 h2,h3⟩
 ·injection hv with h1 _ _
  exact .inr ⟨g,h1⟩
theorem uL{w:World}{g:Nat}{t:TypeId}{a b c x y z:Value}(h:Blk w g t #[a,b,c]):Blk (((w.setCell ⟨g,0,none⟩ x).setCell ⟨g,1,none⟩ y).setCell ⟨g,2,none⟩ z) g t #[x,y,z]:=by
 have:=((h.aH 0 x).aH 1 y).aH 2 z
 simpa using this
theorem vg{α:Type}{enc:α→List Value}{s base g i1 i2 i3:Nat}{w:World}{e t:TypeId}{v:Value}{m:List α}{cs:Array Value}{x y z:Value}(ho:aj w base e enc s v m)(h:Blk w g t cs)(he:t≠e):aj (((w.setCell ⟨g,i1,none⟩ x).setCell ⟨g,i2,none⟩ y).setCell ⟨g,i3,none⟩ z) base e enc s v m:=
 ((ho.jy (i:=i1) h he x).jy (i:=i2) (h.aH i1 x) he y).jy (i:=i3) ((h.aH i1 x).aH i2 y) he z
open Go.RowKit Go
theorem nS{P:Program}(w:World)(dT sT ty elem:TypeId)(k g o dLen dCap:Nat)(a:Addr)(sLen sCap m:Nat)(cur:Array Value)(t:TypeId)(cs:List Value)
 (hu:P.underlying dT=some (.slice elem)) (hs:(P.info? elem).map (·.size)=some k)
 (hg:w.heap[g]?=some (.cells cur t (0,0))) (hm:Nat.min sLen dLen=m) (hn:cs.length=m*k)
 (hsrc:∀j v,cs[j]?=some v→w.cell? (a.add j)=some v) (hfit:o+cs.length≤cur.size) (h1:∀v∈cs,v.oneCell'=true):
 (Builtin.copy_ #[dT,sT] ty #[.slice (some ⟨g,o,none⟩) dLen dCap,.slice (some a) sLen sCap]).run P w =
   .ok (goInt m) (w.setRow g (cur.toList.take o++cs++cur.toList.drop (o+cs.length)).toArray):=by
 subst hm
 have hl:=run_loadCells_list (P:=P) w a cs hsrc
 have hst:=run_storeCells_at P g o t cs 0 cur w hg (by simpa using hfit) h1
 cases hq:P.info? elem with
 | none=>simp[hq]at hs
 | some i =>
   have hi:i.size=k:=by simpa[hq]using hs
   simp[Builtin.copy_,run_underlying hu,Builtin.lenOf,Builtin.firstCells,sizeOf,typeInfo,hq,hi,←hn,hl,hst]
theorem xg{P:Program}(w:World){o:Oper}{a:Act}{K:Act→World→Prop}{Q:Exit→Act→World→Prop}(d s:Operand)(t t':TypeId)
 (ho:o.op=.call { callee:= .builtin .copy,args:= #[d,s],argTypes:= #[t,t'] }) (v u:Value) (hd:a.eval d=v) (hs:a.eval s=u) {v':Value}{w':World}
 (hr:(Builtin.copy_ #[t,t'] o.type #[v,u]).run P w=.ok v' w') (h:K (a.put o.dst v') w'):o.wp P a w K Q:=by
 unfold Oper.wp execOp
 simp only[ho,resolve,invoke,builtin,Sem.run_bind,Sem.run_pure,Result.andThen_ok,List.map_toArray,List.map_cons,List.map_nil,hd,hs,hr]
 exact h
theorem oW{P:Program}(w:World){ops:Array Oper}{rest:List Oper}{o:Oper}{a:Act}{Q:Exit→Act→World→Prop}(hgd:o.guard=none)(d s:Operand)(t t':TypeId)
 (ho:o.op=.call { callee:= .builtin .copy,args:= #[d,s],argTypes:= #[t,t'] }) (v u:Value) (hd:a.eval d=v) (hs:a.eval s=u) {v':Value}{w':World}
 (hr:(Builtin.copy_ #[t,t'] o.type #[v,u]).run P w=.ok v' w') (h:wpList P ops Q rest (a.put o.dst v') w'):wpList P ops Q (o::rest) a w:=
 wpList_plain hgd fun _ hK=>xg w d s t t' ho v u hd hs hr (hK _ _ h)
theorem tu{P:Program}{ops:Array Oper}{o:Oper}{a:Act}{w:World}{K:Act→World→Prop}{Q:Exit→Act→World→Prop}{E:Prop}
 (hg:o.guard=none) (d x:Operand) (dT sT:TypeId) (hop:o.op=Op.call { callee:=Callee.builtin Builtin.copy,args:= #[d,x],argTypes:= #[dT,sT] })
 (v u:Value) (hd:a.eval d=v) (hx:a.eval x=u) {v':Value}{w':World}(hr:(Builtin.copy_ #[dT,sT] o.type #[v,u]).run P w=.ok v' w') (hK:K (a.put o.dst v') w'):
 if Region.wanted o (yielded ops a.tmps)=true then Oper.wp P o a w K Q else E:=by
 have hw:Region.wanted o (yielded ops a.tmps)=true:=by simp[Region.wanted,hg]
 rw[if_pos hw]
 exact xg w d x dT sT hop v u hd hx hr hK
theorem uT{P:Program}(w:World)(t tn ty e:TypeId)(i:TypeInfo)(z:Value)(kn:IntKind)(ht:P.underlying t=some (.slice e))(htn:P.underlying tn=some (.int kn))(hi:P.info? e=some i)(hz:i.zero=some z)
 (b:Addr) (sLen sCap:Nat) (olds:List Value) (hlo:olds.length=sLen*i.size) (holds:∀j v,olds[j]?=some v→w.cell? (b.add j)=some v)
 (n:Nat) (h0:0<n) (hs:0<i.size) (hg:sCap<sLen+n) (h63:((sLen+n:Nat):Int)≤9223372036854775807) (h48:n*i.bytes≤281474976710656) (hfit:Builtin.nextslicecap (sLen+n) sCap*i.bytes≤281474976710656):
 (Builtin.append_ #[t,tn] ty #[.slice (some b) sLen sCap,.int .i64 n]).run P w =
   .ok (.slice (some ⟨w.heap.size,0,none⟩) (sLen+n) (grownCap w (sLen+n) sCap e))
    (w.drew.alloc (.cells (olds.toArray++Builtin.zeroCells z.cells n++Builtin.zeroCells z.cells (grownCap w (sLen+n) sCap e-(sLen+n))) e)):=by
 have hn:¬ (sLen+n≤sCap):=by omega
 have hn0:n≠0:=by omega
 have hw:IntKind.i64.wrap (n:Int)=n:=by rw[IntKind.wrap_i64];omega
 have h63':¬ (9223372036854775807<((sLen:Int)+(n:Int))):=by omega
 have h48':¬ (281474976710656<Builtin.nextslicecap (sLen+n) sCap*i.bytes):=by omega
 have h48i:¬ (281474976710656<(n:Int)*(i.bytes:Int)):=by
  rw[←Int.natCast_mul]
  omega
 have hneg:¬ ((n:Int)<0):=by omega
 have hns:¬ (n*i.size=0):=Nat.mul_ne_zero hn0 omA
 have hfo:=run_firstCells_some (P:=P) w.drew i.size sLen b sLen sCap olds hlo (by simpa using holds)
 simp[Builtin.append_,run_underlying ht,run_underlying htn,sizeOf,typeInfo,zeroValue,hi,hz,asInt,asIntOf,hw,hn,hn0,hneg,hns,h63',h48',h48i,Question.forced,hfo,newRow,grownCap]
theorem N9(a b c d x y:List Value)(hx:x.length=b.length)(hy:y.length=c.length):
 (((a++b++c++d).take a.length++x++(a++b++c++d).drop (a.length+x.length)).take (a.length+x.length)++y++((a++b++c++d).take a.length++x++(a++b++c++d).drop (a.length+x.length)).drop (a.length+x.length+y.length))=a++x++y++d:=by
 have e1:(a++b++c++d).take a.length=a:=by rw[List.append_assoc,List.append_assoc];exact List.take_left
 have e2:(a++b++c++d).drop (a.length+x.length)=c++d:=by
  rw[hx,←List.length_append,List.append_assoc (a++b)]
  exact List.drop_left
 rw[e1,e2]
 have e3:(a++x++(c++d)).take (a.length+x.length)=a++x:=by rw[←List.length_append];exact List.take_left
 have e4:(a++x++(c++d)).drop (a.length+x.length+y.length)=d:=by
  rw[hy,←List.append_assoc,←List.length_append,←List.length_append]
  exact List.drop_left
 rw[e3,e4]
end Go.Proofs.YtjidligipoldeaaGreat
