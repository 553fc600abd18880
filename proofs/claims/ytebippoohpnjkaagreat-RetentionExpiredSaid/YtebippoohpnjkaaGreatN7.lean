/-
  Contracts and plain laws of this seat, part 7.
-/
import Derived.Test.YtebippoohpnjkaaGreatN2
import Derived.Deep.RegionHeld
set_option linter.unusedVariables false
set_option linter.unusedSimpArgs false
set_option maxRecDepth 100000
set_option maxHeartbeats 16000000
namespace Go.Proofs.YtebippoohpnjkaaGreat
open Go.RowKit
def sK(n:Nat):UInt8:=UInt8.ofNat (48+n)
theorem digit_num{n:Nat}(hn:n<10):(48+(n:Int) % 10).toNat=48+n:=by omega
theorem qI(s:ByteArray)(n:Nat)(hn:n<10)(hs:s.size≤1000)(w:World):
 Calls Tryz.prog 34 #[.string s,.int .i64 n] w fun e w' =>
  e=.returned (.string (s++⟨#[sK n]⟩))∧Below w.heap.size w w':=by
 have kc:(convert 148 9 (.slice (some ⟨w.heap.size,0,none⟩) 1 1)).run Tryz.prog (w.alloc (.cells #[.int .u8 (48+(n:Int) % 10)] 5))=.ok (.string ⟨#[sK n]⟩) (w.alloc (.cells #[.int .u8 (48+(n:Int) % 10)] 5)):=by
  have hB:=(Blk.new w 5 #[.int .u8 (48+(n:Int) % 10)])
  have:=run_convert_bytes_arg (P:=Tryz.prog) (w.alloc (.cells #[.int .u8 (48+(n:Int) % 10)] 5)) 148 5 Tryz.underlying148 Tryz.underlying5 w.heap.size 0 1 1 [48+(n:Int) % 10] rfl (fun i hi=>by
   obtain rfl:i=0:=by omega
   exact(hB.cell 0).trans rfl) 9 Tryz.underlying9
  rw[this]
  simp[strOfNums,digit_num hn,sK]
 go_enter Tryz.func34,Tryz.ntmps34
 go_wp2
 go_ret
 refine⟨rfl,?_⟩
 exact av
structure Rcd where
 A:Option Addr
 cap:Nat
 row:List Val
 SA:Option Addr
 kg:Nat
 seq:List Int
 day:Int
structure RTab where
 A:Option Addr
 cap:Nat
 recs:List Rcd
structure Chg where
 kind:Int
 seq:Int
 day:Int
 table:Int
 A:Option Addr
 cap:Nat
 row:List Val
 key:Val
 column:Int
 val:Val
def Rcd.cells(x:Rcd):List Value:= [.slice x.A x.row.length x.cap,.slice x.SA x.seq.length x.kg,.int .i64 x.day]
def RTab.cells(x:RTab):List Value:= [.slice x.A x.recs.length x.cap]
def Chg.cells(x:Chg):List Value:= [.int .i64 x.kind,.int .i64 x.seq,.int .i64 x.day,.int .i64 x.table,.slice x.A x.row.length x.cap,.int .i64 x.key.kind,.int .i64 x.key.num,.string x.key.text,.int .i64 x.column,.int .i64 x.val.kind,.int .i64 x.val.num,.string x.val.text]
theorem dE:∀x:Val,(Val.cells x).length=3:=fun _=>rfl
theorem bB:∀x:Rcd,(Rcd.cells x).length=3:=fun _=>rfl
theorem bQ:∀x:RTab,(RTab.cells x).length=1:=fun _=>rfl
theorem Gl:∀x:Chg,(Chg.cells x).length=12:=fun _=>rfl
theorem val_one:∀x:Val,∀u∈Val.cells x,u.oneCell'=true:=by
 intro x u hu
 simp only[Val.cells,List.mem_cons,List.not_mem_nil,or_false]at hu
 rcases hu with rfl|rfl|rfl<;>rfl
theorem fV:∀x:Rcd,∀u∈Rcd.cells x,u.oneCell'=true:=by
 intro x u hu
 simp only[Rcd.cells,List.mem_cons,List.not_mem_nil,or_false]at hu
 rcases hu with rfl|rfl|rfl<;>rfl
theorem Jz:∀x:RTab,∀u∈RTab.cells x,u.oneCell'=true:=by
 intro x u hu
 simp only[RTab.cells,List.mem_cons,List.not_mem_nil,or_false]at hu
 rcases hu with rfl<;>rfl
theorem MU:∀x:Chg,∀u∈Chg.cells x,u.oneCell'=true:=by
 intro x u hu
 simp only[Chg.cells,List.mem_cons,List.not_mem_nil,or_false]at hu
 rcases hu with rfl|rfl|rfl|rfl|rfl|rfl|rfl|rfl|rfl|rfl|rfl|rfl<;>rfl
theorem Val.cells3{w:World}{b o:Nat}{x:Val}(h:∀j u,x.cells[j]?=some u→w.cell? ⟨b,o+j,none⟩=some u):
 w.cell? ⟨b,o,none⟩=some (.int .i64 x.kind)∧w.cell? ⟨b,o+1,none⟩=some (.int .i64 x.num)∧w.cell? ⟨b,o+2,none⟩=some (.string x.text):=
 ⟨h 0 _ rfl,h 1 _ rfl,h 2 _ rfl⟩
theorem Rcd.cells3{w:World}{b o:Nat}{x:Rcd}(h:∀j u,x.cells[j]?=some u→w.cell? ⟨b,o+j,none⟩=some u):
 w.cell? ⟨b,o,none⟩=some (.slice x.A x.row.length x.cap)∧w.cell? ⟨b,o+1,none⟩=some (.slice x.SA x.seq.length x.kg)∧w.cell? ⟨b,o+2,none⟩=some (.int .i64 x.day):=
 ⟨h 0 _ rfl,h 1 _ rfl,h 2 _ rfl⟩
theorem Chg.wT{w:World}{b o:Nat}{x:Chg}(h:∀j u,x.cells[j]?=some u→w.cell? ⟨b,o+j,none⟩=some u):
 (w.cell? ⟨b,o,none⟩=some (.int .i64 x.kind)∧w.cell? ⟨b,o+1,none⟩=some (.int .i64 x.seq)∧w.cell? ⟨b,o+2,none⟩=some (.int .i64 x.day)∧w.cell? ⟨b,o+3,none⟩=some (.int .i64 x.table))∧w.cell? ⟨b,o+4,none⟩=some (.slice x.A x.row.length x.cap) ∧
 (w.cell? ⟨b,o+5,none⟩=some (.int .i64 x.key.kind)∧w.cell? ⟨b,o+6,none⟩=some (.int .i64 x.key.num)∧w.cell? ⟨b,o+7,none⟩=some (.string x.key.text))∧w.cell? ⟨b,o+8,none⟩=some (.int .i64 x.column) ∧
 (w.cell? ⟨b,o+9,none⟩=some (.int .i64 x.val.kind)∧w.cell? ⟨b,o+10,none⟩=some (.int .i64 x.val.num)∧w.cell? ⟨b,o+11,none⟩=some (.string x.val.text)):=
 ⟨⟨h 0 _ rfl,h 1 _ rfl,h 2 _ rfl,h 3 _ rfl⟩,h 4 _ rfl,⟨h 5 _ rfl,h 6 _ rfl,h 7 _ rfl⟩,h 8 _ rfl,h 9 _ rfl,h 10 _ rfl,h 11 _ rfl⟩
theorem Bv:(Tryz.prog.info? 62).map (fun i=>(i.zero,i.size,i.bytes))=some (some (.agg #[.int .i64 0,.int .i64 0,.string ⟨#[]⟩]),3,32):=by kernel_rfl
theorem wR:(Tryz.prog.info? 126).map (fun i=>(i.zero,i.size,i.bytes))=some (some (.agg #[.slice none 0 0,.slice none 0 0,.int .i64 0]),3,56):=by kernel_rfl
theorem xS:(Tryz.prog.info? 127).map (fun i=>(i.zero,i.size,i.bytes))=some (some (.slice none 0 0),1,24):=by kernel_rfl
theorem Mq:(Tryz.prog.info? 64).map (fun i=>(i.zero,i.size,i.bytes))=some (some (.agg #[.int .i64 0,.int .i64 0,.int .i64 0,.int .i64 0,.slice none 0 0,.int .i64 0,.int .i64 0,.string ⟨#[]⟩,.int .i64 0,.int .i64 0,.int .i64 0,.string ⟨#[]⟩]),12,128):=by kernel_rfl
def jZ(w:World)(B:Nat)(x:Rcd):Prop:=ah w B Val.cells 3 x.A x.row∧ah w B intCells 1 x.SA x.seq
def gD(w:World)(B:Nat)(A:Option Addr)(l:List Rcd):Prop:=ah w B Rcd.cells 3 A l ∧ ∀x∈l,jZ w B x
def aQ(w:World)(B:Nat)(A:Option Addr)(l:List RTab):Prop:=ah w B RTab.cells 1 A l ∧ ∀x∈l,gD w B x.A x.recs
def iD(w:World)(B:Nat)(A:Option Addr)(l:List Chg):Prop:=ah w B Chg.cells 12 A l ∧ ∀x∈l,ah w B Val.cells 3 x.A x.row
section
variable {w w':World}{B B':Nat}{A:Option Addr}
theorem jZ.below{x:Rcd}(h:jZ w B x)(hb:Below B w w'):jZ w' B x:=⟨h.1.below hb,h.2.below hb⟩
theorem jZ.mono{x:Rcd}(h:jZ w B x)(hb:B≤B'):jZ w B' x:=⟨h.1.mono hb,h.2.mono hb⟩
theorem jZ.next{x:Rcd}(h:jZ w w.heap.size x)(hb:Below w.heap.size w w'):jZ w' w'.heap.size x:=(h.below hb).mono hb.size
theorem gD.below{l:List Rcd}(h:gD w B A l)(hb:Below B w w'):gD w' B A l:=⟨h.1.below hb,fun x hx=>(h.2 x hx).below hb⟩
theorem gD.mono{l:List Rcd}(h:gD w B A l)(hb:B≤B'):gD w B' A l:=⟨h.1.mono hb,fun x hx=>(h.2 x hx).mono hb⟩
theorem gD.next{l:List Rcd}(h:gD w w.heap.size A l)(hb:Below w.heap.size w w'):gD w' w'.heap.size A l:=(h.below hb).mono hb.size
theorem aQ.below{l:List RTab}(h:aQ w B A l)(hb:Below B w w'):aQ w' B A l:=⟨h.1.below hb,fun x hx=>(h.2 x hx).below hb⟩
theorem aQ.mono{l:List RTab}(h:aQ w B A l)(hb:B≤B'):aQ w B' A l:=⟨h.1.mono hb,fun x hx=>(h.2 x hx).mono hb⟩
theorem aQ.next{l:List RTab}(h:aQ w w.heap.size A l)(hb:Below w.heap.size w w'):aQ w' w'.heap.size A l:=(h.below hb).mono hb.size
theorem iD.below{l:List Chg}(h:iD w B A l)(hb:Below B w w'):iD w' B A l:=⟨h.1.below hb,fun x hx=>(h.2 x hx).below hb⟩
theorem iD.mono{l:List Chg}(h:iD w B A l)(hb:B≤B'):iD w B' A l:=⟨h.1.mono hb,fun x hx=>(h.2 x hx).mono hb⟩
theorem iD.next{l:List Chg}(h:iD w w.heap.size A l)(hb:Below w.heap.size w w'):iD w' w'.heap.size A l:=(h.below hb).mono hb.size
end
def il{α:Type}(p:α→Bool)(l:List α):Int:=match l.findIdx? p with
 | some i=>i
 | none => -1
theorem yB{α:Type}{p:α→Bool}{l:List α}{m:Nat}(h:m<l.length)(hp:p l[m]=true)(hno:∀i (h:i<l.length),i<m→p l[i]=false):il p l=(m:Int):=by
 have e:l.findIdx? p=some m:=by
  rw[List.findIdx?_eq_some_iff_getElem]
  exact⟨h,hp,fun j hj=>by rw[hno j omA hj];decide⟩
 unfold il
 rw[e]
theorem uu{α:Type}{p:α→Bool}{l:List α}(hno:∀i (h:i<l.length),p l[i]=false):il p l=-1:=by
 have e:l.findIdx? p=none:=by
  rw[List.findIdx?_eq_none_iff]
  intro x hx
  obtain⟨i,hi,rfl⟩:=List.getElem_of_mem hx
  exact hno i hi
 unfold il
 rw[e]
theorem mQ{α:Type}{p:α→Bool}{l:List α}(h:0≤il p l):∃m:Nat,∃hm:m<l.length,il p l=(m:Int)∧p l[m]=true:=by
 unfold il at h ⊢
 cases e:l.findIdx? p with
 | none=>rw[e]at h;simp at h
 | some i =>
   rw[List.findIdx?_eq_some_iff_getElem]at e
   obtain⟨hi,hp,_⟩:=e
   exact⟨i,hi,rfl,hp⟩
def eB(v:Val)(t:Int):Bool:=v.kind == 0||v.kind==t
def lS(key:Val)(r:Rcd):Bool:=decide (r.row.head?=some key)
def jY(l:List Rcd)(key:Val):Int:=if (ek key&&key.kind != 0)=true then il (lS key) l else -1
theorem fQ{x y:Val}{b:Bool}(h:decide (x=y)=b):∀w:World,(Op.equalIn 10000 62 (.agg #[.int .i64 x.kind,.int .i64 x.num,.string x.text]) (.agg #[.int .i64 y.kind,.int .i64 y.num,.string y.text])).run Tryz.prog w=.ok b w:=
 fun w=>by rw[KY,h]
theorem bL(x:Val)(w:World){r:Bool}(hr:ek x=r):
 Calls Tryz.prog 144 #[.agg #[.int .i64 x.kind,.int .i64 x.num,.string x.text]] w fun e w'=>e=.returned (.bool r)∧Ext w w':=by
 subst hr
 exact vR _ _ _ _
theorem bZ(v:Val)(t:Int)(w:World){r:Bool}(hr:eB v t=r):
 Calls Tryz.prog 97 #[.agg #[.int .i64 v.kind,.int .i64 v.num,.string v.text],.int .i64 t] w fun e w'=>e=.returned (.bool r)∧Ext w w':=by
 subst hr
 by_cases h0:v.kind=0
 ·have h0':(v.kind == 0)=true:=by simpa using h0
  have HR:Hid (eB v t=true):=qh (by simp[eB,h0])
  clear h0
  go_enter Tryz.func97,Tryz.ntmps97
  go_wp2_with fail
  go_ret
  exact⟨aC HR.out.symm,by exact qi⟩
 ·have h0':(v.kind == 0)=false:=by simpa using h0
  have HR:Hid (eB v t=(v.kind==t)):=qh (by simp[eB,h0'])
  clear h0
  go_enter Tryz.func97,Tryz.ntmps97
  go_wp2_with fail
  go_ret
  exact⟨aC HR.out.symm,by exact qi⟩
def Ht(l:List Val):Bool:=decide (l.length≤16)&&l.all ek
theorem pI(A:Option Addr)(c n:Nat)(l:List Val)(w:World)(hl:ah w w.heap.size Val.cells 3 A l)(hln:l.length=n)(hn:n≤1000000){r:Bool}(hr:Ht l=r):
 Calls Tryz.prog 151 #[.slice A n c] w fun e w'=>e=.returned (.bool r)∧Below w.heap.size w w':=by
 subst hln hr
 by_cases h16:16<l.length
 ·have UY:decide (16<l.length)=true:=by simpa using h16
  go_enter Tryz.func151,Tryz.ntmps151
  go_wp2_with fail
  go_ret
  refine⟨aC ?_,by exact av⟩
  have h:decide (l.length≤16)=false:=by simpa using h16
  rw[Ht,h]
  rfl
 have UY:decide (16<l.length)=false:=by simpa using h16
 go_enter Tryz.func151,Tryz.ntmps151
 go_wp2_with fail
 go_loopw [3] (fun vi wr =>∃m:Nat,m≤l.length∧vi=.int .i64 m∧Below w.heap.size w wr∧(∀i (h:i<l.length),i<m→ek l[i]=true)) (fun vi _=>l.length-(intOf vi).toNat)
 case atStart=>exact⟨0,Nat.zero_le _,rfl,by exact av,fun i _ h=>by omega⟩
 case round =>
  obtain⟨m,hm,rfl,hbw,hok⟩:=hrel
  have HOK:=qh hok
  clear hok
  by_cases hlt:m<l.length
  ·obtain⟨b,o,rfl,hb,hc⟩:=(hl.below hbw).get hlt
   obtain⟨h0,h1,h2⟩:=Val.cells3 hc
   clear hc
   cases hk:ek l[m]
   ·have HK:=qh hk
    clear hk
    go_wp2_with (go_at_call 144;(with_reducible refine(bL l[m] _ HK.out).mono ?_);rintro e w1 ⟨rfl,hb1⟩;have hx1:Below w.heap.size w w1:=ae hbw hb1.1 hbw.size)
    go_ret
    refine⟨aC ?_,hx1⟩
    have h:l.all ek=false:=by
     rw[List.all_eq_false]
     exact⟨l[m],lgm hlt,by rw[HK.out];decide⟩
    rw[Ht,h,Bool.and_false]
   ·have HK:=qh hk
    clear hk
    go_wp2_with (go_at_call 144;(with_reducible refine(bL l[m] _ HK.out).mono ?_);rintro e w1 ⟨rfl,hb1⟩;have hx1:Below w.heap.size w w1:=ae hbw hb1.1 hbw.size)
    go_roundw
    case rel=>exact⟨m+1,by omega,by go_num,hx1,fun i h hi=>by
     rcases Nat.lt_or_ge i m with h1|h1
     ·exact HOK.out i h h1
     ·obtain rfl:i=m:=by omega
      exact HK.out⟩
    case measure=>exact meA
  ·have hlt':decide (m<l.length)=false:=by simpa using hlt
   go_wp2_with fail
   go_ret
   refine⟨aC ?_,hbw⟩
   have h:l.all ek=true:=by
    rw[List.all_eq_true]
    intro x hx
    obtain⟨i,hi,rfl⟩:=List.getElem_of_mem hx
    exact HOK.out i hi omA
   rw[Ht,h,Bool.and_true]
   exact(decide_eq_true omA).symm
def keyOf(x:Chg):Val:=if x.kind == 1 then x.row.headD ⟨0,0,⟨#[]⟩⟩ else x.key
theorem fO(x:Chg)(w:World)(hx:ah w w.heap.size Val.cells 3 x.A x.row)(hl:x.row.length≤1000000)(h1:x.kind=1→0<x.row.length){k:Val}(hk:keyOf x=k):
 Calls Tryz.prog 96 #[.agg #[.int .i64 x.kind,.int .i64 x.seq,.int .i64 x.day,.int .i64 x.table,.slice x.A x.row.length x.cap,.int .i64 x.key.kind,.int .i64 x.key.num,.string x.key.text,.int .i64 x.column,.int .i64 x.val.kind,.int .i64 x.val.num,.string x.val.text]] w fun e w'=>e=.returned (.agg #[.int .i64 k.kind,.int .i64 k.num,.string k.text])∧Below w.heap.size w w':=by
 obtain⟨kd,sq,dy,tb,A,cp,row,key,cl,vl⟩:=x
 simp only at hx hl h1
 by_cases hd:kd=1
 ·have hr0:0<row.length:=h1 hd
  have hke:row[0]=k:=by
   rw[←hk]
   cases row with
   | nil=>simp at hr0
   | cons a t=>simp[keyOf,hd]
  have hd':(kd == 1)=true:=by simpa using hd
  obtain⟨b,o,rfl,hb,hc⟩:=hx.get hr0
  obtain⟨c0,c1,c2⟩:=Val.cells3 hc
  rw[hke]at c0 c1 c2
  simp only[Nat.zero_mul,Nat.add_zero]at c0 c1 c2
  have pU:decide (0<row.length)=true:=by simpa using hr0
  clear hk hke hc hx h1 hd
  go_enter Tryz.func96,Tryz.ntmps96
  go_wp2_with fail
  refine bodyPost_ret (v:= .agg #[.int .i64 k.kind,.int .i64 k.num,.string k.text]) (by simp[results,Tryz.results96,go_sem]) rfl ⟨rfl,?_⟩
  exact av
 ·have hke:key=k:=by
   rw[←hk]
   simp[keyOf,hd]
  have hd':(kd == 1)=false:=by simpa using hd
  clear hk hx h1 hd
  subst hke
  go_enter Tryz.func96,Tryz.ntmps96
  go_wp2_with fail
  refine bodyPost_ret (v:= .agg #[.int .i64 key.kind,.int .i64 key.num,.string key.text]) (by simp[results,Tryz.results96,go_sem]) rfl ⟨rfl,?_⟩
  exact av
theorem DL{key:Val}{r:Rcd}(h:0<r.row.length):lS key r=decide (r.row[0]=key):=by
 unfold lS
 rw[List.head?_eq_getElem?,List.getElem?_eq_getElem h]
 simp
theorem DN{key:Val}{r:Rcd}(h:r.row.length=0):lS key r=false:=by
 unfold lS
 rw[List.eq_nil_of_length_eq_zero h]
 simp
theorem iy(A:Option Addr)(c n:Nat)(l:List Rcd)(key:Val)(w:World)(hl:gD w w.heap.size A l)(hln:l.length=n)(hn:n≤1000000)(hsr:∀x∈l,x.row.length≤1000000){r:Int}(hr:jY l key=r):
 Calls Tryz.prog 99 #[.slice A n c,.agg #[.int .i64 key.kind,.int .i64 key.num,.string key.text]] w fun e w'=>e=.returned (.int .i64 r)∧Below w.heap.size w w':=by
 subst hln hr
 have hg:Tryz.prog.eqGuardType Tryz.prog.depth 62=false:=by kernel_rfl
 have HL:=qh hl
 have HSR:=qh hsr
 clear hl hsr
 cases hv:ek key
 ·have HF:Hid (jY l key=-1):=qh (by rw[jY,hv];rfl)
  have HV:=qh hv
  clear hv
  go_enter Tryz.func99,Tryz.ntmps99
  go_wp2_with fail
  obtain⟨W,hW⟩:∃W:World,w.alloc (.cells #[.int .i64 key.kind,.int .i64 key.num,.string key.text] 62)=W:=⟨_,rfl⟩
  have hbW:Below w.heap.size w W:=by rw[←hW];exact av
  have hB:Blk W w.heap.size 62 #[.int .i64 key.kind,.int .i64 key.num,.string key.text]:=by rw[←hW];exact Blk.new _ _ _
  rw[hW]
  clear hW
  have hzW:=hB.lt
  have HB:=qh hB
  clear hB
  go_loopw [5] (fun vi wr=>vi=.int .i64 0∧Below W.heap.size W wr) (fun vi _ =>0)
  case atStart=>exact⟨rfl,Below.refl _ _⟩
  case round =>
   obtain⟨rfl,hbr⟩:=hrel
   have hxr:=ae hbW hbr hbW.size
   have q0:=(HB.out.below hbr hzW).cell 0
   have q1:=(HB.out.below hbr hzW).cell 1
   have q2:=(HB.out.below hbr hzW).cell 2
   simp only[gE3]at q0 q1 q2
   by_cases h0:0<l.length
   ·go_wp2_with (go_at_call 144;(with_reducible refine(bL key _ HV.out).mono ?_);rintro e w1 ⟨rfl,hb1⟩;have hx1:Below W.heap.size W w1:=ae hbr hb1.1 hbr.size;obtain⟨k1,_,_⟩:=bg hb1.1 w.heap.size (by have:=hbr.size;omega))
    go_ret
    exact⟨az (a:= -1) HF.out.symm,ae hbW hx1 hbW.size⟩
   ·have h0':decide (0<l.length)=false:=by simpa using h0
    go_wp2_with fail
    go_ret
    exact⟨az (a:= -1) HF.out.symm,hxr⟩
 by_cases hk:key.kind=0
 ·have hk':(key.kind != 0)=false:=by simpa using hk
  have HF:Hid (jY l key=-1):=qh (by rw[jY,hk'];simp)
  have HV:=qh hv
  clear hv hk
  go_enter Tryz.func99,Tryz.ntmps99
  go_wp2_with fail
  obtain⟨W,hW⟩:∃W:World,w.alloc (.cells #[.int .i64 key.kind,.int .i64 key.num,.string key.text] 62)=W:=⟨_,rfl⟩
  have hbW:Below w.heap.size w W:=by rw[←hW];exact av
  have hB:Blk W w.heap.size 62 #[.int .i64 key.kind,.int .i64 key.num,.string key.text]:=by rw[←hW];exact Blk.new _ _ _
  rw[hW]
  clear hW
  have hzW:=hB.lt
  have HB:=qh hB
  clear hB
  go_loopw [5] (fun vi wr=>vi=.int .i64 0∧Below W.heap.size W wr) (fun vi _ =>0)
  case atStart=>exact⟨rfl,Below.refl _ _⟩
  case round =>
   obtain⟨rfl,hbr⟩:=hrel
   have hxr:=ae hbW hbr hbW.size
   have q0:=(HB.out.below hbr hzW).cell 0
   have q1:=(HB.out.below hbr hzW).cell 1
   have q2:=(HB.out.below hbr hzW).cell 2
   simp only[gE3]at q0 q1 q2
   by_cases h0:0<l.length
   ·go_wp2_with (go_at_call 144;(with_reducible refine(bL key _ HV.out).mono ?_);rintro e w1 ⟨rfl,hb1⟩;have hx1:Below W.heap.size W w1:=ae hbr hb1.1 hbr.size;obtain⟨k1,_,_⟩:=bg hb1.1 w.heap.size (by have:=hbr.size;omega))
    go_ret
    exact⟨az (a:= -1) HF.out.symm,ae hbW hx1 hbW.size⟩
   ·have h0':decide (0<l.length)=false:=by simpa using h0
    go_wp2_with fail
    go_ret
    exact⟨az (a:= -1) HF.out.symm,hxr⟩
 have hk':(key.kind != 0)=true:=by simpa using hk
 have HF:Hid (jY l key=il (lS key) l):=qh (by rw[jY,hv,hk'];rfl)
 have HV:=qh hv
 clear hv hk
 go_enter Tryz.func99,Tryz.ntmps99
 go_wp2_with fail
 obtain⟨W,hW⟩:∃W:World,w.alloc (.cells #[.int .i64 key.kind,.int .i64 key.num,.string key.text] 62)=W:=⟨_,rfl⟩
 have hbW:Below w.heap.size w W:=by rw[←hW];exact av
 have hB:Blk W w.heap.size 62 #[.int .i64 key.kind,.int .i64 key.num,.string key.text]:=by rw[←hW];exact Blk.new _ _ _
 rw[hW]
 clear hW
 have hzW:=hB.lt
 have HB:=qh hB
 clear hB
 go_loopw [5] (fun vi wr =>∃m:Nat,m≤l.length∧vi=.int .i64 m∧Below W.heap.size W wr∧(∀i (h:i<l.length),i<m→lS key l[i]=false)) (fun vi _=>l.length-(intOf vi).toNat)
 case atStart=>exact⟨0,Nat.zero_le _,rfl,Below.refl _ _,fun i _ h=>by omega⟩
 case round =>
  obtain⟨m,hm,rfl,hbr,hno⟩:=hrel
  have HNO:=qh hno
  clear hno
  have hxr:=ae hbW hbr hbW.size
  have hwz:=hbr.size
  have q0:=(HB.out.below hbr hzW).cell 0
  have q1:=(HB.out.below hbr hzW).cell 1
  have q2:=(HB.out.below hbr hzW).cell 2
  simp only[gE3]at q0 q1 q2
  by_cases hlt:m<l.length
  ·have hrec:=HL.out.below hxr
   obtain⟨b,o,rfl,hb,hc⟩:=hrec.1.get hlt
   obtain⟨c0,c1,c2⟩:=Rcd.cells3 hc
   have hrow:=(hrec.2 l[m] (lgm hlt)).1
   have hrl:=HSR.out l[m] (lgm hlt)
   have HN0:=qh (DN (key:=key) (r:=l[m]))
   have HN1:=qh (DL (key:=key) (r:=l[m]))
   obtain⟨⟨RA,rc,row,SA,sc,sq,dy⟩,hx⟩:∃x:Rcd,l[m]=x:=⟨_,rfl⟩
   have HX:=qh hx
   rw[hx]at c0 hrow hrl
   simp only at c0 hrow hrl
   clear hc hrec c1 c2 hx
   by_cases hr0:0<row.length
   ·have pU:decide (0<row.length)=true:=by simpa using hr0
    obtain⟨b6,o6,rfl,hb6,hc6⟩:=hrow.get hr0
    obtain⟨y0,y1,y2⟩:=Val.cells3 hc6
    simp only[Nat.zero_mul,Nat.add_zero]at y0 y1 y2
    clear hc6 hrow
    have hhit:lS key l[m]=decide (row[0]=key):=by have:=HN1.out;rw[HX.out]at this ⊢;exact this hr0
    cases he:decide (row[0]=key)
    ·have heq:=fQ he
     have HH:Hid (lS key l[m]=false):=qh (hhit.trans he)
     clear hhit he
     go_upto_region 4 with (go_at_call 144;(with_reducible refine(bL key _ HV.out).mono ?_);rintro e w1 ⟨rfl,hb1⟩;have hx1:Below W.heap.size W w1:=ae hbr hb1.1 hbr.size;obtain⟨k1,_,_⟩:=bg hb1.1 w.heap.size (by have:=hbr.size;omega))
     have RJ:=hb1.1.size
     have q0:=(k1 _).trans q0
     have q1:=(k1 _).trans q1
     have q2:=(k1 _).trans q2
     obtain⟨e1,_,_⟩:=bg hb1.1 b omA
     obtain⟨e6,_,_⟩:=bg hb1.1 b6 omA
     have c0:=(e1 _).trans c0
     have y0:=(e6 _).trans y0
     have y1:=(e6 _).trans y1
     have y2:=(e6 _).trans y2
     clear k1 e1 e6
     have hk0:=aK (w:=w1) b omA
     have hk1:=aK (w:=w1) b6 omA
     have hk2:=aK (w:=w1) w.heap.size omA
     refine ag krA krA ?_;(repeat(go_big_quiet_step (fail)));refine wpQuiet_nil ?_;intro wq hq
     clear hk0 hk1 hk2 q0 q1 q2 c0 y0 y1 y2 heq
     go_wp2_with fail
     go_roundw
     case rel=>exact⟨m+1,by omega,by go_num,ae hx1 hq hx1.size,fun i h hi=>by
      rcases Nat.lt_or_ge i m with h1|h1
      ·exact HNO.out i h h1
      ·obtain rfl:i=m:=by omega
       exact HH.out⟩
     case measure=>exact meA
    ·have heq:=fQ he
     have HH:Hid (lS key l[m]=true):=qh (hhit.trans he)
     clear hhit he
     go_upto_region 4 with (go_at_call 144;(with_reducible refine(bL key _ HV.out).mono ?_);rintro e w1 ⟨rfl,hb1⟩;have hx1:Below W.heap.size W w1:=ae hbr hb1.1 hbr.size;obtain⟨k1,_,_⟩:=bg hb1.1 w.heap.size (by have:=hbr.size;omega))
     have RJ:=hb1.1.size
     have q0:=(k1 _).trans q0
     have q1:=(k1 _).trans q1
     have q2:=(k1 _).trans q2
     obtain⟨e1,_,_⟩:=bg hb1.1 b omA
     obtain⟨e6,_,_⟩:=bg hb1.1 b6 omA
     have c0:=(e1 _).trans c0
     have y0:=(e6 _).trans y0
     have y1:=(e6 _).trans y1
     have y2:=(e6 _).trans y2
     clear k1 e1 e6
     have hk0:=aK (w:=w1) b omA
     have hk1:=aK (w:=w1) b6 omA
     have hk2:=aK (w:=w1) w.heap.size omA
     refine ag krA krA ?_;(repeat(go_big_quiet_step (fail)));refine wpQuiet_nil ?_;intro wq hq
     clear hk0 hk1 hk2 q0 q1 q2 c0 y0 y1 y2 heq
     go_wp2_with fail
     go_ret
     exact⟨az (a:=(m:Int)) (by rw[HF.out,yB hlt HH.out HNO.out]),ae hbW (ae hx1 hq hx1.size) hbW.size⟩
   ·have pU:decide (0<row.length)=false:=by simpa using hr0
    have hre:row.length=0:=by omega
    have HH:Hid (lS key l[m]=false):=qh (by have:=HN0.out;rw[HX.out]at this ⊢;exact this hre)
    clear hrow hre
    go_upto_region 4 with (go_at_call 144;(with_reducible refine(bL key _ HV.out).mono ?_);rintro e w1 ⟨rfl,hb1⟩;have hx1:Below W.heap.size W w1:=ae hbr hb1.1 hbr.size;obtain⟨k1,_,_⟩:=bg hb1.1 w.heap.size (by have:=hbr.size;omega))
    have RJ:=hb1.1.size
    have q0:=(k1 _).trans q0
    have q1:=(k1 _).trans q1
    have q2:=(k1 _).trans q2
    obtain⟨e1,_,_⟩:=bg hb1.1 b omA
    have c0:=(e1 _).trans c0
    clear k1 e1
    have hk0:=aK (w:=w1) b omA
    have hk2:=aK (w:=w1) w.heap.size omA
    refine ag krA krA ?_;(repeat(go_big_quiet_step (fail)));refine wpQuiet_nil ?_;intro wq hq
    clear hk0 hk2 q0 q1 q2 c0
    go_wp2_with fail
    go_roundw
    case rel=>exact⟨m+1,by omega,by go_num,ae hx1 hq hx1.size,fun i h hi=>by
     rcases Nat.lt_or_ge i m with h1|h1
     ·exact HNO.out i h h1
     ·obtain rfl:i=m:=by omega
      exact HH.out⟩
    case measure=>exact meA
  ·have hlt':decide (m<l.length)=false:=by simpa using hlt
   go_wp2_with fail
   go_ret
   exact⟨az (a:= -1) (by rw[HF.out,uu fun i hi=>HNO.out i hi omA]),hxr⟩
def nZ(rt:List RTab):List Int:=rt.flatMap fun t=>t.recs.flatMap Rcd.seq
def rG(l:List Int):Int:=l.foldl max 0
def tY(rt:List RTab):Int:=rG (nZ rt)
theorem Eu(l:List Int)(x:Int):rG (l ++ [x])=max (rG l) x:=by simp[rG,List.foldl_append]
structure dQ (rt:List RTab):Prop where
 len:rt.length≤1000000
 recs:∀t∈rt,t.recs.length≤1000000
 row:∀t∈rt,∀r∈t.recs,r.row.length≤1000000
 seq:∀t∈rt,∀r∈t.recs,r.seq.length≤1000000
theorem EG(A:Option Addr)(c n:Nat)(rt:List RTab)(w:World)(hl:aQ w w.heap.size A rt)(hln:rt.length=n)(hs:dQ rt){r:Int}(hr:tY rt=r):
 Calls Tryz.prog 133 #[.slice A n c] w fun e w'=>e=.returned (.int .i64 r)∧w=w':=by
 subst hln hr
 have hn:=hs.len
 have HL:=qh hl
 have HS:=qh hs
 clear hl hs
 go_enter Tryz.func133,Tryz.ntmps133
 go_wp2_with fail
 go_loopw [3,4] (fun vo vi wr =>∃(m:Nat) (top:Int),m≤rt.length∧vi=.int .i64 m∧vo=.int .i64 top∧rG (nZ (rt.take m))=top∧w=wr) (fun _ vi _=>rt.length-(intOf vi).toNat)
 case atStart=>exact⟨0,0,Nat.zero_le _,rfl,rfl,rfl,rfl⟩
 case round =>
  obtain⟨m,top,hm,rfl,rfl,htop,rfl⟩:=hrel
  have HT:=qh htop
  clear htop
  by_cases hlt:m<rt.length
  ·obtain⟨b,o,rfl,hb,hc⟩:=HL.out.1.get hlt
   have c0:=hc 0 _ rfl
   have bN:=HL.out.2 rt[m] (lgm hlt)
   have hrl:=HS.out.recs rt[m] (lgm hlt)
   have hql:=HS.out.seq rt[m] (lgm hlt)
   obtain⟨⟨TA,tc,recs⟩,hx⟩:∃x:RTab,rt[m]=x:=⟨_,rfl⟩
   have HX:=qh hx
   rw[hx]at c0 bN hrl hql
   simp only[Nat.mul_one,Nat.add_zero]at c0 bN hrl hql
   have HR:=qh bN
   have HQ:=qh hql
   clear hc hx bN hql
   go_wp2_with fail
   go_loopw [3,5] (fun vo vk wi =>∃(k:Nat) (top:Int),k≤recs.length∧vk=.int .i64 k∧vo=.int .i64 top∧rG (nZ (rt.take m)++(recs.take k).flatMap Rcd.seq)=top∧w=wi) (fun _ vk _=>recs.length-(intOf vk).toNat)
   case atStart=>exact⟨0,top,Nat.zero_le _,rfl,rfl,by simpa using HT.out,rfl⟩
   case round =>
    obtain⟨k,NV,hk,rfl,rfl,Nn,rfl⟩:=hrel
    have HT2:=qh Nn
    clear Nn
    by_cases hkl:k<recs.length
    ·obtain⟨b2,o2,rfl,hb2,hc2⟩:=HR.out.1.get hkl
     obtain⟨_,d1,_⟩:=Rcd.cells3 hc2
     have hseq:=(HR.out.2 recs[k] (lgm hkl)).2
     have hsl:=HQ.out recs[k] (lgm hkl)
     obtain⟨⟨RA,rc,row,SA,sc,sq,dy⟩,hy⟩:∃x:Rcd,recs[k]=x:=⟨_,rfl⟩
     have HY:=qh hy
     rw[hy]at d1 hseq hsl
     simp only at d1 hseq hsl
     have HSQ:=qh hseq
     clear hc2 hy hseq
     go_wp2_with fail
     go_loopw [3,6] (fun vo vj wj =>∃(j:Nat) (top:Int),j≤sq.length∧vj=.int .i64 j∧vo=.int .i64 top∧rG (nZ (rt.take m)++(recs.take k).flatMap Rcd.seq++sq.take j)=top∧w=wj) (fun _ vj _=>sq.length-(intOf vj).toNat)
     case atStart=>exact⟨0,NV,Nat.zero_le _,rfl,rfl,by simpa using HT2.out,rfl⟩
     case round =>
      obtain⟨j,LU,hj,rfl,rfl,Nl,rfl⟩:=hrel
      have HT3:=qh Nl
      clear Nl
      by_cases hjl:j<sq.length
      ·obtain⟨b3,o3,rfl,hb3,hc3⟩:=HSQ.out.get hjl
       have e0:=hc3 0 _ rfl
       simp only[Nat.mul_one,Nat.add_zero]at e0
       have HST:Hid (rG (nZ (rt.take m)++(recs.take k).flatMap Rcd.seq++sq.take (j+1))=max LU sq[j]):=qh (by rw[List.take_succ_eq_append_getElem hjl,←List.append_assoc,Eu,HT3.out])
       obtain⟨z,hz⟩:∃z,sq[j]=z:=⟨_,rfl⟩
       rw[hz]at e0
       have HZ:=qh hz
       clear hc3 hz
       go_wp2_with fail
       all_goals go_roundw
       all_goals(try(case rel=>exact⟨j+1,max LU z,by omega,by go_num,congrArg (Value.int .i64) (by first|omega|(split<;>omega)),by rw[HST.out,HZ.out],by first|rfl|trivial⟩))
       all_goals(simp[intOf];omega)
      ·have zG:decide (j<sq.length)=false:=by simpa using hjl
       have hje:j=sq.length:=by omega
       have HF:Hid (rG (nZ (rt.take m)++(recs.take (k+1)).flatMap Rcd.seq)=LU):=qh (by
        rw[List.take_succ_eq_append_getElem hkl,List.flatMap_append,←List.append_assoc,←HT3.out,hje,List.take_length,HY.out]
        simp)
       clear hje
       go_wp2_with fail
       go_roundw
       case rel=>exact⟨k+1,LU,by omega,by go_num,rfl,HF.out,by first|rfl|trivial⟩
       case measure=>exact meA
    ·have hkl':decide (k<recs.length)=false:=by simpa using hkl
     have hke:k=recs.length:=by omega
     have HF:Hid (rG (nZ (rt.take (m+1)))=NV):=qh (by
      rw[List.take_succ_eq_append_getElem hlt,nZ,List.flatMap_append,←HT2.out,hke,List.take_length,HX.out]
      simp[nZ])
     clear hke
     go_wp2_with fail
     go_roundw
     case rel=>exact⟨m+1,NV,by omega,by go_num,rfl,HF.out,by first|rfl|trivial⟩
     case measure=>exact meA
  ·have hlt':decide (m<rt.length)=false:=by simpa using hlt
   have hme:m=rt.length:=by omega
   have HF:Hid (tY rt=top):=qh (by rw[tY,←HT.out,hme,List.take_length])
   clear hme
   go_wp2_with fail
   go_ret
   exact⟨az HF.out.symm,rfl⟩
section
variable {α β:Type}{w w':World}{base base':Nat}{e e':TypeId}{enc:α→List Value}{enc':β→List Value}{k k':Nat}{v v':Value}{l:List α}{l':List β}
theorem aB.kept(h:aB w base e enc k v l){row:Option Nat}(hg:w.grownBy w' row)(hr:∀q,v.ownBlock=some q→some q≠row):aB w' base e enc k v l:=by
 refine⟨h.1,?_⟩
 rcases h.2 with h1|⟨g,cap,cur,rfl,hbs,hgg,hrest⟩
 ·exact .inl h1
 ·refine .inr ⟨g,cap,cur,rfl,hbs,?_,hrest⟩
  have hlt:g<w.heap.size:=by
   rcases Nat.lt_or_ge g w.heap.size with hlt|hge
   ·exact hlt
   ·rw[Array.getElem?_eq_none hge]at hgg;cases hgg
  rw[hg.block g hlt (hr g rfl)]
  exact hgg
theorem aB.typ(h:aB w base e enc k v l){q:Nat}(hq:v.ownBlock=some q):∃cs,w.heap[q]?=some (.cells cs e (0,0)):=by
 rcases h.2 with ⟨rfl,_⟩|⟨g,cap,cur,rfl,hbs,hgg,hrest⟩
 ·simp[Value.ownBlock]at hq
 ·have:g=q:=by simpa[Value.ownBlock]using hq
  subst this
  exact⟨cur,hgg⟩
theorem aB.dH(h:aB w base e enc k v l)(h':aB w base' e' enc' k' v' l')(he:e≠e'):∀q,v.ownBlock=some q→some q≠v'.ownBlock:=by
 intro q hq hq'
 obtain⟨cs,h1⟩:=h.typ hq
 obtain⟨cs',h2⟩:=h'.typ hq'.symm
 rw[h1]at h2
 injection h2 with h2
 injection h2 with _ h2 _
 exact he h2
theorem aB.bP(h:aB w base e enc k v l){g:Nat}{cs:Array Value}(hb:Blk w g e' cs)(he:e≠e'):∀q,v.ownBlock=some q→q≠g:=by
 intro q hq hq'
 obtain⟨cs',h1⟩:=h.typ hq
 unfold Blk at hb
 rw[hq',hb]at h1
 injection h1 with h1
 injection h1 with _ h1 _
 exact he h1.symm
end
section
variable {α:Type}{w:World}{base:Nat}{e:TypeId}{enc:α→List Value}{k:Nat}{l:List α}{g n cap:Nat}
theorem aB.fF(hk:∀x,(enc x).length=k)(h:aB w base e enc k (.slice (some ⟨g,0,none⟩) n cap) l)(hn:n=l.length){i:Nat}(hi:i<l.length){j:Nat}{u:Value}(hu:(enc l[i])[j]?=some u):w.cell? ⟨g,i*k+j,none⟩=some u:=by
 subst hn
 exact h.gW hk hi hu
theorem aB.ng(h:aB w base e enc k (.slice (some ⟨g,0,none⟩) n cap) l)(hn:n=l.length)(j:Nat):w.frozen? ⟨g,j,none⟩=false:=by
 subst hn
 exact h.frz j
end
theorem JO{α:Type}{enc:α→List Value}{s:Nat}(hk:∀x,(enc x).length=s)(hs:0<s)(x:α)(n:Nat):(madeCells (enc x).toArray (n*s)).toList=(List.replicate n x).flatMap enc:=by
 apply List.ext_getElem?
 intro i
 rcases Nat.lt_or_ge i (n*s) with h|h
 ·have hq:i / s<n:=(Nat.div_lt_iff_lt_mul hs).2 h
  have hr:i % s<s:=Nat.mod_lt _ hs
  have hr':i % s<(enc x).length:=by rw[hk];exact hr
  have e:i / s*s+i % s=i:=by rw[Nat.mul_comm];exact Nat.div_add_mod i s
  have h1:=flat_get hk (List.replicate n x) (i / s) (by simpa using hq) (i % s) (enc x)[i % s] spA
  rw[e]at h1
  rw[h1]
  have hsz:(enc x).toArray.size=s:=by simpa using hk x
  simp only[madeCells,hsz,Array.getElem?_toList,Array.getElem?_map]
  rw[Array.getElem?_eq_getElem (by simpa using h)]
  simp only[Array.getElem_range,Option.map_some]
  rw[getElem!_pos (enc x).toArray (i % s) (by rw[hsz];exact hr)]
  simp
 ·rw[List.getElem?_eq_none (by simp[size_madeCells];omega),List.getElem?_eq_none (by rw[dD hk];simpa using h)]
theorem aB.made{α:Type}{enc:α→List Value}{s g base n:Nat}{t:TypeId}{w:World}{x:α}(hk:∀x,(enc x).length=s)(hs:0<s)(hb:Blk w g t (madeCells (enc x).toArray (n*s)))(hg:base≤g)(hn:n≤maxLen):aB w base t enc s (.slice (some ⟨g,0,none⟩) n n) (List.replicate n x):=by
 have e:=JO hk hs x n
 refine⟨by rw[dD hk],.inr ⟨g,n,_,by rw[List.length_replicate],hg,hb,by simp,hn,by simp[size_madeCells],?_⟩⟩
 rw[e,List.length_replicate,List.take_of_length_le (by rw[dD hk];simp)]
def dN(w:World)(base:Nat)(r:Rcd):Prop:=aB w base 62 Val.cells 3 (.slice r.A r.row.length r.cap) r.row∧aB w base 3 intCells 1 (.slice r.SA r.seq.length r.kg) r.seq
def jk(A B:Option Addr):Prop:= ∀a b,A=some a→B=some b→a.block≠b.block
theorem jk.symm{A B:Option Addr}(h:jk A B):jk B A:=fun a b ha hb e=>h b a hb ha e.symm
def nA(r s:Rcd):Prop:=jk r.A s.A∧jk r.SA s.SA
theorem nA.symm{r s:Rcd}(h:nA r s):nA s r:=⟨h.1.symm,h.2.symm⟩
structure eZ (w:World) (base:Nat) (l:List RTab):Prop where
 tab:∀t∈l,aB w base 126 Rcd.cells 3 (.slice t.A t.recs.length t.cap) t.recs
 row:∀t∈l,∀r∈t.recs,dN w base r
 nU:∀i j (hi:i<l.length) (hj:j<l.length),i≠j→jk l[i].A l[j].A
 pO:∀i j (hi:i<l.length) (hj:j<l.length),i≠j→∀r∈l[i].recs,∀s∈l[j].recs,nA r s
 xg:∀t∈l,t.recs.Pairwise nA
def dA:RTab:=⟨none,0,[]⟩
def bK(r:Rcd):List Val × List Int × Int:=(r.row,r.seq,r.day)
def aS(t:RTab):List (List Val × List Int × Int):=t.recs.map bK
theorem eZ.zero(w:World)(base n:Nat):eZ w base (List.replicate n dA):=by
 have hz:∀t∈List.replicate n dA,t=dA:=fun t ht=>(List.mem_replicate.1 ht).2
 refine⟨fun t ht =>?_,fun t ht r hr =>?_,fun i j hi hj _ =>?_,fun i j hi hj _ r hr =>?_,fun t ht =>?_⟩
 ·rw[hz t ht];exact aB.nil
 ·rw[hz t ht]at hr;cases hr
 ·intro a b ha;simp[dA]at ha
 ·simp[dA]at hr
 ·rw[hz t ht];exact List.Pairwise.nil
section
variable {w w':World}{base:Nat}{l:List RTab}
theorem dN.keep{r:Rcd}(h:dN w base r){row:Option Nat}(hg:w.grownBy w' row)(h1:∀q,row=some q→∀cs,w.heap[q]? ≠ some (.cells cs 62 (0,0)))(h2:∀q,row=some q→∀cs,w.heap[q]? ≠ some (.cells cs 3 (0,0))):dN w' base r:=
 ⟨h.1.kept hg fun q hq e=>by obtain⟨cs,hc⟩:=h.1.typ hq;exact h1 q e.symm cs hc,h.2.kept hg fun q hq e=>by obtain⟨cs,hc⟩:=h.2.typ hq;exact h2 q e.symm cs hc⟩
theorem eZ.below{B:Nat}(h:eZ w base l)(hb:Below B w w')(hB:w.heap.size≤B):eZ w' base l:=
 ⟨fun t ht=>(h.tab t ht).below hb hB,fun t ht r hr=>⟨(h.row t ht r hr).1.below hb hB,(h.row t ht r hr).2.below hb hB⟩,h.nU,h.pO,h.xg⟩
theorem dN.read{r:Rcd}(h:dN w base r):jZ w w.heap.size r:=by
 obtain⟨A,c,e,_,hs,_⟩:=h.1.slice dE
 obtain⟨A',c',e',_,hs',_⟩:=h.2.slice bn
 injection e with e _ _
 injection e' with e' _ _
 subst e e'
 exact⟨hs,hs'⟩
theorem eZ.read(h:eZ w base l){A:Option Addr}{n c:Nat}(ho:aB w base 127 RTab.cells 1 (.slice A n c) l):aQ w w.heap.size A l:=by
 obtain⟨A',c',e,_,hs,_⟩:=ho.slice bQ
 injection e with e _ _
 subst e
 refine⟨hs,fun t ht =>?_⟩
 obtain⟨A2,c2,e2,_,hs2,_⟩:=(h.tab t ht).slice bB
 injection e2 with e2 _ _
 subst e2
 exact⟨hs2,fun r hr=>(h.row t ht r hr).read⟩
theorem Jp:126≠62:=by decide
theorem Jo:126≠3:=by decide
theorem Es:127≠62:=by decide
theorem Er:127≠3:=by decide
theorem Aw:127≠126:=by decide
theorem uC{w:World}{q:Nat}{cs:Array Value}{e e':TypeId}(h:w.heap[q]?=some (.cells cs e (0,0)))(he:e≠e')(cs':Array Value):w.heap[q]? ≠ some (.cells cs' e' (0,0)):=by
 intro h'
 rw[h]at h'
 injection h' with h'
 injection h' with _ h' _
 exact he h'
theorem eZ.far(h:eZ w base l){q i:Nat}{cs:Array Value}(hq:w.heap[q]?=some (.cells cs 127 (0,0)))(u:Value):eZ (w.setCell ⟨q,i,none⟩ u) base l:=by
 have hne:∀ {α:Type}{enc:α→List Value}{k:Nat}{e:TypeId}{v:Value}{m:List α},aB w base e enc k v m→127≠e→aB (w.setCell ⟨q,i,none⟩ u) base e enc k v m:=by
  intro α enc k e v m ho he
  refine ho.far (fun g hg e' =>?_) u
  obtain⟨cs',hc⟩:=ho.typ hg
  have e':g=q:=e'
  rw[e']at hc
  exact uC hq he cs' hc
 exact⟨fun t ht=>hne (h.tab t ht) Aw,fun t ht r hr=>⟨hne (h.row t ht r hr).1 Es,hne (h.row t ht r hr).2 Er⟩,h.nU,h.pO,h.xg⟩
theorem eZ.more(h:eZ w base l){m:Nat}(hm:m<l.length)(hbase:base≤w.heap.size){A3:Option Addr}{c3:Nat}{r':Rcd}(hg:w.grownBy w' (Value.slice l[m].A l[m].recs.length l[m].cap).ownBlock)
 (hT:aB w' base 126 Rcd.cells 3 (.slice A3 (l[m].recs.length+1) c3) (l[m].recs ++ [r'])) (hat:∀a,A3=some a→(Value.slice l[m].A l[m].recs.length l[m].cap).ownBlock=some a.block∨w.heap.size≤a.block)
 (hr:dN w base r') (hrn:(∀t∈l,∀s∈t.recs,nA s r')):eZ w' base (l.set m ⟨A3,c3,l[m].recs ++ [r']⟩):=by
 have hown:=h.tab l[m] (lgm hm)
 have iN:∀q,(Value.slice l[m].A l[m].recs.length l[m].cap).ownBlock=some q→∀cs,w.heap[q]? ≠ some (.cells cs 62 (0,0)):=fun q hq cs=>by
  obtain⟨cs',hc⟩:=hown.typ hq
  exact uC hc Jp cs
 have hrow2:∀q,(Value.slice l[m].A l[m].recs.length l[m].cap).ownBlock=some q→∀cs,w.heap[q]? ≠ some (.cells cs 3 (0,0)):=fun q hq cs=>by
  obtain⟨cs',hc⟩:=hown.typ hq
  exact uC hc Jo cs
 have hR:∀r,dN w base r→dN w' base r:=fun r h=>h.keep hg iN hrow2
 have hmem:∀t∈l.set m ⟨A3,c3,l[m].recs ++ [r']⟩,(∃i,∃hi:i<l.length,i≠m∧t=l[i])∨t=⟨A3,c3,l[m].recs ++ [r']⟩:=by
  intro t ht
  obtain⟨i,hi,rfl⟩:=List.getElem_of_mem ht
  rw[List.getElem_set]
  split
  ·exact .inr rfl
  ·rename_i hne
   exact .inl ⟨i,by simpa using hi,fun e=>hne e.symm,rfl⟩
 have KW:∀i (hi:i<l.length),i≠m→jk l[i].A A3:=by
  intro i hi hne a b ha hb e
  rcases hat b hb with h1|h1
  ·have h2:=h.nU i m hi hm hne
   cases hlA:l[m].A with
   | none=>rw[hlA]at h1;simp[Value.ownBlock]at h1
   | some c =>
     rw[hlA]at h1 h2
     have:c.block=b.block:=by simpa[Value.ownBlock]using h1
     exact h2 a c ha rfl (by rw[e,this])
  ·have h2:=(h.tab l[i] (lgm hi)).lt a.block (by rw[ha];rfl)
   omega
 refine⟨fun t ht =>?_,fun t ht r hr2 =>?_,fun i j hi hj hne =>?_,fun i j hi hj hne r hr1 s hs =>?_,fun t ht =>?_⟩
 ·rcases hmem t ht with ⟨i,hi,hne,rfl⟩|rfl
  ·refine(h.tab l[i] (lgm hi)).kept hg fun q hq e =>?_
   have h2:=h.nU i m hi hm hne
   cases hA:l[i].A with
   | none=>rw[hA]at hq;simp[Value.ownBlock]at hq
   | some a =>
     cases hB:l[m].A with
     | none=>rw[hB]at e;simp[Value.ownBlock]at e
     | some b =>
       rw[hA,hB]at h2
       rw[hA]at hq
       rw[hB]at e
       have e1:a.block=q:=by simpa[Value.ownBlock]using hq
       have e2:q=b.block:=by simpa[Value.ownBlock]using e
       exact h2 a b rfl rfl (e1.trans e2)
  ·simpa using hT
 ·rcases hmem t ht with ⟨i,hi,hne,rfl⟩|rfl
  ·exact hR r (h.row l[i] (lgm hi) r hr2)
  ·rcases List.mem_append.1 hr2 with h1|h1
   ·exact hR r (h.row l[m] (lgm hm) r h1)
   ·rw[List.mem_singleton.1 h1]
    exact hR r' hr
 ·rw[List.length_set]at hi hj
  rw[List.getElem_set,List.getElem_set]
  by_cases him:m=i
  ·rw[if_pos him,if_neg omA]
   exact(KW j hj omA).symm
  ·rw[if_neg him]
   by_cases hjm:m=j
   ·rw[if_pos hjm]
    exact KW i hi omA
   ·rw[if_neg hjm]
    exact h.nU i j hi hj hne
 ·rw[List.length_set]at hi hj
  rw[List.getElem_set]at hr1 hs
  by_cases him:m=i
  ·rw[if_pos him]at hr1
   rw[if_neg omA]at hs
   rcases List.mem_append.1 hr1 with h1|h1
   ·exact h.pO m j hm hj omA r h1 s hs
   ·rw[List.mem_singleton.1 h1]
    exact(hrn l[j] (lgm hj) s hs).symm
  ·rw[if_neg him]at hr1
   by_cases hjm:m=j
   ·rw[if_pos hjm]at hs
    rcases List.mem_append.1 hs with h1|h1
    ·exact h.pO i m hi hm omA r hr1 s h1
    ·rw[List.mem_singleton.1 h1]
     exact hrn l[i] (lgm hi) r hr1
   ·rw[if_neg hjm]at hs
    exact h.pO i j hi hj hne r hr1 s hs
 ·rcases hmem t ht with ⟨i,hi,hne,rfl⟩|rfl
  ·exact h.xg _ (lgm hi)
  ·refine List.pairwise_append.2 ⟨h.xg _ (lgm hm),by simp,fun s hs r hr1 =>?_⟩
   rw[List.mem_singleton.1 hr1]
   exact hrn l[m] (lgm hm) s hs
end
open Go.RowKit Go
section
variable {P:Program}{ops:Array Oper}{Q:Exit→Act→World→Prop}{md:Region.Mode}{S:World→Prop}{Z:List Nat}
def wpT(P:Program)(md:Region.Mode)(ops:Array Oper)(Q:Exit→Act→World→Prop)(S:World→Prop)(Z:List Nat):Nat→Array Bool→Act→World→Prop
 | 0,listed,a,w=>Region.ready md ops listed=[]∧Q .normal a w
 | n + 1,listed,a,w=>(Region.ready md ops listed = []→Q .normal a w) ∧
   ∀i∈Region.ready md ops listed,wpOp P ops Q i (fun a' w'=>(i ∉ Z→S w')∧wpT P md ops Q S Z n (listed.setIfInBounds i true) a' w') a w
theorem FU:∀(n:Nat) (listed:Array Bool) (a:Act) (w:World),wpT P md ops Q S Z n listed a w→wpAny P md ops Q n listed a w
 | 0,_,_,_,h=>h
 | n+1,_,_,_,h=>⟨h.1,fun i hi=>wpOp_mono (fun a' w' h'=>FU n _ a' w' h'.2) (h.2 i hi)⟩
def FV(md:Region.Mode)(ops:Array Oper)(Z:List Nat)(i:Nat):Bool:=Z.all fun z=>match ops[z]? with
 | some o=>o.after.any fun e=>Region.binds md e&&e.on==i
 | none=>false
theorem Em{i j:Nat}{listed:Array Bool}(h:FV md ops Z i=true)(hi:i∈Region.ready md ops listed)(hj:j∈Region.ready md ops listed):j ∉ Z:=by
 intro hz
 have h1:=List.all_eq_true.1 h j hz
 obtain⟨hi0,_⟩:=mem_ready.1 hi
 obtain⟨_,o,ho,hall⟩:=mem_ready.1 hj
 rw[ho]at h1
 obtain⟨e,he,hb⟩:=Array.any_eq_true'.1 h1
 simp only[Bool.and_eq_true,beq_iff_eq]at hb
 have h2:=hall e he hb.1
 rw[hb.2]at h2
 rcases Nat.lt_or_ge i listed.size with h'|h'
 ·simp[h']at hi0 h2
  rw[hi0]at h2
  cases h2
 ·simp[Array.getElem?_eq_none h']at h2
theorem Gu{i:Nat}{oi:Oper}{v:Value}(hi:ops[i]?=some oi)(hsel:∀(j:Nat) (o:Oper) cs b,ops[j]?=some o→o.op≠.select cs b)
 (hw:FV md ops Z i=true) (hQ:∀c a w,Q (.panic c) (a.put oi.dst v) w→Q (.panic c) a w):
 ∀(n:Nat) (listed:Array Bool) (a:Act) (w:World),
  (∀j oj,ops[j]?=some oj→j≠i→listed.getD j true=false→(∀e∈oj.after,Region.binds md e=true→e.on≠i)→oi.apart ops oj=true) →
  i∈Region.ready md ops listed→YieldsIf P ops S oi v a→S w →
  wpT P md ops Q S Z n (listed.setIfInBounds i true) (a.put oi.dst v) w→wpT P md ops Q S Z (n+1) listed a w:=by
 intro n
 induction n with
 | zero =>
   intro listed a w _ hr hy hS H
   refine⟨fun h=>absurd (h▸hr) spA,fun j hj =>?_⟩
   by_cases hji:j=i
   ·subst hji
    exact hy.wpOp hi hS ⟨fun _=>hS,H⟩
   ·have h0:=ready_mono hj hji
    rw[H.1]at h0
    cases h0
 | succ n ih =>
   intro listed a w hap hr hy hS H
   refine⟨fun h=>absurd (h▸hr) spA,fun j hj =>?_⟩
   by_cases hji:j=i
   ·subst hji
    exact hy.wpOp hi hS ⟨fun _=>hS,H⟩
   ·have hjz:=Em hw hr hj
    obtain⟨hjun,oj,hoj,hall⟩:=mem_ready.1 hj
    have hno:∀e∈oj.after,Region.binds md e=true→e.on≠i:=fun e he hb heq=>by
     have h1:=hall e he hb
     have h0:=(mem_ready.1 hr).1
     rw[heq]at h1
     rcases Nat.lt_or_ge i listed.size with h'|h'
     ·simp[h']at h0 h1
      rw[h0]at h1
      cases h1
     ·simp[Array.getElem?_eq_none h']at h1
    have hgo:=wpOp_putIf hoj (hap j oj hoj hji hjun hno) (fun cs b=>hsel i oi cs b hi) (fun cs b=>hsel j oj cs b hoj) hQ hy (H.2 j (ready_mono hj hji))
    have UH:∀k ok,ops[k]?=some ok→k≠i→(listed.setIfInBounds j true).getD k true=false→(∀e∈ok.after,Region.binds md e=true→e.on≠i)→oi.apart ops ok=true:=fun k ok hk hki hun hn=>by
     refine hap k ok hk hki ?_ hn
     by_cases hjk:j=k
     ·subst hjk
      exact hjun
     ·rw[getD_set_ne true hjk]at hun
      exact hun
    refine wpOp_mono (fun a' w' h3 =>?_) hgo
    have hS':=h3.2.1 hjz
    refine⟨fun _=>hS',ih (listed.setIfInBounds j true) a' w' UH (ready_mono hr (Ne.symm hji)) h3.1 hS' ?_⟩
    rw[Array.setIfInBounds_comm _ _ hji]
    exact h3.2.2
theorem I9{i:Nat}{oi:Oper}{v:Value}{n:Nat}{listed:Array Bool}{a:Act}{w:World}(hi:ops[i]?=some oi)
 (hs:Region.noSelect ops=true) (hf:Region.free md ops listed i=true) (hr:(Region.ready md ops listed).contains i=true) (hw:FV md ops Z i=true)
 (hQ:∀c a w,Q (.panic c) (a.put oi.dst v) w→Q (.panic c) a w) (hy:YieldsIf P ops S oi v a) (hS:S w)
 (h:wpT P md ops Q S Z n (listed.setIfInBounds i true) (a.put oi.dst v) w):wpT P md ops Q S Z (n+1) listed a w:=
 Gu hi (Region.noSelect_spec hs) hw hQ n listed a w (Region.free_spec hi hf) (by simpa using hr) hy hS h
theorem tkT(i:Nat){oi:Oper}{v:Value}{n:Nat}{listed:Array Bool}{a a':Act}{w:World}(hS:S w)(h:wpT P md ops Q S Z n (listed.setIfInBounds i true) a' w)
 (hi:ops[i]?=some oi:=by exact rfl) (hs:Region.noSelect ops=true:=by kernel_rfl) (hf:Region.free md ops listed i=true:=by kernel_rfl) (hr:(Region.ready md ops listed).contains i=true:=by kernel_rfl) (hw:FV md ops Z i=true:=by kernel_rfl)
 (hQ:∀c a w,Q (.panic c) (a.put oi.dst v) w→Q (.panic c) a w:=by exact fun _ _ _ h=>h) (hn:Region.wanted oi (yielded ops a.tmps)=true:=by kernel_rfl)
 (hy:∀w,S w→(execOp a.eval oi).run P w=.ok (.value v) w:=by(intro w hSw;(try dsimp only at hSw);go_simp;first|done|with_reducible rfl))
 (ha:a.put oi.dst v=a':=by((try simp only[Act.put,gP6]);exact rfl)):wpT P md ops Q S Z (n+1) listed a w:=
 I9 hi hs hf hr hw hQ (Or.inl ⟨hn,hy⟩) hS (ha▸h)
def lC(P:Program)(md:Region.Mode)(ops:Array Oper)(Q:Exit→Act→World→Prop)(S:World→Prop)(Z:List Nat)(n:Nat)(listed:Array Bool)(a:Act)(w:World)(rs:List Nat):Prop:=
 ∀i∈rs,wpOp P ops Q i (fun a' w'=>(i ∉ Z→S w')∧wpT P md ops Q S Z n (listed.setIfInBounds i true) a' w') a w
theorem lC.nil{n:Nat}{listed:Array Bool}{a:Act}{w:World}:lC P md ops Q S Z n listed a w []:=fun _ h=>by cases h
theorem lC.cons{n:Nat}{listed:Array Bool}{a:Act}{w:World}{i:Nat}{o:Oper}{rs:List Nat}(ho:ops[i]?=some o)
 (h:∀K':Act→World→Prop,Shut (∀a a' w,S w→(S w→wpT P md ops Q S Z n (listed.setIfInBounds i true) a' w)→(ha:a=a':=by((try simp only[Act.put,gP6]);exact rfl))→K' a w)→if Region.wanted o (yielded ops a.tmps)=true then Oper.wp P o a w K' Q else K' (a.put o.dst undef) w)
 (hs:lC P md ops Q S Z n listed a w rs):lC P md ops Q S Z n listed a w (i::rs):=fun j hj=>by
 rcases List.mem_cons.1 hj with rfl|hj
 ·exact wpOp_step ho (fun K' hK=>h K' (fun a a' w hS hW ha=>hK a w ⟨fun _=>hS,ha▸hW hS⟩))
 ·exact hs j hj
theorem lC.last{n:Nat}{listed:Array Bool}{a:Act}{w:World}{i:Nat}{o:Oper}{rs:List Nat}(ho:ops[i]?=some o)(hz:i∈Z)
 (h:∀K':Act→World→Prop,Shut (∀a a' w,wpT P md ops Q S Z n (listed.setIfInBounds i true) a' w→(ha:a=a':=by((try simp only[Act.put,gP6]);exact rfl))→K' a w)→if Region.wanted o (yielded ops a.tmps)=true then Oper.wp P o a w K' Q else K' (a.put o.dst undef) w)
 (hs:lC P md ops Q S Z n listed a w rs):lC P md ops Q S Z n listed a w (i::rs):=fun j hj=>by
 rcases List.mem_cons.1 hj with rfl|hj
 ·exact wpOp_step ho (fun K' hK=>h K' (fun a a' w hW ha=>hK a w ⟨fun hn=>absurd hz hn,ha▸hW⟩))
 ·exact hs j hj
theorem nE{rs:List Nat}{n:Nat}{listed:Array Bool}{a:Act}{w:World}(hr:Region.ready md ops listed=rs)(hne:rs≠[])
 (h:lC P md ops Q S Z n listed a w rs):wpT P md ops Q S Z (n+1) listed a w:=⟨fun h0=>absurd (hr▸h0) hne,hr▸h⟩
theorem r1T(i:Nat){o:Oper}{n:Nat}{listed:Array Bool}{a:Act}{w:World}
 (h:∀K':Act→World→Prop,Shut (∀a a' w,S w→(S w→wpT P md ops Q S Z n (listed.setIfInBounds i true) a' w)→(ha:a=a':=by((try simp only[Act.put,gP6]);exact rfl))→K' a w)→if Region.wanted o (yielded ops a.tmps)=true then Oper.wp P o a w K' Q else K' (a.put o.dst undef) w)
 (ho:ops[i]?=some o:=by exact rfl) (hr:Region.ready md ops listed=[i]:=by kernel_rfl):wpT P md ops Q S Z (n+1) listed a w:=nE hr spA (lC.cons ho h lC.nil)
theorem rzT(i:Nat){o:Oper}{n:Nat}{listed:Array Bool}{a:Act}{w:World}
 (h:∀K':Act→World→Prop,Shut (∀a a' w,wpT P md ops Q S Z n (listed.setIfInBounds i true) a' w→(ha:a=a':=by((try simp only[Act.put,gP6]);exact rfl))→K' a w)→if Region.wanted o (yielded ops a.tmps)=true then Oper.wp P o a w K' Q else K' (a.put o.dst undef) w)
 (ho:ops[i]?=some o:=by exact rfl) (hr:Region.ready md ops listed=[i]:=by kernel_rfl) (hz:i∈Z:=by decide):wpT P md ops Q S Z (n+1) listed a w:=nE hr spA (lC.last ho hz h lC.nil)
theorem r2T(i j:Nat){o o':Oper}{n:Nat}{listed:Array Bool}{a:Act}{w:World}
 (h:∀K':Act→World→Prop,Shut (∀a a' w,S w→(S w→wpT P md ops Q S Z n (listed.setIfInBounds i true) a' w)→(ha:a=a':=by((try simp only[Act.put,gP6]);exact rfl))→K' a w)→if Region.wanted o (yielded ops a.tmps)=true then Oper.wp P o a w K' Q else K' (a.put o.dst undef) w)
 (h':∀K':Act→World→Prop,Shut (∀a a' w,S w→(S w→wpT P md ops Q S Z n (listed.setIfInBounds j true) a' w)→(ha:a=a':=by((try simp only[Act.put,gP6]);exact rfl))→K' a w)→if Region.wanted o' (yielded ops a.tmps)=true then Oper.wp P o' a w K' Q else K' (a.put o'.dst undef) w)
 (ho:ops[i]?=some o:=by exact rfl) (ho':ops[j]?=some o':=by exact rfl) (hr:Region.ready md ops listed=[i,j]:=by kernel_rfl):wpT P md ops Q S Z (n+1) listed a w:=nE hr spA (lC.cons ho h (lC.cons ho' h' lC.nil))
theorem bf{listed:Array Bool}{a:Act}{w:World}(hr:Region.ready md ops listed=[])(h:Q .normal a w):∀n,wpT P md ops Q S Z n listed a w
 | 0=>⟨hr,h⟩
 | _+1=>⟨fun _=>h,by rw[hr];simp⟩
theorem aT(Z:List Nat){id:Nat}{a:Act}{w:World}(hm:P.follows .mixedOrders=true)(hS:S w.drew)
 (h:S w.drew→wpT P .any ops Q S Z ops.size (Array.replicate ops.size false) a w.drew):(Code.region id ops true).wp P Q a w:=
 wp_region_any hm (FU _ _ _ _ (h hS))
end
theorem EX{P:Prop}(h:P:=by
 refine tkT 16 hHeld ?_
 refine r1T 17 (fun K hK =>?_)
 go_simp
 refine hK.out _ _ _ ⟨?_,?_,?_,?_⟩ (fun hHeld =>?_)
 iterate 4 (go_simp)
 clear hK K
 refine r1T 18 (fun K hK =>?_)
 (refine ak _ rfl (.tmp 37) (.tmp 49) 127 rfl 126 ir _ Rcd.cells 3 56 Tryz.underlying127 hir pR oV pQ rfl omA bB fV w.heap.size (.slice TA2 cur.length tc2) cur rfl (HTB.out.below (B:=W9.heap.size) av nlr) _ _ _ [⟨RA',rcp,row,SA',scp,sq,dy⟩] rfl rfl (Blk.one (enc:=Rcd.cells) (x:=⟨RA',rcp,row,SA',scp,sq,dy⟩) neA spA) smA mxA smA ?_;intro v3 w3 hown3 hg3 u7;obtain⟨A3,c3,rfl,hO3,hT3⟩:=IY M8.out SL.out omA av hml HLM.out (by first|exact BI.alloc _|exact(BI.alloc _).drew) (by first|exact rR.alloc _|exact(rR.alloc _).drew) hown3 hg3 u7;have g3:=hO3.fF bQ (by rw[HCT.out.len]) hml (j:= 0) rfl;have f3:=hO3.ng (by rw[HCT.out.len]) m;rw[HLM.out]at g3;simp only[Nat.mul_one,Nat.add_zero]at g3;have kx3:=(fun j=>World.cell?_of_block (a:=⟨X,j,none⟩) (hg3.block X smA (fun e=>by have:=HTX.out X e.symm;omega)));have hx3:Below w.heap.size w w3:=Below.grown (ae hx9 av omA) hg3 smA HTB.out.row)
 refine hK.out _ _ _ ⟨?_,?_,?_,?_⟩ (fun hHeld =>?_)
 iterate 4 (go_simp)
 clear hK K
 refine tkT 19 hHeld ?_
 refine rzT 20 (fun K hK =>?_)
 go_simp
 refine hK.out _ _ _ ?_
 clear hK K
 refine bf krA ?_ _
 clear hHeld
 obtain⟨hO4,hT4⟩:=FJ hO3 (by rw[HCT.out.len]) (by simpa using hT3) hml
 have HO4:=qh hO4
 have HT4:=qh hT4
 clear hO4 hT4 hO3 hT3 g3 f3 g0 gf e0 e1 e2
 go_wp2_with fail
 go_roundw
 case rel=>exact⟨k+1,_,by omega,by go_num,by(have h:=HPK.out ⟨RA',rcp,row,SA',scp,sq,dy⟩ rfl A3 c3;rw[HLM.out]at h;exact h),by simpa using HO4.out,by simpa using HT4.out,hx3.setCell nlr _⟩
 case measure=>exact meA):P:=h
structure fE (rt l:List RTab) (m k:Nat):Prop where
 len:l.length=rt.length
 lo:∀i (hi:i<l.length) (hi':i<rt.length),i<m→aS l[i]=aS rt[i]
 at_:∀i (hi:i<l.length) (hi':i<rt.length),i=m→aS l[i]=(aS rt[i]).take k
 hi:∀i (hi:i<l.length),m<i→aS l[i]=[]
theorem fE.zero(rt:List RTab):fE rt (List.replicate rt.length dA) 0 0:=
 ⟨by simp,fun i _ _ h=>by omega,fun i hi hi' _=>by simp[aS,dA],fun i hi _=>by simp[aS,dA]⟩
theorem fE.put{rt l:List RTab}{m k:Nat}(h:fE rt l m k)(hm:m<rt.length)(hm':m<l.length)(hk:k<rt[m].recs.length){r':Rcd}(hr:bK r'=bK rt[m].recs[k])(A3:Option Addr)(c3:Nat):fE rt (l.set m ⟨A3,c3,l[m].recs ++ [r']⟩) m (k+1):=by
 refine⟨by simp[h.len],fun i hi hi' hlt =>?_,fun i hi hi' e =>?_,fun i hi hlt =>?_⟩
 ·rw[List.getElem_set,if_neg omA]
  exact h.lo i (by simpa using hi) hi' hlt
 ·subst e
  rw[List.getElem_set_self]
  have h1:=h.at_ i hm' hi' rfl
  have h2:k<(aS rt[i]).length:=by simpa[aS]using hk
  rw[List.take_succ_eq_append_getElem h2,←h1]
  simp[aS,hr]
 ·rw[List.getElem_set,if_neg omA]
  exact h.hi i (by simpa using hi) hlt
theorem fE.next{rt l:List RTab}{m k:Nat}(h:fE rt l m k)(hm:m<rt.length)(hk:k=rt[m].recs.length):fE rt l (m+1) 0:=by
 refine⟨h.len,fun i hi hi' hlt =>?_,fun i hi hi' e =>?_,fun i hi hlt=>h.hi i hi omA⟩
 ·rcases Nat.lt_or_ge i m with h1|h1
  ·exact h.lo i hi hi' h1
  ·obtain rfl:i=m:=by omega
   rw[h.at_ i hi hi' rfl,hk,List.take_of_length_le (by simp[aS])]
 ·rw[h.hi i hi omA]
  simp
theorem fE.done{rt l:List RTab}(h:fE rt l rt.length 0):l.map aS=rt.map aS:=by
 apply List.ext_getElem (by simp[h.len])
 intro i h1 h2
 rw[List.getElem_map,List.getElem_map]
 exact h.lo i (by simpa using h1) (by simpa using h2) (by simpa using h2)
theorem fE.reclen{rt l:List RTab}{m k:Nat}(h:fE rt l m k)(hm:m<rt.length)(hm':m<l.length)(hk:k≤rt[m].recs.length):l[m].recs.length=k:=by
 have h1:=h.at_ m hm' hm rfl
 have h2:=congrArg List.length h1
 simp[aS]at h2
 omega
theorem IY{base q n m:Nat}{W9 Wc w3:World}{l:List RTab}{cur:List Rcd}{TA2:Option Addr}{tc2:Nat}{r':Rcd}{v3:Value}(hO:aB W9 base 127 RTab.cells 1 (.slice (some ⟨q,0,none⟩) n n) l)(hT:eZ W9 base l)(hbW:base≤W9.heap.size)(hb:Below W9.heap.size W9 Wc)(hm:m<l.length)(hlm:l[m]=⟨TA2,tc2,cur⟩)
 (hr1:aB Wc W9.heap.size 62 Val.cells 3 (.slice r'.A r'.row.length r'.cap) r'.row) (hr2:aB Wc W9.heap.size 3 intCells 1 (.slice r'.SA r'.seq.length r'.kg) r'.seq) (hown3:aB w3 base 126 Rcd.cells 3 v3 (cur ++ [r'])) (hg3:Wc.grownBy w3 (Value.slice TA2 cur.length tc2).ownBlock)
 (u7:v3.ownBlock=(Value.slice TA2 cur.length tc2).ownBlock∨v3.ownBlock=some Wc.heap.size):
 ∃A3 c3,v3=.slice A3 (cur.length+1) c3∧aB w3 base 127 RTab.cells 1 (.slice (some ⟨q,0,none⟩) n n) l∧eZ w3 base (l.set m ⟨A3,c3,cur ++ [r']⟩):=by
 obtain⟨A3,c3,rfl,hc3,hA3⟩:=hown3.form
 have hOc:=hO.below hb nlr
 have hTc:=hT.below hb nlr
 have hmT:=hTc.tab l[m] (lgm hm)
 have hsz:=hb.size
 refine⟨A3,c3,by simp,hOc.kept hg3 (fun g hg =>?_),?_⟩
 ·rw[hlm]at hmT
  exact hOc.dH hmT Aw g hg
 ·have h:=eZ.more (w':=w3) (A3:=A3) (c3:=c3) (r':=r') hTc hm omA (by rw[hlm];exact hg3) (by rw[hlm];simpa using hown3) (fun a ha =>?_) ⟨hr1.mono hbW,hr2.mono hbW⟩ (fun t ht s hs=>⟨fun a b ha hb' e =>?_,fun a b ha hb' e =>?_⟩)
  ·rw[hlm]at h
   exact h
  ·rw[hlm]
   subst ha
   rcases u7 with h1|h1
   ·exact .inl (h1.symm.trans rfl)
   ·have e1:a.block=Wc.heap.size:=by simpa[Value.ownBlock]using h1
    exact .inr omA
  ·have h1:=(hT.row t ht s hs).1.lt a.block (by rw[ha];rfl)
   have h2:=hr1.row b.block (by rw[hb'];rfl)
   omega
  ·have h1:=(hT.row t ht s hs).2.lt a.block (by rw[ha];rfl)
   have h2:=hr2.row b.block (by rw[hb'];rfl)
   omega
theorem FJ{base q n m:Nat}{w3:World}{l:List RTab}{A3:Option Addr}{c3:Nat}{rs:List Rcd}(hO:aB w3 base 127 RTab.cells 1 (.slice (some ⟨q,0,none⟩) n n) l)(hn:n=l.length)(hT:eZ w3 base (l.set m ⟨A3,c3,rs⟩))(hm:m<l.length):
 aB (w3.setCell ⟨q,m,none⟩ (.slice A3 rs.length c3)) base 127 RTab.cells 1 (.slice (some ⟨q,0,none⟩) n n) (l.set m ⟨A3,c3,rs⟩)∧eZ (w3.setCell ⟨q,m,none⟩ (.slice A3 rs.length c3)) base (l.set m ⟨A3,c3,rs⟩):=by
 obtain⟨cs,hc⟩:=hO.typ (q:=q) rfl
 exact⟨hO.gp bQ hn hm ⟨A3,c3,rs⟩ (j:= 0) omA omA rfl,hT.far hc _⟩
theorem lJ(A:Option Addr)(c n:Nat)(rt:List RTab)(w:World)(hl:aQ w w.heap.size A rt)(hln:rt.length=n)(hs:dQ rt):
 Calls Tryz.prog 59 #[.slice A n c] w fun e w' =>∃q rt',e=.returned (.slice (some ⟨q,0,none⟩) n n)∧w.heap.size≤q∧rt'.length=n∧aB w' w.heap.size 127 RTab.cells 1 (.slice (some ⟨q,0,none⟩) n n) rt'∧eZ w' w.heap.size rt'∧rt'.map aS=rt.map aS∧Below w.heap.size w w':=by
 subst hln
 have hn:=hs.len
 obtain⟨i7,hi7,hz7,hs7,hb7⟩:=info_parts xS
 obtain⟨iv,hiv,xX,xW,xV⟩:=info_parts Bv
 obtain⟨ii,hii,zy,zx,zw⟩:=info_parts jv
 obtain⟨ir,hir,pR,oV,pQ⟩:=info_parts wR
 have hmk:∀u:World,(Instr.makeSlice 52 (.int .i64 (rt.length:Int)) (.int .i64 (rt.length:Int))).run Tryz.prog u=.ok (.slice (some ⟨u.heap.size,0,none⟩) rt.length rt.length) (u.alloc (.cells (madeCells (RTab.cells dA).toArray (rt.length*1)) 127)):=fun u=>by
  have:=jl (P:=Tryz.prog) 52 127 i7 (.slice none 0 0) Tryz.underlying52 hi7 hz7 .i64 .i64 rt.length rt.length nlr (by rw[hb7];omega) omA u
  rw[hs7]at this
  exact this
 have HL:=qh hl
 have HS:=qh hs
 clear hl hs hi7 hz7 hs7 hb7
 go_enter Tryz.func59,Tryz.ntmps59
 go_upto_region 2 with (fail)
 clear hmk
 obtain⟨q,hq⟩:∃q,w.heap.size=q:=⟨_,rfl⟩
 refine au (P:=fun u=>Code.wp _ _ _ _ u) (R:=fun u=>aB u w.heap.size 127 RTab.cells 1 (.slice (some ⟨w.heap.size,0,none⟩) rt.length rt.length) (List.replicate rt.length dA)∧Below w.heap.size w u) ⟨?_,?_⟩ ?_
 ·exact aB.made bQ omA (by rw[Nat.mul_one];exact Blk.new' rfl) nlr mxA
 ·exact av
 rintro W ⟨hO,hbW⟩
 have HO:=qh hO
 have hqW:=hO.lt w.heap.size rfl
 clear hO hq
 go_wp2_with fail
 go_loopw [4] (fun vi wr =>∃(m:Nat) (l:List RTab),m≤rt.length∧vi=.int .i64 m∧fE rt l m 0∧aB wr w.heap.size 127 RTab.cells 1 (.slice (some ⟨w.heap.size,0,none⟩) rt.length rt.length) l∧eZ wr w.heap.size l∧Below w.heap.size w wr) (fun vi _=>rt.length-(intOf vi).toNat)
 case atStart=>exact⟨0,_,Nat.zero_le _,rfl,fE.zero rt,HO.out,eZ.zero _ _ _,hbW⟩
 case round =>
  obtain⟨m,l,hm,rfl,hct,hol,hot,hbr⟩:=hrel
  have HCT:=qh hct
  have HOL:=qh hol
  have HOT:=qh hot
  clear hct hol hot
  by_cases hlt:m<rt.length
  ·obtain⟨b,o,hAe,hb,hc⟩:=HL.out.1.get hlt
   have c0:=hc 0 _ rfl
   have bN:=HL.out.2 rt[m] (lgm hlt)
   have hrl:=HS.out.recs rt[m] (lgm hlt)
   have hrw:=HS.out.row rt[m] (lgm hlt)
   have hsq:=HS.out.seq rt[m] (lgm hlt)
   have HNX:=qh (fun(l:List RTab) (h:fE rt l m rt[m].recs.length)=>h.next hlt rfl)
   have HPT:=qh (fun(l:List RTab) (k:Nat) (h:fE rt l m k)=>h.put hlt)
   have HRL:=qh (fun(l:List RTab) (k:Nat) (h:fE rt l m k)=>h.reclen hlt)
   obtain⟨⟨TA,tc,recs⟩,hx⟩:∃x:RTab,rt[m]=x:=⟨_,rfl⟩
   rw[hx]at c0 bN hrl hrw hsq HNX HPT HRL
   simp only[Nat.mul_one,Nat.add_zero]at c0 bN hrl hrw hsq HNX HPT HRL
   have HR:=qh bN
   have HRW:=qh hrw
   have HSQ:=qh hsq
   have HC0:=qh c0
   subst hAe
   clear hc hx bN c0 hrw hsq
   go_wp2_with fail
   obtain⟨wo,rfl⟩:∃wo:World,wo=wr:=⟨_,rfl⟩
   go_loopw [5] (fun vk wi =>∃(k:Nat) (l:List RTab),k≤recs.length∧vk=.int .i64 k∧fE rt l m k∧aB wi w.heap.size 127 RTab.cells 1 (.slice (some ⟨w.heap.size,0,none⟩) rt.length rt.length) l∧eZ wi w.heap.size l∧Below w.heap.size w wi) (fun vk _=>recs.length-(intOf vk).toNat)
   case atStart=>exact⟨0,l,Nat.zero_le _,rfl,HCT.out,HOL.out,HOT.out,hbr⟩
   case round =>
    clear HCT HOL HOT
    obtain⟨k,l,hk,rfl,hct,hol,hot,hbi⟩:=hrel
    have HCT:=qh hct
    have hml:m<l.length:=by rw[hct.len];exact hlt
    have hrk:=HRL.out l k hct hml hk
    have hwz:=hbi.size
    have c0:=(hbi.cell (p:=⟨b,o+m,none⟩) (by exact hb)).trans HC0.out
    have HOL:=qh hol
    have HOT:=qh hot
    clear hct hol hot
    by_cases hkl:k<recs.length
    ·obtain⟨b2,o2,rfl,hb2,hc2⟩:=(HR.out.1.below hbi).get hkl
     obtain⟨d0,d1,d2⟩:=Rcd.cells3 hc2
     have hri:=(HR.out.2 recs[k] (lgm hkl)).below hbi
     have hr1:=HRW.out recs[k] (lgm hkl)
     have hr2:=HSQ.out recs[k] (lgm hkl)
     have HPK:=qh (fun(r':Rcd) (h:bK r'=bK recs[k])=>HPT.out l k HCT.out hml hkl h)
     obtain⟨⟨RA,rc,row,SA,sc,sq,dy⟩,hy⟩:∃x:Rcd,recs[k]=x:=⟨_,rfl⟩
     rw[hy]at d0 d1 d2 hri hr1 hr2 HPK
     simp only at d0 d1 d2 hri hr1 hr2 HPK
     have HRI:=qh hri
     clear hc2 hy hri
     go_upto_region 9 with (fail)
     obtain⟨X,hX⟩:∃X,wr.heap.size=X:=⟨_,rfl⟩
     have htx:=(HOT.out.tab l[m] (lgm hml)).lt
     rw[hX]at htx
     rw[hX]
     refine au (P:=fun u=>Code.wp _ _ _ _ u) (R:=fun u=>Blk u X 126 #[.slice RA row.length rc,.slice SA sq.length sc,.int .i64 dy]∧Below wr.heap.size wr u) ⟨?_,?_⟩ ?_
     ·exact Blk.new' hX
     ·exact av
     clear hX
     rintro W9 ⟨hB9,hb9⟩
     have VY:=hb9.size
     have HR9:Hid (jZ W9 W9.heap.size ⟨RA,rc,row,SA,sc,sq,dy⟩):=qh ((HRI.out.mono hwz).next hb9)
     have M8:=qh (HOL.out.below hb9 nlr)
     have SL:=qh (HOT.out.below hb9 nlr)
     have hx9:Below w.heap.size w W9:=ae hbi hb9 hwz
     have g0:=M8.out.fF bQ (by rw[HCT.out.len]) hml (j:= 0) rfl
     have gf:=M8.out.ng (by rw[HCT.out.len]) (0+m)
     obtain⟨⟨TA2,tc2,cur⟩,hlm⟩:∃x:RTab,l[m]=x:=⟨_,rfl⟩
     have HLM:=qh hlm
     have htb:=SL.out.tab l[m] (lgm hml)
     rw[hlm]at htb
     have HTB:=qh htb
     clear htb
     rw[hlm]at htx
     have HTX:=qh htx
     clear htx
     rw[hlm]at g0 hrk
     simp only[Nat.mul_one,Nat.add_zero]at g0 hrk
     have e0:=hB9.cell 0
     have e1:=hB9.cell 1
     have e2:=hB9.cell 2
     simp only[gE3]at e0 e1 e2
     have hXz:=hB9.lt
     have hqz:w.heap.size<W9.heap.size:=(M8.out.lt w.heap.size rfl)
     have hcl:cur.length≤1000000:=by omega
     have HRK:=qh hrk
     clear hB9 HOL HOT hlm d0 d1 d2 c0 hrk
     refine aT (S:=(fun w'=>w'.cell? ⟨X,0,none⟩=some (.slice RA row.length rc)∧w'.cell? ⟨X,1,none⟩=some (.slice SA sq.length sc)∧w'.cell? ⟨X,2,none⟩=some (.int .i64 dy)∧w'.cell? ⟨w.heap.size,m,none⟩=some (.slice TA2 cur.length tc2))) [20] krA ⟨e0,e1,e2,g0⟩ (fun hHeld =>?_)
     refine tkT 0 hHeld ?_
     refine tkT 1 hHeld ?_
     refine tkT 2 hHeld ?_
     refine tkT 3 hHeld ?_
     refine tkT 4 hHeld ?_
     refine tkT 5 hHeld ?_
     refine tkT 7 hHeld ?_
     refine tkT 8 hHeld ?_
     refine tkT 11 hHeld ?_
     refine tkT 12 hHeld ?_
     refine tkT 14 hHeld ?_
     refine tkT 15 hHeld ?_
     refine r2T 6 10 (fun K hK =>?_) (fun K hK =>?_)
     ·go_simp
      refine hK.out _ _ _ ⟨?_,?_,?_,?_⟩ (fun hHeld =>?_)
      iterate 4 (go_simp)
      clear hK K
      refine r2T 9 10 (fun K hK =>?_) (fun K hK =>?_)
      ·(refine ak _ rfl (.tmp 38) (.tmp 40) 60 rfl 62 iv _ Val.cells 3 32 Tryz.underlying60 hiv xX xW xV rfl omA dE val_one W9.heap.size (.slice (some ⟨W9.heap.size,0,none⟩) 0 0) [] rfl (aB.empty nbA leA) _ _ _ row rfl rfl (HR9.out.1.next av) smA mxA leA ?_;intro vr wr1 gq hgr KQ;have yx:Below W9.heap.size W9 wr1:=Below.grown av hgr leA (aV leA);have QD:=yx.size;have Ki:=hgr.size;simp at Ki;rw[List.nil_append]at gq;obtain⟨RA',rcp,rfl,QM,R5⟩:=gq.form;have kxr:=(bg yx X hXz).1;have kqr:=(bg yx w.heap.size hqz).1;have hXr:X<wr1.heap.size:=omA;have hqr:w.heap.size<wr1.heap.size:=omA)
       refine hK.out _ _ _ ⟨?_,?_,?_,?_⟩ (fun hHeld =>?_)
       iterate 4 (go_simp)
       clear hK K
       refine r1T 10 (fun K hK =>?_)
       go_simp
       refine hK.out _ _ _ ⟨?_,?_,?_,?_⟩ (fun hHeld =>?_)
       iterate 4 (go_simp)
       clear hK K
       refine r1T 13 (fun K hK =>?_)
       (refine ak _ rfl (.tmp 42) (.tmp 44) 22 rfl 3 ii _ intCells 1 8 Tryz.underlying22 hii zy zx zw rfl omA bn dL W9.heap.size (.slice (some ⟨wr1.heap.size,0,none⟩) 0 0) [] rfl (aB.empty (by first|exact Blk.new' sdA|exact(Blk.new' sdA).drew|exact Blk.grown nbA hgr (dx omA)) leA) _ _ _ sq rfl rfl (HR9.out.2.next av) smA mxA leA ?_;intro vs ws1 rR hgs RL;have yw:Below W9.heap.size W9 ws1:=Below.grown av hgs leA (aV leA);have QC:=yw.size;rw[List.nil_append]at rR;obtain⟨SA',scp,rfl,QF,RZ⟩:=rR.form;have hne:∀q,(Value.slice RA' row.length rcp).ownBlock=some q→some q≠(Value.slice (some ⟨wr1.heap.size,0,none⟩) 0 0).ownBlock:=(fun q hq e=>by have h1:=gq.lt q hq;have e':q=wr1.heap.size:=(by simpa[Value.ownBlock]using e);rcases KQ with h|h<;>(rw[h]at hq;simp[Value.ownBlock]at hq;omega));have BI:=(by first|exact aB.kept gq hgs hne|exact aB.kept (gq.alloc _) hgs hne|exact aB.kept gq.drew hgs hne|exact aB.kept (gq.alloc _).drew hgs hne);have kxs:=(bg yw X hXz).1;have kqs:=(bg yw w.heap.size hqz).1;clear kxr kqr;have hXs:X<ws1.heap.size:=omA;have hqs:w.heap.size<ws1.heap.size:=omA)
       refine hK.out _ _ _ ⟨?_,?_,?_,?_⟩ (fun hHeld =>?_)
       iterate 4 (go_simp)
       clear hK K
       exact EX
      ·go_simp
       refine hK.out _ _ _ ⟨?_,?_,?_,?_⟩ (fun hHeld =>?_)
       iterate 4 (go_simp)
       clear hK K
       refine r1T 9 (fun K hK =>?_)
       (refine ak _ rfl (.tmp 38) (.tmp 40) 60 rfl 62 iv _ Val.cells 3 32 Tryz.underlying60 hiv xX xW xV rfl omA dE val_one W9.heap.size (.slice (some ⟨W9.heap.size,0,none⟩) 0 0) [] rfl (aB.empty nbA leA) _ _ _ row rfl rfl (HR9.out.1.next av) smA mxA leA ?_;intro vr wr1 gq hgr KQ;have yx:Below W9.heap.size W9 wr1:=Below.grown av hgr leA (aV leA);have QD:=yx.size;have Ki:=hgr.size;simp at Ki;rw[List.nil_append]at gq;obtain⟨RA',rcp,rfl,QM,R5⟩:=gq.form;have kxr:=(bg yx X hXz).1;have kqr:=(bg yx w.heap.size hqz).1;have hXr:X<wr1.heap.size:=omA;have hqr:w.heap.size<wr1.heap.size:=omA)
       refine hK.out _ _ _ ⟨?_,?_,?_,?_⟩ (fun hHeld =>?_)
       iterate 4 (go_simp)
       clear hK K
       refine r1T 13 (fun K hK =>?_)
       (refine ak _ rfl (.tmp 42) (.tmp 44) 22 rfl 3 ii _ intCells 1 8 Tryz.underlying22 hii zy zx zw rfl omA bn dL W9.heap.size (.slice (some ⟨(W9.heap.size+1),0,none⟩) 0 0) [] rfl (aB.empty (by first|exact Blk.new' sdA|exact(Blk.new' sdA).drew|exact Blk.grown nbA hgr (dx omA)) leA) _ _ _ sq rfl rfl (HR9.out.2.next av) smA mxA leA ?_;intro vs ws1 rR hgs RL;have yw:Below W9.heap.size W9 ws1:=Below.grown av hgs leA (aV leA);have QC:=yw.size;rw[List.nil_append]at rR;obtain⟨SA',scp,rfl,QF,RZ⟩:=rR.form;have hne:∀q,(Value.slice RA' row.length rcp).ownBlock=some q→some q≠(Value.slice (some ⟨(W9.heap.size+1),0,none⟩) 0 0).ownBlock:=(fun q hq e=>by have h1:=gq.lt q hq;have e':q=(W9.heap.size+1):=(by simpa[Value.ownBlock]using e);rcases KQ with h|h<;>(rw[h]at hq;simp[Value.ownBlock]at hq;omega));have BI:=(by first|exact aB.kept gq hgs hne|exact aB.kept (gq.alloc _) hgs hne|exact aB.kept gq.drew hgs hne|exact aB.kept (gq.alloc _).drew hgs hne);have kxs:=(bg yw X hXz).1;have kqs:=(bg yw w.heap.size hqz).1;clear kxr kqr;have hXs:X<ws1.heap.size:=omA;have hqs:w.heap.size<ws1.heap.size:=omA)
       refine hK.out _ _ _ ⟨?_,?_,?_,?_⟩ (fun hHeld =>?_)
       iterate 4 (go_simp)
       clear hK K
       exact EX
     ·go_simp
      refine hK.out _ _ _ ⟨?_,?_,?_,?_⟩ (fun hHeld =>?_)
      iterate 4 (go_simp)
      clear hK K
      refine r1T 6 (fun K hK =>?_)
      go_simp
      refine hK.out _ _ _ ⟨?_,?_,?_,?_⟩ (fun hHeld =>?_)
      iterate 4 (go_simp)
      clear hK K
      refine r1T 9 (fun K hK =>?_)
      (refine ak _ rfl (.tmp 38) (.tmp 40) 60 rfl 62 iv _ Val.cells 3 32 Tryz.underlying60 hiv xX xW xV rfl omA dE val_one W9.heap.size (.slice (some ⟨(W9.heap.size+1),0,none⟩) 0 0) [] rfl (aB.empty nbA leA) _ _ _ row rfl rfl (HR9.out.1.next av) smA mxA leA ?_;intro vr wr1 gq hgr KQ;have yx:Below W9.heap.size W9 wr1:=Below.grown av hgr leA (aV leA);have QD:=yx.size;have Ki:=hgr.size;simp at Ki;rw[List.nil_append]at gq;obtain⟨RA',rcp,rfl,QM,R5⟩:=gq.form;have kxr:=(bg yx X hXz).1;have kqr:=(bg yx w.heap.size hqz).1;have hXr:X<wr1.heap.size:=omA;have hqr:w.heap.size<wr1.heap.size:=omA)
      refine hK.out _ _ _ ⟨?_,?_,?_,?_⟩ (fun hHeld =>?_)
      iterate 4 (go_simp)
      clear hK K
      refine r1T 13 (fun K hK =>?_)
      (refine ak _ rfl (.tmp 42) (.tmp 44) 22 rfl 3 ii _ intCells 1 8 Tryz.underlying22 hii zy zx zw rfl omA bn dL W9.heap.size (.slice (some ⟨W9.heap.size,0,none⟩) 0 0) [] rfl (aB.empty (by first|exact Blk.new' sdA|exact(Blk.new' sdA).drew|exact Blk.grown nbA hgr (dx omA)) leA) _ _ _ sq rfl rfl (HR9.out.2.next av) smA mxA leA ?_;intro vs ws1 rR hgs RL;have yw:Below W9.heap.size W9 ws1:=Below.grown av hgs leA (aV leA);have QC:=yw.size;rw[List.nil_append]at rR;obtain⟨SA',scp,rfl,QF,RZ⟩:=rR.form;have hne:∀q,(Value.slice RA' row.length rcp).ownBlock=some q→some q≠(Value.slice (some ⟨W9.heap.size,0,none⟩) 0 0).ownBlock:=(fun q hq e=>by have h1:=gq.lt q hq;have e':q=W9.heap.size:=(by simpa[Value.ownBlock]using e);rcases KQ with h|h<;>(rw[h]at hq;simp[Value.ownBlock]at hq;omega));have BI:=(by first|exact aB.kept gq hgs hne|exact aB.kept (gq.alloc _) hgs hne|exact aB.kept gq.drew hgs hne|exact aB.kept (gq.alloc _).drew hgs hne);have kxs:=(bg yw X hXz).1;have kqs:=(bg yw w.heap.size hqz).1;clear kxr kqr;have hXs:X<ws1.heap.size:=omA;have hqs:w.heap.size<ws1.heap.size:=omA)
      refine hK.out _ _ _ ⟨?_,?_,?_,?_⟩ (fun hHeld =>?_)
      iterate 4 (go_simp)
      clear hK K
      exact EX
    ·have hkl':decide (k<recs.length)=false:=by simpa using hkl
     have hke:k=recs.length:=by omega
     have Vs:Hid (fE rt l (m+1) 0):=qh (HNX.out l (by rw[←hke];exact HCT.out))
     clear hke
     go_wp2_with fail
     go_roundw
     case rel=>exact⟨m+1,l,by omega,by go_num,Vs.out,HOL.out,HOT.out,hbi⟩
     case measure=>exact meA
  ·have hlt':decide (m<rt.length)=false:=by simpa using hlt
   have hme:m=rt.length:=by omega
   have HDN:Hid (l.map aS=rt.map aS):=qh (fE.done (by rw[←hme];exact HCT.out))
   have HLN:=qh HCT.out.len
   clear hme
   go_wp2_with fail
   go_ret
   exact⟨w.heap.size,l,rfl,Nat.le_refl _,HLN.out,HOL.out,HOT.out,HDN.out,hbr⟩
def RUp(B:Nat)(A:Option Addr)(rt:List RTab):Prop:=(∀a,A=some a→B≤a.block) ∧ ∀t∈rt,(∀a,t.A=some a→B≤a.block) ∧ ∀x∈t.recs,(∀a,x.A=some a→B≤a.block)∧(∀a,x.SA=some a→B≤a.block)
abbrev gQ:=List Val × List Int × Int
def lT(r:gQ):Val:=r.1.headD ⟨0,0,⟨#[]⟩⟩
def uP(l:List gQ)(r:gQ):Nat:=(l.takeWhile fun y=>decide (dW (lT y) (lT r)<0)).length
def xR(l:List gQ)(r:gQ):List gQ:=l.take (uP l r) ++ [r]++l.drop (uP l r)
def BV(l:List gQ)(j:Nat):List gQ:=l.take j++l.drop (j+1)
def updP(l:List gQ)(j:Nat)(x:Chg):List gQ:=match l[j]? with
 | some r=>l.set j (r.1.set x.column.toNat x.val,r.2.1.set x.column.toNat x.seq,r.2.2)
 | none=>l
def oq(x:Chg):gQ:=(x.row,List.replicate x.row.length x.seq,x.day)
def gL(l:List gQ)(key:Val):Int:=if (ek key&&key.kind != 0)=true then il (fun r=>decide (r.1.head?=some key)) l else -1
def fJ(l:List gQ)(x:Chg):List gQ:=
 if x.kind=1 then (if 0≤gL l (keyOf x) then xR (BV l (gL l (keyOf x)).toNat) (oq x) else if 64≤l.length then l else xR l (oq x))
 else if gL l (keyOf x)<0 then l else if x.kind=2 then updP l (gL l (keyOf x)).toNat x else BV l (gL l (keyOf x)).toNat
def NW(pl:List (List gQ))(k:Int):List gQ:=match pl[k.toNat]? with
 | some l=>l
 | none =>[]
def bW(pl:List (List gQ))(x:Chg):List (List gQ):=pl.set x.table.toNat (fJ (NW pl x.table) x)
theorem fG(recs:List Rcd)(key:Val):jY recs key=gL (recs.map bK) key:=by
 unfold jY gL il
 rw[List.findIdx?_map]
 rfl
theorem uw{l:List gQ}{key:Val}(h:0≤gL l key):∃j:Nat,j<l.length∧gL l key=(j:Int):=by
 unfold gL at h ⊢
 split at h
 ·rename_i hc
  rw[if_pos hc]
  obtain⟨m,hm,he,_⟩:=mQ h
  exact⟨m,hm,he⟩
 ·omega
theorem xe{pl:List (List gQ)}{k:Nat}(h:k<pl.length):NW pl (k:Int)=pl[k]:=by
 unfold NW
 rw[Int.toNat_natCast,List.getElem?_eq_getElem h]
theorem Dl{rt l:List RTab}(h:l.map aS=rt.map aS){k:Nat}(hk:k<l.length){x:Chg}(hx:x.table=(k:Int)){A3:Option Addr}{c3:Nat}{new:List Rcd}(hnew:new.map bK=fJ (l[k].recs.map bK) x):(l.set k ⟨A3,c3,new⟩).map aS=bW (rt.map aS) x:=by
 unfold bW
 rw[List.map_set,←h,hx,xe (by simpa using hk),List.getElem_map]
 show (l.map aS).set k (new.map bK)=_
 rw[hnew]
 rfl
theorem Ib{rt l:List RTab}(h:l.map aS=rt.map aS){k:Nat}(hk:k<l.length){x:Chg}(hx:x.table=(k:Int))(hnew:l[k].recs.map bK=fJ (l[k].recs.map bK) x):l.map aS=bW (rt.map aS) x:=by
 unfold bW
 rw[←h,hx,xe (by simpa using hk),List.getElem_map,Int.toNat_natCast]
 show _=(l.map aS).set k (fJ (l[k].recs.map bK) x)
 rw[←hnew]
 apply List.ext_getElem
 ·simp
 ·intro i h1 h2
  rw[List.getElem_set]
  split
  ·rename_i he
   subst he
   rw[List.getElem_map]
   rfl
  ·rfl
section
variable {w:World}{base q n k:Nat}{l:List RTab}
theorem aB.di{α:Type}{enc:α→List Value}{s base' i:Nat}{e e':TypeId}{v:Value}{m:List α}{cs:Array Value}(ho:aB w base' e enc s v m)(hq:w.heap[q]?=some (.cells cs e' (0,0)))(he:e'≠e)(u:Value):aB (w.setCell ⟨q,i,none⟩ u) base' e enc s v m:=by
 refine ho.far (fun g hg e1 =>?_) u
 obtain⟨cs',hc⟩:=ho.typ hg
 have e1:g=q:=e1
 rw[e1]at hc
 exact uC hq he cs' hc
theorem su{α:Type}{enc:α→List Value}{s c:Nat}{e:TypeId}{A:Option Addr}{m:List α}(ho:aB w base e enc s (.slice A m.length c) m):∀a,A=some a→base≤a.block:=fun a ha=>ho.row a.block (by rw[ha];rfl)
theorem bJ{α:Type}{enc:α→List Value}{s c:Nat}{e:TypeId}{A:Option Addr}{m:List α}(hk:∀x,(enc x).length=s)(ho:aB w base e enc s (.slice A m.length c) m):ah w w.heap.size enc s A m:=by
 obtain⟨A2,c2,e2,_,hs2,_⟩:=ho.slice hk
 injection e2 with e2 _ _
 subst e2
 exact hs2
def fZ(w:World)(base:Nat)(A:Option Addr)(c:Nat)(recs:List Rcd):Prop:=aB w base 126 Rcd.cells 3 (.slice A recs.length c) recs ∧ ∀x∈recs,dN w base x
theorem fZ.read{A:Option Addr}{c:Nat}{recs:List Rcd}(h:fZ w base A c recs):gD w w.heap.size A recs:=⟨bJ bB h.1,fun x hx=>(h.2 x hx).read⟩
theorem eZ.recs(h:eZ w base l)(hk:k<l.length):fZ w base l[k].A l[k].cap l[k].recs:=⟨h.tab _ (lgm hk),fun x hx=>h.row _ (lgm hk) x hx⟩
theorem qE{c:Nat}{A:Option Addr}(hO:aB w base 127 RTab.cells 1 (.slice A l.length c) l)(hT:∀t∈l,fZ w base t.A t.cap t.recs):aQ w w.heap.size A l∧RUp base A l:=
 ⟨⟨bJ bQ hO,fun t ht=>(hT t ht).read⟩,su hO,fun t ht=>⟨su (hT t ht).1,fun x hx=>⟨su ((hT t ht).2 x hx).1,su ((hT t ht).2 x hx).2⟩⟩⟩
theorem EJ(hO:aB w base 127 RTab.cells 1 (.slice (some ⟨q,0,none⟩) n n) l)(hn:n=l.length)(hT:eZ w base l)(hk:k<l.length){A3:Option Addr}{c3:Nat}{new:List Rcd}(hnew:fZ w base A3 c3 new):
 aQ (w.setCell ⟨q,k,none⟩ (.slice A3 new.length c3)) (w.setCell ⟨q,k,none⟩ (.slice A3 new.length c3)).heap.size (some ⟨q,0,none⟩) (l.set k ⟨A3,c3,new⟩)∧RUp base (some ⟨q,0,none⟩) (l.set k ⟨A3,c3,new⟩):=by
 obtain⟨cs,hc⟩:=hO.typ (q:=q) rfl
 have hO2:=hO.gp bQ hn hk ⟨A3,c3,new⟩ (j:= 0) (o:=k) (u:= .slice A3 new.length c3) omA omA rfl
 refine qE (c:=n) (by simpa[hn]using hO2) fun t ht =>?_
 have hone:∀ {A:Option Addr}{c:Nat}{recs:List Rcd},fZ w base A c recs→fZ (w.setCell ⟨q,k,none⟩ (.slice A3 new.length c3)) base A c recs:=fun h=>⟨h.1.di hc Aw _,fun x hx=>⟨(h.2 x hx).1.di hc Es _,(h.2 x hx).2.di hc Er _⟩⟩
 rcases List.mem_or_eq_of_mem_set ht with h1|rfl
 ·exact hone ⟨hT.tab t h1,hT.row t h1⟩
 ·exact hone hnew
end
section
variable {w w':World}{base k j:Nat}{l:List RTab}
theorem aB.same{α:Type}{enc:α→List Value}{s b:Nat}{e:TypeId}{v:Value}{m:List α}(h:aB w b e enc s v m)(hh:∀g,v.ownBlock=some g→w'.heap[g]?=w.heap[g]?):aB w' b e enc s v m:=by
 refine⟨h.1,?_⟩
 rcases h.2 with h1|⟨g,cap,cur,rfl,hbs,hgg,hrest⟩
 ·exact .inl h1
 ·exact .inr ⟨g,cap,cur,rfl,hbs,(hh g rfl).trans hgg,hrest⟩
theorem mY{α:Type}{enc:α→List Value}{s b c:Nat}{e:TypeId}{A:Option Addr}{m:List α}{j:Nat}{x:α}(hj:j<m.length)(hx:enc x=enc m[j])(h:aB w b e enc s (.slice A m.length c) m):aB w b e enc s (.slice A (m.set j x).length c) (m.set j x):=by
 have e1:(m.set j x).flatMap enc=m.flatMap enc:=by
  rw[List.flatMap_def,List.flatMap_def,List.map_set,hx]
  have:(m.map enc)[j]'(by simpa using hj)=enc m[j]:=List.getElem_map ..
  rw[←this,List.set_getElem_self]
 unfold aB at h ⊢
 rw[List.length_set,e1]
 exact h
theorem iL{A B:Option Addr}(h:jk A B){n c:Nat}{g:Nat}(hg:(Value.slice A n c).ownBlock=some g):∀b,B=some b→g≠b.block:=by
 intro b hb
 cases A with
 | none=>simp[Value.ownBlock]at hg
 | some a =>
   have e:a.block=g:=by simpa[Value.ownBlock]using hg
   rw[←e]
   exact h a b rfl hb
theorem iE{α β:Type}{enc:α→List Value}{enc':β→List Value}{s s' b b':Nat}{e e':TypeId}{v:Value}{B:Option Addr}{n c:Nat}{m:List α}{m':List β}(h:aB w b e enc s v m)(h':aB w b' e' enc' s' (.slice B n c) m')(he:e≠e'){g:Nat}(hg:v.ownBlock=some g):∀a,B=some a→g≠a.block:=by
 intro a ha e1
 refine h.dH h' he g hg ?_
 rw[ha,e1]
 rfl
theorem CX{recs:List Rcd}(h:recs.Pairwise nA){i j:Nat}(hi:i<recs.length)(hj:j<recs.length)(hne:i≠j):nA recs[i] recs[j]:=by
 rw[List.pairwise_iff_getElem]at h
 rcases Nat.lt_or_gt_of_ne hne with h1|h1
 ·exact h i j hi hj h1
 ·exact(h j i hj hi h1).symm
theorem wX{A:Option Addr}{n:Nat}(hO:aB w base 127 RTab.cells 1 (.slice A n n) l)(hn:n=l.length)(hT:eZ w base l)(hk:k<l.length)(hj:j<l[k].recs.length){r':Rcd}(hcell:Rcd.cells r'=Rcd.cells l[k].recs[j])(hnew:dN w' base r')
 (pW:∀g,(∀a,l[k].recs[j].A=some a→g≠a.block)→(∀a,l[k].recs[j].SA=some a→g≠a.block)→w'.heap[g]?=w.heap[g]?):
 aQ w' w'.heap.size A (l.set k ⟨l[k].A,l[k].cap,l[k].recs.set j r'⟩)∧RUp base A (l.set k ⟨l[k].A,l[k].cap,l[k].recs.set j r'⟩):=by
 have hr:=hT.row l[k] (lgm hk) l[k].recs[j] (lgm hj)
 have hrow:∀s,dN w base s→nA s l[k].recs[j]→dN w' base s:=fun s hs hap =>
  ⟨hs.1.same fun g hg=>pW g (iL hap.1 hg) (iE hs.1 hr.2 (by decide) hg),hs.2.same fun g hg=>pW g (iE hs.2 hr.1 (by decide) hg) (iL hap.2 hg)⟩
 have htab:∀t∈l,aB w' base 126 Rcd.cells 3 (.slice t.A t.recs.length t.cap) t.recs:=fun t ht=>(hT.tab t ht).same fun g hg=>pW g (iE (hT.tab t ht) hr.1 (by decide) hg) (iE (hT.tab t ht) hr.2 (by decide) hg)
 have hO2:aB w' base 127 RTab.cells 1 (.slice A n n) l:=hO.same fun g hg=>pW g (iE hO hr.1 (by decide) hg) (iE hO hr.2 (by decide) hg)
 subst hn
 refine qE (c:=l.length) (mY hk ?_ hO2) fun t ht =>?_
 ·show [Value.slice _ _ _]=[Value.slice _ _ _]
  rw[List.length_set]
 ·obtain⟨i,hi,rfl⟩:=List.getElem_of_mem ht
  rw[List.getElem_set]
  by_cases hik:k=i
  ·rw[if_pos hik]
   refine⟨mY hj hcell (htab _ (lgm hk)),fun x hx =>?_⟩
   obtain⟨m,hm,rfl⟩:=List.getElem_of_mem hx
   have hm:m<(l[k].recs.set j r').length:=hm
   rw[List.length_set]at hm
   show dN w' base ((l[k].recs.set j r')[m]'_)
   rw[List.getElem_set]
   by_cases hjm:j=m
   ·rw[if_pos hjm]
    exact hnew
   ·rw[if_neg hjm]
    exact hrow _ (hT.row _ (lgm hk) _ (lgm hm)) (CX (hT.xg _ (lgm hk)) hm hj omA)
  ·rw[if_neg hik]
   have hi':i<l.length:=by simpa using hi
   exact⟨htab _ (lgm hi'),fun x hx=>hrow x (hT.row _ (lgm hi') x hx) (hT.pO i k hi' hk omA x hx _ (lgm hj))⟩
end
theorem RUp.mono{B B':Nat}{A:Option Addr}{rt:List RTab}(h:RUp B A rt)(hb:B'≤B):RUp B' A rt:=
 ⟨fun a ha=>Nat.le_trans hb (h.1 a ha),fun t ht=>⟨fun a ha=>Nat.le_trans hb ((h.2 t ht).1 a ha),fun x hx=>⟨fun a ha=>Nat.le_trans hb (((h.2 t ht).2 x hx).1 a ha),fun a ha=>Nat.le_trans hb (((h.2 t ht).2 x hx).2 a ha)⟩⟩⟩
def iC(w:World)(n:Nat)(pl:List (List gQ))(e:Ending)(w':World):Prop:=
 (∃A' c' l',e=.returned (.slice A' n c')∧l'.length=n∧aQ w' w'.heap.size A' l'∧RUp w.heap.size A' l'∧l'.map aS=pl)∧Below w.heap.size w w'
theorem iC.drew{w w':World}{n:Nat}{pl:List (List gQ)}{e:Ending}(h:iC w n pl e w'):iC w n pl e w'.drew:=by
 obtain⟨⟨A,c,l,h1,h2,h3,h4,h5⟩,hb⟩:=h
 exact⟨⟨A,c,l,h1,h2,h3.next brf.drew,h4,h5⟩,hb.drew⟩
theorem Bp{rt l:List RTab}(h:l.map aS=rt.map aS){k:Nat}(hk:k<l.length)(hk':k<rt.length):l[k].recs.map bK=aS rt[k]:=by
 have h1:(l.map aS)[k]?=(rt.map aS)[k]?:= by rw[h]
 rw[List.getElem?_map,List.getElem?_map,List.getElem?_eq_getElem hk,List.getElem?_eq_getElem hk']at h1
 exact Option.some.inj h1
theorem fA{α:Type}{enc:α→List Value}{s c base:Nat}{w:World}{e:TypeId}{A:Option Addr}{m:List α}(h:aB w base e enc s (.slice A m.length c) m)(hl:0<m.length):∃g,A=some ⟨g,0,none⟩:=by
 rcases h.2 with ⟨hv,_⟩|⟨g,cap,cur,hv,_⟩
 ·injection hv with _ h2 _
  omega
 ·injection hv with h1 _ _
  exact⟨g,h1⟩
theorem iK{α:Type}{enc:α→List Value}{s c base:Nat}{w:World}{e:TypeId}{A:Option Addr}{m:List α}(h:aB w base e enc s (.slice A m.length c) m):m.length≤c:=by
 obtain⟨A',c',e1,h2,_⟩:=h.form
 injection e1 with _ _ h3
 omega
section
variable {l:List gQ}{x:Chg}{j:Nat}
theorem EK(hk:x.kind≠1)(hz:gL l (keyOf x)<0):fJ l x=l:=by
 unfold fJ
 rw[if_neg hk,if_pos hz]
theorem Ih(hk:x.kind≠1)(hk2:x.kind≠2)(hz:gL l (keyOf x)=(j:Int)):fJ l x=BV l j:=by
 unfold fJ
 rw[if_neg hk,hz,if_neg omA,if_neg hk2,Int.toNat_natCast]
theorem Ic(hk2:x.kind=2)(hz:gL l (keyOf x)=(j:Int)):fJ l x=updP l j x:=by
 unfold fJ
 rw[if_neg omA,hz,if_neg omA,if_pos hk2,Int.toNat_natCast]
theorem EL(hk:x.kind=1)(hz:gL l (keyOf x)<0)(hl:64≤l.length):fJ l x=l:=by
 unfold fJ
 rw[if_pos hk,if_neg omA,if_pos hl]
theorem Ig(hk:x.kind=1)(hz:gL l (keyOf x)<0)(hl:¬ 64≤l.length):fJ l x=xR l (oq x):=by
 unfold fJ
 rw[if_pos hk,if_neg omA,if_neg hl]
theorem Ie(hk:x.kind=1)(hz:gL l (keyOf x)=(j:Int)):fJ l x=xR (BV l j) (oq x):=by
 unfold fJ
 rw[if_pos hk,hz,if_pos omA,Int.toNat_natCast]
end
theorem uQ{w U u2:World}{q n k B:Nat}{l rt:List RTab}{x:Chg}(hO:aB U B 127 RTab.cells 1 (.slice (some ⟨q,0,none⟩) n n) l)(hn:l.length=n)(hT:eZ U B l)(hk:k<l.length)(hpl:l.map aS=rt.map aS)(hx:x.table=(k:Int))(hbW:w.heap.size≤B)(hxU:Below w.heap.size w U)(hb2:Below U.heap.size U u2)
 {A3:Option Addr}{c3:Nat}{new:List Rcd}(hnew:fZ u2 B A3 c3 new) (Ko:new.map bK=fJ (l[k].recs.map bK) x) {v:Value}(hv:v=.slice A3 new.length c3):
 iC w n (bW (rt.map aS) x) (.returned (.slice (some ⟨q,0,none⟩) n n)) (u2.setCell ⟨q,k,none⟩ v):=by
 subst hv
 have hO2:=hO.below hb2 nlr
 have hT2:=hT.below hb2 nlr
 have hqb:=hO.row q rfl
 have hr:=EJ hO2 hn.symm hT2 hk hnew
 refine⟨⟨_,_,_,rfl,by rw[List.length_set];exact hn,hr.1,hr.2.mono hbW,Dl hpl hk hx Ko⟩,?_⟩
 exact(ae hxU hb2 hxU.size).setCell (by show w.heap.size≤q;omega) _
theorem Jc{w U u2:World}{q n k j B:Nat}{l rt:List RTab}{x:Chg}(hO:aB U B 127 RTab.cells 1 (.slice (some ⟨q,0,none⟩) n n) l)(hn:l.length=n)(hT:eZ U B l)(hk:k<l.length)(hpl:l.map aS=rt.map aS)(hx:x.table=(k:Int))(hbW:w.heap.size≤B)(hxU:Below w.heap.size w u2)
 (hj:j<l[k].recs.length) {r':Rcd}(hcell:Rcd.cells r'=Rcd.cells l[k].recs[j]) (hnew:dN u2 B r')
 (pW:∀g,(∀a,l[k].recs[j].A=some a→g≠a.block)→(∀a,l[k].recs[j].SA=some a→g≠a.block)→u2.heap[g]?=U.heap[g]?) (Ko:(l[k].recs.set j r').map bK=fJ (l[k].recs.map bK) x):
 iC w n (bW (rt.map aS) x) (.returned (.slice (some ⟨q,0,none⟩) n n)) u2:=by
 have hr:=wX hO hn.symm hT hk hj hcell hnew pW
 exact⟨⟨_,_,_,rfl,by rw[List.length_set];exact hn,hr.1,hr.2.mono hbW,Dl hpl hk hx Ko⟩,hxU⟩
theorem Dm{w:World}{base g n cap:Nat}{l:List Val}(h:aB w base 62 Val.cells 3 (.slice (some ⟨g,0,none⟩) n cap) l)(hn:n=l.length){i:Nat}(hi:i<l.length)(x:Val):
 aB (((w.setCell ⟨g,i*3,none⟩ (.int .i64 x.kind)).setCell ⟨g,i*3+1,none⟩ (.int .i64 x.num)).setCell ⟨g,i*3+2,none⟩ (.string x.text)) base 62 Val.cells 3 (.slice (some ⟨g,0,none⟩) n cap) (l.set i x):=by
 obtain⟨xk,xn,xt⟩:=x
 obtain⟨⟨yk,yn,yt⟩,hy⟩:∃y,l[i]=y:=⟨_,rfl⟩
 have h1:=h.gp dE hn hi (⟨xk,yn,yt⟩:Val) (j:= 0) (o:=i*3) (u:= .int .i64 xk) omA omA (by rw[hy];rfl)
 have hi1:i<(l.set i (⟨xk,yn,yt⟩:Val)).length:=by simpa using hi
 have h2:=h1.gp dE (by simpa using hn) hi1 (⟨xk,xn,yt⟩:Val) (j:= 1) (o:=i*3+1) (u:= .int .i64 xn) omA omA (by rw[List.getElem_set_self];rfl)
 rw[List.set_set]at h2
 have hi2:i<(l.set i (⟨xk,xn,yt⟩:Val)).length:=by simpa using hi
 have h3:=h2.gp dE (by simpa using hn) hi2 (⟨xk,xn,xt⟩:Val) (j:= 2) (o:=i*3+2) (u:= .string xt) omA omA (by rw[List.getElem_set_self];rfl)
 rw[List.set_set]at h3
 exact h3
theorem iI{w:World}{a p1 p2 p3:Addr}{u1 u2 u3 v:Value}(h:w.cell? a=some v)(h1:p1.block≠a.block)(h2:p2.block≠a.block)(h3:p3.block≠a.block):(((w.setCell p1 u1).setCell p2 u2).setCell p3 u3).cell? a=some v:=by
 rw[World.cell?_setCell_far _ _ _ _ h3,World.cell?_setCell_far _ _ _ _ h2,World.cell?_setCell_far _ _ _ _ h1]
 exact h
theorem Jb{recs:List Rcd}{j col:Nat}{A S:Option Addr}{c s:Nat}{row:List Val}{seq:List Int}{d:Int}(hj:j<recs.length)(hr:recs[j]=⟨A,c,row,S,s,seq,d⟩){x:Chg}(hx:x.column=(col:Int)){A' S':Option Addr}{c' s':Nat}:
 (recs.set j ⟨A',c',row.set col x.val,S',s',seq.set col x.seq,d⟩).map bK=updP (recs.map bK) j x:=by
 unfold updP
 rw[List.getElem?_map,List.getElem?_eq_getElem hj,hr,List.map_set,hx,Int.toNat_natCast]
 rfl
theorem Chg.iR{w:World}{g:Nat}{x:Chg}(h:Blk w g 64 x.cells.toArray):
 (w.cell? ⟨g,0,none⟩=some (.int .i64 x.kind)∧w.cell? ⟨g,1,none⟩=some (.int .i64 x.seq)∧w.cell? ⟨g,2,none⟩=some (.int .i64 x.day)∧w.cell? ⟨g,3,none⟩=some (.int .i64 x.table))∧w.cell? ⟨g,4,none⟩=some (.slice x.A x.row.length x.cap) ∧
 (w.cell? ⟨g,5,none⟩=some (.int .i64 x.key.kind)∧w.cell? ⟨g,6,none⟩=some (.int .i64 x.key.num)∧w.cell? ⟨g,7,none⟩=some (.string x.key.text))∧w.cell? ⟨g,8,none⟩=some (.int .i64 x.column) ∧
 w.cell? ⟨g,9,none⟩=some (.int .i64 x.val.kind)∧w.cell? ⟨g,10,none⟩=some (.int .i64 x.val.num)∧w.cell? ⟨g,11,none⟩=some (.string x.val.text):=
 ⟨⟨h.cell 0,h.cell 1,h.cell 2,h.cell 3⟩,h.cell 4,⟨h.cell 5,h.cell 6,h.cell 7⟩,h.cell 8,h.cell 9,h.cell 10,h.cell 11⟩
theorem pJ(a b:Val)(w:World){r:Int}(hr:dW a b=r):
 Calls Tryz.prog 100 #[.agg #[.int .i64 a.kind,.int .i64 a.num,.string a.text],.agg #[.int .i64 b.kind,.int .i64 b.num,.string b.text]] w fun e w'=>e=.returned (.int .i64 r)∧Ext w w':=by
 subst hr
 exact mX _ _ _ _ _ _ _
theorem KF{x:Rcd}(h:0<x.row.length):lT (bK x)=x.row[0]:=by
 obtain⟨A,c,row,SA,sc,sq,dy⟩:=x
 cases row with
 | nil=>simp at h
 | cons a t=>rfl
theorem uZ{x:Chg}(h:0<x.row.length):lT (oq x)=x.row[0]:=by
 obtain⟨kd,sq,dy,tb,A,cp,row,key,cl,vl⟩:=x
 cases row with
 | nil=>simp at h
 | cons a t=>rfl
theorem uO{L:List Rcd}{r:gQ}{m:Nat}(hm:m≤L.length)(hlo:∀i (h:i<L.length),i<m→decide (dW (lT (bK L[i])) (lT r)<0)=true)(hhi:∀h:m<L.length,decide (dW (lT (bK L[m])) (lT r)<0)=false):uP (L.map bK) r=m:=by
 refine fo _ _ m (by simpa using hm) (fun j h hj =>?_) (fun h =>?_)
 ·rw[List.getElem_map]
  exact hlo j (by simpa using h) hj
 ·rw[List.getElem_map]
  exact hhi (by simpa using h)
theorem Ij{α:Type}{enc:α→List Value}{s c base:Nat}{w:World}{e:TypeId}{A:Option Addr}{m:List α}(h:aB w base e enc s (.slice A m.length c) m):(A=none∧m=[]∧c=0) ∨ ∃g,A=some ⟨g,0,none⟩:=by
 rcases h.2 with ⟨hv,_⟩|⟨g,cap,cur,hv,_⟩
 ·injection hv with h1 h2 h3
  exact .inl ⟨h1,List.length_eq_zero_iff.1 h2,h3⟩
 ·injection hv with h1 _ _
  exact .inr ⟨g,h1⟩
theorem qp{w:World}{g:Nat}{t:TypeId}{a b c x y z:Value}(h:Blk w g t #[a,b,c]):Blk (((w.setCell ⟨g,0,none⟩ x).setCell ⟨g,1,none⟩ y).setCell ⟨g,2,none⟩ z) g t #[x,y,z]:=by
 have:=((h.bV 0 x).bV 1 y).bV 2 z
 simpa using this
theorem Ii{α:Type}{enc:α→List Value}{s base g i1 i2 i3:Nat}{w:World}{e t:TypeId}{v:Value}{m:List α}{cs:Array Value}{x y z:Value}(ho:aB w base e enc s v m)(h:Blk w g t cs)(he:t≠e):aB (((w.setCell ⟨g,i1,none⟩ x).setCell ⟨g,i2,none⟩ y).setCell ⟨g,i3,none⟩ z) base e enc s v m:=
 ((ho.di (i:=i1) h he x).di (i:=i2) (h.bV i1 x) he y).di (i:=i3) ((h.bV i1 x).bV i2 y) he z
def wQ(a b:Int × Int × Int):Bool:=if (a.1 != b.1)=true then decide (a.1<b.1) else if (a.2.2 != b.2.2)=true then decide (a.2.2<b.2.2) else decide (a.2.1<b.2.1)
theorem xy(x0 x1 x2 y0 y1 y2:Int)(w:World){r:Bool}(hr:wQ (x0,x1,x2) (y0,y1,y2)=r):
 Calls Tryz.prog 84 #[.agg #[.int .i64 x0,.int .i64 x1,.int .i64 x2],.agg #[.int .i64 y0,.int .i64 y1,.int .i64 y2]] w fun e w'=>e=.returned (.bool r)∧Below w.heap.size w w':=by
 have hst:r=if (x0 != y0)=true then decide (x0<y0) else if (x2 != y2)=true then decide (x2<y2) else decide (x1<y1):=by rw[←hr];rfl
 have HST:=qh hst
 clear hst hr
 cases h0:(x0 != y0)
 ·cases h2:(x2 != y2)
  ·have bz:Hid (r=decide (x1<y1)):=qh (by rw[HST.out,h0,h2];rfl)
   go_enter Tryz.func84,Tryz.ntmps84
   go_wp2_with fail
   go_ret
   exact⟨aC bz.out.symm,by exact av⟩
  ·have bz:Hid (r=decide (x2<y2)):=qh (by rw[HST.out,h0,h2];rfl)
   go_enter Tryz.func84,Tryz.ntmps84
   go_wp2_with fail
   go_ret
   exact⟨aC bz.out.symm,by exact av⟩
 ·have bz:Hid (r=decide (x0<y0)):=qh (by rw[HST.out,h0];rfl)
  go_enter Tryz.func84,Tryz.ntmps84
  go_wp2_with fail
  go_ret
  exact⟨aC bz.out.symm,by exact av⟩
def gM(a b:List Ident):List Ident:=b.foldl dG a
theorem nT:∀(b a:List Ident),(gM a b).length≤a.length+b.length
 | [],a=>Nat.le_refl _
 | x::b,a=>by
   have h1:=nT b (dG a x)
   have h2:=uh a x
   simp only[gM,List.foldl_cons,List.length_cons]at h1 ⊢
   omega
theorem Cn(a b:List Ident)(x:Ident):gM a (b ++ [x])=dG (gM a b) x:=by simp[gM,List.foldl_append]
theorem zb(A:Option Addr)(c:Nat)(l:List Ident)(s:ByteArray)(k n:Int)(t:ByteArray)(w:World){base:Nat}(hown:aB w base 85 Ident.cells 4 (.slice A l.length c) l)(hbase:base≤w.heap.size)(hn:l.length≤1000000):
 Calls Tryz.prog 132 #[.slice A l.length c,.agg #[.string s,.int .i64 k,.int .i64 n,.string t]] w fun e w' =>
  (∃A' c',e=.returned (.slice A' (dG l ⟨s,k,n,t⟩).length c')∧aB w' base 85 Ident.cells 4 (.slice A' (dG l ⟨s,k,n,t⟩).length c') (dG l ⟨s,k,n,t⟩))∧Below w.heap.size w w':=by
 have hl:=bJ bM hown
 have hcap:=iK hown
 have HOWN:=qh hown
 clear hown
 have hg:Tryz.prog.eqGuardType Tryz.prog.depth 85=false:=by kernel_rfl
 obtain⟨i0,hi0,hz0,hz1,hz2⟩:=info_parts Ac
 go_enter Tryz.func132,Tryz.ntmps132
 go_wp2
 go_loopw [5] (fun i wr =>∃m:Nat,m≤l.length∧i=.int .i64 m∧Below w.heap.size w wr∧(∀j u,(Ident.cells ⟨s,k,n,t⟩)[j]?=some u→wr.cell? ⟨w.heap.size,0+j,none⟩=some u)∧w.heap.size<wr.heap.size∧(∀j (h:j<l.length),j<m→decide (Am l[j] ⟨s,k,n,t⟩<0)=true)) (fun i _=>l.length-(intOf i).toNat)
 case atStart=>exact⟨0,Nat.zero_le _,rfl,by exact av,fun j u hu=>by simpa[Ident.cells]using hu,by simp,fun j _ h=>absurd h omA⟩
 case round =>
  obtain⟨m,hm,rfl,hbw,hx,hz,hlo⟩:=hrel
  obtain⟨x0,x1,x2,x3⟩:=Ident.df hx
  simp only[Nat.zero_add]at x1 x2 x3
  have HX:=qh hx
  have HLO:=qh hlo
  clear hx hlo
  by_cases hlt:m<l.length
  ·obtain⟨b,o,rfl,hb,hc⟩:=(hl.below hbw).get hlt
   obtain⟨h0,h1,h2,h3⟩:=Ident.df hc
   have hk0:=aK (w:=wr) b (by have:=hbw.size;omega)
   have hk1:=aK (w:=wr) w.heap.size hz
   clear hc
   go_wp2
   refine ag krA krA ?_;(repeat(go_big_quiet_step ((go_at_call 186;exact aR (ze _ _ _ _ _ _ _ _ _)))));refine wpQuiet_nil ?_;intro wq hq
   have hq':=ae hbw hq hbw.size
   have hz':w.heap.size<wq.heap.size:=by have:=hq.size;omega
   have hkb:∀o,wq.cell? ⟨b,o,none⟩=wr.cell? ⟨b,o,none⟩:=fun o=>hq.cell (p:=⟨b,o,none⟩) (by have:=hbw.size;show b<_;omega)
   have hkx:∀o,wq.cell? ⟨w.heap.size,o,none⟩=wr.cell? ⟨w.heap.size,o,none⟩:=fun o=>hq.cell (p:=⟨w.heap.size,o,none⟩) hz
   rw[←hkb]at h0 h1 h2 h3
   rw[←hkx]at x0 x1 x2 x3
   clear hkb hkx hk0 hk1
   go_wp2
   ·have Ug:Am l[m] ⟨s,k,n,t⟩<0:=by assumption
    go_roundw
    case rel=>exact⟨m+1,by omega,by go_num,hq',fun j u hu=>(hq.cell (by exact hz)).trans (HX.out j u hu),hz',fun j h hj=>by
     rcases Nat.lt_or_ge j m with hk|hk
     ·exact HLO.out j h hk
     ·obtain rfl:j=m:=by omega
      simpa using Ug⟩
    case measure=>exact meA
   ·have hge:0≤Am l[m] ⟨s,k,n,t⟩:=by assumption
    have hK:J5 l ⟨s,k,n,t⟩=m:=fo _ l m omA HLO.out (fun _=>by simpa using hge)
    have HK:=qh hK
    have HGE:=qh hge
    clear hK hge
    have hk0:=aK (w:=wq) b omA
    have hk1:=aK (w:=wq) w.heap.size hz'
    by_cases hxe:l[m]=⟨s,k,n,t⟩
    ·have heq:=D9 (decide_eq_true hxe)
     have HXE:=qh hxe
     clear hxe
     refine ag krA krA ?_;(repeat(go_big_quiet_step (fail)));refine wpQuiet_nil ?_;intro wq2 hq2
     go_wp2
     go_ret
     have e:dG l ⟨s,k,n,t⟩=l:=by rw[dG,if_pos (by rw[HK.out,List.getElem?_eq_getElem hlt,HXE.out])]
     have hbel:=ae hq' hq2 hq'.size
     rw[e]
     exact⟨⟨_,c,rfl,HOWN.out.below hbel nlr⟩,hbel⟩
    ·have heq:=D9 (decide_eq_false hxe)
     have HXE:=qh hxe
     clear hxe
     refine ag krA krA ?_;(repeat(go_big_quiet_step (fail)));refine wpQuiet_nil ?_;intro wq2 hq2
     have e:dG l ⟨s,k,n,t⟩=l.take m++(⟨s,k,n,t⟩::l.drop m):=by rw[dG,if_neg (by rw[HK.out,List.getElem?_eq_getElem hlt];simpa using HXE.out),HK.out]
     have hbel:=ae hq' hq2 hq'.size
     have HE:=qh e
     clear e heq hk0 hk1 h0 h1 h2 h3
     go_wp2
     have hmc:m≤c:=by omega
     have hcm:¬ c=m:=by omega
     have hl2:=hl.next hbel
     have hx2:∀o,wq2.cell? ⟨w.heap.size,o,none⟩=wq.cell? ⟨w.heap.size,o,none⟩:=fun o=>hq2.cell (p:=⟨w.heap.size,o,none⟩) hz'
     rw[←hx2]at x0 x1 x2 x3
     clear hx2
     have hcut:ah wq2 wq2.heap.size Ident.cells 4 (some ⟨b,o+m*4,none⟩) (l.drop m):=by have h:=hl2.cut (c:=c) m hcap;rwa [if_neg hcm]at h
     have hzz:w.heap.size<wq2.heap.size:=by have:=hq2.size;omega
     go_region_law (first
     | (refine ak _ rfl (.tmp 34) (.tmp 37) 25 rfl 85 i0 _ Ident.cells 4 48 Tryz.underlying25 hi0 hz0 hz1 hz2 rfl omA bM eH wq2.heap.size (.slice (some ⟨wq2.heap.size,0,none⟩) 0 0) [] rfl (aB.empty ncA leA) _ _ _ (l.take m) rfl smA ((hl2.take m).next av) smA mxA leA ?_;intro v1 w1 hown1 hg1 gz;have hb1:Below wq2.heap.size wq2 w1:=Below.grown av hg1 leA (aV leA);have hsz1:=hb1.size;have kx1:=(bg hb1 w.heap.size hzz).1;have h40:Blk w1 (wq2.heap.size+1) 85 #[.string s,.int .i64 k,.int .i64 n,.string t]:=Blk.grown ndA hg1 (dx omA))
     | (refine ak _ rfl (.tmp 34) (.tmp 37) 25 rfl 85 i0 _ Ident.cells 4 48 Tryz.underlying25 hi0 hz0 hz1 hz2 rfl omA bM eH wq2.heap.size (.slice (some ⟨(wq2.heap.size+1),0,none⟩) 0 0) [] rfl (aB.empty ndA leA) _ _ _ (l.take m) rfl smA ((hl2.take m).next av) smA mxA leA ?_;intro v1 w1 hown1 hg1 gz;have hb1:Below wq2.heap.size wq2 w1:=Below.grown av hg1 leA (aV leA);have hsz1:=hb1.size;have kx1:=(bg hb1 w.heap.size hzz).1;have h40:Blk w1 wq2.heap.size 85 #[.string s,.int .i64 k,.int .i64 n,.string t]:=Blk.grown ncA hg1 (dx omA))
     | (refine ak _ rfl (.tmp 34) (.tmp 37) 25 rfl 85 i0 _ Ident.cells 4 48 Tryz.underlying25 hi0 hz0 hz1 hz2 rfl omA bM eH wq2.heap.size (.slice (some ⟨wq2.heap.size,0,none⟩) 0 0) [] rfl (aB.empty neA leA) _ _ _ (l.take m) rfl smA ((hl2.take m).next av) smA mxA leA ?_;intro v1 w1 hown1 hg1 gz;have hb1:Below wq2.heap.size wq2 w1:=Below.grown av hg1 leA (aV leA);have hsz1:=hb1.size;have kx1:=(bg hb1 w.heap.size hzz).1)
     | (refine ak _ rfl (.tmp 38) (.tmp 40) 25 rfl 85 i0 _ Ident.cells 4 48 Tryz.underlying25 hi0 hz0 hz1 hz2 rfl omA bM eH wq2.heap.size v1 ([]++l.take m) rfl nfA _ _ _ [⟨s,k,n,t⟩] rfl rfl (by first|exact Blk.one (enc:=Ident.cells) (x:=⟨s,k,n,t⟩) (Blk.new' spA) spA|exact Blk.one (enc:=Ident.cells) (x:=⟨s,k,n,t⟩) h40 h40.lt) smA mxA ngA ?_;intro v2 w2 hown2 hg2 oW;have hb2:Below wq2.heap.size wq2 w2:=Below.grown av hg2 ngA hown1.row;have hsz2:=hb2.size)
     | (refine ak _ rfl (.tmp 41) (.tmp 44) 25 rfl 85 i0 _ Ident.cells 4 48 Tryz.underlying25 hi0 hz0 hz1 hz2 rfl omA bM eH wq2.heap.size v2 ([]++l.take m ++ [⟨s,k,n,t⟩]) rfl hown2 _ _ _ (l.drop m) rfl spA (hcut.next hb2) smA mxA hb2.size ?_;intro v3 w3 hown3 hg3 u7;have hb3:Below wq2.heap.size wq2 w3:=Below.grown hb2 hg3 hb2.size hown2.row;obtain⟨A3,c3,rfl,hc3,hs3,_⟩:=hown3.slice bM))
     all_goals(go_wp2;go_ret;rw[HE.out];have Qo:=hbel.size;refine⟨⟨A3,c3,?_,?_⟩,?_⟩)
     all_goals first
      | (with_reducible refine ae hbel hb3 ?_;exact hbel.size)
      | (simpa using hown3.mono (b':=base) omA)
      | exact congrArg (fun n=>Ending.returned (Value.slice A3 n c3)) (by first|(simp;omega)|rfl|omega|(simp;done))
  ·have hmn:m=l.length:=by omega
   have hK:J5 l ⟨s,k,n,t⟩=m:=fo _ l m omA HLO.out (fun h=>absurd h hlt)
   have e:dG l ⟨s,k,n,t⟩=l.take m++(⟨s,k,n,t⟩::l.drop m):=by rw[dG,if_neg (by rw[hK,List.getElem?_eq_none omA];simp),hK]
   have HE:=qh e
   have hdr:l.drop m=[]:=List.drop_eq_nil_of_le omA
   have HMN:=qh hmn
   have HDR:=qh hdr
   clear e hK hmn hdr
   go_wp2
   refine ag krA krA ?_;(repeat(go_big_quiet_step ((fail))));refine wpQuiet_nil ?_;intro wq hq
   have hkx:∀o,wq.cell? ⟨w.heap.size,o,none⟩=wr.cell? ⟨w.heap.size,o,none⟩:=fun o=>hq.cell (p:=⟨w.heap.size,o,none⟩) hz
   rw[←hkx]at x0 x1 x2 x3
   clear hkx
   have hz':w.heap.size<wq.heap.size:=by have:=hq.size;omega
   have hq':=ae hbw hq hbw.size
   go_wp2
   refine ag krA krA ?_;(repeat(go_big_quiet_step ((fail))));refine wpQuiet_nil ?_;intro wq2 hq2
   have hbel:=ae hq' hq2 hq'.size
   have hmc:m≤c:=by omega
   have hl2:=hl.next hbel
   have hx2:∀o,wq2.cell? ⟨w.heap.size,o,none⟩=wq.cell? ⟨w.heap.size,o,none⟩:=fun o=>hq2.cell (p:=⟨w.heap.size,o,none⟩) hz'
   rw[←hx2]at x0 x1 x2 x3
   clear hx2
   have hcut:∀A',ah wq2 wq2.heap.size Ident.cells 4 A' (l.drop m):=fun A'=>by rw[HDR.out];exact ah.nil
   have hzz:w.heap.size<wq2.heap.size:=by have:=hq2.size;omega
   go_wp2
   go_region_law (first
   | (refine ak _ rfl (.tmp 34) (.tmp 37) 25 rfl 85 i0 _ Ident.cells 4 48 Tryz.underlying25 hi0 hz0 hz1 hz2 rfl omA bM eH wq2.heap.size (.slice (some ⟨wq2.heap.size,0,none⟩) 0 0) [] rfl (aB.empty ncA leA) _ _ _ (l.take m) rfl smA ((hl2.take m).next av) smA mxA leA ?_;intro v1 w1 hown1 hg1 gz;have hb1:Below wq2.heap.size wq2 w1:=Below.grown av hg1 leA (aV leA);have hsz1:=hb1.size;have kx1:=(bg hb1 w.heap.size hzz).1;have h40:Blk w1 (wq2.heap.size+1) 85 #[.string s,.int .i64 k,.int .i64 n,.string t]:=Blk.grown ndA hg1 (dx omA))
   | (refine ak _ rfl (.tmp 34) (.tmp 37) 25 rfl 85 i0 _ Ident.cells 4 48 Tryz.underlying25 hi0 hz0 hz1 hz2 rfl omA bM eH wq2.heap.size (.slice (some ⟨(wq2.heap.size+1),0,none⟩) 0 0) [] rfl (aB.empty ndA leA) _ _ _ (l.take m) rfl smA ((hl2.take m).next av) smA mxA leA ?_;intro v1 w1 hown1 hg1 gz;have hb1:Below wq2.heap.size wq2 w1:=Below.grown av hg1 leA (aV leA);have hsz1:=hb1.size;have kx1:=(bg hb1 w.heap.size hzz).1;have h40:Blk w1 wq2.heap.size 85 #[.string s,.int .i64 k,.int .i64 n,.string t]:=Blk.grown ncA hg1 (dx omA))
   | (refine ak _ rfl (.tmp 34) (.tmp 37) 25 rfl 85 i0 _ Ident.cells 4 48 Tryz.underlying25 hi0 hz0 hz1 hz2 rfl omA bM eH wq2.heap.size (.slice (some ⟨wq2.heap.size,0,none⟩) 0 0) [] rfl (aB.empty neA leA) _ _ _ (l.take m) rfl smA ((hl2.take m).next av) smA mxA leA ?_;intro v1 w1 hown1 hg1 gz;have hb1:Below wq2.heap.size wq2 w1:=Below.grown av hg1 leA (aV leA);have hsz1:=hb1.size;have kx1:=(bg hb1 w.heap.size hzz).1)
   | (refine ak _ rfl (.tmp 38) (.tmp 40) 25 rfl 85 i0 _ Ident.cells 4 48 Tryz.underlying25 hi0 hz0 hz1 hz2 rfl omA bM eH wq2.heap.size v1 ([]++l.take m) rfl nfA _ _ _ [⟨s,k,n,t⟩] rfl rfl (by first|exact Blk.one (enc:=Ident.cells) (x:=⟨s,k,n,t⟩) (Blk.new' spA) spA|exact Blk.one (enc:=Ident.cells) (x:=⟨s,k,n,t⟩) h40 h40.lt) smA mxA ngA ?_;intro v2 w2 hown2 hg2 oW;have hb2:Below wq2.heap.size wq2 w2:=Below.grown av hg2 ngA hown1.row;have hsz2:=hb2.size)
   | (refine ak _ rfl (.tmp 41) (.tmp 44) 25 rfl 85 i0 _ Ident.cells 4 48 Tryz.underlying25 hi0 hz0 hz1 hz2 rfl omA bM eH wq2.heap.size v2 ([]++l.take m ++ [⟨s,k,n,t⟩]) rfl hown2 _ _ _ (l.drop m) rfl spA ((hcut _).next hb2) smA mxA hb2.size ?_;intro v3 w3 hown3 hg3 u7;have hb3:Below wq2.heap.size wq2 w3:=Below.grown hb2 hg3 hb2.size hown2.row;obtain⟨A3,c3,rfl,hc3,hs3,_⟩:=hown3.slice bM))
   all_goals go_wp2
   all_goals go_ret
   all_goals(rw[HE.out];have Qo:=hbel.size;refine⟨⟨A3,c3,?_,?_⟩,?_⟩)
   all_goals first
    | (with_reducible refine ae hbel hb3 ?_;exact hbel.size)
    | (simpa using hown3.mono (b':=base) omA)
    | exact congrArg (fun n=>Ending.returned (Value.slice A3 n c3)) (by first|(simp;omega)|rfl|omega|(simp;done))
theorem wF{A:Option Addr}{c:Nat}{l:List Ident}(x:Ident){w:World}{base:Nat}(hown:aB w base 85 Ident.cells 4 (.slice A l.length c) l)(hbase:base≤w.heap.size)(hn:l.length≤1000000):
 Calls Tryz.prog 132 #[.slice A l.length c,.agg #[.string x.ns,.int .i64 x.val.kind,.int .i64 x.val.num,.string x.val.text]] w fun e w' =>
  (∃A' c',e=.returned (.slice A' (dG l x).length c')∧aB w' base 85 Ident.cells 4 (.slice A' (dG l x).length c') (dG l x))∧Below w.heap.size w w':=by
 obtain⟨s,k,n,t⟩:=x
 exact zb A c l s k n t w hown hbase hn
theorem tC(A:Option Addr)(c n:Nat)(a:List Ident)(B:Option Addr)(d m:Nat)(b:List Ident)(w:World){base:Nat}(ha:aB w base 85 Ident.cells 4 (.slice A a.length c) a)(hbase:base≤w.heap.size)(hn:a.length=n)(hb:ah w w.heap.size Ident.cells 4 B b)(hm:b.length=m)(hs:n+m≤1000000):
 Calls Tryz.prog 82 #[.slice A n c,.slice B m d] w fun e w'=>(∃A' c',e=.returned (.slice A' (gM a b).length c')∧aB w' base 85 Ident.cells 4 (.slice A' (gM a b).length c') (gM a b))∧Below w.heap.size w w':=by
 subst hn hm
 have HA:=qh ha
 have HB:=qh hb
 clear ha hb
 go_enter Tryz.func82,Tryz.ntmps82
 go_wp2_with fail
 go_loopw [0,5] (fun vo vi wr =>∃(i:Nat) (A2:Option Addr) (c2:Nat),i≤b.length∧vi=.int .i64 i∧vo=.slice A2 (gM a (b.take i)).length c2∧aB wr base 85 Ident.cells 4 (.slice A2 (gM a (b.take i)).length c2) (gM a (b.take i))∧Below w.heap.size w wr) (fun _ vi _=>b.length-(intOf vi).toNat)
 case atStart=>exact⟨0,A,c,Nat.zero_le _,rfl,rfl,HA.out,Below.refl _ _⟩
 case round =>
  obtain⟨i,A2,c2,hi,rfl,rfl,hsl,hbr⟩:=hrel
  have hul:=nT (b.take i) a
  rw[List.length_take]at hul
  have HSL:=qh hsl
  clear hsl
  have hzr:=hbr.size
  by_cases hlt:i<b.length
  ·have hlt':decide (i<b.length)=true:=by simpa using hlt
   obtain⟨ib,io,rfl,hib,hic⟩:=(HB.out.below hbr).get hlt
   have hsn:gM a (b.take (i+1))=dG (gM a (b.take i)) b[i]:=by rw[List.take_add_one,List.getElem?_eq_getElem hlt];exact Cn _ _ _
   have HSN:=qh hsn
   obtain⟨u,hu⟩:∃u,gM a (b.take i)=u:=⟨_,rfl⟩
   obtain⟨x,hx⟩:∃x,b[i]=x:=⟨_,rfl⟩
   have HU:=qh hu
   have HX:=qh hx
   have Xr:=qh HSL.out
   rw[hu]at hul
   have hsl2:=HSL.out
   rw[hu]at hsl2
   rw[hx]at hic
   have HS2:=qh hsl2
   have y0:=hic 0 _ rfl
   have y1:=hic 1 _ rfl
   have y2:=hic 2 _ rfl
   have y3:=hic 3 _ rfl
   simp only[Nat.add_zero]at y0
   have V5:=uh u x
   simp only[hu]
   clear hsn hic hsl2 hu hx
   go_wp2_with fail
   (with_reducible refine(wF (A:=A2) (c:=c2) (l:=u) x (w:=wr) HS2.out omA omA).mono ?_)
   rintro e w3 ⟨⟨A3,c3,rfl,hs3⟩,hb3⟩
   have hx3:=ae hbr hb3 hbr.size
   go_wp2_with fail
   go_roundw
   case rel=>exact⟨i+1,A3,c3,by omega,by go_num,by rw[HSN.out,HU.out,HX.out],by rw[HSN.out,HU.out,HX.out];exact hs3,hx3⟩
   case measure=>exact meA
  ·have hlt':decide (i<b.length)=false:=by simpa using hlt
   have hall:b.take i=b:=List.take_of_length_le omA
   have hsl:=HSL.out
   rw[hall]at hsl
   simp only[hall]
   clear hul HSL
   go_wp2_with fail
   go_ret
   exact⟨⟨A2,c2,rfl,hsl⟩,hbr⟩
end Go.Proofs.YtebippoohpnjkaaGreat
