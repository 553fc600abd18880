/-
  Contracts and plain laws of this seat, part 5.
-/
import Derived.Test.YtjidligipoldeaaGreatT2
set_option linter.unusedVariables false
set_option linter.unusedSimpArgs false
set_option maxRecDepth 100000
set_option maxHeartbeats 16000000
namespace Go.Proofs.YtjidligipoldeaaGreat
open Go.RowKit
theorem cQ{P:Prop}(h:P:=by rw[df,if_neg (by rw[H1.out];decide),if_neg (by rw[H2.out];decide),HTG.out,if_neg (by rw[H3.out];decide),if_neg (by rw[H4.out];decide),if_neg (by rw[H5.out];decide),if_neg (by rw[H6.out];decide)];rw[if_neg (by rw[HB.out];simp)]):P:=h
theorem cS{P:Prop}(h:P:=by rw[df,if_neg (by rw[H1.out];decide),if_neg (by rw[H2.out];decide),HTG.out,if_neg (by rw[H3.out];decide),if_neg (by rw[H4.out];decide),if_neg (by rw[H5.out];decide),if_pos H6.out]):P:=h
theorem cT{P:Prop}(h:P:=by rw[df,if_neg (by rw[H1.out];decide),if_neg (by rw[H2.out];decide),HTG.out,if_neg (by rw[H3.out];decide),if_neg (by rw[H4.out];decide),if_pos H5.out]):P:=h
theorem cU{P:Prop}(h:P:=by rw[df,if_neg (by rw[H1.out];decide),if_neg (by rw[H2.out];decide),HTG.out,if_neg (by rw[H3.out];decide),if_pos H4.out]):P:=h
theorem cV{P:Prop}(h:P:=by have:=hy2.size;omega):P:=h
theorem cW{P:Prop}(h:P:=by rw[HNL.out];exact HF.out.symm):P:=h
theorem cX{P:Prop}(h:P:=by rw[df,if_neg (by rw[H1.out];decide),if_pos H2.out]):P:=h
theorem cY{P:Prop}(h:P:=by simpa using he):P:=h
theorem da{P:Prop}(h:P:=by rw[H2.out];decide):P:=h
theorem dd{P:Prop}(h:P:=by rw[H1.out];decide):P:=h
structure Col where
 name:ByteArray
 ty:Int
 ns:ByteArray
 refs:ByteArray
 A:Option Addr
 cap:Nat
 own:List Int
 joint:Int
 gW:Int
structure Tab where
 name:ByteArray
 A:Option Addr
 cap:Nat
 ae:List Col
 erase:Int
 mG:Int
def Col.cells(x:Col):List Value:= [.string x.name,.int .i64 x.ty,.string x.ns,.string x.refs,.slice x.A x.own.length x.cap,.int .i64 x.joint,.int .i64 x.gW]
def Tab.cells(x:Tab):List Value:= [.string x.name,.slice x.A x.ae.length x.cap,.int .i64 x.erase,.int .i64 x.mG]
def strCells(x:ByteArray):List Value:= [.string x]
theorem fQ:∀x:Col,(Col.cells x).length=7:=fun _=>rfl
theorem jQ:∀x:Tab,(Tab.cells x).length=4:=fun _=>rfl
theorem AL:∀x:ByteArray,(strCells x).length=1:=fun _=>rfl
theorem Pm:∀x:Col,∀u∈Col.cells x,u.oneCell'=true:=by
 intro x u hu
 simp only[Col.cells,List.mem_cons,List.not_mem_nil,or_false]at hu
 rcases hu with rfl|rfl|rfl|rfl|rfl|rfl|rfl<;>rfl
theorem ql:∀x:Tab,∀u∈Tab.cells x,u.oneCell'=true:=by
 intro x u hu
 simp only[Tab.cells,List.mem_cons,List.not_mem_nil,or_false]at hu
 rcases hu with rfl|rfl|rfl|rfl<;>rfl
theorem Gw:∀x:ByteArray,∀u∈strCells x,u.oneCell'=true:=by
 intro x u hu
 simp only[strCells,List.mem_cons,List.not_mem_nil,or_false]at hu
 subst hu
 rfl
theorem Ov:(Tryz.prog.info? 109).map (fun i=>(i.zero,i.size,i.bytes))=some (some (.agg #[.string ⟨#[]⟩,.int .i64 0,.string ⟨#[]⟩,.string ⟨#[]⟩,.slice none 0 0,.int .i64 0,.int .i64 0]),7,96):=by kernel_rfl
theorem Ot:(Tryz.prog.info? 61).map (fun i=>(i.zero,i.size,i.bytes))=some (some (.agg #[.string ⟨#[]⟩,.slice none 0 0,.int .i64 0,.int .i64 0]),4,56):=by kernel_rfl
theorem GJ:(Tryz.prog.info? 9).map (fun i=>(i.zero,i.size,i.bytes))=some (some (.string ⟨#[]⟩),1,16):=by kernel_rfl
theorem Col.dW{w:World}{b o:Nat}{x:Col}(h:∀j u,x.cells[j]?=some u→w.cell? ⟨b,o+j,none⟩=some u):
 w.cell? ⟨b,o,none⟩=some (.string x.name)∧w.cell? ⟨b,o+1,none⟩=some (.int .i64 x.ty)∧w.cell? ⟨b,o+2,none⟩=some (.string x.ns)∧w.cell? ⟨b,o+3,none⟩=some (.string x.refs)∧w.cell? ⟨b,o+4,none⟩=some (.slice x.A x.own.length x.cap)∧w.cell? ⟨b,o+5,none⟩=some (.int .i64 x.joint)∧w.cell? ⟨b,o+6,none⟩=some (.int .i64 x.gW):=
 ⟨h 0 _ rfl,h 1 _ rfl,h 2 _ rfl,h 3 _ rfl,h 4 _ rfl,h 5 _ rfl,h 6 _ rfl⟩
theorem Tab.fV{w:World}{b o:Nat}{x:Tab}(h:∀j u,x.cells[j]?=some u→w.cell? ⟨b,o+j,none⟩=some u):
 w.cell? ⟨b,o,none⟩=some (.string x.name)∧w.cell? ⟨b,o+1,none⟩=some (.slice x.A x.ae.length x.cap)∧w.cell? ⟨b,o+2,none⟩=some (.int .i64 x.erase)∧w.cell? ⟨b,o+3,none⟩=some (.int .i64 x.mG):=
 ⟨h 0 _ rfl,h 1 _ rfl,h 2 _ rfl,h 3 _ rfl⟩
theorem Col.blk{w:World}{g:Nat}{a b c d e f g':Value}(k:Blk w g 109 #[a,b,c,d,e,f,g']):
 w.cell? ⟨g,0,none⟩=some a∧w.cell? ⟨g,1,none⟩=some b∧w.cell? ⟨g,2,none⟩=some c∧w.cell? ⟨g,3,none⟩=some d∧w.cell? ⟨g,4,none⟩=some e∧w.cell? ⟨g,5,none⟩=some f∧w.cell? ⟨g,6,none⟩=some g':=
 ⟨k.cell 0,k.cell 1,k.cell 2,k.cell 3,k.cell 4,k.cell 5,k.cell 6⟩
theorem Tab.blk{w:World}{g:Nat}{a b c d:Value}(k:Blk w g 61 #[a,b,c,d]):
 w.cell? ⟨g,0,none⟩=some a∧w.cell? ⟨g,1,none⟩=some b∧w.cell? ⟨g,2,none⟩=some c∧w.cell? ⟨g,3,none⟩=some d:=⟨k.cell 0,k.cell 1,k.cell 2,k.cell 3⟩
def iM(w:World)(B:Nat)(A:Option Addr)(ae:List Col):Prop:=ag w B Col.cells 7 A ae ∧ ∀x∈ae,ag w B intCells 1 x.A x.own
def aF(w:World)(B:Nat)(A:Option Addr)(ts:List Tab):Prop:=ag w B Tab.cells 4 A ts ∧ ∀t∈ts,iM w B t.A t.ae
theorem iM.below{w w':World}{B:Nat}{A:Option Addr}{ae:List Col}(h:iM w B A ae)(hb:Below B w w'):iM w' B A ae:=⟨h.1.below hb,fun x hx=>(h.2 x hx).below hb⟩
theorem iM.mono{w:World}{B B':Nat}{A:Option Addr}{ae:List Col}(h:iM w B A ae)(hb:B≤B'):iM w B' A ae:=⟨h.1.mono hb,fun x hx=>(h.2 x hx).mono hb⟩
theorem aF.below{w w':World}{B:Nat}{A:Option Addr}{ts:List Tab}(h:aF w B A ts)(hb:Below B w w'):aF w' B A ts:=⟨h.1.below hb,fun x hx=>(h.2 x hx).below hb⟩
theorem aF.mono{w:World}{B B':Nat}{A:Option Addr}{ts:List Tab}(h:aF w B A ts)(hb:B≤B'):aF w B' A ts:=⟨h.1.mono hb,fun x hx=>(h.2 x hx).mono hb⟩
theorem aF.next{w w':World}{A:Option Addr}{ts:List Tab}(h:aF w w.heap.size A ts)(hb:Below w.heap.size w w'):aF w' w'.heap.size A ts:=(h.below hb).mono hb.size
structure Ca (x:Col):Prop where
 name:x.name.size≤1000000
 ns:x.ns.size≤1000000
 refs:x.refs.size≤1000000
 own:x.own.length≤1000000
structure G9 (t:Tab):Prop where
 name:t.name.size≤1000000
 len:t.ae.length≤1000000
 cap:t.ae.length≤t.cap
 ae:∀x∈t.ae,Ca x
structure aM (ts:List Tab):Prop where
 len:ts.length≤1000000
 tabs:∀t∈ts,G9 t
theorem Cat.blk{w:World}{g:Nat}{A:Option Addr}{c n:Nat}(k:Blk w g 33 #[.slice A n c,.slice none 0 0,.slice none 0 0,.slice none 0 0,.slice none 0 0,.slice none 0 0,.slice none 0 0,.slice none 0 0]):
 w.cell? ⟨g,0,none⟩=some (.slice A n c)∧w.cell? ⟨g,1,none⟩=some (.slice none 0 0)∧w.cell? ⟨g,2,none⟩=some (.slice none 0 0)∧w.cell? ⟨g,3,none⟩=some (.slice none 0 0)∧w.cell? ⟨g,4,none⟩=some (.slice none 0 0)∧w.cell? ⟨g,5,none⟩=some (.slice none 0 0)∧w.cell? ⟨g,6,none⟩=some (.slice none 0 0)∧w.cell? ⟨g,7,none⟩=some (.slice none 0 0):=
 ⟨k.cell 0,k.cell 1,k.cell 2,k.cell 3,k.cell 4,k.cell 5,k.cell 6,k.cell 7⟩
theorem wh(A:Option Addr)(c n:Nat)(ts:List Tab)(w:World)(ht:ag w w.heap.size Tab.cells 4 A ts)(hn:ts.length=n)(hl:n≤1000000):
 Calls Tryz.prog 136 #[.agg #[.slice A n c,.slice none 0 0,.slice none 0 0,.slice none 0 0,.slice none 0 0,.slice none 0 0,.slice none 0 0,.slice none 0 0]] w fun e w' =>
  (∃A' c',e=.returned (.slice A' n c')∧ag w' w'.heap.size strCells 1 A' (ts.map Tab.name))∧Below w.heap.size w w':=by
 subst hn
 obtain⟨i0,hi0,hz0,hz1,hz2⟩:=info_parts GJ
 have HT:=qh ht
 clear ht
 go_enter Tryz.func136,Tryz.ntmps136
 go_upto_region 1 with (fail)
 refine ah (P:=fun u=>Code.wp _ _ _ _ u) (R:=fun u=>Blk u w.heap.size 33 #[.slice A ts.length c,.slice none 0 0,.slice none 0 0,.slice none 0 0,.slice none 0 0,.slice none 0 0,.slice none 0 0,.slice none 0 0]∧Below w.heap.size w u) ⟨?_,?_⟩ ?_
 ·exact Blk.new _ _ _
 ·exact ai
 rintro W ⟨hB,hbW⟩
 have hzW:=hB.lt
 have HB:=qh hB
 clear hB
 go_wp2_with fail
 go_loopw [3,4] (fun vo vi wr =>∃m:Nat,m≤ts.length∧vi=.int .i64 m∧aj wr W.heap.size 9 strCells 1 vo ((ts.take m).map Tab.name)∧Below W.heap.size W wr) (fun _ vi _=>ts.length-(intOf vi).toNat)
 case atStart=>exact⟨0,Nat.zero_le _,rfl,aj.nil,Below.refl _ _⟩
 case round =>
  obtain⟨m,hm,rfl,hown,hbr⟩:=hrel
  have hwz:=hbr.size
  have hxr:=aa hbW hbr hbW.size
  obtain⟨q0,q1,q2,q3,q4,q5,q6,q7⟩:=Cat.blk (HB.out.below hbr hzW)
  by_cases hlt:m<ts.length
  ·obtain⟨b5,o5,rfl,hb5,hc5⟩:=(HT.out.below hxr).get hlt
   obtain⟨h0,h1,h2,h3⟩:=Tab.fV hc5
   have HOWN:=qh hown
   have hrow:=hown.row
   have HML:Hid (((ts.take m).map Tab.name).length=m):=qh smA
   clear hc5 hown
   go_upto_region 5 with (fail)
   have hO2:=qh (HOWN.out.alloc (.cells (strCells ts[m].name).toArray 9))
   go_wp2_with (at_builtin;go_must ((refine aO _ rfl (.tmp 19) (.tmp 26) 156 rfl 9 i0 _ strCells 1 16 Tryz.underlying156 hi0 hz0 hz1 hz2 rfl omA AL Gw W.heap.size u3 ((ts.take m).map Tab.name) rfl hO2.out _ _ _ [ts[m].name] rfl rfl (Blk.one (enc:=strCells) (x:=ts[m].name) (Blk.new' rfl) spA) (by rw[HML.out];simp;omega) (by rw[HML.out];simp[maxLen];omega) smA ?_);intro v' w3 hown' hg' hat';have HOWN':=qh hown';clear hown';have hbel:Below W.heap.size W w3:=Below.grown (hbr.alloc omA _) hg' smA hrow))
   go_roundw
   case rel=>exact⟨m+1,by omega,by go_num,by rw[List.take_succ_eq_append_getElem hlt,List.map_append];exact HOWN'.out,hbel⟩
   case measure=>exact meA
  ·have hlt':decide (m<ts.length)=false:=by simpa using hlt
   obtain rfl:m=ts.length:=by omega
   rw[List.take_length]at hown
   obtain⟨A9,c9,rfl,hc9,hs9,hA9⟩:=hown.slice AL
   rw[List.length_map]
   obtain⟨wo,rfl⟩:∃wo:World,wo=wr:=⟨_,rfl⟩
   go_wp2_with fail
   go_loopw [3,5] (fun vl vi wi=>vl=.slice A9 ts.length c9∧vi=.int .i64 0∧wo=wi) (fun _ _ _ =>0)
   case atStart=>exact⟨rfl,rfl,rfl⟩
   obtain⟨rfl,rfl,rfl⟩:=hrel
   go_wp2_with fail
   go_loopw [3,6] (fun vl vi wi=>vl=.slice A9 ts.length c9∧vi=.int .i64 0∧wo=wi) (fun _ _ _ =>0)
   case atStart=>exact⟨rfl,rfl,rfl⟩
   obtain⟨rfl,rfl,rfl⟩:=hrel
   go_wp2_with fail
   go_loopw [3,7] (fun vl vi wi=>vl=.slice A9 ts.length c9∧vi=.int .i64 0∧wo=wi) (fun _ _ _ =>0)
   case atStart=>exact⟨rfl,rfl,rfl⟩
   obtain⟨rfl,rfl,rfl⟩:=hrel
   go_wp2_with fail
   go_loopw [3,8] (fun vl vi wi=>vl=.slice A9 ts.length c9∧vi=.int .i64 0∧wo=wi) (fun _ _ _ =>0)
   case atStart=>exact⟨rfl,rfl,rfl⟩
   obtain⟨rfl,rfl,rfl⟩:=hrel
   go_wp2_with fail
   go_loopw [3,9] (fun vl vi wi=>vl=.slice A9 ts.length c9∧vi=.int .i64 0∧wo=wi) (fun _ _ _ =>0)
   case atStart=>exact⟨rfl,rfl,rfl⟩
   obtain⟨rfl,rfl,rfl⟩:=hrel
   go_wp2_with fail
   go_loopw [3,10] (fun vl vi wi=>vl=.slice A9 ts.length c9∧vi=.int .i64 0∧wo=wi) (fun _ _ _ =>0)
   case atStart=>exact⟨rfl,rfl,rfl⟩
   obtain⟨rfl,rfl,rfl⟩:=hrel
   go_wp2_with fail
   go_loopw [3,11] (fun vl vi wi=>vl=.slice A9 ts.length c9∧vi=.int .i64 0∧wo=wi) (fun _ _ _ =>0)
   case atStart=>exact⟨rfl,rfl,rfl⟩
   obtain⟨rfl,rfl,rfl⟩:=hrel
   go_wp2_with fail
   go_ret
   exact⟨⟨A9,c9,rfl,hs9⟩,hxr⟩
theorem KQ{a b:ByteArray}(h:a=b):(a.toList==b.toList)=true:=by rw[h];simp
theorem Hr{a b:ByteArray}(h:a≠b):(a.toList==b.toList)=false:=by rw[beq_eq_false_iff_ne];exact fun e=>h (sQ e)
def fP(s:ByteArray):List ByteArray→Nat→Nat→Int
 | [],_,_ => -1
 | _::_,0,_ => -1
 | x::l,n+1,k=>if x=s then (k:Int) else fP s l n (k+1)
def kK(l:List ByteArray)(s:ByteArray)(n:Int):Int:=fP s l n.toNat 0
theorem DK{s:ByteArray}:∀ {l:List ByteArray}{n k m:Nat}(h:m<l.length),m<n→l[m]=s→(∀i (h:i<l.length),i<m→l[i]≠s)→fP s l n k=((k+m:Nat):Int)
 | x::l,n + 1,k,0,_,_,he,_=>by
   simp only[fP]
   rw[if_pos cY]
   rfl
 | x::l,n + 1,k,m + 1,h,hn,he,hno=>by
   have h0:x≠s:=hno 0 spA omA
   simp only[fP]
   rw[if_neg h0,DK (m:=m) (by simpa using h) omA cY (fun i hi him=>hno (i+1) (by simpa using hi) omA)]
   omega
theorem yN{s:ByteArray}:∀ {l:List ByteArray}{n k:Nat},(∀i (h:i<l.length),i<n→l[i]≠s)→fP s l n k=-1
 | [],_,_,_=>by simp[fP]
 | _::_,0,_,_=>by simp[fP]
 | x::l,n + 1,k,h=>by
   have h0:x≠s:=h 0 spA omA
   simp only[fP]
   rw[if_neg h0,yN (fun i hi hin=>h (i+1) (by simpa using hi) omA)]
theorem yL{l:List ByteArray}{s:ByteArray}{n:Int}{m:Nat}(h:m<l.length)(hn:(m:Int)<n)(he:l[m]=s)(hno:∀i (h:i<l.length),i<m→l[i]≠s):kK l s n=(m:Int):=by
 rw[kK,DK h omA he hno,Nat.zero_add]
theorem lq{l:List ByteArray}{s:ByteArray}{n:Int}(h:∀i (h:i<l.length),(i:Int)<n→l[i]≠s):kK l s n=-1:=yN fun i hi hin=>h i hi omA
theorem qF{l:List ByteArray}{s:ByteArray}{n:Int}(h:0≤kK l s n):∃m:Nat,∃hm:m<l.length,kK l s n=(m:Int)∧(m:Int)<n∧l[m]=s:=by
 refine Classical.byContradiction fun hc =>?_
 have hno:∀i (h:i<l.length),(i:Int)<n→l[i]≠s:=by
  intro i
  induction i using Nat.strongRecOn with
  | ind i ih =>
    intro hi hin he
    exact hc ⟨i,hi,yL hi hin he (fun j hj hji=>ih j hji hj omA),hin,he⟩
 rw[lq hno]at h
 omega
def aB(n a b:Int):Bool:=decide (a≤n)&&decide (n≤b)
theorem aX(x a b:Int)(w:World){r:Bool}(hr:aB x a b=r):Calls Tryz.prog 172 #[.int .i64 x,.int .i64 a,.int .i64 b] w fun e w'=>e=.returned (.bool r)∧w=w':=by
 subst hr
 cases h1:decide (a≤x)
 ·go_enter Tryz.func172,Tryz.ntmps172
  go_wp2_with fail
  go_ret
  exact⟨ax (by simp[aB,h1]),rfl⟩
 ·cases h2:decide (x≤b)
  ·go_enter Tryz.func172,Tryz.ntmps172
   go_wp2_with fail
   go_ret
   exact⟨ax (by simp[aB,h1,h2]),rfl⟩
  ·go_enter Tryz.func172,Tryz.ntmps172
   go_wp2_with fail
   go_ret
   exact⟨ax (by simp[aB,h1,h2]),rfl⟩
theorem zY(A:Option Addr)(c n:Nat)(l:List Int)(x:Int)(w:World)(hl:ag w w.heap.size intCells 1 A l)(hln:l.length=n)(hn:n≤1000000){r:Bool}(hr:decide (x∈l)=r):
 Calls Tryz.prog 217 #[.slice A n c,.int .i64 x] w fun e w'=>e=.returned (.bool r)∧w=w':=by
 subst hln hr
 have HL:=qh hl
 clear hl
 go_enter Tryz.func217,Tryz.ntmps217
 go_wp2_with fail
 go_loopw [5] (fun vi wr =>∃m:Nat,m≤l.length∧vi=.int .i64 m∧w=wr∧(∀i (h:i<l.length),i<m→l[i]≠x)) (fun vi _=>l.length-(intOf vi).toNat)
 case atStart=>exact⟨0,Nat.zero_le _,rfl,rfl,fun i _ h=>by omega⟩
 case round =>
  obtain⟨m,hm,rfl,rfl,hok⟩:=hrel
  have HOK:=qh hok
  clear hok
  by_cases hlt:m<l.length
  ·obtain⟨b5,o5,rfl,hb5,hc5⟩:=HL.out.get hlt
   have x0:=hc5 0 _ rfl
   simp only[Nat.mul_one,Nat.add_zero]at x0
   clear hc5
   cases he:(l[m]==x)
   ·have HE:Hid (l[m]≠x):=qh cY
    go_wp2_with fail
    clear he
    go_roundw
    case rel=>exact⟨m+1,by omega,by go_num,trivial,fun i h hi=>by
     rcases Nat.lt_or_ge i m with h1|h1
     ·exact HOK.out i h h1
     ·obtain rfl:i=m:=by omega
      exact HE.out⟩
    case measure=>exact meA
   ·have HE:Hid (x∈l):=qh (by have h:l[m]=x:=cY;rw[←h];exact lgm hlt)
    go_wp2_with fail
    go_ret
    exact⟨ax (by symm;rw[decide_eq_true_iff];exact HE.out),rfl⟩
  ·have hlt':decide (m<l.length)=false:=by simpa using hlt
   go_wp2_with fail
   go_ret
   refine⟨ax ?_,rfl⟩
   symm
   rw[decide_eq_false_iff_not]
   intro h
   obtain⟨i,hi,rfl⟩:=List.getElem_of_mem h
   exact HOK.out i hi omA rfl
theorem si(A:Option Addr)(c n:Nat)(ts:List Tab)(s:ByteArray)(k:Int)(w:World)(ht:ag w w.heap.size Tab.cells 4 A ts)(hn:ts.length=n)(hl:n≤1000000){r:Int}(hr:kK (ts.map Tab.name) s k=r):
 Calls Tryz.prog 174 #[.agg #[.slice A n c,.slice none 0 0,.slice none 0 0,.slice none 0 0,.slice none 0 0,.slice none 0 0,.slice none 0 0,.slice none 0 0],.string s,.int .i64 k] w fun e w'=>e=.returned (.int .i64 r)∧Below w.heap.size w w':=by
 subst hn hr
 have HT:=qh ht
 clear ht
 go_enter Tryz.func174,Tryz.ntmps174
 go_wp2_with fail
 (with_reducible refine(wh A c ts.length ts _ (HT.out.next ai) rfl hl).mono ?_)
 rintro e W ⟨⟨A1,c1,rfl,hs1⟩,hb1⟩
 have hxW:Below w.heap.size w W:=aa ai hb1 leA
 have hB:Blk W w.heap.size 33 #[.slice A ts.length c,.slice none 0 0,.slice none 0 0,.slice none 0 0,.slice none 0 0,.slice none 0 0,.slice none 0 0,.slice none 0 0]:=(Blk.new _ _ _).below hb1 spA
 obtain⟨q0,q1,q2,q3,q4,q5,q6,q7⟩:=Cat.blk hB
 obtain⟨nl,hnl⟩:∃nl,ts.map Tab.name=nl:=⟨_,rfl⟩
 have Ms:nl.length=ts.length:=by rw[←hnl,List.length_map]
 rw[hnl]at hs1
 have HNL:=qh hnl
 have HN:=qh Ms
 have HS:=qh hs1
 clear hB hs1 hnl Ms
 go_wp2_with fail
 go_loopw [8] (fun vi wr =>∃m:Nat,m≤ts.length∧vi=.int .i64 m∧W=wr∧(∀i (h:i<nl.length),i<m→nl[i]≠s)) (fun vi _=>ts.length-(intOf vi).toNat)
 case atStart=>exact⟨0,Nat.zero_le _,rfl,rfl,fun i _ h=>by omega⟩
 case round =>
  obtain⟨m,hm,rfl,rfl,hok⟩:=hrel
  have HOK:=qh hok
  clear hok
  by_cases hmk:(m:Int)<k
  ·have hmk':decide ((m:Int)<k)=true:=by simpa using hmk
   by_cases hlt:m<ts.length
   ·have Bv:m<nl.length:=by have:=HN.out;omega
    obtain⟨b5,o5,rfl,hb5,hc5⟩:=HS.out.get Bv
    have x0:=hc5 0 _ rfl
    simp only[Nat.mul_one,Nat.add_zero]at x0
    clear hc5
    by_cases hs:nl[m]=s
    ·have hs':=KQ hs
     have HF:=qh (yL (l:=nl) (s:=s) (n:=k) Bv hmk hs HOK.out)
     clear hs
     go_wp2_with fail
     go_ret
     exact⟨aS cW,hxW⟩
    ·have hs':=Hr hs
     have HS1:=qh hs
     clear hs
     go_wp2_with fail
     clear hs'
     go_roundw
     case rel=>exact⟨m+1,by omega,by go_num,trivial,fun i h hi=>by
      rcases Nat.lt_or_ge i m with h1|h1
      ·exact HOK.out i h h1
      ·obtain rfl:i=m:=by omega
       exact HS1.out⟩
     case measure=>exact meA
   ·have hlt':decide (m<ts.length)=false:=by simpa using hlt
    have HF:=qh (lq (l:=nl) (s:=s) (n:=k) (fun i h _=>HOK.out i h (by have:=HN.out;omega)))
    go_wp2_with fail
    go_ret
    exact⟨aS cW,hxW⟩
  ·have hmk':decide ((m:Int)<k)=false:=by simpa using hmk
   have HF:=qh (lq (l:=nl) (s:=s) (n:=k) (fun i h hik=>HOK.out i h omA))
   go_wp2_with fail
   go_ret
   exact⟨aS cW,hxW⟩
def bY(ts:List Tab)(s:ByteArray)(n:Int):Int:=kK (ts.map Tab.name) s (min n ts.length)
theorem vZ(A:Option Addr)(c n:Nat)(ts:List Tab)(s:ByteArray)(k:Int)(w:World)(ht:ag w w.heap.size Tab.cells 4 A ts)(hn:ts.length=n)(hl:n≤1000000){r:Int}(hr:bY ts s k=r):
 Calls Tryz.prog 185 #[.agg #[.slice A n c,.slice none 0 0,.slice none 0 0,.slice none 0 0,.slice none 0 0,.slice none 0 0,.slice none 0 0,.slice none 0 0],.string s,.int .i64 k] w fun e w'=>e=.returned (.int .i64 r)∧Below w.heap.size w w':=by
 subst hn hr
 have HT:=qh ht
 clear ht
 go_enter Tryz.func185,Tryz.ntmps185
 go_wp2_with fail
 (with_reducible refine(si A c ts.length ts s _ _ (HT.out.next ai) rfl hl rfl).mono ?_)
 rintro e W ⟨rfl,hb1⟩
 go_wp2_with fail
 go_ret
 exact⟨rfl,aa ai hb1 leA⟩
theorem wP{a:ByteArray}(h:a=⟨#[]⟩):a.toList.isEmpty=true:=by rw[h];simp
theorem oD{a:ByteArray}(h:a≠⟨#[]⟩):a.toList.isEmpty=false:=by
 rw[Bool.eq_false_iff]
 intro e
 rw[List.isEmpty_iff]at e
 exact h (sQ (by rw[e];simp))
noncomputable def pb(p:Prop):Bool:= @decide p (Classical.propDecidable p)
theorem bV{p:Prop}(h:p):pb p=true:=by unfold pb;exact @decide_eq_true p (Classical.propDecidable p) h
theorem bg{p:Prop}(h:¬ p):pb p=false:=by unfold pb;exact @decide_eq_false p (Classical.propDecidable p) h
theorem nY{p:Prop}:pb p=true↔p:=by
 by_cases hp:p
 ·rw[bV hp]
  exact⟨fun _=>hp,fun _=>rfl⟩
 ·rw[bg hp]
  exact⟨fun h=>by(cases h),fun h=>absurd h hp⟩
def NN(l:List Int)(m:Nat)(j:Int):Prop:= 0<m→∀h1:m-1<l.length,l[m-1]<j
structure OwnAt (ae:List Col) (l:List Int) (i:Nat) (h:i<l.length):Prop where
 lo:0≤l[i]
 hi:l[i].toNat<ae.length
 asc:∀h0:0<i,l[i-1]<l[i]
 some_:¬ (ae[l[i].toNat].ns=⟨#[]⟩∧ae[l[i].toNat].refs=⟨#[]⟩)
def gB(ae:List Col)(l:List Int):Prop:= ∀i (h:i<l.length),OwnAt ae l i h
theorem AV(nm:ByteArray)(TA:Option Addr)(tc:Nat)(ae:List Col)(er rt:Int)(cn:Nat)(A:Option Addr)(c n:Nat)(l:List Int)(w:World)(ht:ag w w.heap.size Col.cells 7 TA ae)(hcn:ae.length=cn)(hl:ag w w.heap.size intCells 1 A l)(hln:l.length=n)(hn:n≤1000000)(hc:cn≤1000000){r:Bool}(hr:pb (gB ae l)=r):
 Calls Tryz.prog 216 #[.agg #[.string nm,.slice TA cn tc,.int .i64 er,.int .i64 rt],.slice A n c] w fun e w'=>e=.returned (.bool r)∧Below w.heap.size w w':=by
 subst hln hcn hr
 have HT:=qh ht
 have HL:=qh hl
 clear ht hl
 go_enter Tryz.func216,Tryz.ntmps216
 go_upto_region 1 with (fail)
 refine ah (P:=fun u=>Code.wp _ _ _ _ u) (R:=fun u=>Blk u w.heap.size 61 #[.string nm,.slice TA ae.length tc,.int .i64 er,.int .i64 rt]∧Below w.heap.size w u) ⟨?_,?_⟩ ?_
 ·exact Blk.new _ _ _
 ·exact ai
 rintro W ⟨hB,hbW⟩
 have hzW:=hB.lt
 have HB:=qh hB
 clear hB
 go_wp2_with fail
 go_loopw [5] (fun vi wr =>∃m:Nat,m≤l.length∧vi=.int .i64 m∧Below W.heap.size W wr∧(∀i (h:i<l.length),i<m→OwnAt ae l i h)) (fun vi _=>l.length-(intOf vi).toNat)
 case atStart=>exact⟨0,Nat.zero_le _,rfl,Below.refl _ _,fun i _ h=>by omega⟩
 case round =>
  obtain⟨m,hm,rfl,hbr,hok⟩:=hrel
  have HOK:=qh hok
  have hwz:=hbr.size
  have hxr:=aa hbW hbr hbW.size
  have hzr:=hxr.size
  obtain⟨q0,q1,q2,q3⟩:=Tab.blk (HB.out.below hbr hzW)
  clear hok
  by_cases hlt:m<l.length
  ·obtain⟨b5,o5,rfl,hb5,hc5⟩:=(HL.out.below hxr).get hlt
   have x0:=hc5 0 _ rfl
   simp only[Nat.mul_one,Nat.add_zero]at x0
   have hk0:=az (w:=wr) b5 omA
   have hk1:=az (w:=wr) w.heap.size omA
   clear hc5
   by_cases hw:0≤l[m]∧l[m].toNat<ae.length
   ·have hwi:aB l[m] 0 ((ae.length:Int)-1)=true:=by
     rw[aB,Bool.and_eq_true,decide_eq_true_iff,decide_eq_true_iff]
     omega
    obtain⟨j,hj⟩:∃j:Nat,l[m]=(j:Int):=⟨l[m].toNat,by omega⟩
    have hjl:j<ae.length:=by omega
    have hjn:l[m].toNat=j:=by omega
    rw[hj]at hwi x0
    obtain⟨b6,o6,rfl,hb6,hc6⟩:=(HT.out.below hxr).get hjl
    obtain⟨c0,c1,c2,c3,c4,c5,c6⟩:=Col.dW hc6
    have hk2:=az (w:=wr) b6 omA
    have HWI:=qh hwi
    have hown:∀(ha:NN l m j) (hsn:¬ (ae[j].ns=⟨#[]⟩∧ae[j].refs=⟨#[]⟩)),OwnAt ae l m hlt:=fun ha hsn=>⟨by omega,by omega,fun h0=>by rw[hj];exact ha h0 _,by simp only[hjn];exact hsn⟩
    have Qd:OwnAt ae l m hlt→¬ (ae[j].ns=⟨#[]⟩∧ae[j].refs=⟨#[]⟩) ∧ ∀h0:0<m,l[m-1]<(j:Int):=fun h=>⟨by have:=h.some_;simp only[hjn]at this;exact this,fun h0=>by have:=h.asc h0;rw[hj]at this;exact this⟩
    have HOWN:=qh hown
    have NF:=qh Qd
    clear hc6 hwi hj hjn hw hown Qd
    rcases Nat.eq_zero_or_pos m with h0|h0
    ·have hm0:decide (0<m)=false:=by simp[h0]
     have sS:Hid (NN l m j):=qh fun h _=>by omega
     clear h0
     by_cases hns:ae[j].ns=⟨#[]⟩
     ·have zF:=wP hns
      by_cases hrf:ae[j].refs=⟨#[]⟩
      ·have OG:=wP hrf
       have HNO:Hid (¬ OwnAt ae l m hlt):=qh fun h=>(NF.out h).1 ⟨hns,hrf⟩
       clear hns hrf
       go_upto_region 4 with (fail)
       refine af krA krA ?_;(repeat(go_big_quiet_step ((go_at_call 172;with_reducible exact cK (aX _ _ _ _ HWI.out)))));refine wpQuiet_nil ?_;intro wq hq
       clear hk0 hk1 hk2
       go_wp2_with fail
       go_ret
       exact⟨ax (bg fun h=>HNO.out (h m hlt)).symm,aa hxr hq hxr.size⟩
      ·have OG:=oD hrf
       have lH:Hid (OwnAt ae l m hlt):=qh (HOWN.out sS.out fun h=>hrf h.2)
       clear hns hrf
       go_upto_region 4 with (fail)
       refine af krA krA ?_;(repeat(go_big_quiet_step ((go_at_call 172;with_reducible exact cK (aX _ _ _ _ HWI.out)))));refine wpQuiet_nil ?_;intro wq hq
       clear hk0 hk1 hk2
       go_wp2_with fail
       go_roundw
       case rel=>exact⟨m+1,by omega,by go_num,aa hbr hq hwz,fun i h hi=>by
        rcases Nat.lt_or_ge i m with h1|h1
        ·exact HOK.out i h h1
        ·obtain rfl:i=m:=by omega
         exact lH.out⟩
       case measure=>exact meA
     ·have zF:=oD hns
      have lH:Hid (OwnAt ae l m hlt):=qh (HOWN.out sS.out fun h=>hns h.1)
      clear hns
      go_upto_region 4 with (fail)
      refine af krA krA ?_;(repeat(go_big_quiet_step ((go_at_call 172;with_reducible exact cK (aX _ _ _ _ HWI.out)))));refine wpQuiet_nil ?_;intro wq hq
      clear hk0 hk1 hk2
      go_wp2_with fail
      go_roundw
      case rel=>exact⟨m+1,by omega,by go_num,aa hbr hq hwz,fun i h hi=>by
       rcases Nat.lt_or_ge i m with h1|h1
       ·exact HOK.out i h h1
       ·obtain rfl:i=m:=by omega
        exact lH.out⟩
      case measure=>exact meA
    ·obtain⟨q,rfl⟩:∃q,m=q+1:=⟨m-1,by omega⟩
     have hql:q<l.length:=by omega
     obtain⟨b8,o8,hbe,hb8,hc8⟩:=(HL.out.below hxr).get hql
     injection hbe with hbe
     injection hbe with vF vE
     subst vF vE
     have y0:=hc8 0 _ rfl
     simp only[Nat.mul_one,Nat.add_zero]at y0
     clear hc8 h0
     by_cases hle:(j:Int)≤l[q]
     ·have HNO:Hid (¬ OwnAt ae l (q+1) hlt):=qh fun h=>by have:=(NF.out h).2 omA;simp only[Nat.add_sub_cancel]at this;omega
      have Xl:decide ((j:Int)≤l[q])=true:=by simpa using hle
      clear hle
      go_upto_region 4 with (fail)
      refine af krA krA ?_;(repeat(go_big_quiet_step ((go_at_call 172;with_reducible exact cK (aX _ _ _ _ HWI.out)))));refine wpQuiet_nil ?_;intro wq hq
      clear hk0 hk1 hk2
      go_wp2_with fail
      go_ret
      exact⟨ax (bg fun h=>HNO.out (h (q+1) hlt)).symm,aa hxr hq hxr.size⟩
     ·have Xl:decide ((j:Int)≤l[q])=false:=by simpa using hle
      have sS:Hid (NN l (q+1) j):=qh fun h _=>by simp only[Nat.add_sub_cancel];omega
      clear hle
      by_cases hns:ae[j].ns=⟨#[]⟩
      ·have zF:=wP hns
       by_cases hrf:ae[j].refs=⟨#[]⟩
       ·have OG:=wP hrf
        have HNO:Hid (¬ OwnAt ae l (q+1) hlt):=qh fun h=>(NF.out h).1 ⟨hns,hrf⟩
        clear hns hrf
        go_upto_region 4 with (fail)
        refine af krA krA ?_;(repeat(go_big_quiet_step ((go_at_call 172;with_reducible exact cK (aX _ _ _ _ HWI.out)))));refine wpQuiet_nil ?_;intro wq hq
        clear hk0 hk1 hk2
        go_wp2_with fail
        go_ret
        exact⟨ax (bg fun h=>HNO.out (h (q+1) hlt)).symm,aa hxr hq hxr.size⟩
       ·have OG:=oD hrf
        have lH:Hid (OwnAt ae l (q+1) hlt):=qh (HOWN.out sS.out fun h=>hrf h.2)
        clear hns hrf
        go_upto_region 4 with (fail)
        refine af krA krA ?_;(repeat(go_big_quiet_step ((go_at_call 172;with_reducible exact cK (aX _ _ _ _ HWI.out)))));refine wpQuiet_nil ?_;intro wq hq
        clear hk0 hk1 hk2
        go_wp2_with fail
        go_roundw
        case rel=>exact⟨q+1+1,by omega,by go_num,aa hbr hq hwz,fun i h hi=>by
         rcases Nat.lt_or_ge i (q+1) with h1|h1
         ·exact HOK.out i h h1
         ·obtain rfl:i=q+1:=by omega
          exact lH.out⟩
        case measure=>exact meA
      ·have zF:=oD hns
       have lH:Hid (OwnAt ae l (q+1) hlt):=qh (HOWN.out sS.out fun h=>hns h.1)
       clear hns
       go_upto_region 4 with (fail)
       refine af krA krA ?_;(repeat(go_big_quiet_step ((go_at_call 172;with_reducible exact cK (aX _ _ _ _ HWI.out)))));refine wpQuiet_nil ?_;intro wq hq
       clear hk0 hk1 hk2
       go_wp2_with fail
       go_roundw
       case rel=>exact⟨q+1+1,by omega,by go_num,aa hbr hq hwz,fun i h hi=>by
        rcases Nat.lt_or_ge i (q+1) with h1|h1
        ·exact HOK.out i h h1
        ·obtain rfl:i=q+1:=by omega
         exact lH.out⟩
       case measure=>exact meA
   ·have hwi:aB l[m] 0 ((ae.length:Int)-1)=false:=by
     rw[Bool.eq_false_iff,aB,ne_eq,Bool.and_eq_true,decide_eq_true_iff,decide_eq_true_iff]
     omega
    have HWI:=qh hwi
    have HNO:Hid (¬ OwnAt ae l m hlt):=qh fun h=>hw ⟨h.lo,h.hi⟩
    have hk2:=hk1
    clear hwi hw
    ·go_upto_region 4 with (fail)
     refine af krA krA ?_;(repeat(go_big_quiet_step ((go_at_call 172;with_reducible exact cK (aX _ _ _ _ HWI.out)))));refine wpQuiet_nil ?_;intro wq hq
     clear hk0 hk1 hk2
     go_wp2_with fail
     go_ret
     exact⟨ax (bg fun h=>HNO.out (h m hlt)).symm,aa hxr hq hxr.size⟩
  ·have hlt':decide (m<l.length)=false:=by simpa using hlt
   go_wp2_with fail
   go_ret
   exact⟨ax (bV fun i hi=>HOK.out i hi omA).symm,hxr⟩
theorem Fe{P:Prop}(h:P:=by
 cases ow
 ·exact sG
 ·cases jw
  ·exact sG
  ·cases oz
   ·exact sG
   ·cases j0
    ·cases d0
     ·exact sG
     ·exact sG
    ·exact sG):P:=h
theorem mJ{P:Prop}(h:P:=by
 go_wp2_with (go_at_call 172;(with_reducible refine(aX x.gW 0 1048576 _ HWD.out).mono ?_);rintro e w1 ⟨rfl,rfl⟩)
 first|exact⟨by rw[HB.out];first|rfl|simp,rfl⟩|(rw[HB.out];first|rfl|simp)):P:=h
theorem sG{P:Prop}(h:P:=by
 go_wp2_with (first|(go_at_call 172;(with_reducible refine(aX x.joint 0 1 _ HJW.out).mono ?_);rintro e w1 ⟨rfl,rfl⟩)|(go_at_call 216;(with_reducible refine(AV nm TA tc ae er rt ae.length x.A x.cap x.own.length x.own _ (HC.out.next ai) rfl (HIO.out.next ai) rfl z4 hcl HOW.out).mono ?_);rintro e w1 ⟨rfl,hb1⟩;obtain⟨kc,_,_⟩:=bN hb1 (g+1+1) mz3))
 first
  | exact⟨by rw[HB.out];first|rfl|simp,hb1⟩
  | exact⟨by rw[HB.out];first|rfl|simp,Below.refl _ _⟩):P:=h
theorem bF(s:ByteArray)(w:World)(hs:s.size≤1000000){r:Bool}(hr:eY s=r):
 Calls Tryz.prog 137 #[.string s] w fun e w'=>e=.returned (.bool r)∧w=w':=by
 subst hr
 exact AZ s w hs
def BG(ts:List Tab)(k:Int):Int:=match ts[k.toNat]? with
 | some t=>match t.ae with
   | c::_=>c.ty
   | [] =>0
 | none =>0
def wV(ts:List Tab)(k:Int):List Int:=match ts[k.toNat]? with
 | some t=>match t.ae with
   | c::_=>c.own
   | [] =>[]
 | none =>[]
theorem Aj{ts:List Tab}{k:Nat}(h:k<ts.length)(hc:0<ts[k].ae.length):BG ts (k:Int)=ts[k].ae[0].ty:=by
 unfold BG
 rw[Int.toNat_natCast,List.getElem?_eq_getElem h]
 match hh:ts[k].ae,hc with
 | c::l,_=>simp only[hh];rfl
theorem yE{ts:List Tab}{k:Nat}(h:k<ts.length)(hc:0<ts[k].ae.length):wV ts (k:Int)=ts[k].ae[0].own:=by
 unfold wV
 rw[Int.toNat_natCast,List.getElem?_eq_getElem h]
 match hh:ts[k].ae,hc with
 | c::l,_=>simp only[hh];rfl
def cE1(x:Col):Bool:= !eY x.name||(!x.ns.toList.isEmpty && !eY x.ns)
noncomputable def cE2(ae:List Col)(i:Nat)(x:Col):Bool:=pb (∃k,∃h:k<ae.length,k<i∧ae[k].name=x.name)
def cE3(x:Col)(tg:Int):Bool:= !x.refs.toList.isEmpty&&decide (tg<0)
def cE4(ts:List Tab)(x:Col)(tg:Int):Bool:=(x.ty != 1&&x.ty != 2)||((decide (0≤tg) && !x.refs.toList.isEmpty)&&(BG ts tg != x.ty))
noncomputable def cE5(ae:List Col)(x:Col):Bool:=(((!x.ns.toList.isEmpty && !x.refs.toList.isEmpty) || !pb (gB ae x.own)) || !aB x.joint 0 1)||(((x.own.length:Int) == 0)&&(x.joint != 0||x.gW != 0))
def cE6(er rt:Int)(i:Nat)(x:Col):Bool:=(!aB x.gW 0 1048576||(rt != 0&&decide (rt<x.gW)))||((((i:Int) == 0)&&decide (0<x.own.length))&&er != 1)
def cE7(ts:List Tab)(i:Nat)(x:Col)(tg:Int):Bool:=(!x.refs.toList.isEmpty&&decide (0<(wV ts tg).length)) && !decide ((i:Int)∈x.own)
noncomputable def df(ts:List Tab)(ae:List Col)(er rt:Int)(n i:Nat)(x:Col):Int:=
 if cE1 x=true then 3 else if cE2 ae i x=true then 4 else if cE3 x (bY ts x.refs n)=true then 7 else if cE4 ts x (bY ts x.refs n)=true then 5
 else if cE5 ae x=true then 1 else if cE6 er rt i x=true then 1 else if cE7 ts i x (bY ts x.refs n)=true then 1 else 0
def lY(n:Nat):Code→Option Code
 | .region id l d=>if id=n then some (.region id l d) else none
 | .loop c=>lY n c
 | .seq a b=>match lY n a with
   | some c=>some c
   | none=>lY n b
 | .block _ c=>lY n c
 | .scope c=>lY n c
 | .cond _ a b=>match lY n a with
   | some c=>some c
   | none=>lY n b
 | _=>none
noncomputable def KZ(f:Func)(n:Nat):Code:=(f.body.bind (lY n)).getD .skip
theorem QU(c0 c1 c2 c3 c4 c5 c6 c9 c10 c11 c12 c13 c14 c15 c16 c17 c18 c19 c20 c21 c22 c23 c24 c25 c26 c27 c28 c29 c30 c31 c32 c33 c34 c35 c36 c37 c38 c39 c40 c41 c42 c43 c44 c45 c46 c47 c48 c49 c50 c51 c52 c53 c54 c55 c56 c57 c58 c59 c60 c61 c62 c63 c64 c65 c66 c67 c68 c69 c70 c71 c72 c73 c74 c75 c76 c77 c78 c79 c80 c81 c82 c83 c84 c85 c86 c87 c88 c89 c90 c91 c92 c93 c94 c95 c96 c97 c98 c99 JQ JP JO JN JM c105 JL c107 JK c109 JJ JI JH JG JF JE c116 c117 JD c119 JC JB Jz Jy c124 Jw Jv c127 Ju Jt c130 c131 Js Gh Gg Gf Gd Gc c138 c139 Gb c141 Ga c143 F9 c145 c146 F8 c148 F7 F6 F4 c152 F3 c154 FZ c156 c157 FY c159 c160 FX c162 FW c164 Em El c167 c168 Ej Ei c171 Eh c173 Eg c175 Ef Ee Ed Ec Eb Ea c182 c183 D9 D8 D7 D6 D5:Value)(g:Nat)(nm:ByteArray)(TA:Option Addr)(tc:Nat)(ae:List Col)(er rt:Int)(x:Col)(W:World)(q0:W.cell? ⟨g+1,0,none⟩=some (.string nm))(q1:W.cell? ⟨g+1,1,none⟩=some (.slice TA ae.length tc))(q2:W.cell? ⟨g+1,2,none⟩=some (.int .i64 er))(q3:W.cell? ⟨g+1,3,none⟩=some (.int .i64 rt))(r0:W.cell? ⟨g+1+1,0,none⟩=some (.string x.name))(r1:W.cell? ⟨g+1+1,1,none⟩=some (.int .i64 x.ty))(r2:W.cell? ⟨g+1+1,2,none⟩=some (.string x.ns))(r3:W.cell? ⟨g+1+1,3,none⟩=some (.string x.refs))(r4:W.cell? ⟨g+1+1,4,none⟩=some (.slice x.A x.own.length x.cap))(r5:W.cell? ⟨g+1+1,5,none⟩=some (.int .i64 x.joint))(r6:W.cell? ⟨g+1+1,6,none⟩=some (.int .i64 x.gW))(mz3:g+1+1<W.heap.size)(hc:ag W W.heap.size Col.cells 7 TA ae)(ho:ag W W.heap.size intCells 1 x.A x.own)(z4:x.own.length≤1000000)(hcl:ae.length≤1000000)(hf:x.refs.toList.isEmpty=false)(K:Exit→Act→World→Prop)
 (hK:∀(v95 u96 u97 u98 u99 KE KD KC Kz Ky u105 Kw Kv Ku Kt Kr Kq Ko Kn Km Kl Kk Kj Ki u119 Kh Kg Ke Kc u124 Kb Ka u127 J9 J8 J7 u131 J6:Value) (wc:World),v95=.bool (cE5 ae x)∧Below W.heap.size W wc→K .normal ⟨#[c0,c1,c2,c3,c4,c5,c6,.pointer (some ⟨g+1,0,none⟩),.pointer (some ⟨g+1+1,0,none⟩),c9,c10,c11,c12,c13,c14,c15,c16,c17,c18,c19,c20,c21,c22,c23,c24,c25,c26,c27,c28,c29,c30,c31,c32,c33,c34,c35,c36,c37,c38,c39,c40,c41,c42,c43,c44,c45,c46,c47,c48,c49,c50,c51,c52,c53,c54,c55,c56,c57,c58,c59,c60,c61,c62,c63,c64,c65,c66,c67,c68,c69,c70,c71,c72,c73,c74,c75,c76,c77,c78,c79,c80,c81,c82,c83,c84,c85,c86,c87,c88,c89,c90,c91,c92,c93,c94,v95,u96,u97,u98,u99,KE,KD,KC,Kz,Ky,u105,Kw,Kv,Ku,Kt,Kr,Kq,Ko,Kn,Km,Kl,Kk,Kj,Ki,u119,Kh,Kg,Ke,Kc,u124,Kb,Ka,u127,J9,J8,J7,u131,J6,Gh,Gg,Gf,Gd,Gc,c138,c139,Gb,c141,Ga,c143,F9,c145,c146,F8,c148,F7,F6,F4,c152,F3,c154,FZ,c156,c157,FY,c159,c160,FX,c162,FW,c164,Em,El,c167,c168,Ej,Ei,c171,Eh,c173,Eg,c175,Ef,Ee,Ed,Ec,Eb,Ea,c182,c183,D9,D8,D7,D6,D5],[]⟩ wc):
 Code.wp Tryz.prog (KZ Tryz.f173 15) K ⟨#[c0,c1,c2,c3,c4,c5,c6,.pointer (some ⟨g+1,0,none⟩),.pointer (some ⟨g+1+1,0,none⟩),c9,c10,c11,c12,c13,c14,c15,c16,c17,c18,c19,c20,c21,c22,c23,c24,c25,c26,c27,c28,c29,c30,c31,c32,c33,c34,c35,c36,c37,c38,c39,c40,c41,c42,c43,c44,c45,c46,c47,c48,c49,c50,c51,c52,c53,c54,c55,c56,c57,c58,c59,c60,c61,c62,c63,c64,c65,c66,c67,c68,c69,c70,c71,c72,c73,c74,c75,c76,c77,c78,c79,c80,c81,c82,c83,c84,c85,c86,c87,c88,c89,c90,c91,c92,c93,c94,c95,c96,c97,c98,c99,JQ,JP,JO,JN,JM,c105,JL,c107,JK,c109,JJ,JI,JH,JG,JF,JE,c116,c117,JD,c119,JC,JB,Jz,Jy,c124,Jw,Jv,c127,Ju,Jt,c130,c131,Js,Gh,Gg,Gf,Gd,Gc,c138,c139,Gb,c141,Ga,c143,F9,c145,c146,F8,c148,F7,F6,F4,c152,F3,c154,FZ,c156,c157,FY,c159,c160,FX,c162,FW,c164,Em,El,c167,c168,Ej,Ei,c171,Eh,c173,Eg,c175,Ef,Ee,Ed,Ec,Eb,Ea,c182,c183,D9,D8,D7,D6,D5],[]⟩ W:=by
 have HC:=qh hc
 have HIO:=qh ho
 clear hc ho
 obtain⟨n3,hn3⟩:∃r,x.ns.toList.isEmpty=r:=⟨_,rfl⟩
 obtain⟨ow,how⟩:∃r,pb (gB ae x.own)=r:=⟨_,rfl⟩
 obtain⟨jw,hjw⟩:∃r,aB x.joint 0 1=r:=⟨_,rfl⟩
 obtain⟨oz,hoz⟩:∃r,((x.own.length:Int) == 0)=r:=⟨_,rfl⟩
 obtain⟨j0,hj0⟩:∃r,(x.joint != 0)=r:=⟨_,rfl⟩
 obtain⟨d0,hd0⟩:∃r,(x.gW != 0)=r:=⟨_,rfl⟩
 have hB:cE5 ae x=(((!n3 && !x.refs.toList.isEmpty) || !ow || !jw)||(oz&&(j0||d0))):=by rw[cE5,hn3,how,hjw,hoz,hj0,hd0]
 rw[hf]at hB
 have HB:=qh hB
 have HOW:=qh how
 have HJW:=qh hjw
 clear hB how hjw
 conv=>arg 2;whnf
 cases n3
 ·exact sG
 ·exact Fe
theorem QT(c0 c1 c2 c3 c4 c5 c6 c9 c10 c11 c12 c13 c14 c15 c16 c17 c18 c19 c20 c21 c22 c23 c24 c25 c26 c27 c28 c29 c30 c31 c32 c33 c34 c35 c36 c37 c38 c39 c40 c41 c42 c43 c44 c45 c46 c47 c48 c49 c50 c51 c52 c53 c54 c55 c56 c57 c58 c59 c60 c61 c62 c63 c64 c65 c66 c67 c68 c69 c70 c71 c72 c73 c74 c75 c76 c77 c78 c79 c80 c81 c82 c83 c84 c85 c86 c87 c88 c89 c90 c91 c92 c93 c94 c95 c96 c97 c98 c99 JQ JP JO JN JM c105 JL c107 JK c109 JJ JI JH JG JF JE c116 c117 JD c119 JC JB Jz Jy c124 Jw Jv c127 Ju Jt c130 c131 Js Gh Gg Gf Gd Gc c138 c139 Gb c141 Ga c143 F9 c145 c146 F8 c148 F7 F6 F4 c152 F3 c154 FZ c156 c157 FY c159 c160 FX c162 FW c164 Em El c167 c168 Ej Ei c171 Eh c173 Eg c175 Ef Ee Ed Ec Eb Ea c182 c183 D9 D8 D7 D6 D5:Value)(g:Nat)(nm:ByteArray)(TA:Option Addr)(tc:Nat)(ae:List Col)(er rt:Int)(x:Col)(W:World)(q0:W.cell? ⟨g+1,0,none⟩=some (.string nm))(q1:W.cell? ⟨g+1,1,none⟩=some (.slice TA ae.length tc))(q2:W.cell? ⟨g+1,2,none⟩=some (.int .i64 er))(q3:W.cell? ⟨g+1,3,none⟩=some (.int .i64 rt))(r0:W.cell? ⟨g+1+1,0,none⟩=some (.string x.name))(r1:W.cell? ⟨g+1+1,1,none⟩=some (.int .i64 x.ty))(r2:W.cell? ⟨g+1+1,2,none⟩=some (.string x.ns))(r3:W.cell? ⟨g+1+1,3,none⟩=some (.string x.refs))(r4:W.cell? ⟨g+1+1,4,none⟩=some (.slice x.A x.own.length x.cap))(r5:W.cell? ⟨g+1+1,5,none⟩=some (.int .i64 x.joint))(r6:W.cell? ⟨g+1+1,6,none⟩=some (.int .i64 x.gW))(mz3:g+1+1<W.heap.size)(hc:ag W W.heap.size Col.cells 7 TA ae)(ho:ag W W.heap.size intCells 1 x.A x.own)(z4:x.own.length≤1000000)(hcl:ae.length≤1000000)(hf:x.refs.toList.isEmpty=true)(K:Exit→Act→World→Prop)
 (hK:∀(v95 u96 u97 u98 u99 KE KD KC Kz Ky u105 Kw Kv Ku Kt Kr Kq Ko Kn Km Kl Kk Kj Ki u119 Kh Kg Ke Kc u124 Kb Ka u127 J9 J8 J7 u131 J6:Value) (wc:World),v95=.bool (cE5 ae x)∧Below W.heap.size W wc→K .normal ⟨#[c0,c1,c2,c3,c4,c5,c6,.pointer (some ⟨g+1,0,none⟩),.pointer (some ⟨g+1+1,0,none⟩),c9,c10,c11,c12,c13,c14,c15,c16,c17,c18,c19,c20,c21,c22,c23,c24,c25,c26,c27,c28,c29,c30,c31,c32,c33,c34,c35,c36,c37,c38,c39,c40,c41,c42,c43,c44,c45,c46,c47,c48,c49,c50,c51,c52,c53,c54,c55,c56,c57,c58,c59,c60,c61,c62,c63,c64,c65,c66,c67,c68,c69,c70,c71,c72,c73,c74,c75,c76,c77,c78,c79,c80,c81,c82,c83,c84,c85,c86,c87,c88,c89,c90,c91,c92,c93,c94,v95,u96,u97,u98,u99,KE,KD,KC,Kz,Ky,u105,Kw,Kv,Ku,Kt,Kr,Kq,Ko,Kn,Km,Kl,Kk,Kj,Ki,u119,Kh,Kg,Ke,Kc,u124,Kb,Ka,u127,J9,J8,J7,u131,J6,Gh,Gg,Gf,Gd,Gc,c138,c139,Gb,c141,Ga,c143,F9,c145,c146,F8,c148,F7,F6,F4,c152,F3,c154,FZ,c156,c157,FY,c159,c160,FX,c162,FW,c164,Em,El,c167,c168,Ej,Ei,c171,Eh,c173,Eg,c175,Ef,Ee,Ed,Ec,Eb,Ea,c182,c183,D9,D8,D7,D6,D5],[]⟩ wc):
 Code.wp Tryz.prog (KZ Tryz.f173 15) K ⟨#[c0,c1,c2,c3,c4,c5,c6,.pointer (some ⟨g+1,0,none⟩),.pointer (some ⟨g+1+1,0,none⟩),c9,c10,c11,c12,c13,c14,c15,c16,c17,c18,c19,c20,c21,c22,c23,c24,c25,c26,c27,c28,c29,c30,c31,c32,c33,c34,c35,c36,c37,c38,c39,c40,c41,c42,c43,c44,c45,c46,c47,c48,c49,c50,c51,c52,c53,c54,c55,c56,c57,c58,c59,c60,c61,c62,c63,c64,c65,c66,c67,c68,c69,c70,c71,c72,c73,c74,c75,c76,c77,c78,c79,c80,c81,c82,c83,c84,c85,c86,c87,c88,c89,c90,c91,c92,c93,c94,c95,c96,c97,c98,c99,JQ,JP,JO,JN,JM,c105,JL,c107,JK,c109,JJ,JI,JH,JG,JF,JE,c116,c117,JD,c119,JC,JB,Jz,Jy,c124,Jw,Jv,c127,Ju,Jt,c130,c131,Js,Gh,Gg,Gf,Gd,Gc,c138,c139,Gb,c141,Ga,c143,F9,c145,c146,F8,c148,F7,F6,F4,c152,F3,c154,FZ,c156,c157,FY,c159,c160,FX,c162,FW,c164,Em,El,c167,c168,Ej,Ei,c171,Eh,c173,Eg,c175,Ef,Ee,Ed,Ec,Eb,Ea,c182,c183,D9,D8,D7,D6,D5],[]⟩ W:=by
 have HC:=qh hc
 have HIO:=qh ho
 clear hc ho
 obtain⟨n3,hn3⟩:∃r,x.ns.toList.isEmpty=r:=⟨_,rfl⟩
 obtain⟨ow,how⟩:∃r,pb (gB ae x.own)=r:=⟨_,rfl⟩
 obtain⟨jw,hjw⟩:∃r,aB x.joint 0 1=r:=⟨_,rfl⟩
 obtain⟨oz,hoz⟩:∃r,((x.own.length:Int) == 0)=r:=⟨_,rfl⟩
 obtain⟨j0,hj0⟩:∃r,(x.joint != 0)=r:=⟨_,rfl⟩
 obtain⟨d0,hd0⟩:∃r,(x.gW != 0)=r:=⟨_,rfl⟩
 have hB:cE5 ae x=(((!n3 && !x.refs.toList.isEmpty) || !ow || !jw)||(oz&&(j0||d0))):=by rw[cE5,hn3,how,hjw,hoz,hj0,hd0]
 rw[hf]at hB
 have HB:=qh hB
 have HOW:=qh how
 have HJW:=qh hjw
 clear hB how hjw
 conv=>arg 2;whnf
 cases n3
 ·exact Fe
 ·exact Fe
theorem PU(c0 c1 c3 c4 c5 c6 c9 c10 c11 c12 c13 c14 c15 c16 c17 c18 c19 c20 c21 c22 c23 c24 c25 c26 c27 c28 c29 c30 c31 c32 c33 c34 c35 c36 c37 c38 c39 c40 c41 c42 c43 c44 c45 c46 c47 c48 c49 c50 c51 c52 c53 c54 c55 c56 c57 c58 c59 c60 c61 c62 c63 c64 c65 c66 c67 c68 c69 c70 c71 c72 c73 c74 c75 c76 c77 c78 c79 c80 c81 c82 c83 c84 c85 c86 c87 c88 c89 c90 c91 c92 c93 c94 c95 c96 c97 c98 c99 JQ JP JO JN JM c105 JL c107 JK c109 JJ JI JH JG JF JE c116 c117 JD c119 JC JB Jz Jy c124 Jw Jv c127 Ju Jt c130 c131 Js Gh Gg Gf Gd Gc c138 c139 Gb c141 Ga c143 F9 c145 c146 F8 c148 F7 F6 F4 c152 F3 c154 FZ c156 c157 FY c159 c160 FX c162 FW c164 Em El c167 c168 Ej Ei c171 Eh c173 Eg c175 Ef Ee Ed Ec Eb Ea c182 c183 D9 D8 D7 D6 D5:Value)(g:Nat)(nm:ByteArray)(TA:Option Addr)(tc:Nat)(ae:List Col)(er rt:Int)(i:Nat)(x:Col)(W:World)(q0:W.cell? ⟨g+1,0,none⟩=some (.string nm))(q1:W.cell? ⟨g+1,1,none⟩=some (.slice TA ae.length tc))(q2:W.cell? ⟨g+1,2,none⟩=some (.int .i64 er))(q3:W.cell? ⟨g+1,3,none⟩=some (.int .i64 rt))(r0:W.cell? ⟨g+1+1,0,none⟩=some (.string x.name))(r1:W.cell? ⟨g+1+1,1,none⟩=some (.int .i64 x.ty))(r2:W.cell? ⟨g+1+1,2,none⟩=some (.string x.ns))(r3:W.cell? ⟨g+1+1,3,none⟩=some (.string x.refs))(r4:W.cell? ⟨g+1+1,4,none⟩=some (.slice x.A x.own.length x.cap))(r5:W.cell? ⟨g+1+1,5,none⟩=some (.int .i64 x.joint))(r6:W.cell? ⟨g+1+1,6,none⟩=some (.int .i64 x.gW))(mz3:g+1+1<W.heap.size)(K:Exit→Act→World→Prop)
 (hK:∀(NQ QO QN QM QL u138 u139 QK QJ QI QH QG QF QE QD QC QB Qz Qy u152 Qx u154 Qw Qv Qu Qt Qs Qr Qq u162 Qp u164:Value) (wc:World),NQ=.bool (cE6 er rt i x)∧W=wc→K .normal ⟨#[c0,c1,.int .i64 (i:Int),c3,c4,c5,c6,.pointer (some ⟨g+1,0,none⟩),.pointer (some ⟨g+1+1,0,none⟩),c9,c10,c11,c12,c13,c14,c15,c16,c17,c18,c19,c20,c21,c22,c23,c24,c25,c26,c27,c28,c29,c30,c31,c32,c33,c34,c35,c36,c37,c38,c39,c40,c41,c42,c43,c44,c45,c46,c47,c48,c49,c50,c51,c52,c53,c54,c55,c56,c57,c58,c59,c60,c61,c62,c63,c64,c65,c66,c67,c68,c69,c70,c71,c72,c73,c74,c75,c76,c77,c78,c79,c80,c81,c82,c83,c84,c85,c86,c87,c88,c89,c90,c91,c92,c93,c94,c95,c96,c97,c98,c99,JQ,JP,JO,JN,JM,c105,JL,c107,JK,c109,JJ,JI,JH,JG,JF,JE,c116,c117,JD,c119,JC,JB,Jz,Jy,c124,Jw,Jv,c127,Ju,Jt,c130,c131,Js,NQ,QO,QN,QM,QL,u138,u139,QK,QJ,QI,QH,QG,QF,QE,QD,QC,QB,Qz,Qy,u152,Qx,u154,Qw,Qv,Qu,Qt,Qs,Qr,Qq,u162,Qp,u164,Em,El,c167,c168,Ej,Ei,c171,Eh,c173,Eg,c175,Ef,Ee,Ed,Ec,Eb,Ea,c182,c183,D9,D8,D7,D6,D5],[]⟩ wc):
 Code.wp Tryz.prog (KZ Tryz.f173 17) K ⟨#[c0,c1,.int .i64 (i:Int),c3,c4,c5,c6,.pointer (some ⟨g+1,0,none⟩),.pointer (some ⟨g+1+1,0,none⟩),c9,c10,c11,c12,c13,c14,c15,c16,c17,c18,c19,c20,c21,c22,c23,c24,c25,c26,c27,c28,c29,c30,c31,c32,c33,c34,c35,c36,c37,c38,c39,c40,c41,c42,c43,c44,c45,c46,c47,c48,c49,c50,c51,c52,c53,c54,c55,c56,c57,c58,c59,c60,c61,c62,c63,c64,c65,c66,c67,c68,c69,c70,c71,c72,c73,c74,c75,c76,c77,c78,c79,c80,c81,c82,c83,c84,c85,c86,c87,c88,c89,c90,c91,c92,c93,c94,c95,c96,c97,c98,c99,JQ,JP,JO,JN,JM,c105,JL,c107,JK,c109,JJ,JI,JH,JG,JF,JE,c116,c117,JD,c119,JC,JB,Jz,Jy,c124,Jw,Jv,c127,Ju,Jt,c130,c131,Js,Gh,Gg,Gf,Gd,Gc,c138,c139,Gb,c141,Ga,c143,F9,c145,c146,F8,c148,F7,F6,F4,c152,F3,c154,FZ,c156,c157,FY,c159,c160,FX,c162,FW,c164,Em,El,c167,c168,Ej,Ei,c171,Eh,c173,Eg,c175,Ef,Ee,Ed,Ec,Eb,Ea,c182,c183,D9,D8,D7,D6,D5],[]⟩ W:=by
 obtain⟨wd,hwd⟩:∃r,aB x.gW 0 1048576=r:=⟨_,rfl⟩
 obtain⟨r9,hr9⟩:∃r,(rt != 0)=r:=⟨_,rfl⟩
 obtain⟨lt,hlt⟩:∃r,decide (rt<x.gW)=r:=⟨_,rfl⟩
 obtain⟨iz,hiz⟩:∃r,((i:Int) == 0)=r:=⟨_,rfl⟩
 obtain⟨o0,ho0⟩:∃r,decide (0<x.own.length)=r:=⟨_,rfl⟩
 obtain⟨e1,he1⟩:∃r,(er != 1)=r:=⟨_,rfl⟩
 have hB:cE6 er rt i x=((!wd||(r9&&lt))||((iz&&o0)&&e1)):=by rw[cE6,hwd,hr9,hlt,hiz,ho0,he1]
 have HB:=qh hB
 have HWD:=qh hwd
 clear hB hwd
 conv=>arg 2;whnf
 cases wd
 ·exact mJ
 ·cases r9
  ·cases iz
   ·exact mJ
   ·cases o0
    ·exact mJ
    ·cases e1
     ·exact mJ
     ·exact mJ
  ·cases lt
   ·cases iz
    ·exact mJ
    ·cases o0
     ·exact mJ
     ·cases e1
      ·exact mJ
      ·exact mJ
   ·exact mJ
theorem zw(A:Option Addr)(c:Nat)(ts:List Tab)(n i:Nat)(nm:ByteArray)(TA:Option Addr)(tc:Nat)(ae:List Col)(er rt:Int)(x:Col)(w:World)(ht:aF w w.heap.size A ts)(hs:aM ts)(hn:n<ts.length)(htn:ts[n]=⟨nm,TA,tc,ae,er,rt⟩)(hi:i<ae.length)(hx:ae[i]=x)(hne:∀k (h:k<ts.length),k<n→0<ts[k].ae.length)(hf:x.refs.toList.isEmpty=false){r:Int}(hr:df ts ae er rt n i x=r):
 Calls Tryz.prog 173 #[.agg #[.slice A ts.length c,.slice none 0 0,.slice none 0 0,.slice none 0 0,.slice none 0 0,.slice none 0 0,.slice none 0 0,.slice none 0 0],.int .i64 n,.int .i64 i] w fun e w'=>e=.returned (.int .i64 r)∧Below w.heap.size w w':=by
 subst hr
 obtain⟨b5,o5,rfl,hb5,hc5⟩:=ht.1.get hn
 have hcn:iM w w.heap.size TA ae:=by have:=ht.2 ts[n] (lgm hn);rw[htn]at this;exact this
 obtain⟨t0,t1,t2,t3⟩:=Tab.fV hc5
 rw[htn]at t0 t1 t2 t3
 simp only at t0 t1 t2 t3
 obtain⟨b6,o6,rfl,hb6,hc6⟩:=hcn.1.get hi
 obtain⟨c0,c1,c2,c3,c4,c5,c6⟩:=Col.dW hc6
 rw[hx]at c0 c1 c2 c3 c4 c5 c6
 have hio:ag w w.heap.size intCells 1 x.A x.own:=by have:=hcn.2 ae[i] (lgm hi);rw[hx]at this;exact this
 have hst:=(hs.tabs ts[n] (lgm hn))
 rw[htn]at hst
 have hcl:ae.length≤1000000:=hst.len
 have hsx:Ca x:=by have:=hst.ae ae[i] (lgm hi);rw[hx]at this;exact this
 obtain⟨z1,z2,z3,z4⟩:=hsx
 have hlen:=hs.len
 have HT:=qh ht
 have HT1:=qh ht.1
 have HC:=qh hcn
 have HC1:=qh hcn.1
 have HIO:=qh hio
 have HNE:=qh hne
 have HX:=qh hx
 have HTN:=qh htn
 clear ht hcn hio hne hx htn hst hs hc5 hc6
 go_enter Tryz.func173,Tryz.ntmps173
 go_upto_region 3 with (fail)
 refine ah (P:=fun u=>Code.wp _ _ _ _ u) (R:=fun u=>Blk u w.heap.size 33 #[.slice (some ⟨b5,o5,none⟩) ts.length c,.slice none 0 0,.slice none 0 0,.slice none 0 0,.slice none 0 0,.slice none 0 0,.slice none 0 0,.slice none 0 0]∧Blk u (w.heap.size+1) 61 #[.string nm,.slice (some ⟨b6,o6,none⟩) ae.length tc,.int .i64 er,.int .i64 rt]∧Blk u (w.heap.size+1+1) 109 #[.string x.name,.int .i64 x.ty,.string x.ns,.string x.refs,.slice x.A x.own.length x.cap,.int .i64 x.joint,.int .i64 x.gW]∧Below w.heap.size w u) ⟨?_,?_,?_,?_⟩ ?_
 ·exact((Blk.new _ _ _).alloc _).alloc _
 ·exact(Blk.new' spA).alloc _
 ·exact Blk.new' spA
 ·exact ai
 clear t0 t1 t2 t3 c0 c1 c2 c3 c4 c5 c6
 rintro W ⟨hBC,hBT,hBX,hbW⟩
 have hz1:=hBC.lt
 have hz2:=hBT.lt
 have hz3:=hBX.lt
 have HBC:=qh hBC
 have HBT:=qh hBT
 have HBX:=qh hBX
 obtain⟨p0,p1,p2,p3,p4,p5,p6,p7⟩:=Cat.blk hBC
 obtain⟨q0,q1,q2,q3⟩:=Tab.blk hBT
 obtain⟨r0,r1,r2,r3,r4,r5,r6⟩:=Col.blk hBX
 clear hBC hBT hBX
 go_cut [35] (fun v wc=>v=.bool (cE1 x)∧W=wc)
 case first =>
  obtain⟨n1,hn1⟩:∃r,eY x.name=r:=⟨_,rfl⟩
  obtain⟨n2,hn2⟩:∃r,eY x.ns=r:=⟨_,rfl⟩
  obtain⟨n3,hn3⟩:∃r,x.ns.toList.isEmpty=r:=⟨_,rfl⟩
  have hb:cE1 x=(!n1||(!n3 && !n2)):=by rw[cE1,hn1,hn2,hn3]
  have HB:=qh hb
  have H1:=qh hn1
  have H2:=qh hn2
  clear hb hn1 hn2
  cases n1
  ·go_wp2_with (go_at_call 137;(first|(with_reducible refine(bF x.name _ z1 H1.out).mono ?_)|(with_reducible refine(bF x.ns _ z2 H2.out).mono ?_));rintro e w1 ⟨rfl,rfl⟩)
   go_meet
   exact⟨by rw[HB.out];first|rfl|simp,rfl⟩
  ·cases n3
   ·cases n2
    ·go_wp2_with (go_at_call 137;(first|(with_reducible refine(bF x.name _ z1 H1.out).mono ?_)|(with_reducible refine(bF x.ns _ z2 H2.out).mono ?_));rintro e w1 ⟨rfl,rfl⟩)
     go_meet
     exact⟨by rw[HB.out];first|rfl|simp,rfl⟩
    ·go_wp2_with (go_at_call 137;(first|(with_reducible refine(bF x.name _ z1 H1.out).mono ?_)|(with_reducible refine(bF x.ns _ z2 H2.out).mono ?_));rintro e w1 ⟨rfl,rfl⟩)
     go_meet
     exact⟨by rw[HB.out];first|rfl|simp,rfl⟩
   ·go_wp2_with (go_at_call 137;(first|(with_reducible refine(bF x.name _ z1 H1.out).mono ?_)|(with_reducible refine(bF x.ns _ z2 H2.out).mono ?_));rintro e w1 ⟨rfl,rfl⟩)
    go_meet
    exact⟨by rw[HB.out];first|rfl|simp,rfl⟩
 case rest =>
  obtain⟨rfl,rfl⟩:=hcut
  cases h1:cE1 x
  ·have H1:=qh h1
   clear h1
   go_wp2_with fail
   go_loopw [9] (fun vk wr =>∃k:Nat,k≤i∧vk=.int .i64 k∧Below W.heap.size W wr∧(∀j (h:j<ae.length),j<k→ae[j].name≠x.name)) (fun vk _=>i-(intOf vk).toNat)
   case atStart=>exact⟨0,Nat.zero_le _,rfl,Below.refl _ _,fun j _ h=>by omega⟩
   case round =>
    obtain⟨k,hk,rfl,hbr,hno⟩:=hrel
    have HNO:=qh hno
    have hwz:=hbr.size
    have hxr:=aa hbW hbr hbW.size
    clear hno p0 p1 p2 p3 p4 p5 p6 p7 q0 q1 q2 q3 r0 r1 r2 r3 r4 r5 r6
    obtain⟨p0,p1,p2,p3,p4,p5,p6,p7⟩:=Cat.blk (HBC.out.below hbr hz1)
    obtain⟨q0,q1,q2,q3⟩:=Tab.blk (HBT.out.below hbr hz2)
    obtain⟨r0,r1,r2,r3,r4,r5,r6⟩:=Col.blk (HBX.out.below hbr hz3)
    by_cases hlt:k<i
    ·obtain⟨b7,o7,hbe,hb7,hc7⟩:=(HC.out.1.below hxr).get (show k<ae.length by omega)
     injection hbe with hbe
     injection hbe with vF vE
     subst vF vE
     obtain⟨c0,_,_,_,_,_,_⟩:=Col.dW hc7
     have hk0:=az (w:=wr) b6 omA
     have hk1:=az (w:=wr) (w.heap.size+1) omA
     have hk2:=az (w:=wr) (w.heap.size+1+1) omA
     clear hc7
     by_cases he:ae[k].name=x.name
     ·have he':=KQ he
      have H2:Hid (cE2 ae i x=true):=qh (bV ⟨k,by omega,hlt,he⟩)
      clear he
      go_upto_region 8 with (fail)
      refine af krA krA ?_;(repeat(go_big_quiet_step (fail)));refine wpQuiet_nil ?_;intro wq hq
      go_wp2_with fail
      go_ret
      exact⟨aS cX,aa hxr hq hxr.size⟩
     ·have he':=Hr he
      have NI:=qh he
      clear he
      go_upto_region 8 with (fail)
      refine af krA krA ?_;(repeat(go_big_quiet_step (fail)));refine wpQuiet_nil ?_;intro wq hq
      clear he' hk0 hk1 hk2 c0
      go_wp2_with fail
      go_roundw
      case rel=>exact⟨k+1,by omega,by go_num,aa hbr hq hwz,fun j h hj=>by
       rcases Nat.lt_or_ge j k with h1|h1
       ·exact HNO.out j h h1
       ·obtain rfl:j=k:=by omega
        exact NI.out⟩
      case measure=>exact meA
    ·have hlt':decide (k<i)=false:=by simpa using hlt
     have H2:Hid (cE2 ae i x=false):=qh (bg fun⟨j,hj,hji,he⟩=>HNO.out j hj omA he)
     obtain⟨tg,htg⟩:∃tg,bY ts x.refs n=tg:=⟨_,rfl⟩
     have HTG:=qh htg
     go_wp2_with fail
     (with_reducible refine(vZ (some ⟨b5,o5,none⟩) c ts.length ts x.refs n _ (HT1.out.next hxr) rfl hlen htg).mono ?_)
     rintro e W2 ⟨rfl,hb2⟩
     have hy2:Below W.heap.size W W2:=aa hbr hb2 hwz
     have hx2:Below w.heap.size w W2:=aa hxr hb2 hxr.size
     clear htg hlt' p0 p1 p2 p3 p4 p5 p6 p7 q0 q1 q2 q3 r0 r1 r2 r3 r4 r5 r6
     obtain⟨p0,p1,p2,p3,p4,p5,p6,p7⟩:=Cat.blk (HBC.out.below hy2 hz1)
     obtain⟨q0,q1,q2,q3⟩:=Tab.blk (HBT.out.below hy2 hz2)
     obtain⟨r0,r1,r2,r3,r4,r5,r6⟩:=Col.blk (HBX.out.below hy2 hz3)
     cases hd:decide (tg<0)
     ·obtain⟨k,hkt,hke,hkn,hkr⟩:=qF (l:=ts.map Tab.name) (s:=x.refs) (n:=min (n:Int) ts.length) (by have:=of_decide_eq_false hd;have:=HTG.out;unfold bY at this;omega)
      have hkl:k<ts.length:=by simpa using hkt
      have hkn':k<n:=by omega
      have hcp:=HNE.out k hkl hkn'
      have htk:tg=(k:Int):=by rw[←HTG.out];exact hke
      obtain⟨b7,o7,hbe,hb7,hc7⟩:=(HT1.out.below hx2).get hkl
      injection hbe with hbe
      injection hbe with vF vE
      subst vF vE
      obtain⟨_,u1,_,_⟩:=Tab.fV hc7
      obtain⟨b8,o8,hA8,hb8,hc8⟩:=((HT.out.2 ts[k] (lgm hkl)).1.below hx2).get hcp
      rw[hA8]at u1
      obtain⟨_,s1,_,_,s4,_,_⟩:=Col.dW hc8
      simp only[Nat.zero_mul,Nat.add_zero]at s1 s4
      have HTY:=qh (Aj hkl hcp)
      have HHO:=qh (yE hkl hcp)
      have HTK:=qh htk
      have H3:Hid (cE3 x tg=false):=qh (by rw[cE3,hf,hd];rfl)
      have hd0:decide (0≤tg)=true:=by simp;have:=of_decide_eq_false hd;omega
      have HD0:=qh hd0
      have HF:=qh hf
      have HB8:=qh hb8
      have hz5:b5<W2.heap.size:=by have:=hx2.size;omega
      have hz8:b8<W2.heap.size:=by have:=hx2.size;omega
      clear hkt hke hkr hkn hc7 hc8 hA8 hd hd0
      obtain⟨tg',htt⟩:∃tg':Nat,tg'=k:=⟨k,rfl⟩
      subst htk
      have hd1:decide ((k:Int)<0)=false:=by simp
      have hd2:decide ((0:Int)≤(k:Int))=true:=by simp
      go_upto_region 13 with (fail)
      clear hd1
      go_cut [63] (fun v wc=>v=.bool (cE4 ts x (k:Int))∧Below W2.heap.size W2 wc)
      case first =>
       have hk0:=az (w:=W2) b5 hz5
       have hk1:=az (w:=W2) b8 hz8
       have hk2:=az (w:=W2) w.heap.size cV
       have hk3:=az (w:=W2) (w.heap.size+1+1) cV
       obtain⟨a,ha⟩:∃r,(x.ty != 1)=r:=⟨_,rfl⟩
       obtain⟨b,hb⟩:∃r,(x.ty != 2)=r:=⟨_,rfl⟩
       obtain⟨g,hg⟩:∃r,(ts[k].ae[0].ty != x.ty)=r:=⟨_,rfl⟩
       have hB:cE4 ts x (k:Int)=((a&&b)||g):=by rw[cE4,HTY.out,ha,hb,hg,HD0.out,HF.out];simp
       have HB:=qh hB
       clear hB
       cases a
       ·cases g
        ·refine af krA krA ?_;(repeat(go_big_quiet_step (fail)));refine wpQuiet_nil ?_;intro wq hq
         go_wp2_with fail
         go_meet
         exact⟨by rw[HB.out];first|rfl|simp,hq⟩
        ·refine af krA krA ?_;(repeat(go_big_quiet_step (fail)));refine wpQuiet_nil ?_;intro wq hq
         go_wp2_with fail
         go_meet
         exact⟨by rw[HB.out];first|rfl|simp,hq⟩
       ·cases b
        ·cases g
         ·refine af krA krA ?_;(repeat(go_big_quiet_step (fail)));refine wpQuiet_nil ?_;intro wq hq
          go_wp2_with fail
          go_meet
          exact⟨by rw[HB.out];first|rfl|simp,hq⟩
         ·refine af krA krA ?_;(repeat(go_big_quiet_step (fail)));refine wpQuiet_nil ?_;intro wq hq
          go_wp2_with fail
          go_meet
          exact⟨by rw[HB.out];first|rfl|simp,hq⟩
        ·refine af krA krA ?_;(repeat(go_big_quiet_step (fail)));refine wpQuiet_nil ?_;intro wq hq
         go_wp2_with fail
         go_meet
         exact⟨by rw[HB.out];first|rfl|simp,hq⟩
      case rest =>
       obtain⟨rfl,hb3⟩:=hcut
       obtain⟨W3,rfl⟩:∃W3:World,W3=wc:=⟨_,rfl⟩
       have hy3:Below W.heap.size W W3:=aa hy2 hb3 hy2.size
       have hx3:Below w.heap.size w W3:=aa hx2 hb3 hx2.size
       clear p0 p1 p2 p3 p4 p5 p6 p7 q0 q1 q2 q3 r0 r1 r2 r3 r4 r5 r6
       obtain⟨p0,p1,p2,p3,p4,p5,p6,p7⟩:=Cat.blk (HBC.out.below hy3 hz1)
       obtain⟨q0,q1,q2,q3⟩:=Tab.blk (HBT.out.below hy3 hz2)
       obtain⟨r0,r1,r2,r3,r4,r5,r6⟩:=Col.blk (HBX.out.below hy3 hz3)
       have mz1:w.heap.size<W3.heap.size:=by have:=hy3.size;omega
       have mz2:w.heap.size+1<W3.heap.size:=by have:=hy3.size;omega
       have mz3:w.heap.size+1+1<W3.heap.size:=by have:=hy3.size;omega
       cases h4:cE4 ts x k
       ·have H4:=qh h4
        clear h4
        go_upto_region 15 with (fail)
        ·refine QU _ _ _ _ _ _ _ _ _ _ _ _ _ _ _ _ _ _ _ _ _ _ _ _ _ _ _ _ _ _ _ _ _ _ _ _ _ _ _ _ _ _ _ _ _ _ _ _ _ _ _ _ _ _ _ _ _ _ _ _ _ _ _ _ _ _ _ _ _ _ _ _ _ _ _ _ _ _ _ _ _ _ _ _ _ _ _ _ _ _ _ _ _ _ _ _ _ _ _ _ _ _ _ _ _ _ _ _ _ _ _ _ _ _ _ _ _ _ _ _ _ _ _ _ _ _ _ _ _ _ _ _ _ _ _ _ _ _ _ _ _ _ _ _ _ _ _ _ _ _ _ _ _ _ _ _ _ _ _ _ _ _ _ _ _ _ _ _ _ _ _ _ _ _ _ _ _ _ _ _ _ _ _ _ _ _ _ w.heap.size nm (some ⟨b6,o6,none⟩) tc ae er rt x W3 q0 q1 q2 q3 r0 r1 r2 r3 r4 r5 r6 mz3 (HC1.out.next hx3) (HIO.out.next hx3) z4 hcl HF.out _ ?_
         intro v95 u96 u97 u98 u99 KE KD KC Kz Ky u105 Kw Kv Ku Kt Kr Kq Ko Kn Km Kl Kk Kj Ki u119 Kh Kg Ke Kc u124 Kb Ka u127 J9 J8 J7 u131 J6 wc hcut
         obtain⟨rfl,hb4⟩:=hcut
         obtain⟨W4,rfl⟩:∃W4:World,W4=wc:=⟨_,rfl⟩
         have hy4:Below W.heap.size W W4:=aa hy3 hb4 hy3.size
         have hx4:Below w.heap.size w W4:=aa hx3 hb4 hx3.size
         clear p0 p1 p2 p3 p4 p5 p6 p7 q0 q1 q2 q3 r0 r1 r2 r3 r4 r5 r6
         obtain⟨p0,p1,p2,p3,p4,p5,p6,p7⟩:=Cat.blk (HBC.out.below hy4 hz1)
         obtain⟨q0,q1,q2,q3⟩:=Tab.blk (HBT.out.below hy4 hz2)
         obtain⟨r0,r1,r2,r3,r4,r5,r6⟩:=Col.blk (HBX.out.below hy4 hz3)
         cases h5:cE5 ae x
         ·have H5:=qh h5
          clear h5
          go_upto_region 17 with (fail)
          ·refine PU _ _ _ _ _ _ _ _ _ _ _ _ _ _ _ _ _ _ _ _ _ _ _ _ _ _ _ _ _ _ _ _ _ _ _ _ _ _ _ _ _ _ _ _ _ _ _ _ _ _ _ _ _ _ _ _ _ _ _ _ _ _ _ _ _ _ _ _ _ _ _ _ _ _ _ _ _ _ _ _ _ _ _ _ _ _ _ _ _ _ _ _ _ _ _ _ _ _ _ _ _ _ _ _ _ _ _ _ _ _ _ _ _ _ _ _ _ _ _ _ _ _ _ _ _ _ _ _ _ _ _ _ _ _ _ _ _ _ _ _ _ _ _ _ _ _ _ _ _ _ _ _ _ _ _ _ _ _ _ _ _ _ _ _ _ _ _ _ _ _ _ _ _ _ _ _ _ _ _ _ _ _ _ _ _ _ w.heap.size nm (some ⟨b6,o6,none⟩) tc ae er rt i x W4 q0 q1 q2 q3 r0 r1 r2 r3 r4 r5 r6 (by have:=hy4.size;omega) _ ?_
           intro NQ QO QN QM QL u138 u139 QK QJ QI QH QG QF QE QD QC QB Qz Qy u152 Qx u154 Qw Qv Qu Qt Qs Qr Qq u162 Qp u164 wc hcut
           obtain⟨rfl,rfl⟩:=hcut
           cases h6:cE6 er rt i x
           ·have H6:=qh h6
            clear h6
            have Zh:=hx4.size
            have Zf:=hy4.size
            obtain⟨ho,hho⟩:∃r,decide (0<ts[k].ae[0].own.length)=r:=⟨_,rfl⟩
            obtain⟨hm,hhm⟩:∃r,decide ((i:Int)∈x.own)=r:=⟨_,rfl⟩
            have hB:cE7 ts i x (k:Int)=(ho && !hm):=by rw[cE7,HHO.out,HF.out,hho,hhm];simp
            have HB:=qh hB
            have HM:=qh hhm
            have u1':=((bN (aa hb3 hb4 hb3.size) b5 hz5).1 _).trans u1
            have s4':=((bN (aa hb3 hb4 hb3.size) b8 hz8).1 _).trans s4
            clear hB hhm u1 s1 s4
            cases ho
            ·go_wp2_with fail
             go_ret
             exact⟨aS cQ,hx4⟩
            ·cases hm
             ·go_wp2_with (go_at_call 217;(with_reducible refine(zY x.A x.cap x.own.length x.own i _ (HIO.out.next hx4) rfl z4 HM.out).mono ?_);rintro e w1 ⟨rfl,rfl⟩)
              go_ret
              exact⟨aS (by rw[df,if_neg dd,if_neg da,HTG.out,if_neg (by rw[H3.out];decide),if_neg (by rw[H4.out];decide),if_neg (by rw[H5.out];decide),if_neg (by rw[H6.out];decide)];rw[if_pos (by rw[HB.out];rfl)]),hx4⟩
             ·go_wp2_with (go_at_call 217;(with_reducible refine(zY x.A x.cap x.own.length x.own i _ (HIO.out.next hx4) rfl z4 HM.out).mono ?_);rintro e w1 ⟨rfl,rfl⟩)
              go_ret
              exact⟨aS cQ,hx4⟩
           ·have H6:=qh h6
            clear h6
            go_wp2_with fail
            go_ret
            exact⟨aS cS,hx4⟩
         ·have H5:=qh h5
          clear h5
          go_wp2_with fail
          go_ret
          exact⟨aS cT,hx4⟩
       ·have H4:=qh h4
        clear h4
        go_wp2_with fail
        go_ret
        exact⟨aS cU,hx3⟩
     ·have H3:Hid (cE3 x tg=true):=qh (by rw[cE3,hf,hd];rfl)
      go_wp2_with fail
      go_ret
      exact⟨aS (by rw[df,if_neg dd,if_neg da,HTG.out,if_pos H3.out]),hx2⟩
  ·have H1:=qh h1
   clear h1
   go_wp2_with fail
   go_ret
   exact⟨aS (by rw[df,if_pos H1.out]),hbW⟩
theorem zu(A:Option Addr)(c:Nat)(ts:List Tab)(n i:Nat)(nm:ByteArray)(TA:Option Addr)(tc:Nat)(ae:List Col)(er rt:Int)(x:Col)(w:World)(ht:aF w w.heap.size A ts)(hs:aM ts)(hn:n<ts.length)(htn:ts[n]=⟨nm,TA,tc,ae,er,rt⟩)(hi:i<ae.length)(hx:ae[i]=x)(hne:∀k (h:k<ts.length),k<n→0<ts[k].ae.length)(hf:x.refs.toList.isEmpty=true){r:Int}(hr:df ts ae er rt n i x=r):
 Calls Tryz.prog 173 #[.agg #[.slice A ts.length c,.slice none 0 0,.slice none 0 0,.slice none 0 0,.slice none 0 0,.slice none 0 0,.slice none 0 0,.slice none 0 0],.int .i64 n,.int .i64 i] w fun e w'=>e=.returned (.int .i64 r)∧Below w.heap.size w w':=by
 subst hr
 obtain⟨b5,o5,rfl,hb5,hc5⟩:=ht.1.get hn
 have hcn:iM w w.heap.size TA ae:=by have:=ht.2 ts[n] (lgm hn);rw[htn]at this;exact this
 obtain⟨t0,t1,t2,t3⟩:=Tab.fV hc5
 rw[htn]at t0 t1 t2 t3
 simp only at t0 t1 t2 t3
 obtain⟨b6,o6,rfl,hb6,hc6⟩:=hcn.1.get hi
 obtain⟨c0,c1,c2,c3,c4,c5,c6⟩:=Col.dW hc6
 rw[hx]at c0 c1 c2 c3 c4 c5 c6
 have hio:ag w w.heap.size intCells 1 x.A x.own:=by have:=hcn.2 ae[i] (lgm hi);rw[hx]at this;exact this
 have hst:=(hs.tabs ts[n] (lgm hn))
 rw[htn]at hst
 have hcl:ae.length≤1000000:=hst.len
 have hsx:Ca x:=by have:=hst.ae ae[i] (lgm hi);rw[hx]at this;exact this
 obtain⟨z1,z2,z3,z4⟩:=hsx
 have hlen:=hs.len
 have HT:=qh ht
 have HT1:=qh ht.1
 have HC:=qh hcn
 have HC1:=qh hcn.1
 have HIO:=qh hio
 have HNE:=qh hne
 have HX:=qh hx
 have HTN:=qh htn
 clear ht hcn hio hne hx htn hst hs hc5 hc6
 go_enter Tryz.func173,Tryz.ntmps173
 go_upto_region 3 with (fail)
 refine ah (P:=fun u=>Code.wp _ _ _ _ u) (R:=fun u=>Blk u w.heap.size 33 #[.slice (some ⟨b5,o5,none⟩) ts.length c,.slice none 0 0,.slice none 0 0,.slice none 0 0,.slice none 0 0,.slice none 0 0,.slice none 0 0,.slice none 0 0]∧Blk u (w.heap.size+1) 61 #[.string nm,.slice (some ⟨b6,o6,none⟩) ae.length tc,.int .i64 er,.int .i64 rt]∧Blk u (w.heap.size+1+1) 109 #[.string x.name,.int .i64 x.ty,.string x.ns,.string x.refs,.slice x.A x.own.length x.cap,.int .i64 x.joint,.int .i64 x.gW]∧Below w.heap.size w u) ⟨?_,?_,?_,?_⟩ ?_
 ·exact((Blk.new _ _ _).alloc _).alloc _
 ·exact(Blk.new' spA).alloc _
 ·exact Blk.new' spA
 ·exact ai
 clear t0 t1 t2 t3 c0 c1 c2 c3 c4 c5 c6
 rintro W ⟨hBC,hBT,hBX,hbW⟩
 have hz1:=hBC.lt
 have hz2:=hBT.lt
 have hz3:=hBX.lt
 have HBC:=qh hBC
 have HBT:=qh hBT
 have HBX:=qh hBX
 obtain⟨p0,p1,p2,p3,p4,p5,p6,p7⟩:=Cat.blk hBC
 obtain⟨q0,q1,q2,q3⟩:=Tab.blk hBT
 obtain⟨r0,r1,r2,r3,r4,r5,r6⟩:=Col.blk hBX
 clear hBC hBT hBX
 go_cut [35] (fun v wc=>v=.bool (cE1 x)∧W=wc)
 case first =>
  obtain⟨n1,hn1⟩:∃r,eY x.name=r:=⟨_,rfl⟩
  obtain⟨n2,hn2⟩:∃r,eY x.ns=r:=⟨_,rfl⟩
  obtain⟨n3,hn3⟩:∃r,x.ns.toList.isEmpty=r:=⟨_,rfl⟩
  have hb:cE1 x=(!n1||(!n3 && !n2)):=by rw[cE1,hn1,hn2,hn3]
  have HB:=qh hb
  have H1:=qh hn1
  have H2:=qh hn2
  clear hb hn1 hn2
  cases n1
  ·go_wp2_with (go_at_call 137;(first|(with_reducible refine(bF x.name _ z1 H1.out).mono ?_)|(with_reducible refine(bF x.ns _ z2 H2.out).mono ?_));rintro e w1 ⟨rfl,rfl⟩)
   go_meet
   exact⟨by rw[HB.out];first|rfl|simp,rfl⟩
  ·cases n3
   ·cases n2
    ·go_wp2_with (go_at_call 137;(first|(with_reducible refine(bF x.name _ z1 H1.out).mono ?_)|(with_reducible refine(bF x.ns _ z2 H2.out).mono ?_));rintro e w1 ⟨rfl,rfl⟩)
     go_meet
     exact⟨by rw[HB.out];first|rfl|simp,rfl⟩
    ·go_wp2_with (go_at_call 137;(first|(with_reducible refine(bF x.name _ z1 H1.out).mono ?_)|(with_reducible refine(bF x.ns _ z2 H2.out).mono ?_));rintro e w1 ⟨rfl,rfl⟩)
     go_meet
     exact⟨by rw[HB.out];first|rfl|simp,rfl⟩
   ·go_wp2_with (go_at_call 137;(first|(with_reducible refine(bF x.name _ z1 H1.out).mono ?_)|(with_reducible refine(bF x.ns _ z2 H2.out).mono ?_));rintro e w1 ⟨rfl,rfl⟩)
    go_meet
    exact⟨by rw[HB.out];first|rfl|simp,rfl⟩
 case rest =>
  obtain⟨rfl,rfl⟩:=hcut
  cases h1:cE1 x
  ·have H1:=qh h1
   clear h1
   go_wp2_with fail
   go_loopw [9] (fun vk wr =>∃k:Nat,k≤i∧vk=.int .i64 k∧Below W.heap.size W wr∧(∀j (h:j<ae.length),j<k→ae[j].name≠x.name)) (fun vk _=>i-(intOf vk).toNat)
   case atStart=>exact⟨0,Nat.zero_le _,rfl,Below.refl _ _,fun j _ h=>by omega⟩
   case round =>
    obtain⟨k,hk,rfl,hbr,hno⟩:=hrel
    have HNO:=qh hno
    have hwz:=hbr.size
    have hxr:=aa hbW hbr hbW.size
    clear hno p0 p1 p2 p3 p4 p5 p6 p7 q0 q1 q2 q3 r0 r1 r2 r3 r4 r5 r6
    obtain⟨p0,p1,p2,p3,p4,p5,p6,p7⟩:=Cat.blk (HBC.out.below hbr hz1)
    obtain⟨q0,q1,q2,q3⟩:=Tab.blk (HBT.out.below hbr hz2)
    obtain⟨r0,r1,r2,r3,r4,r5,r6⟩:=Col.blk (HBX.out.below hbr hz3)
    by_cases hlt:k<i
    ·obtain⟨b7,o7,hbe,hb7,hc7⟩:=(HC.out.1.below hxr).get (show k<ae.length by omega)
     injection hbe with hbe
     injection hbe with vF vE
     subst vF vE
     obtain⟨c0,_,_,_,_,_,_⟩:=Col.dW hc7
     have hk0:=az (w:=wr) b6 omA
     have hk1:=az (w:=wr) (w.heap.size+1) omA
     have hk2:=az (w:=wr) (w.heap.size+1+1) omA
     clear hc7
     by_cases he:ae[k].name=x.name
     ·have he':=KQ he
      have H2:Hid (cE2 ae i x=true):=qh (bV ⟨k,by omega,hlt,he⟩)
      clear he
      go_upto_region 8 with (fail)
      refine af krA krA ?_;(repeat(go_big_quiet_step (fail)));refine wpQuiet_nil ?_;intro wq hq
      go_wp2_with fail
      go_ret
      exact⟨aS cX,aa hxr hq hxr.size⟩
     ·have he':=Hr he
      have NI:=qh he
      clear he
      go_upto_region 8 with (fail)
      refine af krA krA ?_;(repeat(go_big_quiet_step (fail)));refine wpQuiet_nil ?_;intro wq hq
      clear he' hk0 hk1 hk2 c0
      go_wp2_with fail
      go_roundw
      case rel=>exact⟨k+1,by omega,by go_num,aa hbr hq hwz,fun j h hj=>by
       rcases Nat.lt_or_ge j k with h1|h1
       ·exact HNO.out j h h1
       ·obtain rfl:j=k:=by omega
        exact NI.out⟩
      case measure=>exact meA
    ·have hlt':decide (k<i)=false:=by simpa using hlt
     have H2:Hid (cE2 ae i x=false):=qh (bg fun⟨j,hj,hji,he⟩=>HNO.out j hj omA he)
     obtain⟨tg,htg⟩:∃tg,bY ts x.refs n=tg:=⟨_,rfl⟩
     have HTG:=qh htg
     go_wp2_with fail
     (with_reducible refine(vZ (some ⟨b5,o5,none⟩) c ts.length ts x.refs n _ (HT1.out.next hxr) rfl hlen htg).mono ?_)
     rintro e W2 ⟨rfl,hb2⟩
     have hy2:Below W.heap.size W W2:=aa hbr hb2 hwz
     have hx2:Below w.heap.size w W2:=aa hxr hb2 hxr.size
     clear htg hlt' p0 p1 p2 p3 p4 p5 p6 p7 q0 q1 q2 q3 r0 r1 r2 r3 r4 r5 r6
     obtain⟨p0,p1,p2,p3,p4,p5,p6,p7⟩:=Cat.blk (HBC.out.below hy2 hz1)
     obtain⟨q0,q1,q2,q3⟩:=Tab.blk (HBT.out.below hy2 hz2)
     obtain⟨r0,r1,r2,r3,r4,r5,r6⟩:=Col.blk (HBX.out.below hy2 hz3)
     have H3:Hid (cE3 x tg=false):=qh (by rw[cE3,hf];rfl)
     have HF:=qh hf
     go_upto_region 13 with (fail)
     go_cut [63] (fun v wc=>v=.bool (cE4 ts x tg)∧Below W2.heap.size W2 wc)
     case first =>
      have hk0:=az (w:=W2) w.heap.size cV
      have hk3:=az (w:=W2) (w.heap.size+1+1) cV
      obtain⟨a,ha⟩:∃r,(x.ty != 1)=r:=⟨_,rfl⟩
      obtain⟨b,hb⟩:∃r,(x.ty != 2)=r:=⟨_,rfl⟩
      obtain⟨d,hd⟩:∃r,decide (0≤tg)=r:=⟨_,rfl⟩
      have hB:cE4 ts x tg=(a&&b):=by rw[cE4,ha,hb,HF.out];simp
      have HB:=qh hB
      clear hB
      cases a
      ·cases d
       ·refine af krA krA ?_;(repeat(go_big_quiet_step (fail)));refine wpQuiet_nil ?_;intro wq hq
        go_wp2_with fail
        go_meet
        exact⟨by rw[HB.out];first|rfl|simp,hq⟩
       ·refine af krA krA ?_;(repeat(go_big_quiet_step (fail)));refine wpQuiet_nil ?_;intro wq hq
        go_wp2_with fail
        go_meet
        exact⟨by rw[HB.out];first|rfl|simp,hq⟩
      ·cases b
       ·cases d
        ·refine af krA krA ?_;(repeat(go_big_quiet_step (fail)));refine wpQuiet_nil ?_;intro wq hq
         go_wp2_with fail
         go_meet
         exact⟨by rw[HB.out];first|rfl|simp,hq⟩
        ·refine af krA krA ?_;(repeat(go_big_quiet_step (fail)));refine wpQuiet_nil ?_;intro wq hq
         go_wp2_with fail
         go_meet
         exact⟨by rw[HB.out];first|rfl|simp,hq⟩
       ·refine af krA krA ?_;(repeat(go_big_quiet_step (fail)));refine wpQuiet_nil ?_;intro wq hq
        go_wp2_with fail
        go_meet
        exact⟨by rw[HB.out];first|rfl|simp,hq⟩
     case rest =>
      obtain⟨rfl,hb3⟩:=hcut
      obtain⟨W3,rfl⟩:∃W3:World,W3=wc:=⟨_,rfl⟩
      have hy3:Below W.heap.size W W3:=aa hy2 hb3 hy2.size
      have hx3:Below w.heap.size w W3:=aa hx2 hb3 hx2.size
      clear p0 p1 p2 p3 p4 p5 p6 p7 q0 q1 q2 q3 r0 r1 r2 r3 r4 r5 r6
      obtain⟨p0,p1,p2,p3,p4,p5,p6,p7⟩:=Cat.blk (HBC.out.below hy3 hz1)
      obtain⟨q0,q1,q2,q3⟩:=Tab.blk (HBT.out.below hy3 hz2)
      obtain⟨r0,r1,r2,r3,r4,r5,r6⟩:=Col.blk (HBX.out.below hy3 hz3)
      have mz1:w.heap.size<W3.heap.size:=by have:=hy3.size;omega
      have mz2:w.heap.size+1<W3.heap.size:=by have:=hy3.size;omega
      have mz3:w.heap.size+1+1<W3.heap.size:=by have:=hy3.size;omega
      cases h4:cE4 ts x tg
      ·have H4:=qh h4
       clear h4
       go_upto_region 15 with (fail)
       ·refine QT _ _ _ _ _ _ _ _ _ _ _ _ _ _ _ _ _ _ _ _ _ _ _ _ _ _ _ _ _ _ _ _ _ _ _ _ _ _ _ _ _ _ _ _ _ _ _ _ _ _ _ _ _ _ _ _ _ _ _ _ _ _ _ _ _ _ _ _ _ _ _ _ _ _ _ _ _ _ _ _ _ _ _ _ _ _ _ _ _ _ _ _ _ _ _ _ _ _ _ _ _ _ _ _ _ _ _ _ _ _ _ _ _ _ _ _ _ _ _ _ _ _ _ _ _ _ _ _ _ _ _ _ _ _ _ _ _ _ _ _ _ _ _ _ _ _ _ _ _ _ _ _ _ _ _ _ _ _ _ _ _ _ _ _ _ _ _ _ _ _ _ _ _ _ _ _ _ _ _ _ _ _ _ _ _ _ _ w.heap.size nm (some ⟨b6,o6,none⟩) tc ae er rt x W3 q0 q1 q2 q3 r0 r1 r2 r3 r4 r5 r6 mz3 (HC1.out.next hx3) (HIO.out.next hx3) z4 hcl HF.out _ ?_
        intro v95 u96 u97 u98 u99 KE KD KC Kz Ky u105 Kw Kv Ku Kt Kr Kq Ko Kn Km Kl Kk Kj Ki u119 Kh Kg Ke Kc u124 Kb Ka u127 J9 J8 J7 u131 J6 wc hcut
        obtain⟨rfl,hb4⟩:=hcut
        obtain⟨W4,rfl⟩:∃W4:World,W4=wc:=⟨_,rfl⟩
        have hy4:Below W.heap.size W W4:=aa hy3 hb4 hy3.size
        have hx4:Below w.heap.size w W4:=aa hx3 hb4 hx3.size
        clear p0 p1 p2 p3 p4 p5 p6 p7 q0 q1 q2 q3 r0 r1 r2 r3 r4 r5 r6
        obtain⟨p0,p1,p2,p3,p4,p5,p6,p7⟩:=Cat.blk (HBC.out.below hy4 hz1)
        obtain⟨q0,q1,q2,q3⟩:=Tab.blk (HBT.out.below hy4 hz2)
        obtain⟨r0,r1,r2,r3,r4,r5,r6⟩:=Col.blk (HBX.out.below hy4 hz3)
        cases h5:cE5 ae x
        ·have H5:=qh h5
         clear h5
         go_upto_region 17 with (fail)
         ·refine PU _ _ _ _ _ _ _ _ _ _ _ _ _ _ _ _ _ _ _ _ _ _ _ _ _ _ _ _ _ _ _ _ _ _ _ _ _ _ _ _ _ _ _ _ _ _ _ _ _ _ _ _ _ _ _ _ _ _ _ _ _ _ _ _ _ _ _ _ _ _ _ _ _ _ _ _ _ _ _ _ _ _ _ _ _ _ _ _ _ _ _ _ _ _ _ _ _ _ _ _ _ _ _ _ _ _ _ _ _ _ _ _ _ _ _ _ _ _ _ _ _ _ _ _ _ _ _ _ _ _ _ _ _ _ _ _ _ _ _ _ _ _ _ _ _ _ _ _ _ _ _ _ _ _ _ _ _ _ _ _ _ _ _ _ _ _ _ _ _ _ _ _ _ _ _ _ _ _ _ _ _ _ _ _ _ _ w.heap.size nm (some ⟨b6,o6,none⟩) tc ae er rt i x W4 q0 q1 q2 q3 r0 r1 r2 r3 r4 r5 r6 (by have:=hy4.size;omega) _ ?_
          intro NQ QO QN QM QL u138 u139 QK QJ QI QH QG QF QE QD QC QB Qz Qy u152 Qx u154 Qw Qv Qu Qt Qs Qr Qq u162 Qp u164 wc hcut
          obtain⟨rfl,rfl⟩:=hcut
          cases h6:cE6 er rt i x
          ·have H6:=qh h6
           clear h6
           go_wp2_with fail
           go_ret
           exact⟨aS (by rw[df,if_neg dd,if_neg da,HTG.out,if_neg (by rw[H3.out];decide),if_neg (by rw[H4.out];decide),if_neg (by rw[H5.out];decide),if_neg (by rw[H6.out];decide)];rw[if_neg (by rw[cE7,HF.out];simp)]),hx4⟩
          ·have H6:=qh h6
           clear h6
           go_wp2_with fail
           go_ret
           exact⟨aS cS,hx4⟩
        ·have H5:=qh h5
         clear h5
         go_wp2_with fail
         go_ret
         exact⟨aS cT,hx4⟩
      ·have H4:=qh h4
       clear h4
       go_wp2_with fail
       go_ret
       exact⟨aS cU,hx3⟩
  ·have H1:=qh h1
   clear h1
   go_wp2_with fail
   go_ret
   exact⟨aS (by rw[df,if_pos H1.out]),hbW⟩
theorem tT(A:Option Addr)(c:Nat)(ts:List Tab)(n i:Nat)(nm:ByteArray)(TA:Option Addr)(tc:Nat)(ae:List Col)(er rt:Int)(x:Col)(w:World)(ht:aF w w.heap.size A ts)(hs:aM ts)(hn:n<ts.length)(htn:ts[n]=⟨nm,TA,tc,ae,er,rt⟩)(hi:i<ae.length)(hx:ae[i]=x)(hne:∀k (h:k<ts.length),k<n→0<ts[k].ae.length){r:Int}(hr:df ts ae er rt n i x=r):
 Calls Tryz.prog 173 #[.agg #[.slice A ts.length c,.slice none 0 0,.slice none 0 0,.slice none 0 0,.slice none 0 0,.slice none 0 0,.slice none 0 0,.slice none 0 0],.int .i64 n,.int .i64 i] w fun e w'=>e=.returned (.int .i64 r)∧Below w.heap.size w w':=by
 cases hf:x.refs.toList.isEmpty
 ·exact zw A c ts n i nm TA tc ae er rt x w ht hs hn htn hi hx hne hf hr
 ·exact zu A c ts n i nm TA tc ae er rt x w ht hs hn htn hi hx hne hf hr
def iT(f:Nat→Int):Nat→Int
 | 0 =>0
 | m+1=>if iT f m=0 then f m else iT f m
theorem iR{f:Nat→Int}:∀ {m:Nat},(∀i,i<m→f i=0)→iT f m=0
 | 0,_=>rfl
 | m + 1,h=>by
   rw[iT,if_pos (iR fun i hi=>h i omA)]
   exact h m omA
theorem wE{f:Nat→Int}{k:Nat}(hk:∀i,i<k→f i=0)(he:f k≠0):∀ {m:Nat},k<m→iT f m=f k
 | m + 1,h=>by
   rw[iT]
   by_cases hkm:k=m
   ·subst hkm
    rw[if_pos (iR hk)]
   ·rw[wE hk he (show k<m by omega),if_neg he]
theorem rO{f:Nat→Int}:∀ {m:Nat},iT f m=0→∀i,i<m→f i=0
 | m + 1,h,i,hi=>by
   rw[iT]at h
   by_cases h0:iT f m=0
   ·rw[if_pos h0]at h
    rcases Nat.lt_or_ge i m with k|k
    ·exact rO h0 i k
    ·obtain rfl:i=m:=by omega
     exact h
   ·rw[if_neg h0]at h
    exact absurd h h0
def kC(t:Tab):Bool:=(aB t.ae.length 1 8&&aB t.erase 0 1)&&aB t.mG 0 1048576
noncomputable def qg(ts:List Tab)(n:Nat)(t:Tab)(i:Nat):Int:=match t.ae[i]? with
 | some x=>df ts t.ae t.erase t.mG n i x
 | none =>0
noncomputable def jC(ts:List Tab)(n:Nat)(t:Tab):Int:=if kC t=true then iT (qg ts n t) t.ae.length else 1
theorem mV(A:Option Addr)(c m:Nat)(ts:List Tab)(n:Nat)(t:Tab)(w:World)(ht:aF w w.heap.size A ts)(hm:ts.length=m)(hs:aM ts)(hn:n<ts.length)(htn:ts[n]=t)(hne:∀k (h:k<ts.length),k<n→0<ts[k].ae.length){r:Int}(hr:jC ts n t=r):
 Calls Tryz.prog 138 #[.agg #[.slice A m c,.slice none 0 0,.slice none 0 0,.slice none 0 0,.slice none 0 0,.slice none 0 0,.slice none 0 0,.slice none 0 0],.int .i64 n] w fun e w'=>e=.returned (.int .i64 r)∧Below w.heap.size w w':=by
 subst hr hm
 obtain⟨nm,TA,tc,ae,er,rt⟩:=t
 obtain⟨b5,o5,rfl,hb5,hc5⟩:=ht.1.get hn
 obtain⟨t0,t1,t2,t3⟩:=Tab.fV hc5
 rw[htn]at t0 t1 t2 t3
 simp only at t0 t1 t2 t3
 have hst:=(hs.tabs ts[n] (lgm hn))
 rw[htn]at hst
 have hcl:ae.length≤1000000:=hst.len
 have HT:=qh ht
 have HNE:=qh hne
 have HTN:=qh htn
 have HS:=qh hs
 clear ht hne htn hs hc5 hst
 go_enter Tryz.func138,Tryz.ntmps138
 go_upto_region 2 with (fail)
 refine ah (P:=fun u=>Code.wp _ _ _ _ u) (R:=fun u=>Blk u w.heap.size 33 #[.slice (some ⟨b5,o5,none⟩) ts.length c,.slice none 0 0,.slice none 0 0,.slice none 0 0,.slice none 0 0,.slice none 0 0,.slice none 0 0,.slice none 0 0]∧Blk u (w.heap.size+1) 61 #[.string nm,.slice TA ae.length tc,.int .i64 er,.int .i64 rt]∧Below w.heap.size w u) ⟨?_,?_,?_⟩ ?_
 ·exact(Blk.new _ _ _).alloc _
 ·exact Blk.new' spA
 ·exact ai
 clear t0 t1 t2 t3
 rintro W ⟨hBC,hBT,hbW⟩
 have hz1:=hBC.lt
 have hz2:=hBT.lt
 have HBC:=qh hBC
 have HBT:=qh hBT
 obtain⟨p0,p1,p2,p3,p4,p5,p6,p7⟩:=Cat.blk hBC
 obtain⟨q0,q1,q2,q3⟩:=Tab.blk hBT
 clear hBC hBT
 go_cut [29] (fun v wc=>v=.bool (!kC ⟨nm,TA,tc,ae,er,rt⟩)∧W=wc)
 case first =>
  obtain⟨n1,hn1⟩:∃r,aB ae.length 1 8=r:=⟨_,rfl⟩
  obtain⟨n2,hn2⟩:∃r,aB er 0 1=r:=⟨_,rfl⟩
  obtain⟨n3,hn3⟩:∃r,aB rt 0 1048576=r:=⟨_,rfl⟩
  have hb:kC ⟨nm,TA,tc,ae,er,rt⟩=((n1&&n2)&&n3):=by rw[kC,hn1,hn2,hn3]
  have HB:=qh hb
  have H1:=qh hn1
  have H2:=qh hn2
  have H3:=qh hn3
  clear hb hn1 hn2 hn3
  cases n1
  ·go_wp2_with (go_at_call 172;(first|(with_reducible refine(aX _ 1 8 _ H1.out).mono ?_)|(with_reducible refine(aX er 0 1 _ H2.out).mono ?_)|(with_reducible refine(aX rt 0 1048576 _ H3.out).mono ?_));rintro e w1 ⟨rfl,rfl⟩)
   go_meet
   exact⟨by rw[HB.out];first|rfl|simp,rfl⟩
  ·cases n2
   ·go_wp2_with (go_at_call 172;(first|(with_reducible refine(aX _ 1 8 _ H1.out).mono ?_)|(with_reducible refine(aX er 0 1 _ H2.out).mono ?_)|(with_reducible refine(aX rt 0 1048576 _ H3.out).mono ?_));rintro e w1 ⟨rfl,rfl⟩)
    go_meet
    exact⟨by rw[HB.out];first|rfl|simp,rfl⟩
   ·cases n3
    ·go_wp2_with (go_at_call 172;(first|(with_reducible refine(aX _ 1 8 _ H1.out).mono ?_)|(with_reducible refine(aX er 0 1 _ H2.out).mono ?_)|(with_reducible refine(aX rt 0 1048576 _ H3.out).mono ?_));rintro e w1 ⟨rfl,rfl⟩)
     go_meet
     exact⟨by rw[HB.out];first|rfl|simp,rfl⟩
    ·go_wp2_with (go_at_call 172;(first|(with_reducible refine(aX _ 1 8 _ H1.out).mono ?_)|(with_reducible refine(aX er 0 1 _ H2.out).mono ?_)|(with_reducible refine(aX rt 0 1048576 _ H3.out).mono ?_));rintro e w1 ⟨rfl,rfl⟩)
     go_meet
     exact⟨by rw[HB.out];first|rfl|simp,rfl⟩
 case rest =>
  obtain⟨rfl,rfl⟩:=hcut
  cases hsh:kC ⟨nm,TA,tc,ae,er,rt⟩
  ·have HSH:=qh hsh
   clear hsh
   go_wp2_with fail
   go_ret
   exact⟨aS (by rw[jC,if_neg (by rw[HSH.out];decide)]),hbW⟩
  ·have HSH:=qh hsh
   clear hsh
   go_wp2_with fail
   go_loopw [6] (fun vi wr =>∃k:Nat,k≤ae.length∧vi=.int .i64 k∧Below W.heap.size W wr∧(∀i,i<k→qg ts n ⟨nm,TA,tc,ae,er,rt⟩ i=0)) (fun vi _=>ae.length-(intOf vi).toNat)
   case atStart=>exact⟨0,Nat.zero_le _,rfl,Below.refl _ _,fun i h=>by omega⟩
   case round =>
    obtain⟨k,hk,rfl,hbr,hno⟩:=hrel
    have HNO:=qh hno
    have hwz:=hbr.size
    have hxr:=aa hbW hbr hbW.size
    clear hno p0 p1 p2 p3 p4 p5 p6 p7 q0 q1 q2 q3
    obtain⟨p0,p1,p2,p3,p4,p5,p6,p7⟩:=Cat.blk (HBC.out.below hbr hz1)
    obtain⟨q0,q1,q2,q3⟩:=Tab.blk (HBT.out.below hbr hz2)
    by_cases hlt:k<ae.length
    ·have hce:qg ts n ⟨nm,TA,tc,ae,er,rt⟩ k=df ts ae er rt n k ae[k]:=by unfold qg;simp only[List.getElem?_eq_getElem hlt]
     by_cases he:df ts ae er rt n k ae[k]=0
     ·have HE:=qh he
      have HCE:=qh hce
      clear he hce
      go_wp2_with (go_at_call 173;(with_reducible refine(tT (some ⟨b5,o5,none⟩) c ts n k nm TA tc ae er rt ae[k] _ (HT.out.next hxr) HS.out hn HTN.out hlt (by rfl) HNE.out HE.out).mono ?_);rintro e w1 ⟨rfl,hb1⟩)
      go_roundw
      case rel =>
       (repeat apply Exists.intro)
       refine⟨?_,rfl⟩
       exact⟨k+1,by omega,by go_num,aa hbr hb1 hwz,fun i hi=>by
        rcases Nat.lt_or_ge i k with h1|h1
        ·exact HNO.out i h1
        ·obtain rfl:i=k:=by omega
         rw[HCE.out,HE.out]⟩
      case measure=>exact meA
     ·have he':(df ts ae er rt n k ae[k] != 0)=true:=by simpa using he
      obtain⟨ce,RH⟩:∃ce,df ts ae er rt n k ae[k]=ce:=⟨_,rfl⟩
      rw[RH]at he he' hce
      have YX:=qh RH
      have HCE:=qh hce
      have HE:=qh he
      clear RH hce he
      go_wp2_with (go_at_call 173;(with_reducible refine(tT (some ⟨b5,o5,none⟩) c ts n k nm TA tc ae er rt ae[k] _ (HT.out.next hxr) HS.out hn HTN.out hlt (by rfl) HNE.out YX.out).mono ?_);rintro e w1 ⟨rfl,hb1⟩)
      go_ret
      refine⟨aS ?_,aa hxr hb1 hxr.size⟩
      rw[jC,if_pos HSH.out,wE HNO.out (by rw[HCE.out];exact HE.out) hlt,HCE.out]
    ·have hlt':decide (k<ae.length)=false:=by simpa using hlt
     go_wp2_with fail
     go_ret
     refine⟨aS ?_,hxr⟩
     rw[jC,if_pos HSH.out,iR fun i hi=>HNO.out i (by simp only at hi;omega)]
structure Qk (ts:List Tab) (i:Nat) (h:i<ts.length):Prop where
 name:eY ts[i].name=true
 fresh:∀k (hk:k<i),ts[k].name≠ts[i].name
 form:jC ts i ts[i]=0
structure aN (ts:List Tab):Prop where
 len:ts.length≤8
 tab:∀i (h:i<ts.length),Qk ts i h
theorem nP{ts:List Tab}{n:Nat}{t:Tab}(h:jC ts n t=0):kC t=true:=by
 unfold jC at h
 split at h
 ·rename_i hh
  exact hh
 ·cases h
theorem xH{t:Tab}(h:kC t=true):0<t.ae.length∧t.ae.length≤8:=by
 simp only[kC,aB,Bool.and_eq_true,decide_eq_true_eq]at h
 omega
theorem Wy(ts:Array TypeId)(t:TypeId)(w:World):(Builtin.max_ ts t #[.int .i64 0,.int .i64 0,.int .i64 0,.int .i64 0,.int .i64 0,.int .i64 0]).run Tryz.prog w=.ok (.int .i64 0) w:=by
 simp[Builtin.max_,Builtin.max2]
theorem CJ(A:Option Addr)(c m:Nat)(ts:List Tab)(w:World)(ht:aF w w.heap.size A ts)(hm:ts.length=m)(hs:aM ts):
 Calls Tryz.prog 110 #[.agg #[.slice A m c,.slice none 0 0,.slice none 0 0,.slice none 0 0,.slice none 0 0,.slice none 0 0,.slice none 0 0,.slice none 0 0]] w fun e w' =>
  (∃i k:Int,e=.returned (.tuple #[.int .i64 i,.int .i64 k])∧(k=0↔aN ts))∧Below w.heap.size w w':=by
 subst hm
 have hlen:=hs.len
 have HT:=qh ht
 have HT1:=qh ht.1
 have HS:=qh hs
 clear ht hs
 by_cases h8:8<ts.length
 ·have h8':decide (8<ts.length)=true:=by simpa using h8
  have HNO:Hid (¬ aN ts):=qh fun h=>by have:=h.len;omega
  go_enter Tryz.func110,Tryz.ntmps110
  go_wp2_with fail
  go_ret2
  exact⟨⟨0,8,rfl,fun h=>by omega,fun h=>absurd h HNO.out⟩,by exact ai⟩
 have h8':decide (8<ts.length)=false:=by simpa using h8
 have hmx:=Wy
 go_enter Tryz.func110,Tryz.ntmps110
 go_wp2_with fail
 (with_reducible refine(wh A c ts.length ts _ (HT1.out.next ai) rfl hlen).mono ?_)
 rintro e W ⟨⟨A1,c1,rfl,hs1⟩,hb1⟩
 have hbW:Below w.heap.size w W:=aa ai hb1 leA
 have hB:Blk W w.heap.size 33 #[.slice A ts.length c,.slice none 0 0,.slice none 0 0,.slice none 0 0,.slice none 0 0,.slice none 0 0,.slice none 0 0,.slice none 0 0]:=(Blk.new _ _ _).below hb1 spA
 have hzW:=hB.lt
 have HB:=qh hB
 obtain⟨nl,hnl⟩:∃nl,ts.map Tab.name=nl:=⟨_,rfl⟩
 have Ms:nl.length=ts.length:=by rw[←hnl,List.length_map]
 have Us:∀i (h:i<nl.length) (h':i<ts.length),nl[i]=ts[i].name:=fun i h h'=>by simp only[←hnl,List.getElem_map]
 rw[hnl]at hs1
 have HN:=qh Ms
 have HG:=qh Us
 have HS1:=qh hs1
 clear hB hs1 hnl Ms Us hb1 h8'
 go_wp2_with fail
 go_loopw [5] (fun vi wr =>∃m:Nat,m≤ts.length∧vi=.int .i64 m∧Below W.heap.size W wr∧(∀i (h:i<ts.length),i<m→Qk ts i h)) (fun vi _=>ts.length-(intOf vi).toNat)
 case atStart=>exact⟨0,Nat.zero_le _,rfl,Below.refl _ _,fun i _ h=>by omega⟩
 case round =>
  obtain⟨m,hm,rfl,hbr,hok⟩:=hrel
  have HOK:=qh hok
  have hwz:=hbr.size
  have hxr:=aa hbW hbr hbW.size
  obtain⟨p0,p1,p2,p3,p4,p5,p6,p7⟩:=Cat.blk (HB.out.below hbr hzW)
  clear hok
  by_cases hlt:m<ts.length
  ·have Bv:m<nl.length:=by have:=HN.out;omega
   obtain⟨b5,o5,rfl,hb5,hc5⟩:=(HS1.out.next hbr).get Bv
   have x0:=hc5 0 _ rfl
   simp only[Nat.mul_one,Nat.add_zero]at x0
   have hsz:nl[m].size≤1000000:=by rw[HG.out m Bv hlt];exact(HS.out.tabs ts[m] (lgm hlt)).name
   clear hc5
   cases hnb:eY nl[m]
   ·have HNB:=qh hnb
    have HNO:Hid (¬ aN ts):=qh fun h=>by have:=(h.tab m hlt).name;rw[←HG.out m Bv hlt,hnb]at this;cases this
    clear hnb
    go_wp2_with (go_at_call 137;(with_reducible refine(bF nl[m] _ hsz HNB.out).mono ?_);rintro e w1 ⟨rfl,rfl⟩)
    go_ret2
    exact⟨⟨m,3,rfl,fun h=>by omega,fun h=>absurd h HNO.out⟩,hxr⟩
   ·have HNB:=qh hnb
    clear hnb
    go_wp2_with (go_at_call 137;(with_reducible refine(bF nl[m] _ hsz HNB.out).mono ?_);rintro e w1 ⟨rfl,rfl⟩)
    obtain⟨wo,rfl⟩:∃wo:World,wo=wr:=⟨_,rfl⟩
    go_loopw [6] (fun vk wi =>∃k:Nat,k≤m∧vk=.int .i64 k∧Below wo.heap.size wo wi∧(∀i (h:i<nl.length),i<k→nl[i]≠nl[m])) (fun vk _=>m-(intOf vk).toNat)
    case atStart=>exact⟨0,Nat.zero_le _,rfl,Below.refl _ _,fun i _ h=>by omega⟩
    case round =>
     obtain⟨k,hk,rfl,hbi,hno⟩:=hrel
     have HNO:=qh hno
     have hyi:=aa hbr hbi hwz
     have hxi:=aa hxr hbi hxr.size
     have hiz:=hbi.size
     have x1:=((bN hbi b5 omA).1 _).trans x0
     clear hno p0 p1 p2 p3 p4 p5 p6 p7
     obtain⟨p0,p1,p2,p3,p4,p5,p6,p7⟩:=Cat.blk (HB.out.below hyi hzW)
     by_cases hkm:k<m
     ·have hkn:k<nl.length:=by omega
      obtain⟨b6,o6,hbe,hb6,hc6⟩:=((HS1.out.next hbr).next hbi).get hkn
      injection hbe with hbe
      injection hbe with vF vE
      subst vF vE
      have y0:=hc6 0 _ rfl
      simp only[Nat.mul_one,Nat.add_zero]at y0
      have hk0:=az (w:=wr) b5 omA
      clear hc6 x0
      by_cases he:nl[k]=nl[m]
      ·have he':=KQ he
       have HBAD:Hid (¬ aN ts):=qh fun h=>(h.tab m hlt).fresh k hkm (by rw[←HG.out k hkn omA,he,HG.out m Bv hlt])
       clear he
       go_upto_region 12 with (fail)
       refine af krA krA ?_;(repeat(go_big_quiet_step (fail)));refine wpQuiet_nil ?_;intro wq hq
       go_wp2_with fail
       go_ret2
       exact⟨⟨m,4,rfl,fun h=>by omega,fun h=>absurd h HBAD.out⟩,aa hxi hq hxi.size⟩
      ·have he':=Hr he
       have NI:=qh he
       clear he
       go_upto_region 12 with (fail)
       refine af krA krA ?_;(repeat(go_big_quiet_step (fail)));refine wpQuiet_nil ?_;intro wq hq
       clear he' hk0 y0
       go_wp2_with fail
       go_roundw
       case rel=>exact⟨k+1,by omega,by go_num,aa hbi hq hiz,fun i h hi=>by
        rcases Nat.lt_or_ge i k with h1|h1
        ·exact HNO.out i h h1
        ·obtain rfl:i=k:=by omega
         exact NI.out⟩
       case measure=>exact meA
     ·have Xp:decide (k<m)=false:=by simpa using hkm
      have hne:∀k (h:k<ts.length),k<m→0<ts[k].ae.length:=fun k h hk=>(xH (nP (HOK.out k h hk).form)).1
      have HNE:=qh hne
      have hfr:∀k (hk:k<m),ts[k].name≠ts[m].name:=fun j hj e=>HNO.out j omA omA (by rw[HG.out j omA omA,e,HG.out m Bv hlt])
      have HFR:=qh hfr
      obtain⟨te,hte⟩:∃te,jC ts m ts[m]=te:=⟨_,rfl⟩
      have HTE:=qh hte
      clear hne hfr hte
      by_cases he:te=0
      ·subst he
       go_wp2_with (go_at_call 138;(with_reducible refine(mV A c ts.length ts m ts[m] _ (HT.out.next hxi) rfl HS.out hlt (by rfl) HNE.out HTE.out).mono ?_);rintro e w1 ⟨rfl,hb1⟩)
       clear Xp
       go_roundw
       case rel=>exact⟨m+1,by omega,by go_num,aa hyi hb1 hyi.size,fun i h hi=>by
        rcases Nat.lt_or_ge i m with h1|h1
        ·exact HOK.out i h h1
        ·obtain rfl:i=m:=by omega
         exact⟨by rw[←HG.out i Bv hlt];exact HNB.out,HFR.out,HTE.out⟩⟩
       case measure=>exact meA
      ·have he':(te != 0)=true:=by simpa using he
       have HBAD:Hid (¬ aN ts):=qh fun h=>he (by rw[←HTE.out];exact(h.tab m hlt).form)
       have HE0:=qh he
       clear he
       go_wp2_with (go_at_call 138;(with_reducible refine(mV A c ts.length ts m ts[m] _ (HT.out.next hxi) rfl HS.out hlt (by rfl) HNE.out HTE.out).mono ?_);rintro e w1 ⟨rfl,hb1⟩)
       go_ret2
       exact⟨⟨m,te,rfl,fun h=>absurd h HE0.out,fun h=>absurd h HBAD.out⟩,aa hxi hb1 hxi.size⟩
  ·have hlt':decide (m<ts.length)=false:=by simpa using hlt
   have lH:Hid (aN ts):=qh ⟨by omega,fun i h=>HOK.out i h omA⟩
   go_wp2_with fail
   go_ret2
   exact⟨⟨0,0,rfl,fun _=>lH.out,fun _=>rfl⟩,hxr⟩
theorem jX(A:Option Addr)(c m:Nat)(ts:List Tab)(w:World)(ht:aF w w.heap.size A ts)(hm:ts.length=m)(hs:aM ts){r:Bool}(hr:pb (aN ts)=r):
 Calls Tryz.prog 66 #[.agg #[.slice A m c,.slice none 0 0,.slice none 0 0,.slice none 0 0,.slice none 0 0,.slice none 0 0,.slice none 0 0,.slice none 0 0]] w fun e w' =>
  e=.returned (.bool r)∧Below w.heap.size w w':=by
 subst hr
 have HT:=qh ht
 have HS:=qh hs
 clear ht hs
 go_enter Tryz.func66,Tryz.ntmps66
 go_wp2_with fail
 (with_reducible refine(CJ A c m ts _ (HT.out.next ai) hm HS.out).mono ?_)
 rintro e w1 ⟨⟨i,k,rfl,hk⟩,hb1⟩
 have HK:=qh hk
 clear hk
 go_wp2_with fail
 go_ret
 refine⟨ax ?_,aa ai hb1 leA⟩
 rw[Bool.eq_iff_iff,nY,←HK.out]
 simp
end Go.Proofs.YtjidligipoldeaaGreat
