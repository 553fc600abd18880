/-
  Contracts and plain laws of this seat, part 5.
-/
import Derived.Test.YtjhnpnhpmdkpcaaGreatD2
set_option linter.unusedVariables false
set_option linter.unusedSimpArgs false
set_option maxRecDepth 100000
set_option maxHeartbeats 16000000
namespace Go.Proofs.YtjhnpnhpmdkpcaaGreat
open Go.RowKit
theorem eC{P:Prop}(h:P:=by simpa using he):P:=h
structure Col where
 name:ByteArray
 ty:Int
 ns:ByteArray
 refs:ByteArray
 A:Option Addr
 cap:Nat
 own:List Int
 joint:Int
 gP:Int
structure Tab where
 name:ByteArray
 A:Option Addr
 cap:Nat
 ae:List Col
 erase:Int
 jE:Int
def Col.cells(x:Col):List Value:= [.string x.name,.int .i64 x.ty,.string x.ns,.string x.refs,.slice x.A x.own.length x.cap,.int .i64 x.joint,.int .i64 x.gP]
def Tab.cells(x:Tab):List Value:= [.string x.name,.slice x.A x.ae.length x.cap,.int .i64 x.erase,.int .i64 x.jE]
def strCells(x:ByteArray):List Value:= [.string x]
theorem fQ:∀x:Col,(Col.cells x).length=7:=fun _=>rfl
theorem jW:∀x:Tab,(Tab.cells x).length=4:=fun _=>rfl
theorem kK:∀x:ByteArray,(strCells x).length=1:=fun _=>rfl
theorem Qa:∀x:Col,∀u∈Col.cells x,u.oneCell'=true:=by
 intro x u hu
 simp only[Col.cells,List.mem_cons,List.not_mem_nil,or_false]at hu
 rcases hu with rfl|rfl|rfl|rfl|rfl|rfl|rfl<;>rfl
theorem qy:∀x:Tab,∀u∈Tab.cells x,u.oneCell'=true:=by
 intro x u hu
 simp only[Tab.cells,List.mem_cons,List.not_mem_nil,or_false]at hu
 rcases hu with rfl|rfl|rfl|rfl<;>rfl
theorem lY:∀x:ByteArray,∀u∈strCells x,u.oneCell'=true:=by
 intro x u hu
 simp only[strCells,List.mem_cons,List.not_mem_nil,or_false]at hu
 subst hu
 rfl
theorem Pf:(Tryz.prog.info? 73).map (fun i=>(i.zero,i.size,i.bytes))=some (some (.agg #[.string ⟨#[]⟩,.int .i64 0,.string ⟨#[]⟩,.string ⟨#[]⟩,.slice none 0 0,.int .i64 0,.int .i64 0]),7,96):=by kernel_rfl
theorem O8:(Tryz.prog.info? 71).map (fun i=>(i.zero,i.size,i.bytes))=some (some (.agg #[.string ⟨#[]⟩,.slice none 0 0,.int .i64 0,.int .i64 0]),4,56):=by kernel_rfl
theorem Il:(Tryz.prog.info? 9).map (fun i=>(i.zero,i.size,i.bytes))=some (some (.string ⟨#[]⟩),1,16):=by kernel_rfl
theorem Col.dO{w:World}{b o:Nat}{x:Col}(h:∀j u,x.cells[j]?=some u→w.cell? ⟨b,o+j,none⟩=some u):
 w.cell? ⟨b,o,none⟩=some (.string x.name)∧w.cell? ⟨b,o+1,none⟩=some (.int .i64 x.ty)∧w.cell? ⟨b,o+2,none⟩=some (.string x.ns)∧w.cell? ⟨b,o+3,none⟩=some (.string x.refs)∧w.cell? ⟨b,o+4,none⟩=some (.slice x.A x.own.length x.cap)∧w.cell? ⟨b,o+5,none⟩=some (.int .i64 x.joint)∧w.cell? ⟨b,o+6,none⟩=some (.int .i64 x.gP):=
 ⟨h 0 _ rfl,h 1 _ rfl,h 2 _ rfl,h 3 _ rfl,h 4 _ rfl,h 5 _ rfl,h 6 _ rfl⟩
theorem Tab.fD{w:World}{b o:Nat}{x:Tab}(h:∀j u,x.cells[j]?=some u→w.cell? ⟨b,o+j,none⟩=some u):
 w.cell? ⟨b,o,none⟩=some (.string x.name)∧w.cell? ⟨b,o+1,none⟩=some (.slice x.A x.ae.length x.cap)∧w.cell? ⟨b,o+2,none⟩=some (.int .i64 x.erase)∧w.cell? ⟨b,o+3,none⟩=some (.int .i64 x.jE):=
 ⟨h 0 _ rfl,h 1 _ rfl,h 2 _ rfl,h 3 _ rfl⟩
theorem Col.blk{w:World}{g:Nat}{a b c d e f g':Value}(k:Blk w g 73 #[a,b,c,d,e,f,g']):
 w.cell? ⟨g,0,none⟩=some a∧w.cell? ⟨g,1,none⟩=some b∧w.cell? ⟨g,2,none⟩=some c∧w.cell? ⟨g,3,none⟩=some d∧w.cell? ⟨g,4,none⟩=some e∧w.cell? ⟨g,5,none⟩=some f∧w.cell? ⟨g,6,none⟩=some g':=
 ⟨k.cell 0,k.cell 1,k.cell 2,k.cell 3,k.cell 4,k.cell 5,k.cell 6⟩
theorem Tab.blk{w:World}{g:Nat}{a b c d:Value}(k:Blk w g 71 #[a,b,c,d]):
 w.cell? ⟨g,0,none⟩=some a∧w.cell? ⟨g,1,none⟩=some b∧w.cell? ⟨g,2,none⟩=some c∧w.cell? ⟨g,3,none⟩=some d:=⟨k.cell 0,k.cell 1,k.cell 2,k.cell 3⟩
def iK(w:World)(B:Nat)(A:Option Addr)(ae:List Col):Prop:=ag w B Col.cells 7 A ae ∧ ∀x∈ae,ag w B intCells 1 x.A x.own
def aI(w:World)(B:Nat)(A:Option Addr)(ts:List Tab):Prop:=ag w B Tab.cells 4 A ts ∧ ∀t∈ts,iK w B t.A t.ae
theorem iK.below{w w':World}{B:Nat}{A:Option Addr}{ae:List Col}(h:iK w B A ae)(hb:Below B w w'):iK w' B A ae:=⟨h.1.below hb,fun x hx=>(h.2 x hx).below hb⟩
theorem iK.mono{w:World}{B B':Nat}{A:Option Addr}{ae:List Col}(h:iK w B A ae)(hb:B≤B'):iK w B' A ae:=⟨h.1.mono hb,fun x hx=>(h.2 x hx).mono hb⟩
theorem aI.below{w w':World}{B:Nat}{A:Option Addr}{ts:List Tab}(h:aI w B A ts)(hb:Below B w w'):aI w' B A ts:=⟨h.1.below hb,fun x hx=>(h.2 x hx).below hb⟩
theorem aI.mono{w:World}{B B':Nat}{A:Option Addr}{ts:List Tab}(h:aI w B A ts)(hb:B≤B'):aI w B' A ts:=⟨h.1.mono hb,fun x hx=>(h.2 x hx).mono hb⟩
theorem aI.next{w w':World}{A:Option Addr}{ts:List Tab}(h:aI w w.heap.size A ts)(hb:Below w.heap.size w w'):aI w' w'.heap.size A ts:=(h.below hb).mono hb.size
structure CL (x:Col):Prop where
 name:x.name.size≤1000000
 ns:x.ns.size≤1000000
 refs:x.refs.size≤1000000
 own:x.own.length≤1000000
structure Iz (t:Tab):Prop where
 name:t.name.size≤1000000
 len:t.ae.length≤1000000
 cap:t.ae.length≤t.cap
 ae:∀x∈t.ae,CL x
structure aL (ts:List Tab):Prop where
 len:ts.length≤1000000
 tabs:∀t∈ts,Iz t
theorem Cat.blk{w:World}{g:Nat}{A:Option Addr}{c n:Nat}(k:Blk w g 34 #[.slice A n c,.slice none 0 0,.slice none 0 0,.slice none 0 0,.slice none 0 0,.slice none 0 0,.slice none 0 0,.slice none 0 0]):
 w.cell? ⟨g,0,none⟩=some (.slice A n c)∧w.cell? ⟨g,1,none⟩=some (.slice none 0 0)∧w.cell? ⟨g,2,none⟩=some (.slice none 0 0)∧w.cell? ⟨g,3,none⟩=some (.slice none 0 0)∧w.cell? ⟨g,4,none⟩=some (.slice none 0 0)∧w.cell? ⟨g,5,none⟩=some (.slice none 0 0)∧w.cell? ⟨g,6,none⟩=some (.slice none 0 0)∧w.cell? ⟨g,7,none⟩=some (.slice none 0 0):=
 ⟨k.cell 0,k.cell 1,k.cell 2,k.cell 3,k.cell 4,k.cell 5,k.cell 6,k.cell 7⟩
theorem IP{a b:ByteArray}(h:a=b):(a.toList==b.toList)=true:=by rw[h];simp
theorem IQ{a b:ByteArray}(h:a≠b):(a.toList==b.toList)=false:=by rw[beq_eq_false_iff_ne];exact fun e=>h (qm e)
def findA(s:ByteArray):List ByteArray→Nat→Nat→Int
 | [],_,_ => -1
 | _::_,0,_ => -1
 | x::l,n+1,k=>if x=s then (k:Int) else findA s l n (k+1)
def ib(l:List ByteArray)(s:ByteArray)(n:Int):Int:=findA s l n.toNat 0
theorem Ey{s:ByteArray}:∀ {l:List ByteArray}{n k m:Nat}(h:m<l.length),m<n→l[m]=s→(∀i (h:i<l.length),i<m→l[i]≠s)→findA s l n k=((k+m:Nat):Int)
 | x::l,n + 1,k,0,_,_,he,_=>by
   simp only[findA]
   rw[if_pos eC]
   rfl
 | x::l,n + 1,k,m + 1,h,hn,he,hno=>by
   have h0:x≠s:=hno 0 spA omA
   simp only[findA]
   rw[if_neg h0,Ey (m:=m) (by simpa using h) omA eC (fun i hi him=>hno (i+1) (by simpa using hi) omA)]
   omega
theorem za{s:ByteArray}:∀ {l:List ByteArray}{n k:Nat},(∀i (h:i<l.length),i<n→l[i]≠s)→findA s l n k=-1
 | [],_,_,_=>by simp[findA]
 | _::_,0,_,_=>by simp[findA]
 | x::l,n + 1,k,h=>by
   have h0:x≠s:=h 0 spA omA
   simp only[findA]
   rw[if_neg h0,za (fun i hi hin=>h (i+1) (by simpa using hi) omA)]
theorem yY{l:List ByteArray}{s:ByteArray}{n:Int}{m:Nat}(h:m<l.length)(hn:(m:Int)<n)(he:l[m]=s)(hno:∀i (h:i<l.length),i<m→l[i]≠s):ib l s n=(m:Int):=by
 rw[ib,Ey h omA he hno,Nat.zero_add]
theorem jP{l:List ByteArray}{s:ByteArray}{n:Int}(h:∀i (h:i<l.length),(i:Int)<n→l[i]≠s):ib l s n=-1:=za fun i hi hin=>h i hi omA
theorem ja{l:List ByteArray}{s:ByteArray}{n:Int}(h:0≤ib l s n):∃m:Nat,∃hm:m<l.length,ib l s n=(m:Int)∧(m:Int)<n∧l[m]=s:=by
 refine Classical.byContradiction fun hc =>?_
 have hno:∀i (h:i<l.length),(i:Int)<n→l[i]≠s:=by
  intro i
  induction i using Nat.strongRecOn with
  | ind i ih =>
    intro hi hin he
    exact hc ⟨i,hi,yY hi hin he (fun j hj hji=>ih j hji hj omA),hin,he⟩
 rw[jP hno]at h
 omega
def az(n a b:Int):Bool:=decide (a≤n)&&decide (n≤b)
theorem aC(x a b:Int)(w:World){r:Bool}(hr:az x a b=r):Calls Tryz.prog 127 #[.int .i64 x,.int .i64 a,.int .i64 b] w fun e w'=>e=.returned (.bool r)∧w=w':=by
 subst hr
 cases h1:decide (a≤x)
 ·go_enter Tryz.func127,Tryz.ntmps127
  go_wp2_with fail
  go_ret
  exact⟨av (by simp[az,h1]),rfl⟩
 ·cases h2:decide (x≤b)
  ·go_enter Tryz.func127,Tryz.ntmps127
   go_wp2_with fail
   go_ret
   exact⟨av (by simp[az,h1,h2]),rfl⟩
  ·go_enter Tryz.func127,Tryz.ntmps127
   go_wp2_with fail
   go_ret
   exact⟨av (by simp[az,h1,h2]),rfl⟩
theorem Ao(A:Option Addr)(c n:Nat)(l:List Int)(x:Int)(w:World)(hl:ag w w.heap.size intCells 1 A l)(hln:l.length=n)(hn:n≤1000000){r:Bool}(hr:decide (x∈l)=r):
 Calls Tryz.prog 174 #[.slice A n c,.int .i64 x] w fun e w'=>e=.returned (.bool r)∧w=w':=by
 subst hln hr
 have HL:=qh hl
 clear hl
 go_enter Tryz.func174,Tryz.ntmps174
 go_wp2_with fail
 go_loopw [5] (fun vi wr =>∃m:Nat,m≤l.length∧vi=.int .i64 m∧w=wr∧(∀i (h:i<l.length),i<m→l[i]≠x)) (fun vi _=>l.length-(intOf vi).toNat)
 case atStart=>exact⟨0,Nat.zero_le _,rfl,rfl,fun i _ h=>by omega⟩
 case round =>
  obtain⟨m,hm,rfl,rfl,hok⟩:=hrel
  have HOK:=qh hok
  clear hok
  by_cases hlt:m<l.length
  ·obtain⟨b5,o5,rfl,hb5,hc5⟩:=HL.out.get hlt
   have x0:=hc5 0 _ rfl
   simp only[Nat.mul_one,Nat.add_zero]at x0
   clear hc5
   cases he:(l[m]==x)
   ·have HE:Hid (l[m]≠x):=qh eC
    go_wp2_with fail
    clear he
    go_roundw
    case rel=>exact⟨m+1,by omega,by go_num,trivial,fun i h hi=>by
     rcases Nat.lt_or_ge i m with h1|h1
     ·exact HOK.out i h h1
     ·obtain rfl:i=m:=by omega
      exact HE.out⟩
    case measure=>exact meA
   ·have HE:Hid (x∈l):=qh (by have h:l[m]=x:=eC;rw[←h];exact lgm hlt)
    go_wp2_with fail
    go_ret
    exact⟨av (by symm;rw[decide_eq_true_iff];exact HE.out),rfl⟩
  ·have hlt':decide (m<l.length)=false:=by simpa using hlt
   go_wp2_with fail
   go_ret
   refine⟨av ?_,rfl⟩
   symm
   rw[decide_eq_false_iff_not]
   intro h
   obtain⟨i,hi,rfl⟩:=List.getElem_of_mem h
   exact HOK.out i hi omA rfl
def bK(ts:List Tab)(s:ByteArray)(n:Int):Int:=ib (ts.map Tab.name) s (min n ts.length)
theorem vE{a:ByteArray}(h:a=⟨#[]⟩):a.toList.isEmpty=true:=by rw[h];simp
theorem qg{a:ByteArray}(h:a≠⟨#[]⟩):a.toList.isEmpty=false:=by
 rw[Bool.eq_false_iff]
 intro e
 rw[List.isEmpty_iff]at e
 exact h (qm (by rw[e];simp))
noncomputable def pb(p:Prop):Bool:= @decide p (Classical.propDecidable p)
theorem aY{p:Prop}(h:p):pb p=true:=by unfold pb;exact @decide_eq_true p (Classical.propDecidable p) h
theorem aQ{p:Prop}(h:¬ p):pb p=false:=by unfold pb;exact @decide_eq_false p (Classical.propDecidable p) h
theorem jH{p:Prop}:pb p=true↔p:=by
 by_cases hp:p
 ·rw[aY hp]
  exact⟨fun _=>hp,fun _=>rfl⟩
 ·rw[aQ hp]
  exact⟨fun h=>by(cases h),fun h=>absurd h hp⟩
def Ow(l:List Int)(m:Nat)(j:Int):Prop:= 0<m→∀h1:m-1<l.length,l[m-1]<j
structure OwnAt (ae:List Col) (l:List Int) (i:Nat) (h:i<l.length):Prop where
 lo:0≤l[i]
 hi:l[i].toNat<ae.length
 asc:∀h0:0<i,l[i-1]<l[i]
 some_:¬ (ae[l[i].toNat].ns=⟨#[]⟩∧ae[l[i].toNat].refs=⟨#[]⟩)
def fT(ae:List Col)(l:List Int):Prop:= ∀i (h:i<l.length),OwnAt ae l i h
theorem BD(nm:ByteArray)(TA:Option Addr)(tc:Nat)(ae:List Col)(er rt:Int)(cn:Nat)(A:Option Addr)(c n:Nat)(l:List Int)(w:World)(ht:ag w w.heap.size Col.cells 7 TA ae)(hcn:ae.length=cn)(hl:ag w w.heap.size intCells 1 A l)(hln:l.length=n)(hn:n≤1000000)(hc:cn≤1000000){r:Bool}(hr:pb (fT ae l)=r):
 Calls Tryz.prog 173 #[.agg #[.string nm,.slice TA cn tc,.int .i64 er,.int .i64 rt],.slice A n c] w fun e w'=>e=.returned (.bool r)∧Below w.heap.size w w':=by
 subst hln hcn hr
 have HT:=qh ht
 have HL:=qh hl
 clear ht hl
 go_enter Tryz.func173,Tryz.ntmps173
 go_upto_region 1 with (fail)
 refine ah (P:=fun u=>Code.wp _ _ _ _ u) (R:=fun u=>Blk u w.heap.size 71 #[.string nm,.slice TA ae.length tc,.int .i64 er,.int .i64 rt]∧Below w.heap.size w u) ⟨?_,?_⟩ ?_
 ·exact Blk.new _ _ _
 ·exact ai
 rintro W ⟨hB,hbW⟩
 have hzW:=hB.lt
 have HB:=qh hB
 clear hB
 go_wp2_with fail
 go_loopw [5] (fun vi wr =>∃m:Nat,m≤l.length∧vi=.int .i64 m∧Below W.heap.size W wr∧(∀i (h:i<l.length),i<m→OwnAt ae l i h)) (fun vi _=>l.length-(intOf vi).toNat)
 case atStart=>exact⟨0,Nat.zero_le _,rfl,Below.refl _ _,fun i _ h=>by omega⟩
 case round =>
  obtain⟨m,hm,rfl,hbr,hok⟩:=hrel
  have HOK:=qh hok
  have hwz:=hbr.size
  have hxr:=aa hbW hbr hbW.size
  have hzr:=hxr.size
  obtain⟨q0,q1,q2,q3⟩:=Tab.blk (HB.out.below hbr hzW)
  clear hok
  by_cases hlt:m<l.length
  ·obtain⟨b5,o5,rfl,hb5,hc5⟩:=(HL.out.below hxr).get hlt
   have x0:=hc5 0 _ rfl
   simp only[Nat.mul_one,Nat.add_zero]at x0
   have hk0:=aF (w:=wr) b5 omA
   have hk1:=aF (w:=wr) w.heap.size omA
   clear hc5
   by_cases hw:0≤l[m]∧l[m].toNat<ae.length
   ·have hwi:az l[m] 0 ((ae.length:Int)-1)=true:=by
     rw[az,Bool.and_eq_true,decide_eq_true_iff,decide_eq_true_iff]
     omega
    obtain⟨j,hj⟩:∃j:Nat,l[m]=(j:Int):=⟨l[m].toNat,by omega⟩
    have hjl:j<ae.length:=by omega
    have hjn:l[m].toNat=j:=by omega
    rw[hj]at hwi x0
    obtain⟨b6,o6,rfl,hb6,hc6⟩:=(HT.out.below hxr).get hjl
    obtain⟨c0,c1,c2,c3,c4,c5,c6⟩:=Col.dO hc6
    have hk2:=aF (w:=wr) b6 omA
    have HWI:=qh hwi
    have hown:∀(ha:Ow l m j) (hsn:¬ (ae[j].ns=⟨#[]⟩∧ae[j].refs=⟨#[]⟩)),OwnAt ae l m hlt:=fun ha hsn=>⟨by omega,by omega,fun h0=>by rw[hj];exact ha h0 _,by simp only[hjn];exact hsn⟩
    have Qy:OwnAt ae l m hlt→¬ (ae[j].ns=⟨#[]⟩∧ae[j].refs=⟨#[]⟩) ∧ ∀h0:0<m,l[m-1]<(j:Int):=fun h=>⟨by have:=h.some_;simp only[hjn]at this;exact this,fun h0=>by have:=h.asc h0;rw[hj]at this;exact this⟩
    have HOWN:=qh hown
    have Oe:=qh Qy
    clear hc6 hwi hj hjn hw hown Qy
    rcases Nat.eq_zero_or_pos m with h0|h0
    ·have hm0:decide (0<m)=false:=by simp[h0]
     have CR:Hid (Ow l m j):=qh fun h _=>by omega
     clear h0
     by_cases hns:ae[j].ns=⟨#[]⟩
     ·have zV:=vE hns
      by_cases hrf:ae[j].refs=⟨#[]⟩
      ·have MM:=vE hrf
       have HNO:Hid (¬ OwnAt ae l m hlt):=qh fun h=>(Oe.out h).1 ⟨hns,hrf⟩
       clear hns hrf
       go_upto_region 4 with (fail)
       refine af krA krA ?_;(repeat(go_big_quiet_step ((go_at_call 127;with_reducible exact bQ (aC _ _ _ _ HWI.out)))));refine wpQuiet_nil ?_;intro wq hq
       clear hk0 hk1 hk2
       go_wp2_with fail
       go_ret
       exact⟨av (aQ fun h=>HNO.out (h m hlt)).symm,aa hxr hq hxr.size⟩
      ·have MM:=qg hrf
       have kH:Hid (OwnAt ae l m hlt):=qh (HOWN.out CR.out fun h=>hrf h.2)
       clear hns hrf
       go_upto_region 4 with (fail)
       refine af krA krA ?_;(repeat(go_big_quiet_step ((go_at_call 127;with_reducible exact bQ (aC _ _ _ _ HWI.out)))));refine wpQuiet_nil ?_;intro wq hq
       clear hk0 hk1 hk2
       go_wp2_with fail
       go_roundw
       case rel=>exact⟨m+1,by omega,by go_num,aa hbr hq hwz,fun i h hi=>by
        rcases Nat.lt_or_ge i m with h1|h1
        ·exact HOK.out i h h1
        ·obtain rfl:i=m:=by omega
         exact kH.out⟩
       case measure=>exact meA
     ·have zV:=qg hns
      have kH:Hid (OwnAt ae l m hlt):=qh (HOWN.out CR.out fun h=>hns h.1)
      clear hns
      go_upto_region 4 with (fail)
      refine af krA krA ?_;(repeat(go_big_quiet_step ((go_at_call 127;with_reducible exact bQ (aC _ _ _ _ HWI.out)))));refine wpQuiet_nil ?_;intro wq hq
      clear hk0 hk1 hk2
      go_wp2_with fail
      go_roundw
      case rel=>exact⟨m+1,by omega,by go_num,aa hbr hq hwz,fun i h hi=>by
       rcases Nat.lt_or_ge i m with h1|h1
       ·exact HOK.out i h h1
       ·obtain rfl:i=m:=by omega
        exact kH.out⟩
      case measure=>exact meA
    ·obtain⟨q,rfl⟩:∃q,m=q+1:=⟨m-1,by omega⟩
     have hql:q<l.length:=by omega
     obtain⟨b8,o8,hbe,hb8,hc8⟩:=(HL.out.below hxr).get hql
     injection hbe with hbe
     injection hbe with pW pV
     subst pW pV
     have y0:=hc8 0 _ rfl
     simp only[Nat.mul_one,Nat.add_zero]at y0
     clear hc8 h0
     by_cases hle:(j:Int)≤l[q]
     ·have HNO:Hid (¬ OwnAt ae l (q+1) hlt):=qh fun h=>by have:=(Oe.out h).2 omA;simp only[Nat.add_sub_cancel]at this;omega
      have WC:decide ((j:Int)≤l[q])=true:=by simpa using hle
      clear hle
      go_upto_region 4 with (fail)
      refine af krA krA ?_;(repeat(go_big_quiet_step ((go_at_call 127;with_reducible exact bQ (aC _ _ _ _ HWI.out)))));refine wpQuiet_nil ?_;intro wq hq
      clear hk0 hk1 hk2
      go_wp2_with fail
      go_ret
      exact⟨av (aQ fun h=>HNO.out (h (q+1) hlt)).symm,aa hxr hq hxr.size⟩
     ·have WC:decide ((j:Int)≤l[q])=false:=by simpa using hle
      have CR:Hid (Ow l (q+1) j):=qh fun h _=>by simp only[Nat.add_sub_cancel];omega
      clear hle
      by_cases hns:ae[j].ns=⟨#[]⟩
      ·have zV:=vE hns
       by_cases hrf:ae[j].refs=⟨#[]⟩
       ·have MM:=vE hrf
        have HNO:Hid (¬ OwnAt ae l (q+1) hlt):=qh fun h=>(Oe.out h).1 ⟨hns,hrf⟩
        clear hns hrf
        go_upto_region 4 with (fail)
        refine af krA krA ?_;(repeat(go_big_quiet_step ((go_at_call 127;with_reducible exact bQ (aC _ _ _ _ HWI.out)))));refine wpQuiet_nil ?_;intro wq hq
        clear hk0 hk1 hk2
        go_wp2_with fail
        go_ret
        exact⟨av (aQ fun h=>HNO.out (h (q+1) hlt)).symm,aa hxr hq hxr.size⟩
       ·have MM:=qg hrf
        have kH:Hid (OwnAt ae l (q+1) hlt):=qh (HOWN.out CR.out fun h=>hrf h.2)
        clear hns hrf
        go_upto_region 4 with (fail)
        refine af krA krA ?_;(repeat(go_big_quiet_step ((go_at_call 127;with_reducible exact bQ (aC _ _ _ _ HWI.out)))));refine wpQuiet_nil ?_;intro wq hq
        clear hk0 hk1 hk2
        go_wp2_with fail
        go_roundw
        case rel=>exact⟨q+1+1,by omega,by go_num,aa hbr hq hwz,fun i h hi=>by
         rcases Nat.lt_or_ge i (q+1) with h1|h1
         ·exact HOK.out i h h1
         ·obtain rfl:i=q+1:=by omega
          exact kH.out⟩
        case measure=>exact meA
      ·have zV:=qg hns
       have kH:Hid (OwnAt ae l (q+1) hlt):=qh (HOWN.out CR.out fun h=>hns h.1)
       clear hns
       go_upto_region 4 with (fail)
       refine af krA krA ?_;(repeat(go_big_quiet_step ((go_at_call 127;with_reducible exact bQ (aC _ _ _ _ HWI.out)))));refine wpQuiet_nil ?_;intro wq hq
       clear hk0 hk1 hk2
       go_wp2_with fail
       go_roundw
       case rel=>exact⟨q+1+1,by omega,by go_num,aa hbr hq hwz,fun i h hi=>by
        rcases Nat.lt_or_ge i (q+1) with h1|h1
        ·exact HOK.out i h h1
        ·obtain rfl:i=q+1:=by omega
         exact kH.out⟩
       case measure=>exact meA
   ·have hwi:az l[m] 0 ((ae.length:Int)-1)=false:=by
     rw[Bool.eq_false_iff,az,ne_eq,Bool.and_eq_true,decide_eq_true_iff,decide_eq_true_iff]
     omega
    have HWI:=qh hwi
    have HNO:Hid (¬ OwnAt ae l m hlt):=qh fun h=>hw ⟨h.lo,h.hi⟩
    have hk2:=hk1
    clear hwi hw
    ·go_upto_region 4 with (fail)
     refine af krA krA ?_;(repeat(go_big_quiet_step ((go_at_call 127;with_reducible exact bQ (aC _ _ _ _ HWI.out)))));refine wpQuiet_nil ?_;intro wq hq
     clear hk0 hk1 hk2
     go_wp2_with fail
     go_ret
     exact⟨av (aQ fun h=>HNO.out (h m hlt)).symm,aa hxr hq hxr.size⟩
  ·have hlt':decide (m<l.length)=false:=by simpa using hlt
   go_wp2_with fail
   go_ret
   exact⟨av (aY fun i hi=>HOK.out i hi omA).symm,hxr⟩
theorem F6{P:Prop}(h:P:=by
 cases ow
 ·exact sJ
 ·cases jw
  ·exact sJ
  ·cases oz
   ·exact sJ
   ·cases j0
    ·cases d0
     ·exact sJ
     ·exact sJ
    ·exact sJ):P:=h
theorem mM{P:Prop}(h:P:=by
 go_wp2_with (go_at_call 127;(with_reducible refine(aC x.gP 0 1048576 _ HWD.out).mono ?_);rintro e w1 ⟨rfl,rfl⟩)
 first|exact⟨by rw[HB.out];first|rfl|simp,rfl⟩|(rw[HB.out];first|rfl|simp)):P:=h
theorem sJ{P:Prop}(h:P:=by
 go_wp2_with (first|(go_at_call 127;(with_reducible refine(aC x.joint 0 1 _ HJW.out).mono ?_);rintro e w1 ⟨rfl,rfl⟩)|(go_at_call 173;(with_reducible refine(BD nm TA tc ae er rt ae.length x.A x.cap x.own.length x.own _ (HC.out.next ai) rfl (HIO.out.next ai) rfl z4 hcl HOW.out).mono ?_);rintro e w1 ⟨rfl,hb1⟩;obtain⟨kc,_,_⟩:=bP hb1 (g+1+1) mz3))
 first
  | exact⟨by rw[HB.out];first|rfl|simp,hb1⟩
  | exact⟨by rw[HB.out];first|rfl|simp,Below.refl _ _⟩):P:=h
theorem bB(s:ByteArray)(w:World)(hs:s.size≤1000000){r:Bool}(hr:dM s=r):
 Calls Tryz.prog 93 #[.string s] w fun e w'=>e=.returned (.bool r)∧w=w':=by
 subst hr
 exact BI s w hs
def Cs(ts:List Tab)(k:Int):Int:=match ts[k.toNat]? with
 | some t=>match t.ae with
   | c::_=>c.ty
   | [] =>0
 | none =>0
def uB(ts:List Tab)(k:Int):List Int:=match ts[k.toNat]? with
 | some t=>match t.ae with
   | c::_=>c.own
   | [] =>[]
 | none =>[]
theorem AQ{ts:List Tab}{k:Nat}(h:k<ts.length)(hc:0<ts[k].ae.length):Cs ts (k:Int)=ts[k].ae[0].ty:=by
 unfold Cs
 rw[Int.toNat_natCast,List.getElem?_eq_getElem h]
 match hh:ts[k].ae,hc with
 | c::l,_=>simp only[hh];rfl
theorem yJ{ts:List Tab}{k:Nat}(h:k<ts.length)(hc:0<ts[k].ae.length):uB ts (k:Int)=ts[k].ae[0].own:=by
 unfold uB
 rw[Int.toNat_natCast,List.getElem?_eq_getElem h]
 match hh:ts[k].ae,hc with
 | c::l,_=>simp only[hh];rfl
def cE1(x:Col):Bool:= !dM x.name||(!x.ns.toList.isEmpty && !dM x.ns)
noncomputable def cE2(ae:List Col)(i:Nat)(x:Col):Bool:=pb (∃k,∃h:k<ae.length,k<i∧ae[k].name=x.name)
def cE3(x:Col)(tg:Int):Bool:= !x.refs.toList.isEmpty&&decide (tg<0)
def cE4(ts:List Tab)(x:Col)(tg:Int):Bool:=(x.ty != 1&&x.ty != 2)||((decide (0≤tg) && !x.refs.toList.isEmpty)&&(Cs ts tg != x.ty))
noncomputable def cE5(ae:List Col)(x:Col):Bool:=(((!x.ns.toList.isEmpty && !x.refs.toList.isEmpty) || !pb (fT ae x.own)) || !az x.joint 0 1)||(((x.own.length:Int) == 0)&&(x.joint != 0||x.gP != 0))
def cE6(er rt:Int)(i:Nat)(x:Col):Bool:=(!az x.gP 0 1048576||(rt != 0&&decide (rt<x.gP)))||((((i:Int) == 0)&&decide (0<x.own.length))&&er != 1)
def cE7(ts:List Tab)(i:Nat)(x:Col)(tg:Int):Bool:=(!x.refs.toList.isEmpty&&decide (0<(uB ts tg).length)) && !decide ((i:Int)∈x.own)
noncomputable def cK(ts:List Tab)(ae:List Col)(er rt:Int)(n i:Nat)(x:Col):Int:=
 if cE1 x=true then 3 else if cE2 ae i x=true then 4 else if cE3 x (bK ts x.refs n)=true then 7 else if cE4 ts x (bK ts x.refs n)=true then 5
 else if cE5 ae x=true then 1 else if cE6 er rt i x=true then 1 else if cE7 ts i x (bK ts x.refs n)=true then 1 else 0
def l9(n:Nat):Code→Option Code
 | .region id l d=>if id=n then some (.region id l d) else none
 | .loop c=>l9 n c
 | .seq a b=>match l9 n a with
   | some c=>some c
   | none=>l9 n b
 | .block _ c=>l9 n c
 | .scope c=>l9 n c
 | .cond _ a b=>match l9 n a with
   | some c=>some c
   | none=>l9 n b
 | _=>none
noncomputable def LG(f:Func)(n:Nat):Code:=(f.body.bind (l9 n)).getD .skip
theorem Rf(c0 c1 c2 c3 c4 c5 c6 c9 c10 c11 c12 c13 c14 c15 c16 c17 c18 c19 c20 c21 c22 c23 c24 c25 c26 c27 c28 c29 c30 c31 c32 c33 c34 c35 c36 c37 c38 c39 c40 c41 c42 c43 c44 c45 c46 c47 c48 c49 c50 c51 c52 c53 c54 c55 c56 c57 c58 c59 c60 c61 c62 c63 c64 c65 c66 c67 c68 c69 c70 c71 c72 c73 c74 c75 c76 c77 c78 c79 c80 c81 c82 c83 c84 c85 c86 c87 c88 c89 c90 c91 c92 c93 c94 c95 c96 c97 c98 c99 Ku Kt Kr Kq Ko c105 Kn c107 Km c109 Kl Kk Kj Ki Kh Kg c116 c117 Ke c119 Kc Kb Ka J9 c124 J8 J7 c127 J6 J5 c130 c131 J4 Ha G9 G8 G7 G6 c138 c139 G5 c141 GZ c143 GY c145 c146 GX c148 GV GU GR c152 GQ c154 GN c156 c157 GM c159 c160 GL c162 GK c164 EX EW c167 c168 EU ET c171 ES c173 ER c175 EP EO EN EM EL EK c182 c183 EJ EI EH EG EF:Value)(g:Nat)(nm:ByteArray)(TA:Option Addr)(tc:Nat)(ae:List Col)(er rt:Int)(x:Col)(W:World)(q0:W.cell? ⟨g+1,0,none⟩=some (.string nm))(q1:W.cell? ⟨g+1,1,none⟩=some (.slice TA ae.length tc))(q2:W.cell? ⟨g+1,2,none⟩=some (.int .i64 er))(q3:W.cell? ⟨g+1,3,none⟩=some (.int .i64 rt))(r0:W.cell? ⟨g+1+1,0,none⟩=some (.string x.name))(r1:W.cell? ⟨g+1+1,1,none⟩=some (.int .i64 x.ty))(r2:W.cell? ⟨g+1+1,2,none⟩=some (.string x.ns))(r3:W.cell? ⟨g+1+1,3,none⟩=some (.string x.refs))(r4:W.cell? ⟨g+1+1,4,none⟩=some (.slice x.A x.own.length x.cap))(r5:W.cell? ⟨g+1+1,5,none⟩=some (.int .i64 x.joint))(r6:W.cell? ⟨g+1+1,6,none⟩=some (.int .i64 x.gP))(mz3:g+1+1<W.heap.size)(hc:ag W W.heap.size Col.cells 7 TA ae)(ho:ag W W.heap.size intCells 1 x.A x.own)(z4:x.own.length≤1000000)(hcl:ae.length≤1000000)(hf:x.refs.toList.isEmpty=false)(K:Exit→Act→World→Prop)
 (hK:∀(v95 u96 u97 u98 u99 Lf Le Ld Lc Lb u105 La K9 K8 K7 K6 K5 K4 K3 KZ KY KX KW KU u119 KT KR KQ KP u124 KO KN u127 KM KL KJ u131 KI:Value) (wc:World),v95=.bool (cE5 ae x)∧Below W.heap.size W wc→K .normal ⟨#[c0,c1,c2,c3,c4,c5,c6,.pointer (some ⟨g+1,0,none⟩),.pointer (some ⟨g+1+1,0,none⟩),c9,c10,c11,c12,c13,c14,c15,c16,c17,c18,c19,c20,c21,c22,c23,c24,c25,c26,c27,c28,c29,c30,c31,c32,c33,c34,c35,c36,c37,c38,c39,c40,c41,c42,c43,c44,c45,c46,c47,c48,c49,c50,c51,c52,c53,c54,c55,c56,c57,c58,c59,c60,c61,c62,c63,c64,c65,c66,c67,c68,c69,c70,c71,c72,c73,c74,c75,c76,c77,c78,c79,c80,c81,c82,c83,c84,c85,c86,c87,c88,c89,c90,c91,c92,c93,c94,v95,u96,u97,u98,u99,Lf,Le,Ld,Lc,Lb,u105,La,K9,K8,K7,K6,K5,K4,K3,KZ,KY,KX,KW,KU,u119,KT,KR,KQ,KP,u124,KO,KN,u127,KM,KL,KJ,u131,KI,Ha,G9,G8,G7,G6,c138,c139,G5,c141,GZ,c143,GY,c145,c146,GX,c148,GV,GU,GR,c152,GQ,c154,GN,c156,c157,GM,c159,c160,GL,c162,GK,c164,EX,EW,c167,c168,EU,ET,c171,ES,c173,ER,c175,EP,EO,EN,EM,EL,EK,c182,c183,EJ,EI,EH,EG,EF],[]⟩ wc):
 Code.wp Tryz.prog (LG Tryz.f128 15) K ⟨#[c0,c1,c2,c3,c4,c5,c6,.pointer (some ⟨g+1,0,none⟩),.pointer (some ⟨g+1+1,0,none⟩),c9,c10,c11,c12,c13,c14,c15,c16,c17,c18,c19,c20,c21,c22,c23,c24,c25,c26,c27,c28,c29,c30,c31,c32,c33,c34,c35,c36,c37,c38,c39,c40,c41,c42,c43,c44,c45,c46,c47,c48,c49,c50,c51,c52,c53,c54,c55,c56,c57,c58,c59,c60,c61,c62,c63,c64,c65,c66,c67,c68,c69,c70,c71,c72,c73,c74,c75,c76,c77,c78,c79,c80,c81,c82,c83,c84,c85,c86,c87,c88,c89,c90,c91,c92,c93,c94,c95,c96,c97,c98,c99,Ku,Kt,Kr,Kq,Ko,c105,Kn,c107,Km,c109,Kl,Kk,Kj,Ki,Kh,Kg,c116,c117,Ke,c119,Kc,Kb,Ka,J9,c124,J8,J7,c127,J6,J5,c130,c131,J4,Ha,G9,G8,G7,G6,c138,c139,G5,c141,GZ,c143,GY,c145,c146,GX,c148,GV,GU,GR,c152,GQ,c154,GN,c156,c157,GM,c159,c160,GL,c162,GK,c164,EX,EW,c167,c168,EU,ET,c171,ES,c173,ER,c175,EP,EO,EN,EM,EL,EK,c182,c183,EJ,EI,EH,EG,EF],[]⟩ W:=by
 have HC:=qh hc
 have HIO:=qh ho
 clear hc ho
 obtain⟨n3,hn3⟩:∃r,x.ns.toList.isEmpty=r:=⟨_,rfl⟩
 obtain⟨ow,how⟩:∃r,pb (fT ae x.own)=r:=⟨_,rfl⟩
 obtain⟨jw,hjw⟩:∃r,az x.joint 0 1=r:=⟨_,rfl⟩
 obtain⟨oz,hoz⟩:∃r,((x.own.length:Int) == 0)=r:=⟨_,rfl⟩
 obtain⟨j0,hj0⟩:∃r,(x.joint != 0)=r:=⟨_,rfl⟩
 obtain⟨d0,hd0⟩:∃r,(x.gP != 0)=r:=⟨_,rfl⟩
 have hB:cE5 ae x=(((!n3 && !x.refs.toList.isEmpty) || !ow || !jw)||(oz&&(j0||d0))):=by rw[cE5,hn3,how,hjw,hoz,hj0,hd0]
 rw[hf]at hB
 have HB:=qh hB
 have HOW:=qh how
 have HJW:=qh hjw
 clear hB how hjw
 conv=>arg 2;whnf
 cases n3
 ·exact sJ
 ·exact F6
theorem Re(c0 c1 c2 c3 c4 c5 c6 c9 c10 c11 c12 c13 c14 c15 c16 c17 c18 c19 c20 c21 c22 c23 c24 c25 c26 c27 c28 c29 c30 c31 c32 c33 c34 c35 c36 c37 c38 c39 c40 c41 c42 c43 c44 c45 c46 c47 c48 c49 c50 c51 c52 c53 c54 c55 c56 c57 c58 c59 c60 c61 c62 c63 c64 c65 c66 c67 c68 c69 c70 c71 c72 c73 c74 c75 c76 c77 c78 c79 c80 c81 c82 c83 c84 c85 c86 c87 c88 c89 c90 c91 c92 c93 c94 c95 c96 c97 c98 c99 Ku Kt Kr Kq Ko c105 Kn c107 Km c109 Kl Kk Kj Ki Kh Kg c116 c117 Ke c119 Kc Kb Ka J9 c124 J8 J7 c127 J6 J5 c130 c131 J4 Ha G9 G8 G7 G6 c138 c139 G5 c141 GZ c143 GY c145 c146 GX c148 GV GU GR c152 GQ c154 GN c156 c157 GM c159 c160 GL c162 GK c164 EX EW c167 c168 EU ET c171 ES c173 ER c175 EP EO EN EM EL EK c182 c183 EJ EI EH EG EF:Value)(g:Nat)(nm:ByteArray)(TA:Option Addr)(tc:Nat)(ae:List Col)(er rt:Int)(x:Col)(W:World)(q0:W.cell? ⟨g+1,0,none⟩=some (.string nm))(q1:W.cell? ⟨g+1,1,none⟩=some (.slice TA ae.length tc))(q2:W.cell? ⟨g+1,2,none⟩=some (.int .i64 er))(q3:W.cell? ⟨g+1,3,none⟩=some (.int .i64 rt))(r0:W.cell? ⟨g+1+1,0,none⟩=some (.string x.name))(r1:W.cell? ⟨g+1+1,1,none⟩=some (.int .i64 x.ty))(r2:W.cell? ⟨g+1+1,2,none⟩=some (.string x.ns))(r3:W.cell? ⟨g+1+1,3,none⟩=some (.string x.refs))(r4:W.cell? ⟨g+1+1,4,none⟩=some (.slice x.A x.own.length x.cap))(r5:W.cell? ⟨g+1+1,5,none⟩=some (.int .i64 x.joint))(r6:W.cell? ⟨g+1+1,6,none⟩=some (.int .i64 x.gP))(mz3:g+1+1<W.heap.size)(hc:ag W W.heap.size Col.cells 7 TA ae)(ho:ag W W.heap.size intCells 1 x.A x.own)(z4:x.own.length≤1000000)(hcl:ae.length≤1000000)(hf:x.refs.toList.isEmpty=true)(K:Exit→Act→World→Prop)
 (hK:∀(v95 u96 u97 u98 u99 Lf Le Ld Lc Lb u105 La K9 K8 K7 K6 K5 K4 K3 KZ KY KX KW KU u119 KT KR KQ KP u124 KO KN u127 KM KL KJ u131 KI:Value) (wc:World),v95=.bool (cE5 ae x)∧Below W.heap.size W wc→K .normal ⟨#[c0,c1,c2,c3,c4,c5,c6,.pointer (some ⟨g+1,0,none⟩),.pointer (some ⟨g+1+1,0,none⟩),c9,c10,c11,c12,c13,c14,c15,c16,c17,c18,c19,c20,c21,c22,c23,c24,c25,c26,c27,c28,c29,c30,c31,c32,c33,c34,c35,c36,c37,c38,c39,c40,c41,c42,c43,c44,c45,c46,c47,c48,c49,c50,c51,c52,c53,c54,c55,c56,c57,c58,c59,c60,c61,c62,c63,c64,c65,c66,c67,c68,c69,c70,c71,c72,c73,c74,c75,c76,c77,c78,c79,c80,c81,c82,c83,c84,c85,c86,c87,c88,c89,c90,c91,c92,c93,c94,v95,u96,u97,u98,u99,Lf,Le,Ld,Lc,Lb,u105,La,K9,K8,K7,K6,K5,K4,K3,KZ,KY,KX,KW,KU,u119,KT,KR,KQ,KP,u124,KO,KN,u127,KM,KL,KJ,u131,KI,Ha,G9,G8,G7,G6,c138,c139,G5,c141,GZ,c143,GY,c145,c146,GX,c148,GV,GU,GR,c152,GQ,c154,GN,c156,c157,GM,c159,c160,GL,c162,GK,c164,EX,EW,c167,c168,EU,ET,c171,ES,c173,ER,c175,EP,EO,EN,EM,EL,EK,c182,c183,EJ,EI,EH,EG,EF],[]⟩ wc):
 Code.wp Tryz.prog (LG Tryz.f128 15) K ⟨#[c0,c1,c2,c3,c4,c5,c6,.pointer (some ⟨g+1,0,none⟩),.pointer (some ⟨g+1+1,0,none⟩),c9,c10,c11,c12,c13,c14,c15,c16,c17,c18,c19,c20,c21,c22,c23,c24,c25,c26,c27,c28,c29,c30,c31,c32,c33,c34,c35,c36,c37,c38,c39,c40,c41,c42,c43,c44,c45,c46,c47,c48,c49,c50,c51,c52,c53,c54,c55,c56,c57,c58,c59,c60,c61,c62,c63,c64,c65,c66,c67,c68,c69,c70,c71,c72,c73,c74,c75,c76,c77,c78,c79,c80,c81,c82,c83,c84,c85,c86,c87,c88,c89,c90,c91,c92,c93,c94,c95,c96,c97,c98,c99,Ku,Kt,Kr,Kq,Ko,c105,Kn,c107,Km,c109,Kl,Kk,Kj,Ki,Kh,Kg,c116,c117,Ke,c119,Kc,Kb,Ka,J9,c124,J8,J7,c127,J6,J5,c130,c131,J4,Ha,G9,G8,G7,G6,c138,c139,G5,c141,GZ,c143,GY,c145,c146,GX,c148,GV,GU,GR,c152,GQ,c154,GN,c156,c157,GM,c159,c160,GL,c162,GK,c164,EX,EW,c167,c168,EU,ET,c171,ES,c173,ER,c175,EP,EO,EN,EM,EL,EK,c182,c183,EJ,EI,EH,EG,EF],[]⟩ W:=by
 have HC:=qh hc
 have HIO:=qh ho
 clear hc ho
 obtain⟨n3,hn3⟩:∃r,x.ns.toList.isEmpty=r:=⟨_,rfl⟩
 obtain⟨ow,how⟩:∃r,pb (fT ae x.own)=r:=⟨_,rfl⟩
 obtain⟨jw,hjw⟩:∃r,az x.joint 0 1=r:=⟨_,rfl⟩
 obtain⟨oz,hoz⟩:∃r,((x.own.length:Int) == 0)=r:=⟨_,rfl⟩
 obtain⟨j0,hj0⟩:∃r,(x.joint != 0)=r:=⟨_,rfl⟩
 obtain⟨d0,hd0⟩:∃r,(x.gP != 0)=r:=⟨_,rfl⟩
 have hB:cE5 ae x=(((!n3 && !x.refs.toList.isEmpty) || !ow || !jw)||(oz&&(j0||d0))):=by rw[cE5,hn3,how,hjw,hoz,hj0,hd0]
 rw[hf]at hB
 have HB:=qh hB
 have HOW:=qh how
 have HJW:=qh hjw
 clear hB how hjw
 conv=>arg 2;whnf
 cases n3
 ·exact F6
 ·exact F6
theorem Qp(c0 c1 c3 c4 c5 c6 c9 c10 c11 c12 c13 c14 c15 c16 c17 c18 c19 c20 c21 c22 c23 c24 c25 c26 c27 c28 c29 c30 c31 c32 c33 c34 c35 c36 c37 c38 c39 c40 c41 c42 c43 c44 c45 c46 c47 c48 c49 c50 c51 c52 c53 c54 c55 c56 c57 c58 c59 c60 c61 c62 c63 c64 c65 c66 c67 c68 c69 c70 c71 c72 c73 c74 c75 c76 c77 c78 c79 c80 c81 c82 c83 c84 c85 c86 c87 c88 c89 c90 c91 c92 c93 c94 c95 c96 c97 c98 c99 Ku Kt Kr Kq Ko c105 Kn c107 Km c109 Kl Kk Kj Ki Kh Kg c116 c117 Ke c119 Kc Kb Ka J9 c124 J8 J7 c127 J6 J5 c130 c131 J4 Ha G9 G8 G7 G6 c138 c139 G5 c141 GZ c143 GY c145 c146 GX c148 GV GU GR c152 GQ c154 GN c156 c157 GM c159 c160 GL c162 GK c164 EX EW c167 c168 EU ET c171 ES c173 ER c175 EP EO EN EM EL EK c182 c183 EJ EI EH EG EF:Value)(g:Nat)(nm:ByteArray)(TA:Option Addr)(tc:Nat)(ae:List Col)(er rt:Int)(i:Nat)(x:Col)(W:World)(q0:W.cell? ⟨g+1,0,none⟩=some (.string nm))(q1:W.cell? ⟨g+1,1,none⟩=some (.slice TA ae.length tc))(q2:W.cell? ⟨g+1,2,none⟩=some (.int .i64 er))(q3:W.cell? ⟨g+1,3,none⟩=some (.int .i64 rt))(r0:W.cell? ⟨g+1+1,0,none⟩=some (.string x.name))(r1:W.cell? ⟨g+1+1,1,none⟩=some (.int .i64 x.ty))(r2:W.cell? ⟨g+1+1,2,none⟩=some (.string x.ns))(r3:W.cell? ⟨g+1+1,3,none⟩=some (.string x.refs))(r4:W.cell? ⟨g+1+1,4,none⟩=some (.slice x.A x.own.length x.cap))(r5:W.cell? ⟨g+1+1,5,none⟩=some (.int .i64 x.joint))(r6:W.cell? ⟨g+1+1,6,none⟩=some (.int .i64 x.gP))(mz3:g+1+1<W.heap.size)(K:Exit→Act→World→Prop)
 (hK:∀(OA Rb Ra Q9 Q8 u138 u139 Q7 Q6 Q5 Q4 Q3 Q0 QZ QY QX QW QV QU u152 QT u154 QR QQ QP QO QN QM QL u162 QK u164:Value) (wc:World),OA=.bool (cE6 er rt i x)∧W=wc→K .normal ⟨#[c0,c1,.int .i64 (i:Int),c3,c4,c5,c6,.pointer (some ⟨g+1,0,none⟩),.pointer (some ⟨g+1+1,0,none⟩),c9,c10,c11,c12,c13,c14,c15,c16,c17,c18,c19,c20,c21,c22,c23,c24,c25,c26,c27,c28,c29,c30,c31,c32,c33,c34,c35,c36,c37,c38,c39,c40,c41,c42,c43,c44,c45,c46,c47,c48,c49,c50,c51,c52,c53,c54,c55,c56,c57,c58,c59,c60,c61,c62,c63,c64,c65,c66,c67,c68,c69,c70,c71,c72,c73,c74,c75,c76,c77,c78,c79,c80,c81,c82,c83,c84,c85,c86,c87,c88,c89,c90,c91,c92,c93,c94,c95,c96,c97,c98,c99,Ku,Kt,Kr,Kq,Ko,c105,Kn,c107,Km,c109,Kl,Kk,Kj,Ki,Kh,Kg,c116,c117,Ke,c119,Kc,Kb,Ka,J9,c124,J8,J7,c127,J6,J5,c130,c131,J4,OA,Rb,Ra,Q9,Q8,u138,u139,Q7,Q6,Q5,Q4,Q3,Q0,QZ,QY,QX,QW,QV,QU,u152,QT,u154,QR,QQ,QP,QO,QN,QM,QL,u162,QK,u164,EX,EW,c167,c168,EU,ET,c171,ES,c173,ER,c175,EP,EO,EN,EM,EL,EK,c182,c183,EJ,EI,EH,EG,EF],[]⟩ wc):
 Code.wp Tryz.prog (LG Tryz.f128 17) K ⟨#[c0,c1,.int .i64 (i:Int),c3,c4,c5,c6,.pointer (some ⟨g+1,0,none⟩),.pointer (some ⟨g+1+1,0,none⟩),c9,c10,c11,c12,c13,c14,c15,c16,c17,c18,c19,c20,c21,c22,c23,c24,c25,c26,c27,c28,c29,c30,c31,c32,c33,c34,c35,c36,c37,c38,c39,c40,c41,c42,c43,c44,c45,c46,c47,c48,c49,c50,c51,c52,c53,c54,c55,c56,c57,c58,c59,c60,c61,c62,c63,c64,c65,c66,c67,c68,c69,c70,c71,c72,c73,c74,c75,c76,c77,c78,c79,c80,c81,c82,c83,c84,c85,c86,c87,c88,c89,c90,c91,c92,c93,c94,c95,c96,c97,c98,c99,Ku,Kt,Kr,Kq,Ko,c105,Kn,c107,Km,c109,Kl,Kk,Kj,Ki,Kh,Kg,c116,c117,Ke,c119,Kc,Kb,Ka,J9,c124,J8,J7,c127,J6,J5,c130,c131,J4,Ha,G9,G8,G7,G6,c138,c139,G5,c141,GZ,c143,GY,c145,c146,GX,c148,GV,GU,GR,c152,GQ,c154,GN,c156,c157,GM,c159,c160,GL,c162,GK,c164,EX,EW,c167,c168,EU,ET,c171,ES,c173,ER,c175,EP,EO,EN,EM,EL,EK,c182,c183,EJ,EI,EH,EG,EF],[]⟩ W:=by
 obtain⟨wd,hwd⟩:∃r,az x.gP 0 1048576=r:=⟨_,rfl⟩
 obtain⟨r9,hr9⟩:∃r,(rt != 0)=r:=⟨_,rfl⟩
 obtain⟨lt,hlt⟩:∃r,decide (rt<x.gP)=r:=⟨_,rfl⟩
 obtain⟨iz,hiz⟩:∃r,((i:Int) == 0)=r:=⟨_,rfl⟩
 obtain⟨o0,ho0⟩:∃r,decide (0<x.own.length)=r:=⟨_,rfl⟩
 obtain⟨e1,he1⟩:∃r,(er != 1)=r:=⟨_,rfl⟩
 have hB:cE6 er rt i x=((!wd||(r9&&lt))||((iz&&o0)&&e1)):=by rw[cE6,hwd,hr9,hlt,hiz,ho0,he1]
 have HB:=qh hB
 have HWD:=qh hwd
 clear hB hwd
 conv=>arg 2;whnf
 cases wd
 ·exact mM
 ·cases r9
  ·cases iz
   ·exact mM
   ·cases o0
    ·exact mM
    ·cases e1
     ·exact mM
     ·exact mM
  ·cases lt
   ·cases iz
    ·exact mM
    ·cases o0
     ·exact mM
     ·cases e1
      ·exact mM
      ·exact mM
   ·exact mM
def firstErr(f:Nat→Int):Nat→Int
 | 0 =>0
 | m+1=>if firstErr f m=0 then f m else firstErr f m
theorem gY{f:Nat→Int}:∀ {m:Nat},(∀i,i<m→f i=0)→firstErr f m=0
 | 0,_=>rfl
 | m + 1,h=>by
   rw[firstErr,if_pos (gY fun i hi=>h i omA)]
   exact h m omA
theorem qf{f:Nat→Int}{k:Nat}(hk:∀i,i<k→f i=0)(he:f k≠0):∀ {m:Nat},k<m→firstErr f m=f k
 | m + 1,h=>by
   rw[firstErr]
   by_cases hkm:k=m
   ·subst hkm
    rw[if_pos (gY hk)]
   ·rw[qf hk he (show k<m by omega),if_neg he]
theorem rR{f:Nat→Int}:∀ {m:Nat},firstErr f m=0→∀i,i<m→f i=0
 | m + 1,h,i,hi=>by
   rw[firstErr]at h
   by_cases h0:firstErr f m=0
   ·rw[if_pos h0]at h
    rcases Nat.lt_or_ge i m with k|k
    ·exact rR h0 i k
    ·obtain rfl:i=m:=by omega
     exact h
   ·rw[if_neg h0]at h
    exact absurd h h0
def gK(t:Tab):Bool:=(az t.ae.length 1 8&&az t.erase 0 1)&&az t.jE 0 1048576
noncomputable def iP(ts:List Tab)(n:Nat)(t:Tab)(i:Nat):Int:=match t.ae[i]? with
 | some x=>cK ts t.ae t.erase t.jE n i x
 | none =>0
noncomputable def ik(ts:List Tab)(n:Nat)(t:Tab):Int:=if gK t=true then firstErr (iP ts n t) t.ae.length else 1
structure Iw (ts:List Tab) (i:Nat) (h:i<ts.length):Prop where
 name:dM ts[i].name=true
 fresh:∀k (hk:k<i),ts[k].name≠ts[i].name
 form:ik ts i ts[i]=0
structure aW (ts:List Tab):Prop where
 len:ts.length≤8
 tab:∀i (h:i<ts.length),Iw ts i h
theorem kJ{ts:List Tab}{n:Nat}{t:Tab}(h:ik ts n t=0):gK t=true:=by
 unfold ik at h
 split at h
 ·rename_i hh
  exact hh
 ·cases h
theorem nP{t:Tab}(h:gK t=true):0<t.ae.length∧t.ae.length≤8:=by
 simp only[gK,az,Bool.and_eq_true,decide_eq_true_eq]at h
 omega
end Go.Proofs.YtjhnpnhpmdkpcaaGreat
