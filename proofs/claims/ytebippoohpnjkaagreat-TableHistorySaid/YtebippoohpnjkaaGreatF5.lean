/-
  Contracts and plain laws of this seat, part 5.
-/
import Derived.Test.YtebippoohpnjkaaGreatF2
set_option linter.unusedVariables false
set_option linter.unusedSimpArgs false
set_option maxRecDepth 100000
set_option maxHeartbeats 16000000
namespace Go.Proofs.YtebippoohpnjkaaGreat
open Go.RowKit
theorem fg{P:Prop}(h:P:=by simpa using he):P:=h
structure Col where
 name:ByteArray
 ty:Int
 ns:ByteArray
 refs:ByteArray
 A:Option Addr
 cap:Nat
 own:List Int
 joint:Int
 eF:Int
structure Tab where
 name:ByteArray
 A:Option Addr
 cap:Nat
 af:List Col
 erase:Int
 eD:Int
def Col.cells(x:Col):List Value:= [.string x.name,.int .i64 x.ty,.string x.ns,.string x.refs,.slice x.A x.own.length x.cap,.int .i64 x.joint,.int .i64 x.eF]
def Tab.cells(x:Tab):List Value:= [.string x.name,.slice x.A x.af.length x.cap,.int .i64 x.erase,.int .i64 x.eD]
def strCells(x:ByteArray):List Value:= [.string x]
theorem dS:∀x:Col,(Col.cells x).length=7:=fun _=>rfl
theorem gy:∀x:Tab,(Tab.cells x).length=4:=fun _=>rfl
theorem kE:∀x:ByteArray,(strCells x).length=1:=fun _=>rfl
theorem BD:∀x:Col,∀u∈Col.cells x,u.oneCell'=true:=by
 intro x u hu
 simp only[Col.cells,List.mem_cons,List.not_mem_nil,or_false]at hu
 rcases hu with rfl|rfl|rfl|rfl|rfl|rfl|rfl<;>rfl
theorem ny:∀x:Tab,∀u∈Tab.cells x,u.oneCell'=true:=by
 intro x u hu
 simp only[Tab.cells,List.mem_cons,List.not_mem_nil,or_false]at hu
 rcases hu with rfl|rfl|rfl|rfl<;>rfl
theorem lK:∀x:ByteArray,∀u∈strCells x,u.oneCell'=true:=by
 intro x u hu
 simp only[strCells,List.mem_cons,List.not_mem_nil,or_false]at hu
 subst hu
 rfl
theorem A7:(Tryz.prog.info? 79).map (fun i=>(i.zero,i.size,i.bytes))=some (some (.agg #[.string ⟨#[]⟩,.int .i64 0,.string ⟨#[]⟩,.string ⟨#[]⟩,.slice none 0 0,.int .i64 0,.int .i64 0]),7,96):=by kernel_rfl
theorem Gs:(Tryz.prog.info? 77).map (fun i=>(i.zero,i.size,i.bytes))=some (some (.agg #[.string ⟨#[]⟩,.slice none 0 0,.int .i64 0,.int .i64 0]),4,56):=by kernel_rfl
theorem Gt:(Tryz.prog.info? 9).map (fun i=>(i.zero,i.size,i.bytes))=some (some (.string ⟨#[]⟩),1,16):=by kernel_rfl
theorem Col.dK{w:World}{b o:Nat}{x:Col}(h:∀j u,x.cells[j]?=some u→w.cell? ⟨b,o+j,none⟩=some u):
 w.cell? ⟨b,o,none⟩=some (.string x.name)∧w.cell? ⟨b,o+1,none⟩=some (.int .i64 x.ty)∧w.cell? ⟨b,o+2,none⟩=some (.string x.ns)∧w.cell? ⟨b,o+3,none⟩=some (.string x.refs)∧w.cell? ⟨b,o+4,none⟩=some (.slice x.A x.own.length x.cap)∧w.cell? ⟨b,o+5,none⟩=some (.int .i64 x.joint)∧w.cell? ⟨b,o+6,none⟩=some (.int .i64 x.eF):=
 ⟨h 0 _ rfl,h 1 _ rfl,h 2 _ rfl,h 3 _ rfl,h 4 _ rfl,h 5 _ rfl,h 6 _ rfl⟩
theorem Tab.fe{w:World}{b o:Nat}{x:Tab}(h:∀j u,x.cells[j]?=some u→w.cell? ⟨b,o+j,none⟩=some u):
 w.cell? ⟨b,o,none⟩=some (.string x.name)∧w.cell? ⟨b,o+1,none⟩=some (.slice x.A x.af.length x.cap)∧w.cell? ⟨b,o+2,none⟩=some (.int .i64 x.erase)∧w.cell? ⟨b,o+3,none⟩=some (.int .i64 x.eD):=
 ⟨h 0 _ rfl,h 1 _ rfl,h 2 _ rfl,h 3 _ rfl⟩
theorem Col.blk{w:World}{g:Nat}{a b c d e f g':Value}(k:Blk w g 79 #[a,b,c,d,e,f,g']):
 w.cell? ⟨g,0,none⟩=some a∧w.cell? ⟨g,1,none⟩=some b∧w.cell? ⟨g,2,none⟩=some c∧w.cell? ⟨g,3,none⟩=some d∧w.cell? ⟨g,4,none⟩=some e∧w.cell? ⟨g,5,none⟩=some f∧w.cell? ⟨g,6,none⟩=some g':=
 ⟨k.cell 0,k.cell 1,k.cell 2,k.cell 3,k.cell 4,k.cell 5,k.cell 6⟩
theorem Tab.blk{w:World}{g:Nat}{a b c d:Value}(k:Blk w g 77 #[a,b,c,d]):
 w.cell? ⟨g,0,none⟩=some a∧w.cell? ⟨g,1,none⟩=some b∧w.cell? ⟨g,2,none⟩=some c∧w.cell? ⟨g,3,none⟩=some d:=⟨k.cell 0,k.cell 1,k.cell 2,k.cell 3⟩
def iJ(w:World)(B:Nat)(A:Option Addr)(af:List Col):Prop:=ah w B Col.cells 7 A af ∧ ∀x∈af,ah w B intCells 1 x.A x.own
def aJ(w:World)(B:Nat)(A:Option Addr)(ts:List Tab):Prop:=ah w B Tab.cells 4 A ts ∧ ∀t∈ts,iJ w B t.A t.af
theorem iJ.below{w w':World}{B:Nat}{A:Option Addr}{af:List Col}(h:iJ w B A af)(hb:Below B w w'):iJ w' B A af:=⟨h.1.below hb,fun x hx=>(h.2 x hx).below hb⟩
theorem iJ.mono{w:World}{B B':Nat}{A:Option Addr}{af:List Col}(h:iJ w B A af)(hb:B≤B'):iJ w B' A af:=⟨h.1.mono hb,fun x hx=>(h.2 x hx).mono hb⟩
theorem aJ.below{w w':World}{B:Nat}{A:Option Addr}{ts:List Tab}(h:aJ w B A ts)(hb:Below B w w'):aJ w' B A ts:=⟨h.1.below hb,fun x hx=>(h.2 x hx).below hb⟩
theorem aJ.mono{w:World}{B B':Nat}{A:Option Addr}{ts:List Tab}(h:aJ w B A ts)(hb:B≤B'):aJ w B' A ts:=⟨h.1.mono hb,fun x hx=>(h.2 x hx).mono hb⟩
theorem aJ.next{w w':World}{A:Option Addr}{ts:List Tab}(h:aJ w w.heap.size A ts)(hb:Below w.heap.size w w'):aJ w' w'.heap.size A ts:=(h.below hb).mono hb.size
structure jR (x:Col):Prop where
 name:x.name.size≤1000000
 ns:x.ns.size≤1000000
 refs:x.refs.size≤1000000
 own:x.own.length≤1000000
structure GJ (t:Tab):Prop where
 name:t.name.size≤1000000
 len:t.af.length≤1000000
 cap:t.af.length≤t.cap
 af:∀x∈t.af,jR x
structure aI (ts:List Tab):Prop where
 len:ts.length≤1000000
 tabs:∀t∈ts,GJ t
theorem Cat.blk{w:World}{g:Nat}{A:Option Addr}{c n:Nat}(k:Blk w g 39 #[.slice A n c,.slice none 0 0,.slice none 0 0,.slice none 0 0,.slice none 0 0,.slice none 0 0,.slice none 0 0,.slice none 0 0]):
 w.cell? ⟨g,0,none⟩=some (.slice A n c)∧w.cell? ⟨g,1,none⟩=some (.slice none 0 0)∧w.cell? ⟨g,2,none⟩=some (.slice none 0 0)∧w.cell? ⟨g,3,none⟩=some (.slice none 0 0)∧w.cell? ⟨g,4,none⟩=some (.slice none 0 0)∧w.cell? ⟨g,5,none⟩=some (.slice none 0 0)∧w.cell? ⟨g,6,none⟩=some (.slice none 0 0)∧w.cell? ⟨g,7,none⟩=some (.slice none 0 0):=
 ⟨k.cell 0,k.cell 1,k.cell 2,k.cell 3,k.cell 4,k.cell 5,k.cell 6,k.cell 7⟩
theorem G7{a b:ByteArray}(h:a=b):(a.toList==b.toList)=true:=by rw[h];simp
theorem G8{a b:ByteArray}(h:a≠b):(a.toList==b.toList)=false:=by rw[beq_eq_false_iff_ne];exact fun e=>h (rJ e)
def fU(s:ByteArray):List ByteArray→Nat→Nat→Int
 | [],_,_ => -1
 | _::_,0,_ => -1
 | x::l,n+1,k=>if x=s then (k:Int) else fU s l n (k+1)
def gU(l:List ByteArray)(s:ByteArray)(n:Int):Int:=fU s l n.toNat 0
theorem Dl{s:ByteArray}:∀ {l:List ByteArray}{n k m:Nat}(h:m<l.length),m<n→l[m]=s→(∀i (h:i<l.length),i<m→l[i]≠s)→fU s l n k=((k+m:Nat):Int)
 | x::l,n + 1,k,0,_,_,he,_=>by
   simp only[fU]
   rw[if_pos fg]
   rfl
 | x::l,n + 1,k,m + 1,h,hn,he,hno=>by
   have h0:x≠s:=hno 0 spA omA
   simp only[fU]
   rw[if_neg h0,Dl (m:=m) (by simpa using h) omA fg (fun i hi him=>hno (i+1) (by simpa using hi) omA)]
   omega
theorem yx{s:ByteArray}:∀ {l:List ByteArray}{n k:Nat},(∀i (h:i<l.length),i<n→l[i]≠s)→fU s l n k=-1
 | [],_,_,_=>by simp[fU]
 | _::_,0,_,_=>by simp[fU]
 | x::l,n + 1,k,h=>by
   have h0:x≠s:=h 0 spA omA
   simp only[fU]
   rw[if_neg h0,yx (fun i hi hin=>h (i+1) (by simpa using hi) omA)]
theorem yu{l:List ByteArray}{s:ByteArray}{n:Int}{m:Nat}(h:m<l.length)(hn:(m:Int)<n)(he:l[m]=s)(hno:∀i (h:i<l.length),i<m→l[i]≠s):gU l s n=(m:Int):=by
 rw[gU,Dl h omA he hno,Nat.zero_add]
theorem jM{l:List ByteArray}{s:ByteArray}{n:Int}(h:∀i (h:i<l.length),(i:Int)<n→l[i]≠s):gU l s n=-1:=yx fun i hi hin=>h i hi omA
theorem iY{l:List ByteArray}{s:ByteArray}{n:Int}(h:0≤gU l s n):∃m:Nat,∃hm:m<l.length,gU l s n=(m:Int)∧(m:Int)<n∧l[m]=s:=by
 refine Classical.byContradiction fun hc =>?_
 have hno:∀i (h:i<l.length),(i:Int)<n→l[i]≠s:=by
  intro i
  induction i using Nat.strongRecOn with
  | ind i ih =>
    intro hi hin he
    exact hc ⟨i,hi,yu hi hin he (fun j hj hji=>ih j hji hj omA),hin,he⟩
 rw[jM hno]at h
 omega
def aD(n a b:Int):Bool:=decide (a≤n)&&decide (n≤b)
theorem aG(x a b:Int)(w:World){r:Bool}(hr:aD x a b=r):Calls Tryz.prog 172 #[.int .i64 x,.int .i64 a,.int .i64 b] w fun e w'=>e=.returned (.bool r)∧w=w':=by
 subst hr
 cases h1:decide (a≤x)
 ·go_enter Tryz.func172,Tryz.ntmps172
  go_wp2_with fail
  go_ret
  exact⟨ay (by simp[aD,h1]),rfl⟩
 ·cases h2:decide (x≤b)
  ·go_enter Tryz.func172,Tryz.ntmps172
   go_wp2_with fail
   go_ret
   exact⟨ay (by simp[aD,h1,h2]),rfl⟩
  ·go_enter Tryz.func172,Tryz.ntmps172
   go_wp2_with fail
   go_ret
   exact⟨ay (by simp[aD,h1,h2]),rfl⟩
theorem zL(A:Option Addr)(c n:Nat)(l:List Int)(x:Int)(w:World)(hl:ah w w.heap.size intCells 1 A l)(hln:l.length=n)(hn:n≤1000000){r:Bool}(hr:decide (x∈l)=r):
 Calls Tryz.prog 224 #[.slice A n c,.int .i64 x] w fun e w'=>e=.returned (.bool r)∧w=w':=by
 subst hln hr
 have HL:=qh hl
 clear hl
 go_enter Tryz.func224,Tryz.ntmps224
 go_wp2_with fail
 go_loopw [5] (fun vi wr =>∃m:Nat,m≤l.length∧vi=.int .i64 m∧w=wr∧(∀i (h:i<l.length),i<m→l[i]≠x)) (fun vi _=>l.length-(intOf vi).toNat)
 case atStart=>exact⟨0,Nat.zero_le _,rfl,rfl,fun i _ h=>by omega⟩
 case round =>
  obtain⟨m,hm,rfl,rfl,hok⟩:=hrel
  have HOK:=qh hok
  clear hok
  by_cases hlt:m<l.length
  ·obtain⟨b5,o5,rfl,hb5,hc5⟩:=HL.out.get hlt
   have x0:=hc5 0 _ rfl
   simp only[Nat.mul_one,Nat.add_zero]at x0
   clear hc5
   cases he:(l[m]==x)
   ·have HE:Hid (l[m]≠x):=qh fg
    go_wp2_with fail
    clear he
    go_roundw
    case rel=>exact⟨m+1,by omega,by go_num,trivial,fun i h hi=>by
     rcases Nat.lt_or_ge i m with h1|h1
     ·exact HOK.out i h h1
     ·obtain rfl:i=m:=by omega
      exact HE.out⟩
    case measure=>exact meA
   ·have HE:Hid (x∈l):=qh (by have h:l[m]=x:=fg;rw[←h];exact lgm hlt)
    go_wp2_with fail
    go_ret
    exact⟨ay (by symm;rw[decide_eq_true_iff];exact HE.out),rfl⟩
  ·have hlt':decide (m<l.length)=false:=by simpa using hlt
   go_wp2_with fail
   go_ret
   refine⟨ay ?_,rfl⟩
   symm
   rw[decide_eq_false_iff_not]
   intro h
   obtain⟨i,hi,rfl⟩:=List.getElem_of_mem h
   exact HOK.out i hi omA rfl
def bJ(ts:List Tab)(s:ByteArray)(n:Int):Int:=gU (ts.map Tab.name) s (min n ts.length)
theorem tL{a:ByteArray}(h:a=⟨#[]⟩):a.toList.isEmpty=true:=by rw[h];simp
theorem mq{a:ByteArray}(h:a≠⟨#[]⟩):a.toList.isEmpty=false:=by
 rw[Bool.eq_false_iff]
 intro e
 rw[List.isEmpty_iff]at e
 exact h (rJ (by rw[e];simp))
noncomputable def pb(p:Prop):Bool:= @decide p (Classical.propDecidable p)
theorem aU{p:Prop}(h:p):pb p=true:=by unfold pb;exact @decide_eq_true p (Classical.propDecidable p) h
theorem aM{p:Prop}(h:¬ p):pb p=false:=by unfold pb;exact @decide_eq_false p (Classical.propDecidable p) h
theorem iH{p:Prop}:pb p=true↔p:=by
 by_cases hp:p
 ·rw[aU hp]
  exact⟨fun _=>hp,fun _=>rfl⟩
 ·rw[aM hp]
  exact⟨fun h=>by(cases h),fun h=>absurd h hp⟩
def MW(l:List Int)(m:Nat)(j:Int):Prop:= 0<m→∀h1:m-1<l.length,l[m-1]<j
structure OwnAt (af:List Col) (l:List Int) (i:Nat) (h:i<l.length):Prop where
 lo:0≤l[i]
 hi:l[i].toNat<af.length
 asc:∀h0:0<i,l[i-1]<l[i]
 some_:¬ (af[l[i].toNat].ns=⟨#[]⟩∧af[l[i].toNat].refs=⟨#[]⟩)
def gm(af:List Col)(l:List Int):Prop:= ∀i (h:i<l.length),OwnAt af l i h
theorem Av(nm:ByteArray)(TA:Option Addr)(tc:Nat)(af:List Col)(er rt:Int)(cn:Nat)(A:Option Addr)(c n:Nat)(l:List Int)(w:World)(ht:ah w w.heap.size Col.cells 7 TA af)(hcn:af.length=cn)(hl:ah w w.heap.size intCells 1 A l)(hln:l.length=n)(hn:n≤1000000)(hc:cn≤1000000){r:Bool}(hr:pb (gm af l)=r):
 Calls Tryz.prog 223 #[.agg #[.string nm,.slice TA cn tc,.int .i64 er,.int .i64 rt],.slice A n c] w fun e w'=>e=.returned (.bool r)∧Below w.heap.size w w':=by
 subst hln hcn hr
 have HT:=qh ht
 have HL:=qh hl
 clear ht hl
 go_enter Tryz.func223,Tryz.ntmps223
 go_upto_region 1 with (fail)
 refine ai (P:=fun u=>Code.wp _ _ _ _ u) (R:=fun u=>Blk u w.heap.size 77 #[.string nm,.slice TA af.length tc,.int .i64 er,.int .i64 rt]∧Below w.heap.size w u) ⟨?_,?_⟩ ?_
 ·exact Blk.new _ _ _
 ·exact ak
 rintro W ⟨hB,hbW⟩
 have hzW:=hB.lt
 have HB:=qh hB
 clear hB
 go_wp2_with fail
 go_loopw [5] (fun vi wr =>∃m:Nat,m≤l.length∧vi=.int .i64 m∧Below W.heap.size W wr∧(∀i (h:i<l.length),i<m→OwnAt af l i h)) (fun vi _=>l.length-(intOf vi).toNat)
 case atStart=>exact⟨0,Nat.zero_le _,rfl,Below.refl _ _,fun i _ h=>by omega⟩
 case round =>
  obtain⟨m,hm,rfl,hbr,hok⟩:=hrel
  have HOK:=qh hok
  have hwz:=hbr.size
  have hxr:=ae hbW hbr hbW.size
  have hzr:=hxr.size
  obtain⟨q0,q1,q2,q3⟩:=Tab.blk (HB.out.below hbr hzW)
  clear hok
  by_cases hlt:m<l.length
  ·obtain⟨b5,o5,rfl,hb5,hc5⟩:=(HL.out.below hxr).get hlt
   have x0:=hc5 0 _ rfl
   simp only[Nat.mul_one,Nat.add_zero]at x0
   have hk0:=aH (w:=wr) b5 omA
   have hk1:=aH (w:=wr) w.heap.size omA
   clear hc5
   by_cases hw:0≤l[m]∧l[m].toNat<af.length
   ·have hwi:aD l[m] 0 ((af.length:Int)-1)=true:=by
     rw[aD,Bool.and_eq_true,decide_eq_true_iff,decide_eq_true_iff]
     omega
    obtain⟨j,hj⟩:∃j:Nat,l[m]=(j:Int):=⟨l[m].toNat,by omega⟩
    have hjl:j<af.length:=by omega
    have hjn:l[m].toNat=j:=by omega
    rw[hj]at hwi x0
    obtain⟨b6,o6,rfl,hb6,hc6⟩:=(HT.out.below hxr).get hjl
    obtain⟨c0,c1,c2,c3,c4,c5,c6⟩:=Col.dK hc6
    have hk2:=aH (w:=wr) b6 omA
    have HWI:=qh hwi
    have hown:∀(ha:MW l m j) (hsn:¬ (af[j].ns=⟨#[]⟩∧af[j].refs=⟨#[]⟩)),OwnAt af l m hlt:=fun ha hsn=>⟨by omega,by omega,fun h0=>by rw[hj];exact ha h0 _,by simp only[hjn];exact hsn⟩
    have OY:OwnAt af l m hlt→¬ (af[j].ns=⟨#[]⟩∧af[j].refs=⟨#[]⟩) ∧ ∀h0:0<m,l[m-1]<(j:Int):=fun h=>⟨by have:=h.some_;simp only[hjn]at this;exact this,fun h0=>by have:=h.asc h0;rw[hj]at this;exact this⟩
    have HOWN:=qh hown
    have MM:=qh OY
    clear hc6 hwi hj hjn hw hown OY
    rcases Nat.eq_zero_or_pos m with h0|h0
    ·have hm0:decide (0<m)=false:=by simp[h0]
     have BM:Hid (MW l m j):=qh fun h _=>by omega
     clear h0
     by_cases hns:af[j].ns=⟨#[]⟩
     ·have zn:=tL hns
      by_cases hrf:af[j].refs=⟨#[]⟩
      ·have K7:=tL hrf
       have HNO:Hid (¬ OwnAt af l m hlt):=qh fun h=>(MM.out h).1 ⟨hns,hrf⟩
       clear hns hrf
       go_upto_region 4 with (fail)
       refine ag krA krA ?_;(repeat(go_big_quiet_step ((go_at_call 172;with_reducible exact bX (aG _ _ _ _ HWI.out)))));refine wpQuiet_nil ?_;intro wq hq
       clear hk0 hk1 hk2
       go_wp2_with fail
       go_ret
       exact⟨ay (aM fun h=>HNO.out (h m hlt)).symm,ae hxr hq hxr.size⟩
      ·have K7:=mq hrf
       have iV:Hid (OwnAt af l m hlt):=qh (HOWN.out BM.out fun h=>hrf h.2)
       clear hns hrf
       go_upto_region 4 with (fail)
       refine ag krA krA ?_;(repeat(go_big_quiet_step ((go_at_call 172;with_reducible exact bX (aG _ _ _ _ HWI.out)))));refine wpQuiet_nil ?_;intro wq hq
       clear hk0 hk1 hk2
       go_wp2_with fail
       go_roundw
       case rel=>exact⟨m+1,by omega,by go_num,ae hbr hq hwz,fun i h hi=>by
        rcases Nat.lt_or_ge i m with h1|h1
        ·exact HOK.out i h h1
        ·obtain rfl:i=m:=by omega
         exact iV.out⟩
       case measure=>exact meA
     ·have zn:=mq hns
      have iV:Hid (OwnAt af l m hlt):=qh (HOWN.out BM.out fun h=>hns h.1)
      clear hns
      go_upto_region 4 with (fail)
      refine ag krA krA ?_;(repeat(go_big_quiet_step ((go_at_call 172;with_reducible exact bX (aG _ _ _ _ HWI.out)))));refine wpQuiet_nil ?_;intro wq hq
      clear hk0 hk1 hk2
      go_wp2_with fail
      go_roundw
      case rel=>exact⟨m+1,by omega,by go_num,ae hbr hq hwz,fun i h hi=>by
       rcases Nat.lt_or_ge i m with h1|h1
       ·exact HOK.out i h h1
       ·obtain rfl:i=m:=by omega
        exact iV.out⟩
      case measure=>exact meA
    ·obtain⟨q,rfl⟩:∃q,m=q+1:=⟨m-1,by omega⟩
     have hql:q<l.length:=by omega
     obtain⟨b8,o8,hbe,hb8,hc8⟩:=(HL.out.below hxr).get hql
     injection hbe with hbe
     injection hbe with pq pg
     subst pq pg
     have y0:=hc8 0 _ rfl
     simp only[Nat.mul_one,Nat.add_zero]at y0
     clear hc8 h0
     by_cases hle:(j:Int)≤l[q]
     ·have HNO:Hid (¬ OwnAt af l (q+1) hlt):=qh fun h=>by have:=(MM.out h).2 omA;simp only[Nat.add_sub_cancel]at this;omega
      have UR:decide ((j:Int)≤l[q])=true:=by simpa using hle
      clear hle
      go_upto_region 4 with (fail)
      refine ag krA krA ?_;(repeat(go_big_quiet_step ((go_at_call 172;with_reducible exact bX (aG _ _ _ _ HWI.out)))));refine wpQuiet_nil ?_;intro wq hq
      clear hk0 hk1 hk2
      go_wp2_with fail
      go_ret
      exact⟨ay (aM fun h=>HNO.out (h (q+1) hlt)).symm,ae hxr hq hxr.size⟩
     ·have UR:decide ((j:Int)≤l[q])=false:=by simpa using hle
      have BM:Hid (MW l (q+1) j):=qh fun h _=>by simp only[Nat.add_sub_cancel];omega
      clear hle
      by_cases hns:af[j].ns=⟨#[]⟩
      ·have zn:=tL hns
       by_cases hrf:af[j].refs=⟨#[]⟩
       ·have K7:=tL hrf
        have HNO:Hid (¬ OwnAt af l (q+1) hlt):=qh fun h=>(MM.out h).1 ⟨hns,hrf⟩
        clear hns hrf
        go_upto_region 4 with (fail)
        refine ag krA krA ?_;(repeat(go_big_quiet_step ((go_at_call 172;with_reducible exact bX (aG _ _ _ _ HWI.out)))));refine wpQuiet_nil ?_;intro wq hq
        clear hk0 hk1 hk2
        go_wp2_with fail
        go_ret
        exact⟨ay (aM fun h=>HNO.out (h (q+1) hlt)).symm,ae hxr hq hxr.size⟩
       ·have K7:=mq hrf
        have iV:Hid (OwnAt af l (q+1) hlt):=qh (HOWN.out BM.out fun h=>hrf h.2)
        clear hns hrf
        go_upto_region 4 with (fail)
        refine ag krA krA ?_;(repeat(go_big_quiet_step ((go_at_call 172;with_reducible exact bX (aG _ _ _ _ HWI.out)))));refine wpQuiet_nil ?_;intro wq hq
        clear hk0 hk1 hk2
        go_wp2_with fail
        go_roundw
        case rel=>exact⟨q+1+1,by omega,by go_num,ae hbr hq hwz,fun i h hi=>by
         rcases Nat.lt_or_ge i (q+1) with h1|h1
         ·exact HOK.out i h h1
         ·obtain rfl:i=q+1:=by omega
          exact iV.out⟩
        case measure=>exact meA
      ·have zn:=mq hns
       have iV:Hid (OwnAt af l (q+1) hlt):=qh (HOWN.out BM.out fun h=>hns h.1)
       clear hns
       go_upto_region 4 with (fail)
       refine ag krA krA ?_;(repeat(go_big_quiet_step ((go_at_call 172;with_reducible exact bX (aG _ _ _ _ HWI.out)))));refine wpQuiet_nil ?_;intro wq hq
       clear hk0 hk1 hk2
       go_wp2_with fail
       go_roundw
       case rel=>exact⟨q+1+1,by omega,by go_num,ae hbr hq hwz,fun i h hi=>by
        rcases Nat.lt_or_ge i (q+1) with h1|h1
        ·exact HOK.out i h h1
        ·obtain rfl:i=q+1:=by omega
         exact iV.out⟩
       case measure=>exact meA
   ·have hwi:aD l[m] 0 ((af.length:Int)-1)=false:=by
     rw[Bool.eq_false_iff,aD,ne_eq,Bool.and_eq_true,decide_eq_true_iff,decide_eq_true_iff]
     omega
    have HWI:=qh hwi
    have HNO:Hid (¬ OwnAt af l m hlt):=qh fun h=>hw ⟨h.lo,h.hi⟩
    have hk2:=hk1
    clear hwi hw
    ·go_upto_region 4 with (fail)
     refine ag krA krA ?_;(repeat(go_big_quiet_step ((go_at_call 172;with_reducible exact bX (aG _ _ _ _ HWI.out)))));refine wpQuiet_nil ?_;intro wq hq
     clear hk0 hk1 hk2
     go_wp2_with fail
     go_ret
     exact⟨ay (aM fun h=>HNO.out (h m hlt)).symm,ae hxr hq hxr.size⟩
  ·have hlt':decide (m<l.length)=false:=by simpa using hlt
   go_wp2_with fail
   go_ret
   exact⟨ay (aU fun i hi=>HOK.out i hi omA).symm,hxr⟩
theorem EN{P:Prop}(h:P:=by
 cases ow
 ·exact qY
 ·cases jw
  ·exact qY
  ·cases oz
   ·exact qY
   ·cases j0
    ·cases d0
     ·exact qY
     ·exact qY
    ·exact qY):P:=h
theorem mi{P:Prop}(h:P:=by
 go_wp2_with (go_at_call 172;(with_reducible refine(aG x.eF 0 1048576 _ HWD.out).mono ?_);rintro e w1 ⟨rfl,rfl⟩)
 first|exact⟨by rw[HB.out];first|rfl|simp,rfl⟩|(rw[HB.out];first|rfl|simp)):P:=h
theorem qY{P:Prop}(h:P:=by
 go_wp2_with (first|(go_at_call 172;(with_reducible refine(aG x.joint 0 1 _ HJW.out).mono ?_);rintro e w1 ⟨rfl,rfl⟩)|(go_at_call 223;(with_reducible refine(Av nm TA tc af er rt af.length x.A x.cap x.own.length x.own _ (HC.out.next ak) rfl (HIO.out.next ak) rfl z4 hcl HOW.out).mono ?_);rintro e w1 ⟨rfl,hb1⟩;obtain⟨kc,_,_⟩:=bV hb1 (g+1+1) mz3))
 first
  | exact⟨by rw[HB.out];first|rfl|simp,hb1⟩
  | exact⟨by rw[HB.out];first|rfl|simp,Below.refl _ _⟩):P:=h
theorem bD(s:ByteArray)(w:World)(hs:s.size≤1000000){r:Bool}(hr:dQ s=r):
 Calls Tryz.prog 127 #[.string s] w fun e w'=>e=.returned (.bool r)∧w=w':=by
 subst hr
 exact AA s w hs
def Bq(ts:List Tab)(k:Int):Int:=match ts[k.toNat]? with
 | some t=>match t.af with
   | c::_=>c.ty
   | [] =>0
 | none =>0
def tu(ts:List Tab)(k:Int):List Int:=match ts[k.toNat]? with
 | some t=>match t.af with
   | c::_=>c.own
   | [] =>[]
 | none =>[]
theorem zW{ts:List Tab}{k:Nat}(h:k<ts.length)(hc:0<ts[k].af.length):Bq ts (k:Int)=ts[k].af[0].ty:=by
 unfold Bq
 rw[Int.toNat_natCast,List.getElem?_eq_getElem h]
 match hh:ts[k].af,hc with
 | c::l,_=>simp only[hh];rfl
theorem x8{ts:List Tab}{k:Nat}(h:k<ts.length)(hc:0<ts[k].af.length):tu ts (k:Int)=ts[k].af[0].own:=by
 unfold tu
 rw[Int.toNat_natCast,List.getElem?_eq_getElem h]
 match hh:ts[k].af,hc with
 | c::l,_=>simp only[hh];rfl
def cE1(x:Col):Bool:= !dQ x.name||(!x.ns.toList.isEmpty && !dQ x.ns)
noncomputable def cE2(af:List Col)(i:Nat)(x:Col):Bool:=pb (∃k,∃h:k<af.length,k<i∧af[k].name=x.name)
def cE3(x:Col)(tg:Int):Bool:= !x.refs.toList.isEmpty&&decide (tg<0)
def cE4(ts:List Tab)(x:Col)(tg:Int):Bool:=(x.ty != 1&&x.ty != 2)||((decide (0≤tg) && !x.refs.toList.isEmpty)&&(Bq ts tg != x.ty))
noncomputable def cE5(af:List Col)(x:Col):Bool:=(((!x.ns.toList.isEmpty && !x.refs.toList.isEmpty) || !pb (gm af x.own)) || !aD x.joint 0 1)||(((x.own.length:Int) == 0)&&(x.joint != 0||x.eF != 0))
def cE6(er rt:Int)(i:Nat)(x:Col):Bool:=(!aD x.eF 0 1048576||(rt != 0&&decide (rt<x.eF)))||((((i:Int) == 0)&&decide (0<x.own.length))&&er != 1)
def cE7(ts:List Tab)(i:Nat)(x:Col)(tg:Int):Bool:=(!x.refs.toList.isEmpty&&decide (0<(tu ts tg).length)) && !decide ((i:Int)∈x.own)
noncomputable def df(ts:List Tab)(af:List Col)(er rt:Int)(n i:Nat)(x:Col):Int:=
 if cE1 x=true then 3 else if cE2 af i x=true then 4 else if cE3 x (bJ ts x.refs n)=true then 7 else if cE4 ts x (bJ ts x.refs n)=true then 5
 else if cE5 af x=true then 1 else if cE6 er rt i x=true then 1 else if cE7 ts i x (bJ ts x.refs n)=true then 1 else 0
def lS(n:Nat):Code→Option Code
 | .region id l d=>if id=n then some (.region id l d) else none
 | .loop c=>lS n c
 | .seq a b=>match lS n a with
   | some c=>some c
   | none=>lS n b
 | .block _ c=>lS n c
 | .scope c=>lS n c
 | .cond _ a b=>match lS n a with
   | some c=>some c
   | none=>lS n b
 | _=>none
noncomputable def wV(f:Func)(n:Nat):Code:=(f.body.bind (lS n)).getD .skip
theorem PU(c0 c1 c2 c3 c4 c5 c6 c9 c10 c11 c12 c13 c14 c15 c16 c17 c18 c19 c20 c21 c22 c23 c24 c25 c26 c27 c28 c29 c30 c31 c32 c33 c34 c35 c36 c37 c38 c39 c40 c41 c42 c43 c44 c45 c46 c47 c48 c49 c50 c51 c52 c53 c54 c55 c56 c57 c58 c59 c60 c61 c62 c63 c64 c65 c66 c67 c68 c69 c70 c71 c72 c73 c74 c75 c76 c77 c78 c79 c80 c81 c82 c83 c84 c85 c86 c87 c88 c89 c90 c91 c92 c93 c94 c95 c96 c97 c98 c99 Jn Jm Jl Jk Jj c105 Ji c107 Jh c109 Jg Jf Je Jd Jc Jb c116 c117 Ja c119 I9 I8 I7 I6 c124 I5 I4 c127 I1 IZ c130 c131 IY F4 F3 FZ FY FW c138 c139 FV c141 FU c143 FT c145 c146 FR c148 FQ FP FO c152 FN c154 FM c156 c157 FL c159 c160 FJ c162 FI c164 DV DU c167 c168 DT DR c171 DN c173 DL c175 DK DJ DI DF DD DC c182 c183 Dz Dy Dx Dw Dv:Value)(g:Nat)(nm:ByteArray)(TA:Option Addr)(tc:Nat)(af:List Col)(er rt:Int)(x:Col)(W:World)(q0:W.cell? ⟨g+1,0,none⟩=some (.string nm))(q1:W.cell? ⟨g+1,1,none⟩=some (.slice TA af.length tc))(q2:W.cell? ⟨g+1,2,none⟩=some (.int .i64 er))(q3:W.cell? ⟨g+1,3,none⟩=some (.int .i64 rt))(r0:W.cell? ⟨g+1+1,0,none⟩=some (.string x.name))(r1:W.cell? ⟨g+1+1,1,none⟩=some (.int .i64 x.ty))(r2:W.cell? ⟨g+1+1,2,none⟩=some (.string x.ns))(r3:W.cell? ⟨g+1+1,3,none⟩=some (.string x.refs))(r4:W.cell? ⟨g+1+1,4,none⟩=some (.slice x.A x.own.length x.cap))(r5:W.cell? ⟨g+1+1,5,none⟩=some (.int .i64 x.joint))(r6:W.cell? ⟨g+1+1,6,none⟩=some (.int .i64 x.eF))(mz3:g+1+1<W.heap.size)(hc:ah W W.heap.size Col.cells 7 TA af)(ho:ah W W.heap.size intCells 1 x.A x.own)(z4:x.own.length≤1000000)(hcl:af.length≤1000000)(hf:x.refs.toList.isEmpty=false)(K:Exit→Act→World→Prop)
 (hK:∀(v95 u96 u97 u98 u99 J4 J3 J2 JZ JY u105 JX JW JV JU JR JQ JP JO JN JM JL JK JJ u119 JI JH JG JF u124 JE JD u127 JC JB Jz u131 Jy:Value) (wc:World),v95=.bool (cE5 af x)∧Below W.heap.size W wc→K .normal ⟨#[c0,c1,c2,c3,c4,c5,c6,.pointer (some ⟨g+1,0,none⟩),.pointer (some ⟨g+1+1,0,none⟩),c9,c10,c11,c12,c13,c14,c15,c16,c17,c18,c19,c20,c21,c22,c23,c24,c25,c26,c27,c28,c29,c30,c31,c32,c33,c34,c35,c36,c37,c38,c39,c40,c41,c42,c43,c44,c45,c46,c47,c48,c49,c50,c51,c52,c53,c54,c55,c56,c57,c58,c59,c60,c61,c62,c63,c64,c65,c66,c67,c68,c69,c70,c71,c72,c73,c74,c75,c76,c77,c78,c79,c80,c81,c82,c83,c84,c85,c86,c87,c88,c89,c90,c91,c92,c93,c94,v95,u96,u97,u98,u99,J4,J3,J2,JZ,JY,u105,JX,JW,JV,JU,JR,JQ,JP,JO,JN,JM,JL,JK,JJ,u119,JI,JH,JG,JF,u124,JE,JD,u127,JC,JB,Jz,u131,Jy,F4,F3,FZ,FY,FW,c138,c139,FV,c141,FU,c143,FT,c145,c146,FR,c148,FQ,FP,FO,c152,FN,c154,FM,c156,c157,FL,c159,c160,FJ,c162,FI,c164,DV,DU,c167,c168,DT,DR,c171,DN,c173,DL,c175,DK,DJ,DI,DF,DD,DC,c182,c183,Dz,Dy,Dx,Dw,Dv],[]⟩ wc):
 Code.wp Tryz.prog (wV Tryz.f173 15) K ⟨#[c0,c1,c2,c3,c4,c5,c6,.pointer (some ⟨g+1,0,none⟩),.pointer (some ⟨g+1+1,0,none⟩),c9,c10,c11,c12,c13,c14,c15,c16,c17,c18,c19,c20,c21,c22,c23,c24,c25,c26,c27,c28,c29,c30,c31,c32,c33,c34,c35,c36,c37,c38,c39,c40,c41,c42,c43,c44,c45,c46,c47,c48,c49,c50,c51,c52,c53,c54,c55,c56,c57,c58,c59,c60,c61,c62,c63,c64,c65,c66,c67,c68,c69,c70,c71,c72,c73,c74,c75,c76,c77,c78,c79,c80,c81,c82,c83,c84,c85,c86,c87,c88,c89,c90,c91,c92,c93,c94,c95,c96,c97,c98,c99,Jn,Jm,Jl,Jk,Jj,c105,Ji,c107,Jh,c109,Jg,Jf,Je,Jd,Jc,Jb,c116,c117,Ja,c119,I9,I8,I7,I6,c124,I5,I4,c127,I1,IZ,c130,c131,IY,F4,F3,FZ,FY,FW,c138,c139,FV,c141,FU,c143,FT,c145,c146,FR,c148,FQ,FP,FO,c152,FN,c154,FM,c156,c157,FL,c159,c160,FJ,c162,FI,c164,DV,DU,c167,c168,DT,DR,c171,DN,c173,DL,c175,DK,DJ,DI,DF,DD,DC,c182,c183,Dz,Dy,Dx,Dw,Dv],[]⟩ W:=by
 have HC:=qh hc
 have HIO:=qh ho
 clear hc ho
 obtain⟨n3,hn3⟩:∃r,x.ns.toList.isEmpty=r:=⟨_,rfl⟩
 obtain⟨ow,how⟩:∃r,pb (gm af x.own)=r:=⟨_,rfl⟩
 obtain⟨jw,hjw⟩:∃r,aD x.joint 0 1=r:=⟨_,rfl⟩
 obtain⟨oz,hoz⟩:∃r,((x.own.length:Int) == 0)=r:=⟨_,rfl⟩
 obtain⟨j0,hj0⟩:∃r,(x.joint != 0)=r:=⟨_,rfl⟩
 obtain⟨d0,hd0⟩:∃r,(x.eF != 0)=r:=⟨_,rfl⟩
 have hB:cE5 af x=(((!n3 && !x.refs.toList.isEmpty) || !ow || !jw)||(oz&&(j0||d0))):=by rw[cE5,hn3,how,hjw,hoz,hj0,hd0]
 rw[hf]at hB
 have HB:=qh hB
 have HOW:=qh how
 have HJW:=qh hjw
 clear hB how hjw
 conv=>arg 2;whnf
 cases n3
 ·exact qY
 ·exact EN
theorem PT(c0 c1 c2 c3 c4 c5 c6 c9 c10 c11 c12 c13 c14 c15 c16 c17 c18 c19 c20 c21 c22 c23 c24 c25 c26 c27 c28 c29 c30 c31 c32 c33 c34 c35 c36 c37 c38 c39 c40 c41 c42 c43 c44 c45 c46 c47 c48 c49 c50 c51 c52 c53 c54 c55 c56 c57 c58 c59 c60 c61 c62 c63 c64 c65 c66 c67 c68 c69 c70 c71 c72 c73 c74 c75 c76 c77 c78 c79 c80 c81 c82 c83 c84 c85 c86 c87 c88 c89 c90 c91 c92 c93 c94 c95 c96 c97 c98 c99 Jn Jm Jl Jk Jj c105 Ji c107 Jh c109 Jg Jf Je Jd Jc Jb c116 c117 Ja c119 I9 I8 I7 I6 c124 I5 I4 c127 I1 IZ c130 c131 IY F4 F3 FZ FY FW c138 c139 FV c141 FU c143 FT c145 c146 FR c148 FQ FP FO c152 FN c154 FM c156 c157 FL c159 c160 FJ c162 FI c164 DV DU c167 c168 DT DR c171 DN c173 DL c175 DK DJ DI DF DD DC c182 c183 Dz Dy Dx Dw Dv:Value)(g:Nat)(nm:ByteArray)(TA:Option Addr)(tc:Nat)(af:List Col)(er rt:Int)(x:Col)(W:World)(q0:W.cell? ⟨g+1,0,none⟩=some (.string nm))(q1:W.cell? ⟨g+1,1,none⟩=some (.slice TA af.length tc))(q2:W.cell? ⟨g+1,2,none⟩=some (.int .i64 er))(q3:W.cell? ⟨g+1,3,none⟩=some (.int .i64 rt))(r0:W.cell? ⟨g+1+1,0,none⟩=some (.string x.name))(r1:W.cell? ⟨g+1+1,1,none⟩=some (.int .i64 x.ty))(r2:W.cell? ⟨g+1+1,2,none⟩=some (.string x.ns))(r3:W.cell? ⟨g+1+1,3,none⟩=some (.string x.refs))(r4:W.cell? ⟨g+1+1,4,none⟩=some (.slice x.A x.own.length x.cap))(r5:W.cell? ⟨g+1+1,5,none⟩=some (.int .i64 x.joint))(r6:W.cell? ⟨g+1+1,6,none⟩=some (.int .i64 x.eF))(mz3:g+1+1<W.heap.size)(hc:ah W W.heap.size Col.cells 7 TA af)(ho:ah W W.heap.size intCells 1 x.A x.own)(z4:x.own.length≤1000000)(hcl:af.length≤1000000)(hf:x.refs.toList.isEmpty=true)(K:Exit→Act→World→Prop)
 (hK:∀(v95 u96 u97 u98 u99 J4 J3 J2 JZ JY u105 JX JW JV JU JR JQ JP JO JN JM JL JK JJ u119 JI JH JG JF u124 JE JD u127 JC JB Jz u131 Jy:Value) (wc:World),v95=.bool (cE5 af x)∧Below W.heap.size W wc→K .normal ⟨#[c0,c1,c2,c3,c4,c5,c6,.pointer (some ⟨g+1,0,none⟩),.pointer (some ⟨g+1+1,0,none⟩),c9,c10,c11,c12,c13,c14,c15,c16,c17,c18,c19,c20,c21,c22,c23,c24,c25,c26,c27,c28,c29,c30,c31,c32,c33,c34,c35,c36,c37,c38,c39,c40,c41,c42,c43,c44,c45,c46,c47,c48,c49,c50,c51,c52,c53,c54,c55,c56,c57,c58,c59,c60,c61,c62,c63,c64,c65,c66,c67,c68,c69,c70,c71,c72,c73,c74,c75,c76,c77,c78,c79,c80,c81,c82,c83,c84,c85,c86,c87,c88,c89,c90,c91,c92,c93,c94,v95,u96,u97,u98,u99,J4,J3,J2,JZ,JY,u105,JX,JW,JV,JU,JR,JQ,JP,JO,JN,JM,JL,JK,JJ,u119,JI,JH,JG,JF,u124,JE,JD,u127,JC,JB,Jz,u131,Jy,F4,F3,FZ,FY,FW,c138,c139,FV,c141,FU,c143,FT,c145,c146,FR,c148,FQ,FP,FO,c152,FN,c154,FM,c156,c157,FL,c159,c160,FJ,c162,FI,c164,DV,DU,c167,c168,DT,DR,c171,DN,c173,DL,c175,DK,DJ,DI,DF,DD,DC,c182,c183,Dz,Dy,Dx,Dw,Dv],[]⟩ wc):
 Code.wp Tryz.prog (wV Tryz.f173 15) K ⟨#[c0,c1,c2,c3,c4,c5,c6,.pointer (some ⟨g+1,0,none⟩),.pointer (some ⟨g+1+1,0,none⟩),c9,c10,c11,c12,c13,c14,c15,c16,c17,c18,c19,c20,c21,c22,c23,c24,c25,c26,c27,c28,c29,c30,c31,c32,c33,c34,c35,c36,c37,c38,c39,c40,c41,c42,c43,c44,c45,c46,c47,c48,c49,c50,c51,c52,c53,c54,c55,c56,c57,c58,c59,c60,c61,c62,c63,c64,c65,c66,c67,c68,c69,c70,c71,c72,c73,c74,c75,c76,c77,c78,c79,c80,c81,c82,c83,c84,c85,c86,c87,c88,c89,c90,c91,c92,c93,c94,c95,c96,c97,c98,c99,Jn,Jm,Jl,Jk,Jj,c105,Ji,c107,Jh,c109,Jg,Jf,Je,Jd,Jc,Jb,c116,c117,Ja,c119,I9,I8,I7,I6,c124,I5,I4,c127,I1,IZ,c130,c131,IY,F4,F3,FZ,FY,FW,c138,c139,FV,c141,FU,c143,FT,c145,c146,FR,c148,FQ,FP,FO,c152,FN,c154,FM,c156,c157,FL,c159,c160,FJ,c162,FI,c164,DV,DU,c167,c168,DT,DR,c171,DN,c173,DL,c175,DK,DJ,DI,DF,DD,DC,c182,c183,Dz,Dy,Dx,Dw,Dv],[]⟩ W:=by
 have HC:=qh hc
 have HIO:=qh ho
 clear hc ho
 obtain⟨n3,hn3⟩:∃r,x.ns.toList.isEmpty=r:=⟨_,rfl⟩
 obtain⟨ow,how⟩:∃r,pb (gm af x.own)=r:=⟨_,rfl⟩
 obtain⟨jw,hjw⟩:∃r,aD x.joint 0 1=r:=⟨_,rfl⟩
 obtain⟨oz,hoz⟩:∃r,((x.own.length:Int) == 0)=r:=⟨_,rfl⟩
 obtain⟨j0,hj0⟩:∃r,(x.joint != 0)=r:=⟨_,rfl⟩
 obtain⟨d0,hd0⟩:∃r,(x.eF != 0)=r:=⟨_,rfl⟩
 have hB:cE5 af x=(((!n3 && !x.refs.toList.isEmpty) || !ow || !jw)||(oz&&(j0||d0))):=by rw[cE5,hn3,how,hjw,hoz,hj0,hd0]
 rw[hf]at hB
 have HB:=qh hB
 have HOW:=qh how
 have HJW:=qh hjw
 clear hB how hjw
 conv=>arg 2;whnf
 cases n3
 ·exact EN
 ·exact EN
theorem OD(c0 c1 c3 c4 c5 c6 c9 c10 c11 c12 c13 c14 c15 c16 c17 c18 c19 c20 c21 c22 c23 c24 c25 c26 c27 c28 c29 c30 c31 c32 c33 c34 c35 c36 c37 c38 c39 c40 c41 c42 c43 c44 c45 c46 c47 c48 c49 c50 c51 c52 c53 c54 c55 c56 c57 c58 c59 c60 c61 c62 c63 c64 c65 c66 c67 c68 c69 c70 c71 c72 c73 c74 c75 c76 c77 c78 c79 c80 c81 c82 c83 c84 c85 c86 c87 c88 c89 c90 c91 c92 c93 c94 c95 c96 c97 c98 c99 Jn Jm Jl Jk Jj c105 Ji c107 Jh c109 Jg Jf Je Jd Jc Jb c116 c117 Ja c119 I9 I8 I7 I6 c124 I5 I4 c127 I1 IZ c130 c131 IY F4 F3 FZ FY FW c138 c139 FV c141 FU c143 FT c145 c146 FR c148 FQ FP FO c152 FN c154 FM c156 c157 FL c159 c160 FJ c162 FI c164 DV DU c167 c168 DT DR c171 DN c173 DL c175 DK DJ DI DF DD DC c182 c183 Dz Dy Dx Dw Dv:Value)(g:Nat)(nm:ByteArray)(TA:Option Addr)(tc:Nat)(af:List Col)(er rt:Int)(i:Nat)(x:Col)(W:World)(q0:W.cell? ⟨g+1,0,none⟩=some (.string nm))(q1:W.cell? ⟨g+1,1,none⟩=some (.slice TA af.length tc))(q2:W.cell? ⟨g+1,2,none⟩=some (.int .i64 er))(q3:W.cell? ⟨g+1,3,none⟩=some (.int .i64 rt))(r0:W.cell? ⟨g+1+1,0,none⟩=some (.string x.name))(r1:W.cell? ⟨g+1+1,1,none⟩=some (.int .i64 x.ty))(r2:W.cell? ⟨g+1+1,2,none⟩=some (.string x.ns))(r3:W.cell? ⟨g+1+1,3,none⟩=some (.string x.refs))(r4:W.cell? ⟨g+1+1,4,none⟩=some (.slice x.A x.own.length x.cap))(r5:W.cell? ⟨g+1+1,5,none⟩=some (.int .i64 x.joint))(r6:W.cell? ⟨g+1+1,6,none⟩=some (.int .i64 x.eF))(mz3:g+1+1<W.heap.size)(K:Exit→Act→World→Prop)
 (hK:∀(MZ PN PM PL PK u138 u139 PI PH PG PE PD Pz Py Px Pw Pv Pt Ps u152 Pq u154 Pp Po Pn Pm Pk Pj Ph u162 Pg u164:Value) (wc:World),MZ=.bool (cE6 er rt i x)∧W=wc→K .normal ⟨#[c0,c1,.int .i64 (i:Int),c3,c4,c5,c6,.pointer (some ⟨g+1,0,none⟩),.pointer (some ⟨g+1+1,0,none⟩),c9,c10,c11,c12,c13,c14,c15,c16,c17,c18,c19,c20,c21,c22,c23,c24,c25,c26,c27,c28,c29,c30,c31,c32,c33,c34,c35,c36,c37,c38,c39,c40,c41,c42,c43,c44,c45,c46,c47,c48,c49,c50,c51,c52,c53,c54,c55,c56,c57,c58,c59,c60,c61,c62,c63,c64,c65,c66,c67,c68,c69,c70,c71,c72,c73,c74,c75,c76,c77,c78,c79,c80,c81,c82,c83,c84,c85,c86,c87,c88,c89,c90,c91,c92,c93,c94,c95,c96,c97,c98,c99,Jn,Jm,Jl,Jk,Jj,c105,Ji,c107,Jh,c109,Jg,Jf,Je,Jd,Jc,Jb,c116,c117,Ja,c119,I9,I8,I7,I6,c124,I5,I4,c127,I1,IZ,c130,c131,IY,MZ,PN,PM,PL,PK,u138,u139,PI,PH,PG,PE,PD,Pz,Py,Px,Pw,Pv,Pt,Ps,u152,Pq,u154,Pp,Po,Pn,Pm,Pk,Pj,Ph,u162,Pg,u164,DV,DU,c167,c168,DT,DR,c171,DN,c173,DL,c175,DK,DJ,DI,DF,DD,DC,c182,c183,Dz,Dy,Dx,Dw,Dv],[]⟩ wc):
 Code.wp Tryz.prog (wV Tryz.f173 17) K ⟨#[c0,c1,.int .i64 (i:Int),c3,c4,c5,c6,.pointer (some ⟨g+1,0,none⟩),.pointer (some ⟨g+1+1,0,none⟩),c9,c10,c11,c12,c13,c14,c15,c16,c17,c18,c19,c20,c21,c22,c23,c24,c25,c26,c27,c28,c29,c30,c31,c32,c33,c34,c35,c36,c37,c38,c39,c40,c41,c42,c43,c44,c45,c46,c47,c48,c49,c50,c51,c52,c53,c54,c55,c56,c57,c58,c59,c60,c61,c62,c63,c64,c65,c66,c67,c68,c69,c70,c71,c72,c73,c74,c75,c76,c77,c78,c79,c80,c81,c82,c83,c84,c85,c86,c87,c88,c89,c90,c91,c92,c93,c94,c95,c96,c97,c98,c99,Jn,Jm,Jl,Jk,Jj,c105,Ji,c107,Jh,c109,Jg,Jf,Je,Jd,Jc,Jb,c116,c117,Ja,c119,I9,I8,I7,I6,c124,I5,I4,c127,I1,IZ,c130,c131,IY,F4,F3,FZ,FY,FW,c138,c139,FV,c141,FU,c143,FT,c145,c146,FR,c148,FQ,FP,FO,c152,FN,c154,FM,c156,c157,FL,c159,c160,FJ,c162,FI,c164,DV,DU,c167,c168,DT,DR,c171,DN,c173,DL,c175,DK,DJ,DI,DF,DD,DC,c182,c183,Dz,Dy,Dx,Dw,Dv],[]⟩ W:=by
 obtain⟨wd,hwd⟩:∃r,aD x.eF 0 1048576=r:=⟨_,rfl⟩
 obtain⟨r9,hr9⟩:∃r,(rt != 0)=r:=⟨_,rfl⟩
 obtain⟨lt,hlt⟩:∃r,decide (rt<x.eF)=r:=⟨_,rfl⟩
 obtain⟨iz,hiz⟩:∃r,((i:Int) == 0)=r:=⟨_,rfl⟩
 obtain⟨o0,ho0⟩:∃r,decide (0<x.own.length)=r:=⟨_,rfl⟩
 obtain⟨e1,he1⟩:∃r,(er != 1)=r:=⟨_,rfl⟩
 have hB:cE6 er rt i x=((!wd||(r9&&lt))||((iz&&o0)&&e1)):=by rw[cE6,hwd,hr9,hlt,hiz,ho0,he1]
 have HB:=qh hB
 have HWD:=qh hwd
 clear hB hwd
 conv=>arg 2;whnf
 cases wd
 ·exact mi
 ·cases r9
  ·cases iz
   ·exact mi
   ·cases o0
    ·exact mi
    ·cases e1
     ·exact mi
     ·exact mi
  ·cases lt
   ·cases iz
    ·exact mi
    ·cases o0
     ·exact mi
     ·cases e1
      ·exact mi
      ·exact mi
   ·exact mi
def iB(f:Nat→Int):Nat→Int
 | 0 =>0
 | m+1=>if iB f m=0 then f m else iB f m
theorem gY{f:Nat→Int}:∀ {m:Nat},(∀i,i<m→f i=0)→iB f m=0
 | 0,_=>rfl
 | m + 1,h=>by
   rw[iB,if_pos (gY fun i hi=>h i omA)]
   exact h m omA
theorem pG{f:Nat→Int}{k:Nat}(hk:∀i,i<k→f i=0)(he:f k≠0):∀ {m:Nat},k<m→iB f m=f k
 | m + 1,h=>by
   rw[iB]
   by_cases hkm:k=m
   ·subst hkm
    rw[if_pos (gY hk)]
   ·rw[pG hk he (show k<m by omega),if_neg he]
theorem qM{f:Nat→Int}:∀ {m:Nat},iB f m=0→∀i,i<m→f i=0
 | m + 1,h,i,hi=>by
   rw[iB]at h
   by_cases h0:iB f m=0
   ·rw[if_pos h0]at h
    rcases Nat.lt_or_ge i m with k|k
    ·exact qM h0 i k
    ·obtain rfl:i=m:=by omega
     exact h
   ·rw[if_neg h0]at h
    exact absurd h h0
def gK(t:Tab):Bool:=(aD t.af.length 1 8&&aD t.erase 0 1)&&aD t.eD 0 1048576
noncomputable def iO(ts:List Tab)(n:Nat)(t:Tab)(i:Nat):Int:=match t.af[i]? with
 | some x=>df ts t.af t.erase t.eD n i x
 | none =>0
noncomputable def il(ts:List Tab)(n:Nat)(t:Tab):Int:=if gK t=true then iB (iO ts n t) t.af.length else 1
structure GA (ts:List Tab) (i:Nat) (h:i<ts.length):Prop where
 name:dQ ts[i].name=true
 fresh:∀k (hk:k<i),ts[k].name≠ts[i].name
 form:il ts i ts[i]=0
structure aV (ts:List Tab):Prop where
 len:ts.length≤8
 tab:∀i (h:i<ts.length),GA ts i h
theorem kD{ts:List Tab}{n:Nat}{t:Tab}(h:il ts n t=0):gK t=true:=by
 unfold il at h
 split at h
 ·rename_i hh
  exact hh
 ·cases h
theorem nA{t:Tab}(h:gK t=true):0<t.af.length∧t.af.length≤8:=by
 simp only[gK,aD,Bool.and_eq_true,decide_eq_true_eq]at h
 omega
end Go.Proofs.YtebippoohpnjkaaGreat
