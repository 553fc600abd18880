/-
  Contracts and plain laws of this seat, part 5: Cat, Cat2, Cat3, CatR, Cat4, Cat5, Cat6, Cat7.
-/
import Derived.Test.YtjhnpnhpmdkpcaaGreatB2
set_option linter.unusedVariables false
set_option linter.unusedSimpArgs false
set_option maxRecDepth 100000
set_option maxHeartbeats 16000000
namespace Go.Proofs.YtjhnpnhpmdkpcaaGreat
open Go.RowKit
structure Col where
 name:ByteArray
 ty:Int
 ns:ByteArray
 refs:ByteArray
 A:Option Addr
 cap:Nat
 own:List Int
 joint:Int
 duty:Int
structure Tab where
 name:ByteArray
 A:Option Addr
 cap:Nat
 cols:List Col
 erase:Int
 retain:Int
def Col.cells (x:Col):List Value := [.string x.name, .int .i64 x.ty, .string x.ns, .string x.refs, .slice x.A x.own.length x.cap, .int .i64 x.joint, .int .i64 x.duty]
def Tab.cells (x:Tab):List Value := [.string x.name, .slice x.A x.cols.length x.cap, .int .i64 x.erase, .int .i64 x.retain]
def strCells (x:ByteArray):List Value := [.string x]
theorem col_len : ∀ x:Col,(Col.cells x).length = 7:=fun _=>rfl
theorem tab_len : ∀ x:Tab,(Tab.cells x).length = 4:=fun _=>rfl
theorem str_len : ∀ x:ByteArray,(strCells x).length = 1:=fun _=>rfl
theorem col_one : ∀ x:Col,∀ u∈Col.cells x,u.oneCell'=true:=by
 intro x u hu
 simp only [Col.cells,List.mem_cons,List.not_mem_nil,or_false] at hu
 rcases hu with rfl|rfl|rfl|rfl|rfl|rfl|rfl <;> rfl
theorem tab_one : ∀ x:Tab,∀ u∈Tab.cells x,u.oneCell'=true:=by
 intro x u hu
 simp only [Tab.cells,List.mem_cons,List.not_mem_nil,or_false] at hu
 rcases hu with rfl|rfl|rfl|rfl <;> rfl
theorem str_one : ∀ x:ByteArray,∀ u∈strCells x,u.oneCell'=true:=by
 intro x u hu
 simp only [strCells,List.mem_cons,List.not_mem_nil,or_false] at hu
 subst hu
 rfl
theorem infoCol:(Tryz.prog.info? 73).map (fun i=>(i.zero,i.size,i.bytes))=some (some (.agg #[.string ⟨#[]⟩, .int .i64 0, .string ⟨#[]⟩, .string ⟨#[]⟩, .slice none 0 0, .int .i64 0, .int .i64 0]),7,96):=by kernel_rfl
theorem infoTab:(Tryz.prog.info? 71).map (fun i=>(i.zero,i.size,i.bytes))=some (some (.agg #[.string ⟨#[]⟩, .slice none 0 0, .int .i64 0, .int .i64 0]),4,56):=by kernel_rfl
theorem infoStr:(Tryz.prog.info? 9).map (fun i=>(i.zero,i.size,i.bytes))=some (some (.string ⟨#[]⟩),1,16):=by kernel_rfl
theorem Col.cells7 {w:World} {b o:Nat} {x:Col} (h : ∀ j u,x.cells[j]? = some u→w.cell? ⟨b,o+j,none⟩=some u) :
 w.cell? ⟨b,o,none⟩=some (.string x.name)∧w.cell? ⟨b,o + 1,none⟩=some (.int .i64 x.ty)∧w.cell? ⟨b,o + 2,none⟩=some (.string x.ns)∧w.cell? ⟨b,o + 3,none⟩=some (.string x.refs)∧w.cell? ⟨b,o + 4,none⟩=some (.slice x.A x.own.length x.cap)∧w.cell? ⟨b,o + 5,none⟩=some (.int .i64 x.joint)∧w.cell? ⟨b,o + 6,none⟩=some (.int .i64 x.duty) :=
 ⟨h 0 _ rfl,h 1 _ rfl,h 2 _ rfl,h 3 _ rfl,h 4 _ rfl,h 5 _ rfl,h 6 _ rfl⟩
theorem Tab.cells4 {w:World} {b o:Nat} {x:Tab} (h : ∀ j u,x.cells[j]? = some u→w.cell? ⟨b,o+j,none⟩=some u) :
 w.cell? ⟨b,o,none⟩=some (.string x.name)∧w.cell? ⟨b,o + 1,none⟩=some (.slice x.A x.cols.length x.cap)∧w.cell? ⟨b,o + 2,none⟩=some (.int .i64 x.erase)∧w.cell? ⟨b,o + 3,none⟩=some (.int .i64 x.retain) :=
 ⟨h 0 _ rfl,h 1 _ rfl,h 2 _ rfl,h 3 _ rfl⟩
theorem Col.blk {w:World} {g:Nat} {a b c d e f g':Value} (k:Blk w g 73 #[a,b,c,d,e,f,g']) :
 w.cell? ⟨g,0,none⟩=some a∧w.cell? ⟨g,1,none⟩=some b∧w.cell? ⟨g,2,none⟩=some c∧w.cell? ⟨g,3,none⟩=some d∧w.cell? ⟨g,4,none⟩=some e∧w.cell? ⟨g,5,none⟩=some f∧w.cell? ⟨g,6,none⟩=some g' :=
 ⟨k.cell 0,k.cell 1,k.cell 2,k.cell 3,k.cell 4,k.cell 5,k.cell 6⟩
theorem Tab.blk {w:World} {g:Nat} {a b c d:Value} (k:Blk w g 71 #[a,b,c,d]) :
 w.cell? ⟨g,0,none⟩=some a∧w.cell? ⟨g,1,none⟩=some b∧w.cell? ⟨g,2,none⟩=some c∧w.cell? ⟨g,3,none⟩=some d:=⟨k.cell 0,k.cell 1,k.cell 2,k.cell 3⟩
def ColsIn (w:World) (B:Nat) (A:Option Addr) (cols:List Col):Prop:=SliceIs w B Col.cells 7 A cols ∧ ∀ x∈cols,SliceIs w B intCells 1 x.A x.own
def TabsIn (w:World) (B:Nat) (A:Option Addr) (ts:List Tab):Prop:=SliceIs w B Tab.cells 4 A ts ∧ ∀ t∈ts,ColsIn w B t.A t.cols
theorem ColsIn.below {w w':World} {B:Nat} {A:Option Addr} {cols:List Col} (h:ColsIn w B A cols) (hb:Below B w w'):ColsIn w' B A cols:=⟨h.1.below hb,fun x hx=>(h.2 x hx).below hb⟩
theorem ColsIn.mono {w:World} {B B':Nat} {A:Option Addr} {cols:List Col} (h:ColsIn w B A cols) (hb:B≤B'):ColsIn w B' A cols:=⟨h.1.mono hb,fun x hx=>(h.2 x hx).mono hb⟩
theorem TabsIn.below {w w':World} {B:Nat} {A:Option Addr} {ts:List Tab} (h:TabsIn w B A ts) (hb:Below B w w'):TabsIn w' B A ts:=⟨h.1.below hb,fun x hx=>(h.2 x hx).below hb⟩
theorem TabsIn.mono {w:World} {B B':Nat} {A:Option Addr} {ts:List Tab} (h:TabsIn w B A ts) (hb:B≤B'):TabsIn w B' A ts:=⟨h.1.mono hb,fun x hx=>(h.2 x hx).mono hb⟩
theorem TabsIn.next {w w':World} {A:Option Addr} {ts:List Tab} (h:TabsIn w w.heap.size A ts) (hb:Below w.heap.size w w'):TabsIn w' w'.heap.size A ts:=(h.below hb).mono hb.size
structure SaneCol (x:Col):Prop where
 name:x.name.size ≤ 1000000
 ns:x.ns.size ≤ 1000000
 refs:x.refs.size ≤ 1000000
 own:x.own.length ≤ 1000000
structure SaneTab (t:Tab):Prop where
 name:t.name.size ≤ 1000000
 len:t.cols.length ≤ 1000000
 cap:t.cols.length≤t.cap
 cols : ∀ x∈t.cols,SaneCol x
structure SaneCat (ts:List Tab):Prop where
 len:ts.length ≤ 1000000
 tabs : ∀ t∈ts,SaneTab t
theorem Cat.blk {w:World} {g:Nat} {A:Option Addr} {c n:Nat} (k:Blk w g 34 #[.slice A n c, .slice none 0 0, .slice none 0 0, .slice none 0 0, .slice none 0 0, .slice none 0 0, .slice none 0 0, .slice none 0 0]) :
 w.cell? ⟨g,0,none⟩=some (.slice A n c)∧w.cell? ⟨g,1,none⟩=some (.slice none 0 0)∧w.cell? ⟨g,2,none⟩=some (.slice none 0 0)∧w.cell? ⟨g,3,none⟩=some (.slice none 0 0)∧w.cell? ⟨g,4,none⟩=some (.slice none 0 0)∧w.cell? ⟨g,5,none⟩=some (.slice none 0 0)∧w.cell? ⟨g,6,none⟩=some (.slice none 0 0)∧w.cell? ⟨g,7,none⟩=some (.slice none 0 0) :=
 ⟨k.cell 0,k.cell 1,k.cell 2,k.cell 3,k.cell 4,k.cell 5,k.cell 6,k.cell 7⟩
theorem strT {a b:ByteArray} (h:a=b):(a.toList==b.toList)=true:=by rw [h];simp
theorem strF {a b:ByteArray} (h:a≠b):(a.toList==b.toList)=false:=by rw [beq_eq_false_iff_ne];exact fun e=>h (ba_ext e)
def findA (s:ByteArray):List ByteArray→Nat→Nat→Int
 | [],_,_ => -1
 | _::_,0,_ => -1
 | x::l,n + 1,k=>if x=s then (k:Int) else findA s l n (k + 1)
def findI (l:List ByteArray) (s:ByteArray) (n:Int):Int:=findA s l n.toNat 0
theorem findA_at {s:ByteArray} : ∀ {l:List ByteArray} {n k m:Nat} (h:m<l.length),m<n→l[m]=s→(∀ i (h:i<l.length),i<m→l[i]≠s)→findA s l n k=((k+m:Nat):Int)
 | x::l,n + 1,k,0,_,_,he,_=>by
   simp only [findA]
   rw [if_pos (by simpa using he)]
   rfl
 | x::l,n + 1,k,m + 1,h,hn,he,hno=>by
   have h0:x≠s:=hno 0 spA omA
   simp only [findA]
   rw [if_neg h0,findA_at (m:=m) (by simpa using h) omA (by simpa using he) (fun i hi him=>hno (i + 1) (by simpa using hi) omA)]
   omega
theorem findA_none {s:ByteArray} : ∀ {l:List ByteArray} {n k:Nat},(∀ i (h:i<l.length),i<n→l[i]≠s)→findA s l n k = -1
 | [],_,_,_=>by simp [findA]
 | _::_,0,_,_=>by simp [findA]
 | x::l,n + 1,k,h=>by
   have h0:x≠s:=h 0 spA omA
   simp only [findA]
   rw [if_neg h0,findA_none (fun i hi hin=>h (i + 1) (by simpa using hi) omA)]
theorem findI_at {l:List ByteArray} {s:ByteArray} {n:Int} {m:Nat} (h:m<l.length) (hn:(m:Int)<n) (he:l[m]=s) (hno : ∀ i (h:i<l.length),i<m→l[i]≠s):findI l s n=(m:Int):=by
 rw [findI,findA_at h omA he hno,Nat.zero_add]
theorem findI_none {l:List ByteArray} {s:ByteArray} {n:Int} (h : ∀ i (h:i<l.length),(i:Int)<n→l[i]≠s):findI l s n = -1:=findA_none fun i hi hin=>h i hi omA
theorem findI_get {l:List ByteArray} {s:ByteArray} {n:Int} (h : 0≤findI l s n) : ∃ m:Nat,∃ hm:m<l.length,findI l s n=(m:Int)∧(m:Int)<n∧l[m]=s:=by
 refine Classical.byContradiction fun hc => ?_
 have hno : ∀ i (h:i<l.length),(i:Int)<n→l[i]≠s:=by
  intro i
  induction i using Nat.strongRecOn with
  | ind i ih =>
    intro hi hin he
    exact hc ⟨i,hi,findI_at hi hin he (fun j hj hji=>ih j hji hj omA),hin,he⟩
 rw [findI_none hno] at h
 omega
def withinB (n a b:Int):Bool:=decide (a≤n)&&decide (n≤b)
theorem ref04_within (x a b:Int) (w:World) {r:Bool} (hr:withinB x a b=r):Calls Tryz.prog 127 #[.int .i64 x, .int .i64 a, .int .i64 b] w fun e w'=>e = .returned (.bool r)∧w=w':=by
 subst hr
 cases h1:decide (a≤x)
 ·go_enter Tryz.func127,Tryz.ntmps127
  go_wp2_with fail
  go_ret
  exact ⟨ret_bool (by simp [withinB,h1]),rfl⟩
 ·cases h2:decide (x≤b)
  ·go_enter Tryz.func127,Tryz.ntmps127
   go_wp2_with fail
   go_ret
   exact ⟨ret_bool (by simp [withinB,h1,h2]),rfl⟩
  ·go_enter Tryz.func127,Tryz.ntmps127
   go_wp2_with fail
   go_ret
   exact ⟨ret_bool (by simp [withinB,h1,h2]),rfl⟩
theorem ref04_has (A:Option Addr) (c n:Nat) (l:List Int) (x:Int) (w:World) (hl:SliceIs w w.heap.size intCells 1 A l) (hln:l.length=n) (hn:n ≤ 1000000) {r:Bool} (hr:decide (x∈l)=r) :
 Calls Tryz.prog 174 #[.slice A n c, .int .i64 x] w fun e w'=>e = .returned (.bool r)∧w=w':=by
 subst hln hr
 have HL:=qh hl
 clear hl
 go_enter Tryz.func174,Tryz.ntmps174
 go_wp2_with fail
 go_loopw [5] (fun vi wr => ∃ m:Nat,m≤l.length∧vi = .int .i64 m∧w=wr∧(∀ i (h:i<l.length),i<m→l[i]≠x)) (fun vi _=>l.length - (intOf vi).toNat)
 case atStart=>exact ⟨0,Nat.zero_le _,rfl,rfl,fun i _ h=>by omega⟩
 case round =>
  obtain ⟨m,hm,rfl,rfl,hok⟩:=hrel
  have HOK:=qh hok
  clear hok
  by_cases hlt:m<l.length
  ·obtain ⟨b5,o5,rfl,hb5,hc5⟩:=HL.out.get hlt
   have x0:=hc5 0 _ rfl
   simp only [Nat.mul_one,Nat.add_zero] at x0
   clear hc5
   cases he:(l[m]==x)
   ·have HE:Hid (l[m]≠x):=qh (by simpa using he)
    go_wp2_with fail
    clear he
    go_roundw
    case rel=>exact ⟨m + 1,by omega,by go_num,trivial,fun i h hi=>by
     rcases Nat.lt_or_ge i m with h1|h1
     ·exact HOK.out i h h1
     ·obtain rfl:i=m:=by omega
      exact HE.out⟩
    case measure=>exact meA
   ·have HE:Hid (x∈l):=qh (by have h:l[m]=x:=(by simpa using he);rw [← h];exact lgm hlt)
    go_wp2_with fail
    go_ret
    exact ⟨ret_bool (by symm;rw [decide_eq_true_iff];exact HE.out),rfl⟩
  ·have hlt':decide (m<l.length)=false:=by simpa using hlt
   go_wp2_with fail
   go_ret
   refine ⟨ret_bool ?_,rfl⟩
   symm
   rw [decide_eq_false_iff_not]
   intro h
   obtain ⟨i,hi,rfl⟩:=List.getElem_of_mem h
   exact HOK.out i hi omA rfl
def findT (ts:List Tab) (s:ByteArray) (n:Int):Int:=findI (ts.map Tab.name) s (min n ts.length)
theorem empT {a:ByteArray} (h:a=⟨#[]⟩):a.toList.isEmpty=true:=by rw [h];simp
theorem empF {a:ByteArray} (h:a≠⟨#[]⟩):a.toList.isEmpty=false:=by
 rw [Bool.eq_false_iff]
 intro e
 rw [List.isEmpty_iff] at e
 exact h (ba_ext (by rw [e];simp))
noncomputable def pb (p:Prop):Bool := @decide p (Classical.propDecidable p)
theorem pb_true {p:Prop} (h:p):pb p=true:=by unfold pb;exact @decide_eq_true p (Classical.propDecidable p) h
theorem pb_false {p:Prop} (h : ¬ p):pb p=false:=by unfold pb;exact @decide_eq_false p (Classical.propDecidable p) h
theorem pb_iff {p:Prop}:pb p=true↔p:=by
 by_cases hp:p
 ·rw [pb_true hp]
  exact ⟨fun _=>hp,fun _=>rfl⟩
 ·rw [pb_false hp]
  exact ⟨fun h=>by (cases h),fun h=>absurd h hp⟩
def AscAt (l:List Int) (m:Nat) (j:Int):Prop := 0<m → ∀ h1:m - 1<l.length,l[m - 1]<j
structure OwnAt (cols:List Col) (l:List Int) (i:Nat) (h:i<l.length):Prop where
 lo : 0≤l[i]
 hi:l[i].toNat<cols.length
 asc : ∀ h0 : 0<i,l[i - 1]<l[i]
 some_ : ¬ (cols[l[i].toNat].ns=⟨#[]⟩∧cols[l[i].toNat].refs=⟨#[]⟩)
def OwnersOk (cols:List Col) (l:List Int):Prop := ∀ i (h:i<l.length),OwnAt cols l i h
theorem ref04_owners (nm:ByteArray) (TA:Option Addr) (tc:Nat) (cols:List Col) (er rt:Int) (cn:Nat) (A:Option Addr) (c n:Nat) (l:List Int) (w:World) (ht:SliceIs w w.heap.size Col.cells 7 TA cols) (hcn:cols.length=cn) (hl:SliceIs w w.heap.size intCells 1 A l) (hln:l.length=n) (hn:n ≤ 1000000) (hc:cn ≤ 1000000) {r:Bool} (hr:pb (OwnersOk cols l)=r) :
 Calls Tryz.prog 173 #[.agg #[.string nm, .slice TA cn tc, .int .i64 er, .int .i64 rt], .slice A n c] w fun e w'=>e = .returned (.bool r)∧Below w.heap.size w w':=by
 subst hln hcn hr
 have HT:=qh ht
 have HL:=qh hl
 clear ht hl
 go_enter Tryz.func173,Tryz.ntmps173
 go_upto_region 1 with (fail)
 refine abs_world (P:=fun u=>Code.wp _ _ _ _ u) (R:=fun u=>Blk u w.heap.size 71 #[.string nm, .slice TA cols.length tc, .int .i64 er, .int .i64 rt]∧Below w.heap.size w u) ⟨?_,?_⟩ ?_
 ·exact Blk.new _ _ _
 ·exact belA
 rintro W ⟨hB,hbW⟩
 have hzW:=hB.lt
 have HB:=qh hB
 clear hB
 go_wp2_with fail
 go_loopw [5] (fun vi wr => ∃ m:Nat,m≤l.length∧vi = .int .i64 m∧Below W.heap.size W wr∧(∀ i (h:i<l.length),i<m→OwnAt cols l i h)) (fun vi _=>l.length - (intOf vi).toNat)
 case atStart=>exact ⟨0,Nat.zero_le _,rfl,Below.refl _ _,fun i _ h=>by omega⟩
 case round =>
  obtain ⟨m,hm,rfl,hbr,hok⟩:=hrel
  have HOK:=qh hok
  have hwz:=hbr.size
  have hxr:=below_nextN hbW hbr hbW.size
  have hzr:=hxr.size
  obtain ⟨q0,q1,q2,q3⟩:=Tab.blk (HB.out.below hbr hzW)
  clear hok
  by_cases hlt:m<l.length
  ·obtain ⟨b5,o5,rfl,hb5,hc5⟩:=(HL.out.below hxr).get hlt
   have x0:=hc5 0 _ rfl
   simp only [Nat.mul_one,Nat.add_zero] at x0
   have hk0:=keepQ (w:=wr) b5 omA
   have hk1:=keepQ (w:=wr) w.heap.size omA
   clear hc5
   by_cases hw : 0≤l[m]∧l[m].toNat<cols.length
   ·have hwi:withinB l[m] 0 ((cols.length:Int) - 1)=true:=by
     rw [withinB,Bool.and_eq_true,decide_eq_true_iff,decide_eq_true_iff]
     omega
    obtain ⟨j,hj⟩ : ∃ j:Nat,l[m]=(j:Int):=⟨l[m].toNat,by omega⟩
    have hjl:j<cols.length:=by omega
    have hjn:l[m].toNat=j:=by omega
    rw [hj] at hwi x0
    obtain ⟨b6,o6,rfl,hb6,hc6⟩:=(HT.out.below hxr).get hjl
    obtain ⟨c0,c1,c2,c3,c4,c5,c6⟩:=Col.cells7 hc6
    have hk2:=keepQ (w:=wr) b6 omA
    have HWI:=qh hwi
    have hown : ∀ (ha:AscAt l m j) (hsn : ¬ (cols[j].ns=⟨#[]⟩∧cols[j].refs=⟨#[]⟩)),OwnAt cols l m hlt:=fun ha hsn=>⟨by omega,by omega,fun h0=>by rw [hj];exact ha h0 _,by simp only [hjn];exact hsn⟩
    have hownn:OwnAt cols l m hlt → ¬ (cols[j].ns=⟨#[]⟩∧cols[j].refs=⟨#[]⟩) ∧ ∀ h0 : 0<m,l[m - 1]<(j:Int):=fun h=>⟨by have:=h.some_;simp only [hjn] at this;exact this,fun h0=>by have:=h.asc h0;rw [hj] at this;exact this⟩
    have HOWN:=qh hown
    have HOWNN:=qh hownn
    clear hc6 hwi hj hjn hw hown hownn
    rcases Nat.eq_zero_or_pos m with h0|h0
    ·have hm0:decide (0<m)=false:=by simp [h0]
     have HASC:Hid (AscAt l m j):=qh fun h _=>by omega
     clear h0
     by_cases hns:cols[j].ns=⟨#[]⟩
     ·have hns':=empT hns
      by_cases hrf:cols[j].refs=⟨#[]⟩
      ·have hrf':=empT hrf
       have HNO:Hid (¬ OwnAt cols l m hlt):=qh fun h=>(HOWNN.out h).1 ⟨hns,hrf⟩
       clear hns hrf
       go_upto_region 4 with (fail)
       refine wp_region_bel krA krA ?_;(repeat (go_big_quiet_step ((go_at_call 127;with_reducible exact bel_of_same (ref04_within _ _ _ _ HWI.out)))));refine wpQuiet_nil ?_;intro wq hq
       clear hk0 hk1 hk2
       go_wp2_with fail
       go_ret
       exact ⟨ret_bool (pb_false fun h=>HNO.out (h m hlt)).symm,below_nextN hxr hq hxr.size⟩
      ·have hrf':=empF hrf
       have HYES:Hid (OwnAt cols l m hlt):=qh (HOWN.out HASC.out fun h=>hrf h.2)
       clear hns hrf
       go_upto_region 4 with (fail)
       refine wp_region_bel krA krA ?_;(repeat (go_big_quiet_step ((go_at_call 127;with_reducible exact bel_of_same (ref04_within _ _ _ _ HWI.out)))));refine wpQuiet_nil ?_;intro wq hq
       clear hk0 hk1 hk2
       go_wp2_with fail
       go_roundw
       case rel=>exact ⟨m + 1,by omega,by go_num,below_nextN hbr hq hwz,fun i h hi=>by
        rcases Nat.lt_or_ge i m with h1|h1
        ·exact HOK.out i h h1
        ·obtain rfl:i=m:=by omega
         exact HYES.out⟩
       case measure=>exact meA
     ·have hns':=empF hns
      have HYES:Hid (OwnAt cols l m hlt):=qh (HOWN.out HASC.out fun h=>hns h.1)
      clear hns
      go_upto_region 4 with (fail)
      refine wp_region_bel krA krA ?_;(repeat (go_big_quiet_step ((go_at_call 127;with_reducible exact bel_of_same (ref04_within _ _ _ _ HWI.out)))));refine wpQuiet_nil ?_;intro wq hq
      clear hk0 hk1 hk2
      go_wp2_with fail
      go_roundw
      case rel=>exact ⟨m + 1,by omega,by go_num,below_nextN hbr hq hwz,fun i h hi=>by
       rcases Nat.lt_or_ge i m with h1|h1
       ·exact HOK.out i h h1
       ·obtain rfl:i=m:=by omega
        exact HYES.out⟩
      case measure=>exact meA
    ·obtain ⟨q,rfl⟩ : ∃ q,m=q + 1:=⟨m - 1,by omega⟩
     have hql:q<l.length:=by omega
     obtain ⟨b8,o8,hbe,hb8,hc8⟩:=(HL.out.below hxr).get hql
     injection hbe with hbe
     injection hbe with hbe1 hbe2
     subst hbe1 hbe2
     have y0:=hc8 0 _ rfl
     simp only [Nat.mul_one,Nat.add_zero] at y0
     clear hc8 h0
     by_cases hle:(j:Int)≤l[q]
     ·have HNO:Hid (¬ OwnAt cols l (q + 1) hlt):=qh fun h=>by have:=(HOWNN.out h).2 omA;simp only [Nat.add_sub_cancel] at this;omega
      have hle':decide ((j:Int)≤l[q])=true:=by simpa using hle
      clear hle
      go_upto_region 4 with (fail)
      refine wp_region_bel krA krA ?_;(repeat (go_big_quiet_step ((go_at_call 127;with_reducible exact bel_of_same (ref04_within _ _ _ _ HWI.out)))));refine wpQuiet_nil ?_;intro wq hq
      clear hk0 hk1 hk2
      go_wp2_with fail
      go_ret
      exact ⟨ret_bool (pb_false fun h=>HNO.out (h (q + 1) hlt)).symm,below_nextN hxr hq hxr.size⟩
     ·have hle':decide ((j:Int)≤l[q])=false:=by simpa using hle
      have HASC:Hid (AscAt l (q + 1) j):=qh fun h _=>by simp only [Nat.add_sub_cancel];omega
      clear hle
      by_cases hns:cols[j].ns=⟨#[]⟩
      ·have hns':=empT hns
       by_cases hrf:cols[j].refs=⟨#[]⟩
       ·have hrf':=empT hrf
        have HNO:Hid (¬ OwnAt cols l (q + 1) hlt):=qh fun h=>(HOWNN.out h).1 ⟨hns,hrf⟩
        clear hns hrf
        go_upto_region 4 with (fail)
        refine wp_region_bel krA krA ?_;(repeat (go_big_quiet_step ((go_at_call 127;with_reducible exact bel_of_same (ref04_within _ _ _ _ HWI.out)))));refine wpQuiet_nil ?_;intro wq hq
        clear hk0 hk1 hk2
        go_wp2_with fail
        go_ret
        exact ⟨ret_bool (pb_false fun h=>HNO.out (h (q + 1) hlt)).symm,below_nextN hxr hq hxr.size⟩
       ·have hrf':=empF hrf
        have HYES:Hid (OwnAt cols l (q + 1) hlt):=qh (HOWN.out HASC.out fun h=>hrf h.2)
        clear hns hrf
        go_upto_region 4 with (fail)
        refine wp_region_bel krA krA ?_;(repeat (go_big_quiet_step ((go_at_call 127;with_reducible exact bel_of_same (ref04_within _ _ _ _ HWI.out)))));refine wpQuiet_nil ?_;intro wq hq
        clear hk0 hk1 hk2
        go_wp2_with fail
        go_roundw
        case rel=>exact ⟨q + 1 + 1,by omega,by go_num,below_nextN hbr hq hwz,fun i h hi=>by
         rcases Nat.lt_or_ge i (q + 1) with h1|h1
         ·exact HOK.out i h h1
         ·obtain rfl:i=q + 1:=by omega
          exact HYES.out⟩
        case measure=>exact meA
      ·have hns':=empF hns
       have HYES:Hid (OwnAt cols l (q + 1) hlt):=qh (HOWN.out HASC.out fun h=>hns h.1)
       clear hns
       go_upto_region 4 with (fail)
       refine wp_region_bel krA krA ?_;(repeat (go_big_quiet_step ((go_at_call 127;with_reducible exact bel_of_same (ref04_within _ _ _ _ HWI.out)))));refine wpQuiet_nil ?_;intro wq hq
       clear hk0 hk1 hk2
       go_wp2_with fail
       go_roundw
       case rel=>exact ⟨q + 1 + 1,by omega,by go_num,below_nextN hbr hq hwz,fun i h hi=>by
        rcases Nat.lt_or_ge i (q + 1) with h1|h1
        ·exact HOK.out i h h1
        ·obtain rfl:i=q + 1:=by omega
         exact HYES.out⟩
       case measure=>exact meA
   ·have hwi:withinB l[m] 0 ((cols.length:Int) - 1)=false:=by
     rw [Bool.eq_false_iff,withinB,ne_eq,Bool.and_eq_true,decide_eq_true_iff,decide_eq_true_iff]
     omega
    have HWI:=qh hwi
    have HNO:Hid (¬ OwnAt cols l m hlt):=qh fun h=>hw ⟨h.lo,h.hi⟩
    have hk2:=hk1
    clear hwi hw
    ·go_upto_region 4 with (fail)
     refine wp_region_bel krA krA ?_;(repeat (go_big_quiet_step ((go_at_call 127;with_reducible exact bel_of_same (ref04_within _ _ _ _ HWI.out)))));refine wpQuiet_nil ?_;intro wq hq
     clear hk0 hk1 hk2
     go_wp2_with fail
     go_ret
     exact ⟨ret_bool (pb_false fun h=>HNO.out (h m hlt)).symm,below_nextN hxr hq hxr.size⟩
  ·have hlt':decide (m<l.length)=false:=by simpa using hlt
   go_wp2_with fail
   go_ret
   exact ⟨ret_bool (pb_true fun i hi=>HOK.out i hi omA).symm,hxr⟩
theorem lCatR1 {P:Prop} (h:P:=by
 cases ow
 ·exact lCatR3
 ·cases jw
  ·exact lCatR3
  ·cases oz
   ·exact lCatR3
   ·cases j0
    ·cases d0
     ·exact lCatR3
     ·exact lCatR3
    ·exact lCatR3):P:=h
theorem lCatR2 {P:Prop} (h:P:=by
 go_wp2_with (go_at_call 127;(with_reducible refine (ref04_within x.duty 0 1048576 _ HWD.out).mono ?_);rintro e w1 ⟨rfl,rfl⟩)
 first|exact ⟨by rw [HB.out];first|rfl|simp,rfl⟩|(rw [HB.out];first|rfl|simp)):P:=h
theorem lCatR3 {P:Prop} (h:P:=by
 go_wp2_with (first|(go_at_call 127;(with_reducible refine (ref04_within x.joint 0 1 _ HJW.out).mono ?_);rintro e w1 ⟨rfl,rfl⟩)|(go_at_call 173;(with_reducible refine (ref04_owners nm TA tc cols er rt cols.length x.A x.cap x.own.length x.own _ (HC.out.next belA) rfl (HIO.out.next belA) rfl z4 hcl HOW.out).mono ?_);rintro e w1 ⟨rfl,hb1⟩;obtain ⟨kc,_,_⟩:=keepB hb1 (g + 1 + 1) mz3))
 first
  | exact ⟨by rw [HB.out];first|rfl|simp,hb1⟩
  | exact ⟨by rw [HB.out];first|rfl|simp,Below.refl _ _⟩):P:=h
theorem ref02_IsNameB (s:ByteArray) (w:World) (hs:s.size ≤ 1000000) {r:Bool} (hr:nameB s=r) :
 Calls Tryz.prog 93 #[.string s] w fun e w'=>e = .returned (.bool r)∧w=w':=by
 subst hr
 exact ref02_IsName s w hs
def headTy (ts:List Tab) (k:Int):Int:=match ts[k.toNat]? with
 | some t=>match t.cols with
   | c::_=>c.ty
   | [] => 0
 | none => 0
def headOwn (ts:List Tab) (k:Int):List Int:=match ts[k.toNat]? with
 | some t=>match t.cols with
   | c::_=>c.own
   | [] => []
 | none => []
theorem headTy_at {ts:List Tab} {k:Nat} (h:k<ts.length) (hc : 0<ts[k].cols.length):headTy ts (k:Int)=ts[k].cols[0].ty:=by
 unfold headTy
 rw [Int.toNat_natCast,List.getElem?_eq_getElem h]
 match hh:ts[k].cols,hc with
 | c::l,_=>simp only [hh];rfl
theorem headOwn_at {ts:List Tab} {k:Nat} (h:k<ts.length) (hc : 0<ts[k].cols.length):headOwn ts (k:Int)=ts[k].cols[0].own:=by
 unfold headOwn
 rw [Int.toNat_natCast,List.getElem?_eq_getElem h]
 match hh:ts[k].cols,hc with
 | c::l,_=>simp only [hh];rfl
def cE1 (x:Col):Bool := !nameB x.name||(!x.ns.toList.isEmpty && !nameB x.ns)
noncomputable def cE2 (cols:List Col) (i:Nat) (x:Col):Bool:=pb (∃ k,∃ h:k<cols.length,k<i∧cols[k].name=x.name)
def cE3 (x:Col) (tg:Int):Bool := !x.refs.toList.isEmpty&&decide (tg < 0)
def cE4 (ts:List Tab) (x:Col) (tg:Int):Bool:=(x.ty != 1&&x.ty != 2)||((decide (0≤tg) && !x.refs.toList.isEmpty)&&(headTy ts tg != x.ty))
noncomputable def cE5 (cols:List Col) (x:Col):Bool:=(((!x.ns.toList.isEmpty && !x.refs.toList.isEmpty) || !pb (OwnersOk cols x.own)) || !withinB x.joint 0 1)||(((x.own.length:Int) == 0)&&(x.joint != 0||x.duty != 0))
def cE6 (er rt:Int) (i:Nat) (x:Col):Bool:=(!withinB x.duty 0 1048576||(rt != 0&&decide (rt<x.duty)))||((((i:Int) == 0)&&decide (0<x.own.length))&&er != 1)
def cE7 (ts:List Tab) (i:Nat) (x:Col) (tg:Int):Bool:=(!x.refs.toList.isEmpty&&decide (0<(headOwn ts tg).length)) && !decide ((i:Int)∈x.own)
noncomputable def colErr (ts:List Tab) (cols:List Col) (er rt:Int) (n i:Nat) (x:Col):Int :=
 if cE1 x=true then 3 else if cE2 cols i x=true then 4 else if cE3 x (findT ts x.refs n)=true then 7 else if cE4 ts x (findT ts x.refs n)=true then 5
 else if cE5 cols x=true then 1 else if cE6 er rt i x=true then 1 else if cE7 ts i x (findT ts x.refs n)=true then 1 else 0
def pickReg (n:Nat):Code→Option Code
 | .region id l d=>if id=n then some (.region id l d) else none
 | .loop c=>pickReg n c
 | .seq a b=>match pickReg n a with
   | some c=>some c
   | none=>pickReg n b
 | .block _ c=>pickReg n c
 | .scope c=>pickReg n c
 | .cond _ a b=>match pickReg n a with
   | some c=>some c
   | none=>pickReg n b
 | _=>none
noncomputable def regOf (f:Func) (n:Nat):Code:=(f.body.bind (pickReg n)).getD .skip
theorem reg15A (c0 c1 c2 c3 c4 c5 c6 c9 c10 c11 c12 c13 c14 c15 c16 c17 c18 c19 c20 c21 c22 c23 c24 c25 c26 c27 c28 c29 c30 c31 c32 c33 c34 c35 c36 c37 c38 c39 c40 c41 c42 c43 c44 c45 c46 c47 c48 c49 c50 c51 c52 c53 c54 c55 c56 c57 c58 c59 c60 c61 c62 c63 c64 c65 c66 c67 c68 c69 c70 c71 c72 c73 c74 c75 c76 c77 c78 c79 c80 c81 c82 c83 c84 c85 c86 c87 c88 c89 c90 c91 c92 c93 c94 c95 c96 c97 c98 c99 c100 c101 c102 c103 c104 c105 c106 c107 c108 c109 c110 c111 c112 c113 c114 c115 c116 c117 c118 c119 c120 c121 c122 c123 c124 c125 c126 c127 c128 c129 c130 c131 c132 c133 c134 c135 c136 c137 c138 c139 c140 c141 c142 c143 c144 c145 c146 c147 c148 c149 c150 c151 c152 c153 c154 c155 c156 c157 c158 c159 c160 c161 c162 c163 c164 c165 c166 c167 c168 c169 c170 c171 c172 c173 c174 c175 c176 c177 c178 c179 c180 c181 c182 c183 c184 c185 c186 c187 c188:Value) (g:Nat) (nm:ByteArray) (TA:Option Addr) (tc:Nat) (cols:List Col) (er rt:Int) (x:Col) (W:World) (q0:W.cell? ⟨g + 1,0,none⟩=some (.string nm)) (q1:W.cell? ⟨g + 1,1,none⟩=some (.slice TA cols.length tc)) (q2:W.cell? ⟨g + 1,2,none⟩=some (.int .i64 er)) (q3:W.cell? ⟨g + 1,3,none⟩=some (.int .i64 rt)) (r0:W.cell? ⟨g + 1 + 1,0,none⟩=some (.string x.name)) (r1:W.cell? ⟨g + 1 + 1,1,none⟩=some (.int .i64 x.ty)) (r2:W.cell? ⟨g + 1 + 1,2,none⟩=some (.string x.ns)) (r3:W.cell? ⟨g + 1 + 1,3,none⟩=some (.string x.refs)) (r4:W.cell? ⟨g + 1 + 1,4,none⟩=some (.slice x.A x.own.length x.cap)) (r5:W.cell? ⟨g + 1 + 1,5,none⟩=some (.int .i64 x.joint)) (r6:W.cell? ⟨g + 1 + 1,6,none⟩=some (.int .i64 x.duty)) (mz3:g + 1 + 1<W.heap.size) (hc:SliceIs W W.heap.size Col.cells 7 TA cols) (ho:SliceIs W W.heap.size intCells 1 x.A x.own) (z4:x.own.length ≤ 1000000) (hcl:cols.length ≤ 1000000) (hf:x.refs.toList.isEmpty=false) (K:Exit→Act→World→Prop)
 (hK : ∀ (v95 u96 u97 u98 u99 u100 u101 u102 u103 u104 u105 u106 u107 u108 u109 u110 u111 u112 u113 u114 u115 u116 u117 u118 u119 u120 u121 u122 u123 u124 u125 u126 u127 u128 u129 u130 u131 u132:Value) (wc:World),v95 = .bool (cE5 cols x)∧Below W.heap.size W wc→K .normal ⟨#[c0,c1,c2,c3,c4,c5,c6, .pointer (some ⟨g + 1,0,none⟩), .pointer (some ⟨g + 1 + 1,0,none⟩),c9,c10,c11,c12,c13,c14,c15,c16,c17,c18,c19,c20,c21,c22,c23,c24,c25,c26,c27,c28,c29,c30,c31,c32,c33,c34,c35,c36,c37,c38,c39,c40,c41,c42,c43,c44,c45,c46,c47,c48,c49,c50,c51,c52,c53,c54,c55,c56,c57,c58,c59,c60,c61,c62,c63,c64,c65,c66,c67,c68,c69,c70,c71,c72,c73,c74,c75,c76,c77,c78,c79,c80,c81,c82,c83,c84,c85,c86,c87,c88,c89,c90,c91,c92,c93,c94,v95,u96,u97,u98,u99,u100,u101,u102,u103,u104,u105,u106,u107,u108,u109,u110,u111,u112,u113,u114,u115,u116,u117,u118,u119,u120,u121,u122,u123,u124,u125,u126,u127,u128,u129,u130,u131,u132,c133,c134,c135,c136,c137,c138,c139,c140,c141,c142,c143,c144,c145,c146,c147,c148,c149,c150,c151,c152,c153,c154,c155,c156,c157,c158,c159,c160,c161,c162,c163,c164,c165,c166,c167,c168,c169,c170,c171,c172,c173,c174,c175,c176,c177,c178,c179,c180,c181,c182,c183,c184,c185,c186,c187,c188],[]⟩ wc) :
 Code.wp Tryz.prog (regOf Tryz.f128 15) K ⟨#[c0,c1,c2,c3,c4,c5,c6, .pointer (some ⟨g + 1,0,none⟩), .pointer (some ⟨g + 1 + 1,0,none⟩),c9,c10,c11,c12,c13,c14,c15,c16,c17,c18,c19,c20,c21,c22,c23,c24,c25,c26,c27,c28,c29,c30,c31,c32,c33,c34,c35,c36,c37,c38,c39,c40,c41,c42,c43,c44,c45,c46,c47,c48,c49,c50,c51,c52,c53,c54,c55,c56,c57,c58,c59,c60,c61,c62,c63,c64,c65,c66,c67,c68,c69,c70,c71,c72,c73,c74,c75,c76,c77,c78,c79,c80,c81,c82,c83,c84,c85,c86,c87,c88,c89,c90,c91,c92,c93,c94,c95,c96,c97,c98,c99,c100,c101,c102,c103,c104,c105,c106,c107,c108,c109,c110,c111,c112,c113,c114,c115,c116,c117,c118,c119,c120,c121,c122,c123,c124,c125,c126,c127,c128,c129,c130,c131,c132,c133,c134,c135,c136,c137,c138,c139,c140,c141,c142,c143,c144,c145,c146,c147,c148,c149,c150,c151,c152,c153,c154,c155,c156,c157,c158,c159,c160,c161,c162,c163,c164,c165,c166,c167,c168,c169,c170,c171,c172,c173,c174,c175,c176,c177,c178,c179,c180,c181,c182,c183,c184,c185,c186,c187,c188],[]⟩ W:=by
 have HC:=qh hc
 have HIO:=qh ho
 clear hc ho
 obtain ⟨n3,hn3⟩ : ∃ r,x.ns.toList.isEmpty=r:=⟨_,rfl⟩
 obtain ⟨ow,how⟩ : ∃ r,pb (OwnersOk cols x.own)=r:=⟨_,rfl⟩
 obtain ⟨jw,hjw⟩ : ∃ r,withinB x.joint 0 1=r:=⟨_,rfl⟩
 obtain ⟨oz,hoz⟩ : ∃ r,((x.own.length:Int) == 0)=r:=⟨_,rfl⟩
 obtain ⟨j0,hj0⟩ : ∃ r,(x.joint != 0)=r:=⟨_,rfl⟩
 obtain ⟨d0,hd0⟩ : ∃ r,(x.duty != 0)=r:=⟨_,rfl⟩
 have hB:cE5 cols x=(((!n3 && !x.refs.toList.isEmpty) || !ow || !jw)||(oz&&(j0||d0))):=by rw [cE5,hn3,how,hjw,hoz,hj0,hd0]
 rw [hf] at hB
 have HB:=qh hB
 have HOW:=qh how
 have HJW:=qh hjw
 clear hB how hjw
 conv=>arg 2;whnf
 cases n3
 ·exact lCatR3
 ·exact lCatR1
theorem reg15B (c0 c1 c2 c3 c4 c5 c6 c9 c10 c11 c12 c13 c14 c15 c16 c17 c18 c19 c20 c21 c22 c23 c24 c25 c26 c27 c28 c29 c30 c31 c32 c33 c34 c35 c36 c37 c38 c39 c40 c41 c42 c43 c44 c45 c46 c47 c48 c49 c50 c51 c52 c53 c54 c55 c56 c57 c58 c59 c60 c61 c62 c63 c64 c65 c66 c67 c68 c69 c70 c71 c72 c73 c74 c75 c76 c77 c78 c79 c80 c81 c82 c83 c84 c85 c86 c87 c88 c89 c90 c91 c92 c93 c94 c95 c96 c97 c98 c99 c100 c101 c102 c103 c104 c105 c106 c107 c108 c109 c110 c111 c112 c113 c114 c115 c116 c117 c118 c119 c120 c121 c122 c123 c124 c125 c126 c127 c128 c129 c130 c131 c132 c133 c134 c135 c136 c137 c138 c139 c140 c141 c142 c143 c144 c145 c146 c147 c148 c149 c150 c151 c152 c153 c154 c155 c156 c157 c158 c159 c160 c161 c162 c163 c164 c165 c166 c167 c168 c169 c170 c171 c172 c173 c174 c175 c176 c177 c178 c179 c180 c181 c182 c183 c184 c185 c186 c187 c188:Value) (g:Nat) (nm:ByteArray) (TA:Option Addr) (tc:Nat) (cols:List Col) (er rt:Int) (x:Col) (W:World) (q0:W.cell? ⟨g + 1,0,none⟩=some (.string nm)) (q1:W.cell? ⟨g + 1,1,none⟩=some (.slice TA cols.length tc)) (q2:W.cell? ⟨g + 1,2,none⟩=some (.int .i64 er)) (q3:W.cell? ⟨g + 1,3,none⟩=some (.int .i64 rt)) (r0:W.cell? ⟨g + 1 + 1,0,none⟩=some (.string x.name)) (r1:W.cell? ⟨g + 1 + 1,1,none⟩=some (.int .i64 x.ty)) (r2:W.cell? ⟨g + 1 + 1,2,none⟩=some (.string x.ns)) (r3:W.cell? ⟨g + 1 + 1,3,none⟩=some (.string x.refs)) (r4:W.cell? ⟨g + 1 + 1,4,none⟩=some (.slice x.A x.own.length x.cap)) (r5:W.cell? ⟨g + 1 + 1,5,none⟩=some (.int .i64 x.joint)) (r6:W.cell? ⟨g + 1 + 1,6,none⟩=some (.int .i64 x.duty)) (mz3:g + 1 + 1<W.heap.size) (hc:SliceIs W W.heap.size Col.cells 7 TA cols) (ho:SliceIs W W.heap.size intCells 1 x.A x.own) (z4:x.own.length ≤ 1000000) (hcl:cols.length ≤ 1000000) (hf:x.refs.toList.isEmpty=true) (K:Exit→Act→World→Prop)
 (hK : ∀ (v95 u96 u97 u98 u99 u100 u101 u102 u103 u104 u105 u106 u107 u108 u109 u110 u111 u112 u113 u114 u115 u116 u117 u118 u119 u120 u121 u122 u123 u124 u125 u126 u127 u128 u129 u130 u131 u132:Value) (wc:World),v95 = .bool (cE5 cols x)∧Below W.heap.size W wc→K .normal ⟨#[c0,c1,c2,c3,c4,c5,c6, .pointer (some ⟨g + 1,0,none⟩), .pointer (some ⟨g + 1 + 1,0,none⟩),c9,c10,c11,c12,c13,c14,c15,c16,c17,c18,c19,c20,c21,c22,c23,c24,c25,c26,c27,c28,c29,c30,c31,c32,c33,c34,c35,c36,c37,c38,c39,c40,c41,c42,c43,c44,c45,c46,c47,c48,c49,c50,c51,c52,c53,c54,c55,c56,c57,c58,c59,c60,c61,c62,c63,c64,c65,c66,c67,c68,c69,c70,c71,c72,c73,c74,c75,c76,c77,c78,c79,c80,c81,c82,c83,c84,c85,c86,c87,c88,c89,c90,c91,c92,c93,c94,v95,u96,u97,u98,u99,u100,u101,u102,u103,u104,u105,u106,u107,u108,u109,u110,u111,u112,u113,u114,u115,u116,u117,u118,u119,u120,u121,u122,u123,u124,u125,u126,u127,u128,u129,u130,u131,u132,c133,c134,c135,c136,c137,c138,c139,c140,c141,c142,c143,c144,c145,c146,c147,c148,c149,c150,c151,c152,c153,c154,c155,c156,c157,c158,c159,c160,c161,c162,c163,c164,c165,c166,c167,c168,c169,c170,c171,c172,c173,c174,c175,c176,c177,c178,c179,c180,c181,c182,c183,c184,c185,c186,c187,c188],[]⟩ wc) :
 Code.wp Tryz.prog (regOf Tryz.f128 15) K ⟨#[c0,c1,c2,c3,c4,c5,c6, .pointer (some ⟨g + 1,0,none⟩), .pointer (some ⟨g + 1 + 1,0,none⟩),c9,c10,c11,c12,c13,c14,c15,c16,c17,c18,c19,c20,c21,c22,c23,c24,c25,c26,c27,c28,c29,c30,c31,c32,c33,c34,c35,c36,c37,c38,c39,c40,c41,c42,c43,c44,c45,c46,c47,c48,c49,c50,c51,c52,c53,c54,c55,c56,c57,c58,c59,c60,c61,c62,c63,c64,c65,c66,c67,c68,c69,c70,c71,c72,c73,c74,c75,c76,c77,c78,c79,c80,c81,c82,c83,c84,c85,c86,c87,c88,c89,c90,c91,c92,c93,c94,c95,c96,c97,c98,c99,c100,c101,c102,c103,c104,c105,c106,c107,c108,c109,c110,c111,c112,c113,c114,c115,c116,c117,c118,c119,c120,c121,c122,c123,c124,c125,c126,c127,c128,c129,c130,c131,c132,c133,c134,c135,c136,c137,c138,c139,c140,c141,c142,c143,c144,c145,c146,c147,c148,c149,c150,c151,c152,c153,c154,c155,c156,c157,c158,c159,c160,c161,c162,c163,c164,c165,c166,c167,c168,c169,c170,c171,c172,c173,c174,c175,c176,c177,c178,c179,c180,c181,c182,c183,c184,c185,c186,c187,c188],[]⟩ W:=by
 have HC:=qh hc
 have HIO:=qh ho
 clear hc ho
 obtain ⟨n3,hn3⟩ : ∃ r,x.ns.toList.isEmpty=r:=⟨_,rfl⟩
 obtain ⟨ow,how⟩ : ∃ r,pb (OwnersOk cols x.own)=r:=⟨_,rfl⟩
 obtain ⟨jw,hjw⟩ : ∃ r,withinB x.joint 0 1=r:=⟨_,rfl⟩
 obtain ⟨oz,hoz⟩ : ∃ r,((x.own.length:Int) == 0)=r:=⟨_,rfl⟩
 obtain ⟨j0,hj0⟩ : ∃ r,(x.joint != 0)=r:=⟨_,rfl⟩
 obtain ⟨d0,hd0⟩ : ∃ r,(x.duty != 0)=r:=⟨_,rfl⟩
 have hB:cE5 cols x=(((!n3 && !x.refs.toList.isEmpty) || !ow || !jw)||(oz&&(j0||d0))):=by rw [cE5,hn3,how,hjw,hoz,hj0,hd0]
 rw [hf] at hB
 have HB:=qh hB
 have HOW:=qh how
 have HJW:=qh hjw
 clear hB how hjw
 conv=>arg 2;whnf
 cases n3
 ·exact lCatR1
 ·exact lCatR1
theorem reg17 (c0 c1 c3 c4 c5 c6 c9 c10 c11 c12 c13 c14 c15 c16 c17 c18 c19 c20 c21 c22 c23 c24 c25 c26 c27 c28 c29 c30 c31 c32 c33 c34 c35 c36 c37 c38 c39 c40 c41 c42 c43 c44 c45 c46 c47 c48 c49 c50 c51 c52 c53 c54 c55 c56 c57 c58 c59 c60 c61 c62 c63 c64 c65 c66 c67 c68 c69 c70 c71 c72 c73 c74 c75 c76 c77 c78 c79 c80 c81 c82 c83 c84 c85 c86 c87 c88 c89 c90 c91 c92 c93 c94 c95 c96 c97 c98 c99 c100 c101 c102 c103 c104 c105 c106 c107 c108 c109 c110 c111 c112 c113 c114 c115 c116 c117 c118 c119 c120 c121 c122 c123 c124 c125 c126 c127 c128 c129 c130 c131 c132 c133 c134 c135 c136 c137 c138 c139 c140 c141 c142 c143 c144 c145 c146 c147 c148 c149 c150 c151 c152 c153 c154 c155 c156 c157 c158 c159 c160 c161 c162 c163 c164 c165 c166 c167 c168 c169 c170 c171 c172 c173 c174 c175 c176 c177 c178 c179 c180 c181 c182 c183 c184 c185 c186 c187 c188:Value) (g:Nat) (nm:ByteArray) (TA:Option Addr) (tc:Nat) (cols:List Col) (er rt:Int) (i:Nat) (x:Col) (W:World) (q0:W.cell? ⟨g + 1,0,none⟩=some (.string nm)) (q1:W.cell? ⟨g + 1,1,none⟩=some (.slice TA cols.length tc)) (q2:W.cell? ⟨g + 1,2,none⟩=some (.int .i64 er)) (q3:W.cell? ⟨g + 1,3,none⟩=some (.int .i64 rt)) (r0:W.cell? ⟨g + 1 + 1,0,none⟩=some (.string x.name)) (r1:W.cell? ⟨g + 1 + 1,1,none⟩=some (.int .i64 x.ty)) (r2:W.cell? ⟨g + 1 + 1,2,none⟩=some (.string x.ns)) (r3:W.cell? ⟨g + 1 + 1,3,none⟩=some (.string x.refs)) (r4:W.cell? ⟨g + 1 + 1,4,none⟩=some (.slice x.A x.own.length x.cap)) (r5:W.cell? ⟨g + 1 + 1,5,none⟩=some (.int .i64 x.joint)) (r6:W.cell? ⟨g + 1 + 1,6,none⟩=some (.int .i64 x.duty)) (mz3:g + 1 + 1<W.heap.size) (K:Exit→Act→World→Prop)
 (hK : ∀ (v133 u134 u135 u136 u137 u138 u139 u140 u141 u142 u143 u144 u145 u146 u147 u148 u149 u150 u151 u152 u153 u154 u155 u156 u157 u158 u159 u160 u161 u162 u163 u164:Value) (wc:World),v133 = .bool (cE6 er rt i x)∧W=wc→K .normal ⟨#[c0,c1, .int .i64 (i:Int),c3,c4,c5,c6, .pointer (some ⟨g + 1,0,none⟩), .pointer (some ⟨g + 1 + 1,0,none⟩),c9,c10,c11,c12,c13,c14,c15,c16,c17,c18,c19,c20,c21,c22,c23,c24,c25,c26,c27,c28,c29,c30,c31,c32,c33,c34,c35,c36,c37,c38,c39,c40,c41,c42,c43,c44,c45,c46,c47,c48,c49,c50,c51,c52,c53,c54,c55,c56,c57,c58,c59,c60,c61,c62,c63,c64,c65,c66,c67,c68,c69,c70,c71,c72,c73,c74,c75,c76,c77,c78,c79,c80,c81,c82,c83,c84,c85,c86,c87,c88,c89,c90,c91,c92,c93,c94,c95,c96,c97,c98,c99,c100,c101,c102,c103,c104,c105,c106,c107,c108,c109,c110,c111,c112,c113,c114,c115,c116,c117,c118,c119,c120,c121,c122,c123,c124,c125,c126,c127,c128,c129,c130,c131,c132,v133,u134,u135,u136,u137,u138,u139,u140,u141,u142,u143,u144,u145,u146,u147,u148,u149,u150,u151,u152,u153,u154,u155,u156,u157,u158,u159,u160,u161,u162,u163,u164,c165,c166,c167,c168,c169,c170,c171,c172,c173,c174,c175,c176,c177,c178,c179,c180,c181,c182,c183,c184,c185,c186,c187,c188],[]⟩ wc) :
 Code.wp Tryz.prog (regOf Tryz.f128 17) K ⟨#[c0,c1, .int .i64 (i:Int),c3,c4,c5,c6, .pointer (some ⟨g + 1,0,none⟩), .pointer (some ⟨g + 1 + 1,0,none⟩),c9,c10,c11,c12,c13,c14,c15,c16,c17,c18,c19,c20,c21,c22,c23,c24,c25,c26,c27,c28,c29,c30,c31,c32,c33,c34,c35,c36,c37,c38,c39,c40,c41,c42,c43,c44,c45,c46,c47,c48,c49,c50,c51,c52,c53,c54,c55,c56,c57,c58,c59,c60,c61,c62,c63,c64,c65,c66,c67,c68,c69,c70,c71,c72,c73,c74,c75,c76,c77,c78,c79,c80,c81,c82,c83,c84,c85,c86,c87,c88,c89,c90,c91,c92,c93,c94,c95,c96,c97,c98,c99,c100,c101,c102,c103,c104,c105,c106,c107,c108,c109,c110,c111,c112,c113,c114,c115,c116,c117,c118,c119,c120,c121,c122,c123,c124,c125,c126,c127,c128,c129,c130,c131,c132,c133,c134,c135,c136,c137,c138,c139,c140,c141,c142,c143,c144,c145,c146,c147,c148,c149,c150,c151,c152,c153,c154,c155,c156,c157,c158,c159,c160,c161,c162,c163,c164,c165,c166,c167,c168,c169,c170,c171,c172,c173,c174,c175,c176,c177,c178,c179,c180,c181,c182,c183,c184,c185,c186,c187,c188],[]⟩ W:=by
 obtain ⟨wd,hwd⟩ : ∃ r,withinB x.duty 0 1048576=r:=⟨_,rfl⟩
 obtain ⟨r9,hr9⟩ : ∃ r,(rt != 0)=r:=⟨_,rfl⟩
 obtain ⟨lt,hlt⟩ : ∃ r,decide (rt<x.duty)=r:=⟨_,rfl⟩
 obtain ⟨iz,hiz⟩ : ∃ r,((i:Int) == 0)=r:=⟨_,rfl⟩
 obtain ⟨o0,ho0⟩ : ∃ r,decide (0<x.own.length)=r:=⟨_,rfl⟩
 obtain ⟨e1,he1⟩ : ∃ r,(er != 1)=r:=⟨_,rfl⟩
 have hB:cE6 er rt i x=((!wd||(r9&&lt))||((iz&&o0)&&e1)):=by rw [cE6,hwd,hr9,hlt,hiz,ho0,he1]
 have HB:=qh hB
 have HWD:=qh hwd
 clear hB hwd
 conv=>arg 2;whnf
 cases wd
 ·exact lCatR2
 ·cases r9
  ·cases iz
   ·exact lCatR2
   ·cases o0
    ·exact lCatR2
    ·cases e1
     ·exact lCatR2
     ·exact lCatR2
  ·cases lt
   ·cases iz
    ·exact lCatR2
    ·cases o0
     ·exact lCatR2
     ·cases e1
      ·exact lCatR2
      ·exact lCatR2
   ·exact lCatR2
def firstErr (f:Nat→Int):Nat→Int
 | 0 => 0
 | m + 1=>if firstErr f m = 0 then f m else firstErr f m
theorem firstErr_none {f:Nat→Int} : ∀ {m:Nat},(∀ i,i<m→f i = 0)→firstErr f m = 0
 | 0,_=>rfl
 | m + 1,h=>by
   rw [firstErr,if_pos (firstErr_none fun i hi=>h i omA)]
   exact h m omA
theorem firstErr_at {f:Nat→Int} {k:Nat} (hk : ∀ i,i<k→f i = 0) (he:f k ≠ 0) : ∀ {m:Nat},k<m→firstErr f m=f k
 | m + 1,h=>by
   rw [firstErr]
   by_cases hkm:k=m
   ·subst hkm
    rw [if_pos (firstErr_none hk)]
   ·rw [firstErr_at hk he (show k<m by omega),if_neg he]
theorem firstErr_zero {f:Nat→Int} : ∀ {m:Nat},firstErr f m = 0 → ∀ i,i<m→f i = 0
 | m + 1,h,i,hi=>by
   rw [firstErr] at h
   by_cases h0:firstErr f m = 0
   ·rw [if_pos h0] at h
    rcases Nat.lt_or_ge i m with k|k
    ·exact firstErr_zero h0 i k
    ·obtain rfl:i=m:=by omega
     exact h
   ·rw [if_neg h0] at h
    exact absurd h h0
def shapeB (t:Tab):Bool:=(withinB t.cols.length 1 8&&withinB t.erase 0 1)&&withinB t.retain 0 1048576
noncomputable def colErrAt (ts:List Tab) (n:Nat) (t:Tab) (i:Nat):Int:=match t.cols[i]? with
 | some x=>colErr ts t.cols t.erase t.retain n i x
 | none => 0
noncomputable def tabErr (ts:List Tab) (n:Nat) (t:Tab):Int:=if shapeB t=true then firstErr (colErrAt ts n t) t.cols.length else 1
structure TabOk (ts:List Tab) (i:Nat) (h:i<ts.length):Prop where
 name:nameB ts[i].name=true
 fresh : ∀ k (hk:k<i),ts[k].name≠ts[i].name
 form:tabErr ts i ts[i] = 0
structure CatOk (ts:List Tab):Prop where
 len:ts.length ≤ 8
 tab : ∀ i (h:i<ts.length),TabOk ts i h
theorem tabErr_shape {ts:List Tab} {n:Nat} {t:Tab} (h:tabErr ts n t = 0):shapeB t=true:=by
 unfold tabErr at h
 split at h
 ·rename_i hh
  exact hh
 ·cases h
theorem shape_cols {t:Tab} (h:shapeB t=true) : 0<t.cols.length∧t.cols.length ≤ 8:=by
 simp only [shapeB,withinB,Bool.and_eq_true,decide_eq_true_eq] at h
 omega
end Go.Proofs.YtjhnpnhpmdkpcaaGreat
