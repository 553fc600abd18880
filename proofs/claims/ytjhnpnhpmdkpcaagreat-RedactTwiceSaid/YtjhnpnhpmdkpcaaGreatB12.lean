/-
  Contracts and plain laws of this seat, part 12: QCat2, QCat3, QCat4, OP1, OP2, OP3.
-/
import Derived.Test.YtjhnpnhpmdkpcaaGreatB9
import Derived.Test.YtjhnpnhpmdkpcaaGreatB11
set_option linter.unusedVariables false
set_option linter.unusedSimpArgs false
set_option maxRecDepth 100000
set_option maxHeartbeats 16000000
namespace Go.Proofs.YtjhnpnhpmdkpcaaGreat
open Go.RowKit Go
theorem cat_validOwnersX (nm:ByteArray) (TA:Option Addr) (tc cn:Nat) (cols:List Col) (er rt:Int) (A:Option Addr) (c n:Nat) (l:List Int) (w:World) (ht:SliceIs w w.heap.size Col.cells 7 TA cols) (hcn:cols.length=cn) (hl:SliceIs w w.heap.size intCells 1 A l) (hln:l.length=n) (hn:n ≤ 1000000) (hc:cn ≤ 1000000) {r:Bool} (hr:pb (OwnersOk cols l)=r) :
 Calls Tryz.prog 182 #[.agg #[.string nm, .slice TA cn tc, .int .i64 er, .int .i64 rt], .slice A n c] w fun e w'=>e = .returned (.bool r)∧Below w.heap.size w w':=by
 subst hln hcn
 have HT:=qh ht
 have HL:=qh hl
 have HRES:=qh hr
 clear ht hl hr
 go_enter Tryz.func182,Tryz.ntmps182
 go_upto_region 1 with (fail)
 refine abs_world (P:=fun u=>Code.wp _ _ _ _ u) (R:=fun u=>Blk u w.heap.size 71 #[.string nm, .slice TA cols.length tc, .int .i64 er, .int .i64 rt]∧Below w.heap.size w u) ⟨?_,?_⟩ ?_
 ·exact Blk.new _ _ _
 ·exact belA
 rintro W ⟨hB,hbW⟩
 have hzW:=hB.lt
 have HB:=qh hB
 clear hB
 go_wp2_with fail
 go_loopw [5,11] (fun vb vi wr => ∃ m:Nat,∃ j:Int,m≤l.length∧vi = .int .i64 m∧vb = .int .i64 j∧(m = 0→j = -1)∧(∀ h:m - 1<l.length,0<m→j=l[m - 1] ∧ 0≤j)∧(∀ k (h:k<l.length),k<m→OwnAt cols l k h)∧Below W.heap.size W wr) (fun _ vi _=>l.length - (intOf vi).toNat)
 case atStart=>exact ⟨0,-1,Nat.zero_le _,rfl,rfl,fun _=>rfl,fun _ h=>by omega,fun k h hk=>by omega,by exact belA⟩
 case round =>
  obtain ⟨m,j,hm,rfl,rfl,hj0,hj1,hpre,hbr⟩:=hrel
  have HPRE:=qh hpre
  have hwz:=hbr.size
  have hxr:=below_nextN hbW hbr hbW.size
  clear hpre
  obtain ⟨q0,q1,q2,q3⟩:=Tab.blk (HB.out.below hbr hzW)
  by_cases hlt:m<l.length
  ·obtain ⟨b5,o5,rfl,hb5,hc5⟩:=(HL.out.below hxr).get hlt
   have x0:=hc5 0 _ rfl
   simp only [Nat.mul_one,Nat.add_zero] at x0
   have hno : ¬ OwnAt cols l m hlt→r=false:=fun h=>by
    rw [← HRES.out]
    exact pb_false fun h2=>h (h2 m hlt)
   have hjm1 : -1≤j:=by
    rcases Nat.eq_zero_or_pos m with h0|h0
    ·rw [hj0 h0];omega
    ·exact Int.le_trans omA (hj1 omA h0).2
   by_cases hjq:l[m]≤j
   ·have HR0:Hid (r=false):=qh (hno fun h=>by
     rcases Nat.eq_zero_or_pos m with h0|h0
     ·have h1:=h.lo
      rw [hj0 h0] at hjq
      omega
     ·have h1:=h.asc h0
      rw [(hj1 omA h0).1] at hjq
      omega)
    have d1:decide (l[m]≤j)=true:=by simpa using hjq
    clear hc5 hj0 hj1 hjq hno
    go_wp2_with fail
    go_ret
    exact ⟨ret_bool HR0.out.symm,hxr⟩
   obtain ⟨q,hq⟩ : ∃ q:Nat,l[m]=(q:Int):=⟨l[m].toNat,by omega⟩
   have HQ:=qh hq
   have d1:decide ((q:Int)≤j)=false:=by simp;omega
   by_cases hql:cols.length≤q
   ·have HR0:Hid (r=false):=qh (hno fun h=>by
     have h1:=h.hi
     omega)
    rw [hq] at x0
    have d2:decide (cols.length≤q)=true:=by simpa using hql
    have d2':decide ((cols.length:Int)≤(q:Int))=true:=by simp;omega
    clear hc5 hj0 hj1 hno hq hjq
    go_wp2_with fail
    go_ret
    exact ⟨ret_bool HR0.out.symm,hxr⟩
   have d2:decide (cols.length≤q)=false:=by simp;omega
   have d2':decide ((cols.length:Int)≤(q:Int))=false:=by simp;omega
   have hql':q<cols.length:=by omega
   rw [hq] at x0
   obtain ⟨b6,o6,rfl,hb6,hc6⟩:=(HT.out.below hxr).get hql'
   obtain ⟨c0,c1,c2,c3,c4,c5,c6⟩:=Col.cells7 hc6
   by_cases hsome:cols[q].ns=⟨#[]⟩∧cols[q].refs=⟨#[]⟩
   ·have HR0:Hid (r=false):=qh (hno fun h=>by
     have h1:=h.some_
     have e:l[m].toNat=q:=by omega
     simp only [e] at h1
     exact h1 hsome)
    have hns':=empT hsome.1
    have hrf':=empT hsome.2
    clear hc5 hc6 hj0 hj1 hno hq hjq hsome
    go_wp2_with fail
    go_ret
    exact ⟨ret_bool HR0.out.symm,below_nextN hbW belA hbW.size⟩
   have HAT:Hid (∀ k (h:k<l.length),k<m + 1→OwnAt cols l k h):=qh fun k h hk=>by
    rcases Nat.lt_or_ge k m with h1|h1
    ·exact HPRE.out k h h1
    ·obtain rfl:k=m:=by omega
     refine ⟨by rw [hq];omega,by rw [hq];omega,fun h0 => ?_,?_⟩
     ·have h2:=(hj1 omA h0).1
      omega
     ·have e:l[k].toNat=q:=by omega
      simp only [e]
      exact hsome
   clear hc5 hc6 hj0 hj1 hjq hq hno
   by_cases hns:cols[q].ns=⟨#[]⟩
   ·have hns':=empT hns
    have hrf':=empF fun h=>hsome ⟨hns,h⟩
    clear hsome hns
    go_wp2_with fail
    go_roundw
    case rel=>exact ⟨m + 1,q,by omega,by go_num,rfl,fun h=>by omega,fun h _=>by simp only [Nat.add_sub_cancel];exact ⟨HQ.out.symm,by omega⟩,HAT.out,by exact belA⟩
    case measure=>exact meA
   ·have hns':=empF hns
    clear hsome hns
    go_wp2_with fail
    go_roundw
    case rel=>exact ⟨m + 1,q,by omega,by go_num,rfl,fun h=>by omega,fun h _=>by simp only [Nat.add_sub_cancel];exact ⟨HQ.out.symm,by omega⟩,HAT.out,by exact belA⟩
    case measure=>exact meA
  ·have hlt':decide (m<l.length)=false:=by simpa using hlt
   have HR1:Hid (r=true):=qh (by
    rw [← HRES.out]
    exact pb_true fun k h=>HPRE.out k h omA)
   go_wp2_with fail
   go_ret
   exact ⟨ret_bool HR1.out.symm,hxr⟩
def rulesB (rt:Int) (x:Col):Bool := !((x.joint != 0&&(x.joint != 1 || !decide (0<x.own.length)))||(!withinB x.duty 0 1048576||(x.duty != 0 && !decide (0<x.own.length))))&&(rt == 0||decide (x.duty≤rt))
theorem cat_validRulesX (nm:ByteArray) (TA:Option Addr) (tc cn:Nat) (er rt:Int) (x:Col) (w:World) {r:Bool} (hr:rulesB rt x=r) :
 Calls Tryz.prog 183 #[.agg #[.string nm, .slice TA cn tc, .int .i64 er, .int .i64 rt], .agg #[.string x.name, .int .i64 x.ty, .string x.ns, .string x.refs, .slice x.A x.own.length x.cap, .int .i64 x.joint, .int .i64 x.duty]] w fun e w'=>e = .returned (.bool r)∧Below w.heap.size w w':=by
 obtain ⟨dt,hd⟩ : ∃ b,withinB x.duty 0 1048576=b:=⟨_,rfl⟩
 have HD:=qh hd
 have HRES:=qh hr
 clear hd hr
 cases p1:(x.joint != 0)
 ·cases dt
  ·go_enter Tryz.func183,Tryz.ntmps183
   go_wp2_with (go_at_call 150;(with_reducible refine (cat_within _ _ _ _ HD.out).mono ?_);rintro e w1 ⟨rfl,rfl⟩)
   go_ret
   exact ⟨ret_bool (by rw [← HRES.out];simp [rulesB,HD.out, *]),by exact belA⟩
  ·cases p2:(x.duty != 0)
   ·cases r1:(rt == 0)
    ·cases r2:decide (x.duty≤rt)
     ·go_enter Tryz.func183,Tryz.ntmps183
      go_wp2_with (go_at_call 150;(with_reducible refine (cat_within _ _ _ _ HD.out).mono ?_);rintro e w1 ⟨rfl,rfl⟩)
      go_ret
      exact ⟨ret_bool (by rw [← HRES.out];simp [rulesB,HD.out, *]),by exact belA⟩
     ·go_enter Tryz.func183,Tryz.ntmps183
      go_wp2_with (go_at_call 150;(with_reducible refine (cat_within _ _ _ _ HD.out).mono ?_);rintro e w1 ⟨rfl,rfl⟩)
      go_ret
      exact ⟨ret_bool (by rw [← HRES.out];simp [rulesB,HD.out, *]),by exact belA⟩
    ·go_enter Tryz.func183,Tryz.ntmps183
     go_wp2_with (go_at_call 150;(with_reducible refine (cat_within _ _ _ _ HD.out).mono ?_);rintro e w1 ⟨rfl,rfl⟩)
     go_ret
     exact ⟨ret_bool (by rw [← HRES.out];simp [rulesB,HD.out, *]),by exact belA⟩
   ·cases p0:decide (0<x.own.length)
    ·go_enter Tryz.func183,Tryz.ntmps183
     go_wp2_with (go_at_call 150;(with_reducible refine (cat_within _ _ _ _ HD.out).mono ?_);rintro e w1 ⟨rfl,rfl⟩)
     go_ret
     exact ⟨ret_bool (by rw [← HRES.out];simp [rulesB,HD.out, *]),by exact belA⟩
    ·cases r1:(rt == 0)
     ·cases r2:decide (x.duty≤rt)
      ·go_enter Tryz.func183,Tryz.ntmps183
       go_wp2_with (go_at_call 150;(with_reducible refine (cat_within _ _ _ _ HD.out).mono ?_);rintro e w1 ⟨rfl,rfl⟩)
       go_ret
       exact ⟨ret_bool (by rw [← HRES.out];simp [rulesB,HD.out, *]),by exact belA⟩
      ·go_enter Tryz.func183,Tryz.ntmps183
       go_wp2_with (go_at_call 150;(with_reducible refine (cat_within _ _ _ _ HD.out).mono ?_);rintro e w1 ⟨rfl,rfl⟩)
       go_ret
       exact ⟨ret_bool (by rw [← HRES.out];simp [rulesB,HD.out, *]),by exact belA⟩
     ·go_enter Tryz.func183,Tryz.ntmps183
      go_wp2_with (go_at_call 150;(with_reducible refine (cat_within _ _ _ _ HD.out).mono ?_);rintro e w1 ⟨rfl,rfl⟩)
      go_ret
      exact ⟨ret_bool (by rw [← HRES.out];simp [rulesB,HD.out, *]),by exact belA⟩
 ·cases p3:(x.joint != 1)
  ·cases p0:decide (0<x.own.length)
   ·go_enter Tryz.func183,Tryz.ntmps183
    go_wp2_with (go_at_call 150;(with_reducible refine (cat_within _ _ _ _ HD.out).mono ?_);rintro e w1 ⟨rfl,rfl⟩)
    go_ret
    exact ⟨ret_bool (by rw [← HRES.out];simp [rulesB,HD.out, *]),by exact belA⟩
   ·cases dt
    ·go_enter Tryz.func183,Tryz.ntmps183
     go_wp2_with (go_at_call 150;(with_reducible refine (cat_within _ _ _ _ HD.out).mono ?_);rintro e w1 ⟨rfl,rfl⟩)
     go_ret
     exact ⟨ret_bool (by rw [← HRES.out];simp [rulesB,HD.out, *]),by exact belA⟩
    ·cases p2:(x.duty != 0)
     ·cases r1:(rt == 0)
      ·cases r2:decide (x.duty≤rt)
       ·go_enter Tryz.func183,Tryz.ntmps183
        go_wp2_with (go_at_call 150;(with_reducible refine (cat_within _ _ _ _ HD.out).mono ?_);rintro e w1 ⟨rfl,rfl⟩)
        go_ret
        exact ⟨ret_bool (by rw [← HRES.out];simp [rulesB,HD.out, *]),by exact belA⟩
       ·go_enter Tryz.func183,Tryz.ntmps183
        go_wp2_with (go_at_call 150;(with_reducible refine (cat_within _ _ _ _ HD.out).mono ?_);rintro e w1 ⟨rfl,rfl⟩)
        go_ret
        exact ⟨ret_bool (by rw [← HRES.out];simp [rulesB,HD.out, *]),by exact belA⟩
      ·go_enter Tryz.func183,Tryz.ntmps183
       go_wp2_with (go_at_call 150;(with_reducible refine (cat_within _ _ _ _ HD.out).mono ?_);rintro e w1 ⟨rfl,rfl⟩)
       go_ret
       exact ⟨ret_bool (by rw [← HRES.out];simp [rulesB,HD.out, *]),by exact belA⟩
     ·cases r1:(rt == 0)
      ·cases r2:decide (x.duty≤rt)
       ·go_enter Tryz.func183,Tryz.ntmps183
        go_wp2_with (go_at_call 150;(with_reducible refine (cat_within _ _ _ _ HD.out).mono ?_);rintro e w1 ⟨rfl,rfl⟩)
        go_ret
        exact ⟨ret_bool (by rw [← HRES.out];simp [rulesB,HD.out, *]),by exact belA⟩
       ·go_enter Tryz.func183,Tryz.ntmps183
        go_wp2_with (go_at_call 150;(with_reducible refine (cat_within _ _ _ _ HD.out).mono ?_);rintro e w1 ⟨rfl,rfl⟩)
        go_ret
        exact ⟨ret_bool (by rw [← HRES.out];simp [rulesB,HD.out, *]),by exact belA⟩
      ·go_enter Tryz.func183,Tryz.ntmps183
       go_wp2_with (go_at_call 150;(with_reducible refine (cat_within _ _ _ _ HD.out).mono ?_);rintro e w1 ⟨rfl,rfl⟩)
       go_ret
       exact ⟨ret_bool (by rw [← HRES.out];simp [rulesB,HD.out, *]),by exact belA⟩
  ·go_enter Tryz.func183,Tryz.ntmps183
   go_wp2_with (go_at_call 150;(with_reducible refine (cat_within _ _ _ _ HD.out).mono ?_);rintro e w1 ⟨rfl,rfl⟩)
   go_ret
   exact ⟨ret_bool (by rw [← HRES.out];simp [rulesB,HD.out, *]),by exact belA⟩
open Go.RowKit Go
theorem col_earlierX (b:Nat) (x y:Col) (w:World) (hB:Blk w b 73 #[.string x.name, .int .i64 x.ty, .string x.ns, .string x.refs, .slice x.A x.own.length x.cap, .int .i64 x.joint, .int .i64 x.duty]) {r:Bool} (hr:(y.name.toList==x.name.toList)=r) :
 Calls Tryz.prog 180 #[.agg #[.string y.name, .int .i64 y.ty, .string y.ns, .string y.refs, .slice y.A y.own.length y.cap, .int .i64 y.joint, .int .i64 y.duty], .pointer (some ⟨b,0,none⟩)] w fun e w'=>e = .returned (.bool r)∧Below w.heap.size w w':=by
 have hbl:=hB.lt
 obtain ⟨q0,_,_,_,_,_,_⟩:=Col.blk hB
 clear hB
 go_enter Tryz.func180,Tryz.ntmps180
 go_wp2_with fail
 go_ret
 exact ⟨rfl,by exact belA⟩
theorem name_eq {s t:ByteArray}:(s.toList==t.toList)=decide (s=t):=by
 by_cases h:s=t
 ·rw [strT h,decide_eq_true h]
 ·rw [strF h,decide_eq_false h]
theorem index_colX (b:Nat) (x:Col) (A:Option Addr) (c n:Nat) (l:List Col) (w:World) (hB:Blk w b 73 #[.string x.name, .int .i64 x.ty, .string x.ns, .string x.refs, .slice x.A x.own.length x.cap, .int .i64 x.joint, .int .i64 x.duty]) (hl:SliceIs w w.heap.size Col.cells 7 A l) (hln:l.length=n) (hn:n ≤ 1000000) :
 Calls Tryz.prog 203 #[.slice A n c, .func (.func 180) #[] #[.pointer (some ⟨b,0,none⟩)]] w fun e w'=>(∃ k:Int,e = .returned (.int .i64 k)∧(0≤k ↔ ∃ y∈l,y.name=x.name))∧Below w.heap.size w w':=by
 subst hln
 have HB:=qh hB
 have HL:=qh hl
 have hbl:=hB.lt
 clear hB hl
 go_enter Tryz.func203,Tryz.ntmps203
 go_wp2
 go_loopw [8] (fun vi wr => ∃ m:Nat,m≤l.length∧vi = .int .i64 m∧Below w.heap.size w wr ∧ ∀ k (h:k<l.length),k<m→l[k].name≠x.name) (fun vi _=>l.length - (intOf vi).toNat)
 case atStart=>exact ⟨0,Nat.zero_le _,rfl,by exact belA,fun k h hk=>by omega⟩
 case round =>
  obtain ⟨m,hm,rfl,hbw,hpre⟩:=hrel
  have HPRE:=qh hpre
  clear hpre
  by_cases hlt:m<l.length
  ·obtain ⟨b5,o5,rfl,hb5,hc5⟩:=(HL.out.below hbw).get hlt
   obtain ⟨h0,h1,h2,h3,h4,h5,h6⟩:=Col.cells7 hc5
   clear hc5
   cases he:(l[m].name.toList==x.name.toList)
   ·have HE:=qh he
    have HNE:Hid (∀ k (h:k<l.length),k<m + 1→l[k].name≠x.name):=qh fun k h hk=>by
     rcases Nat.lt_or_ge k m with h1|h1
     ·exact HPRE.out k h h1
     ·obtain rfl:k=m:=by omega
      rw [name_eq,decide_eq_false_iff_not] at he
      exact he
    clear he
    go_wp2_with (go_at_call 180;(with_reducible refine (col_earlierX b x l[m] _ (HB.out.below hbw hbl) HE.out).mono ?_);rintro e w1 ⟨rfl,hb1⟩;have hx1:Below w.heap.size w w1:=below_nextN hbw hb1 hbw.size)
    go_roundw
    case rel=>exact ⟨m + 1,by omega,by go_num,hx1,HNE.out⟩
    case measure=>exact meA
   ·have HE:=qh he
    have HYE:Hid (∃ y∈l,y.name=x.name):=qh ⟨l[m],lgm hlt,by rw [name_eq] at he;exact of_decide_eq_true he⟩
    clear he
    go_wp2_with (go_at_call 180;(with_reducible refine (col_earlierX b x l[m] _ (HB.out.below hbw hbl) HE.out).mono ?_);rintro e w1 ⟨rfl,hb1⟩;have hx1:Below w.heap.size w w1:=below_nextN hbw hb1 hbw.size)
    go_ret
    exact ⟨⟨_,rfl,fun _=>HYE.out,fun _=>by omega⟩,hx1⟩
  ·have hlt':decide (m<l.length)=false:=by simpa using hlt
   have HNO:Hid (¬ ∃ y∈l,y.name=x.name):=qh (by
    rintro ⟨y,hy,e⟩
    obtain ⟨k,hk,rfl⟩:=List.getElem_of_mem hy
    exact HPRE.out k hk omA e)
   go_wp2_with fail
   go_ret
   exact ⟨⟨-1,rfl,fun h=>by omega,fun h=>absurd h HNO.out⟩,hbw⟩
theorem contains_colX (b:Nat) (x:Col) (A:Option Addr) (c n:Nat) (l:List Col) (w:World) (hB:Blk w b 73 #[.string x.name, .int .i64 x.ty, .string x.ns, .string x.refs, .slice x.A x.own.length x.cap, .int .i64 x.joint, .int .i64 x.duty]) (hl:SliceIs w w.heap.size Col.cells 7 A l) (hln:l.length=n) (hn:n ≤ 1000000) {r:Bool} (hr:pb (∃ y∈l,y.name=x.name)=r) :
 Calls Tryz.prog 179 #[.slice A n c, .func (.func 180) #[] #[.pointer (some ⟨b,0,none⟩)]] w fun e w'=>e = .returned (.bool r)∧Below w.heap.size w w':=by
 have HB:=qh hB
 have HL:=qh hl
 have HRES:=qh hr
 clear hB hl hr
 go_enter Tryz.func179,Tryz.ntmps179
 go_wp2_with fail
 with_reducible refine (index_colX b x A c n l _ HB.out HL.out hln hn).mono ?_
 rintro e w1 ⟨⟨k,rfl,hk⟩,hb1⟩
 have HK:=qh hk
 clear hk
 go_wp2_with fail
 go_ret
 refine ⟨ret_bool ?_,hb1⟩
 rw [← HRES.out]
 by_cases h0 : 0≤k
 ·rw [pb_true (HK.out.1 h0),decide_eq_true h0]
 ·rw [pb_false fun h=>h0 (HK.out.2 h),decide_eq_false h0]
/-! What a column asks for, in the order in which the program looks. -/
noncomputable def qE2 (cols:List Col) (i:Nat) (x:Col):Bool:=pb (∃ y∈cols.take i,y.name=x.name)
noncomputable def qE5 (cols:List Col) (rt:Int) (x:Col):Bool:=((!x.ns.toList.isEmpty && !x.refs.toList.isEmpty) || !pb (OwnersOk cols x.own)) || !rulesB rt x
def qE6 (er:Int) (i:Nat) (x:Col):Bool:=(((i:Int) == 0)&&decide (0<x.own.length))&&er != 1
def qE7 (ts:List Tab) (i:Nat) (x:Col) (tg:Int):Bool:=(decide (0≤tg)&&decide (0<(headOwn ts tg).length)) && !decide ((i:Int)∈x.own)
noncomputable def qErr (ts:List Tab) (cols:List Col) (er rt:Int) (n i:Nat) (x:Col):Int :=
 if cE1 x=true then 3 else if qE2 cols i x=true then 4 else if cE3 x (findT ts x.refs n)=true then 7 else if cE4 ts x (findT ts x.refs n)=true then 5
 else if qE5 cols rt x=true then 1 else if qE6 er i x=true then 1 else if qE7 ts i x (findT ts x.refs n)=true then 1 else 0
theorem qE2_eq (cols:List Col) (i:Nat) (x:Col):qE2 cols i x=cE2 cols i x:=by
 unfold qE2 cE2
 by_cases h : ∃ y∈cols.take i,y.name=x.name
 ·rw [pb_true h]
  obtain ⟨y,hy,e⟩:=h
  obtain ⟨k,hk,he⟩:=List.getElem_of_mem hy
  rw [List.getElem_take] at he
  have hk':k<i∧k<cols.length:=by simp at hk;omega
  exact (pb_true ⟨k,hk'.2,hk'.1,by rw [he,e]⟩).symm
 ·rw [pb_false h,pb_false]
  rintro ⟨k,hk,hki,e⟩
  exact h ⟨cols[k],List.mem_take_iff_getElem.2 ⟨k,by omega,rfl⟩,e⟩
theorem qErr_eq {ts:List Tab} {cols:List Col} {er rt:Int} {n i:Nat} {x:Col} (hnn:findT ts ⟨#[]⟩ (n:Int) = -1):qErr ts cols er rt n i x=colErr ts cols er rt n i x:=by
 have h0:x.refs.toList.isEmpty=true→findT ts x.refs (n:Int) = -1:=fun h=>by
  by_cases hr:x.refs=⟨#[]⟩
  ·rw [hr];exact hnn
  ·rw [empF hr] at h;cases h
 unfold qErr colErr
 rw [qE2_eq]
 by_cases h1:cE1 x=true
 ·rw [if_pos h1,if_pos h1]
 rw [if_neg h1,if_neg h1]
 by_cases h2:cE2 cols i x=true
 ·rw [if_pos h2,if_pos h2]
 rw [if_neg h2,if_neg h2]
 by_cases h3:cE3 x (findT ts x.refs n)=true
 ·rw [if_pos h3,if_pos h3]
 rw [if_neg h3,if_neg h3]
 by_cases h4:cE4 ts x (findT ts x.refs n)=true
 ·rw [if_pos h4,if_pos h4]
 rw [if_neg h4,if_neg h4]
 have e:(qE5 cols rt x||(qE6 er i x||qE7 ts i x (findT ts x.refs n)))=(cE5 cols x||(cE6 er rt i x||cE7 ts i x (findT ts x.refs n))):=by
  have hj:withinB x.joint 0 1=(!(x.joint != 0) || !(x.joint != 1)):=by
   unfold withinB
   rw [Bool.eq_iff_iff]
   simp
   omega
  have hlen:((x.own.length:Int) == 0) = !decide (0<x.own.length):=by
   rw [Bool.eq_iff_iff]
   simp
  have hd:(rt == 0||decide (x.duty≤rt)) = !(rt != 0&&decide (rt<x.duty)):=by
   rw [Bool.eq_iff_iff]
   simp
  have h7:cE7 ts i x (findT ts x.refs n)=qE7 ts i x (findT ts x.refs n):=by
   unfold cE7 qE7
   cases hr:x.refs.toList.isEmpty
   ·have ht:decide (0≤findT ts x.refs (n:Int))=true:=by
     unfold cE3 at h3
     rw [hr] at h3
     simpa using h3
    rw [ht]
    rfl
   ·rw [h0 hr]
    rfl
  rw [h7]
  unfold qE5 cE5 qE6 cE6 rulesB
  rw [hj,hlen,hd]
  generalize (!x.ns.toList.isEmpty && !x.refs.toList.isEmpty)=a1
  generalize pb (OwnersOk cols x.own)=a2
  generalize decide (0<x.own.length)=a3
  generalize (x.joint != 0)=a4
  generalize (x.joint != 1)=a5
  generalize (x.duty != 0)=a6
  generalize withinB x.duty 0 1048576=a7
  generalize (rt != 0&&decide (rt<x.duty))=a8
  generalize ((i:Int) == 0)=a9
  generalize (er != 1)=b1
  generalize qE7 ts i x (findT ts x.refs n)=b2
  clear hj hlen hd h7 h0 h1 h2 h3 h4 hnn
  cases a1 <;> cases a2 <;> cases a3 <;> cases a4 <;> cases a5 <;> cases a6 <;> cases a7 <;> cases a8 <;> cases a9 <;> cases b1 <;> cases b2 <;> rfl
 have f : ∀ a b c:Bool,(if a=true then (1:Int) else if b=true then 1 else if c=true then 1 else 0)=if (a||(b||c))=true then 1 else 0:=by decide
 rw [f,f,e]
open Go.RowKit Go
def PreOk (ts:List Tab) (n:Nat):Prop := ∀ i (h:i<ts.length),i<n→TabOk ts i h
theorem PreOk.cols {ts:List Tab} {n:Nat} (h:PreOk ts n) {i:Nat} (hi:i<ts.length) (hin:i<n) : 0<ts[i].cols.length:=(shape_cols (tabErr_shape (h i hi hin).form)).1
theorem PreOk.noname {ts:List Tab} {n:Nat} (h:PreOk ts n) (hn:n≤ts.length):findT ts ⟨#[]⟩ (n:Int) = -1:=by
 unfold findT
 refine findI_none fun i hi hin e => ?_
 have hi':i<ts.length:=by simpa using hi
 exact nameB_ne (h i hi' omA).name (by simpa using e)
open Go.RowKit Go
theorem chk_findO (A:Option Addr) (c dm nm g k:Nat) (v:Value) (ts:List Tab) (o:Oth) (n:Nat) (s:ByteArray) (w:World) (hB:Blk w g 163 #[.slice A ts.length c, .slice o.vA 0 o.vc, .slice o.iA o.idx.length o.ic, .slice o.sA o.skt.length o.sc, .slice o.cA o.cch.length o.cc, .slice o.rA o.rel.length o.rc, .slice o.tA o.str.length o.tc, .slice o.bA o.bak.length o.bc, .map (some dm), .map (some nm),v]) (hM:MapV Tryz.prog 9 3 w nm k (numF ts n)) (hs:s.size ≤ 1000000) {r:Int} (hr:findT ts s (n:Int)=r) :
 Calls Tryz.prog 157 #[.pointer (some ⟨g,0,none⟩), .string s] w fun e w'=>e = .returned (.int .i64 r)∧Below w.heap.size w w':=by
 subst hr
 obtain ⟨p0,p8,p9,p10⟩:=Chk.blk hB
 by_cases h:findT ts s (n:Int) < 0
 ·have hf:numF ts n (.string s)=none:=by simp [numF,h]
  have hneg:=findT_neg h
  have HF:=qh hf
  have HN:=qh hneg
  have HM:=qh hM
  clear hf hneg h hM hB
  go_enter Tryz.func157,Tryz.ntmps157
  go_wp2_with (at_lookup;refine wpList_lookOkV _ rfl _ _ _ rfl 9 3 str_keyed Tryz.underlying139 (.int .i64 0) zero_int _ (pe_int (by decide)) nm k _ rfl HM.out (.string s) _ rfl (str_key hs) (.int .i64 0) false (by rw [HF.out];rfl) (by rw [HF.out];rfl) ?_)
  go_ret
  exact ⟨ret_int (by rw [HN.out]),by exact belA⟩
 ·have hf:numF ts n (.string s)=some (.int .i64 (findT ts s (n:Int))):=by simp [numF,h]
  have HF:=qh hf
  have HM:=qh hM
  clear hf h hM hB
  go_enter Tryz.func157,Tryz.ntmps157
  go_wp2_with (at_lookup;refine wpList_lookOkV _ rfl _ _ _ rfl 9 3 str_keyed Tryz.underlying139 (.int .i64 0) zero_int _ (pe_int (by decide)) nm k _ rfl HM.out (.string s) _ rfl (str_key hs) (.int .i64 (findT ts s (n:Int))) true (by rw [HF.out];rfl) (by rw [HF.out];rfl) ?_)
  go_ret
  exact ⟨rfl,by exact belA⟩
noncomputable def declL (L:List ByteArray):Value→Option Value:=fun u=>match u with
 | .string s=>if pb (s∈L)=true then some (.bool true) else none
 | _=>none
theorem declL_new (L:List ByteArray) (s:ByteArray):declL (L ++ [s]) (.string s)=some (.bool true):=by
 show (if pb (s∈L ++ [s])=true then some (Value.bool true) else none)=some (Value.bool true)
 rw [pb_true spA,if_pos rfl]
theorem declL_old {L:List ByteArray} {s:ByteArray} {u:Value} (h:u ≠ .string s):declL (L ++ [s]) u=declL L u:=by
 cases u with
 | string x =>
   have hne:x≠s:=fun e=>h (by rw [e])
   show (if pb (x∈L ++ [s])=true then some (Value.bool true) else none)=(if pb (x∈L)=true then some (Value.bool true) else none)
   by_cases hx:x∈L
   ·rw [pb_true hx,pb_true (by simp [hx])]
   ·rw [pb_false hx,pb_false (by simp [hx,hne])]
 | _=>rfl
noncomputable def declErr (L:List ByteArray) (s:ByteArray):Int:=if nameB s=true then (if pb (s∈L)=true then 4 else 0) else 3
theorem chk_declareO (A:Option Addr) (c dm nm g:Nat) (v:Value) (ts:List Tab) (o:Oth) (L:List ByteArray) (s:ByteArray) (w:World) (hB:Blk w g 163 #[.slice A ts.length c, .slice o.vA 0 o.vc, .slice o.iA o.idx.length o.ic, .slice o.sA o.skt.length o.sc, .slice o.cA o.cch.length o.cc, .slice o.rA o.rel.length o.rc, .slice o.tA o.str.length o.tc, .slice o.bA o.bak.length o.bc, .map (some dm), .map (some nm),v]) (hM:MapV Tryz.prog 9 4 w dm L.length (declL L)) (hk:L.length<maxLen) (hs:s.size ≤ 1000000) {r:Int} (hr:declErr L s=r) :
 Calls Tryz.prog 149 #[.pointer (some ⟨g,0,none⟩), .string s] w fun e w'=>e = .returned (.int .i64 r)∧(r = 0→MapV Tryz.prog 9 4 w' dm (L.length + 1) (declL (L ++ [s])))∧w.grownBy w' (some dm):=by
 obtain ⟨p0,p8,p9,p10⟩:=Chk.blk hB
 have HM:=qh hM
 clear hM hB
 cases hnm:nameB s
 ·have HR:Hid (r = 3):=qh (by rw [← hr];unfold declErr;rw [hnm];rfl)
  have HNM:=qh hnm
  clear hnm hr
  go_enter Tryz.func149,Tryz.ntmps149
  go_wp2_with (go_at_call 178;(with_reducible refine (lexer_IsName _ _ hs).mono ?_);rintro e w1 ⟨rfl,rfl⟩;rw [HNM.out])
  go_ret
  exact ⟨ret_int HR.out.symm,fun h=>(by have:=HR.out;omega),grown_start _ brf⟩
 by_cases hin:s∈L
 ·have HR:Hid (r = 4):=qh (by rw [← hr];unfold declErr;rw [hnm,if_pos rfl,pb_true hin,if_pos rfl])
  have HD:Hid (declL L (.string s)=some (.bool true)):=qh (by show (if pb (s∈L)=true then some (Value.bool true) else none)=some (Value.bool true);rw [pb_true hin,if_pos rfl])
  have HNM:=qh hnm
  clear hnm hr hin
  go_enter Tryz.func149,Tryz.ntmps149
  go_wp2_with (first
   | (go_at_call 178;(with_reducible refine (lexer_IsName _ _ hs).mono ?_);rintro e w1 ⟨rfl,rfl⟩;rw [HNM.out])
   | (at_lookup;refine wpList_lookV _ rfl _ _ _ rfl 9 4 str_keyed Tryz.underlying160 (.bool false) zero_bool _ (pe_bool _) dm L.length _ rfl HM.out (.string s) _ rfl (str_key hs) (.bool true) (by rw [HD.out];rfl) ?_))
  go_ret
  exact ⟨ret_int HR.out.symm,fun h=>(by have:=HR.out;omega),grown_start _ brf⟩
 ·have HR:Hid (r = 0):=qh (by rw [← hr];unfold declErr;rw [hnm,if_pos rfl,pb_false hin,if_neg (by decide)])
  have HD:Hid (declL L (.string s)=none):=qh (by show (if pb (s∈L)=true then some (Value.bool true) else none)=none;rw [pb_false hin,if_neg (by decide)])
  have HNM:=qh hnm
  clear hnm hr hin
  go_enter Tryz.func149,Tryz.ntmps149
  go_wp2_with (first
   | (go_at_call 178;(with_reducible refine (lexer_IsName _ _ hs).mono ?_);rintro e w1 ⟨rfl,rfl⟩;rw [HNM.out])
   | (at_lookup;refine wpList_lookV _ rfl _ _ _ rfl 9 4 str_keyed Tryz.underlying160 (.bool false) zero_bool _ (pe_bool _) dm L.length _ rfl HM.out (.string s) _ rfl (str_key hs) (.bool false) (by rw [HD.out];rfl) ?_)
   | (at_mapUpdate;refine wpList_storeV _ rfl _ _ _ _ rfl 9 4 str_keyed Tryz.underlying160 dm L.length _ rfl HM.out hk (.string s) _ rfl (str_key hs) (.bool true) rfl _ (pe_bool _) (declL (L ++ [s])) (declL_new L s) (fun u hu=>declL_old hu) ?_;intro w2 hM2 hg2))
  go_ret
  exact ⟨ret_int HR.out.symm,fun _=>hM2,⟨hg2.os,hg2.tape,hg2.output,hg2.size,hg2.block⟩⟩
open Go.RowKit Go
structure ChkRdO (w:World) (g dm nm k:Nat) (A:Option Addr) (c:Nat) (ts:List Tab) (o:Oth) (n:Nat) (SA:Option Addr) (sc:Nat) (st:List Sto):Prop where
 blk:Blk w g 163 #[.slice A ts.length c, .slice o.vA 0 o.vc, .slice o.iA o.idx.length o.ic, .slice o.sA o.skt.length o.sc, .slice o.cA o.cch.length o.cc, .slice o.rA o.rel.length o.rc, .slice o.tA o.str.length o.tc, .slice o.bA o.bak.length o.bc, .map (some dm), .map (some nm), .slice SA n sc]
 nums:MapV Tryz.prog 9 3 w nm k (numF ts n)
 sto:SliceIs w w.heap.size Sto.cells 2 SA st
 len:st.length=n
 ty : ∀ j (h:j<st.length),SliceIs w w.heap.size intCells 1 st[j].TA st[j].ty
 at_ : ∀ j (h:j<st.length) (h':j<ts.length),st[j].ty=ts[j].cols.map Col.ty
theorem ChkRdO.next {w w':World} {g dm nm k:Nat} {A:Option Addr} {c:Nat} {ts:List Tab} {o:Oth} {n:Nat} {SA:Option Addr} {sc:Nat} {st:List Sto} (h:ChkRdO w g dm nm k A c ts o n SA sc st) (hb:Below w.heap.size w w'):ChkRdO w' g dm nm k A c ts o n SA sc st :=
 ⟨h.blk.below hb h.blk.lt,h.nums.below hb h.nums.lt,h.sto.next hb,h.len,fun j hj=>(h.ty j hj).next hb,h.at_⟩
theorem chk_columnO (g dm nm k:Nat) (A:Option Addr) (c:Nat) (ts:List Tab) (o:Oth) (n:Nat) (SA:Option Addr) (sc:Nat) (st:List Sto) (i:Nat) (tn:ByteArray) (TA:Option Addr) (tc:Nat) (cols:List Col) (er rt:Int) (w:World) (hI:ChkRdO w g dm nm k A c ts o n SA sc st) (ht:TabsIn w w.heap.size A ts) (hs:SaneCat ts) (hpre:PreOk ts n) (hn:n<ts.length) (hnt:ts[n]=⟨tn,TA,tc,cols,er,rt⟩) (hi:i<cols.length) {r:Int} (hr:qErr ts cols er rt n i cols[i]=r) :
 Calls Tryz.prog 151 #[.pointer (some ⟨g,0,none⟩), .agg #[.string tn, .slice TA cols.length tc, .int .i64 er, .int .i64 rt], .int .i64 i] w fun e w'=>e = .returned (.int .i64 r)∧Below w.heap.size w w':=by
 have hcs:ColsIn w w.heap.size TA cols:=by have:=ht.2 ts[n] (lgm hn);rw [hnt] at this;exact this
 have hst:=(hs.tabs ts[n] (lgm hn))
 rw [hnt] at hst
 have hcl:cols.length ≤ 1000000:=hst.len
 have hcap:cols.length≤tc:=hst.cap
 have hit:i≤tc:=by omega
 obtain ⟨z1,z2,z3,z4⟩:=hst.cols cols[i] (lgm hi)
 have hio:SliceIs w w.heap.size intCells 1 cols[i].A cols[i].own:=hcs.2 cols[i] (lgm hi)
 obtain ⟨b5,o5,rfl,hb5,hc5⟩:=hcs.1.get hi
 obtain ⟨c0,c1,c2,c3,c4,c5,c6⟩:=Col.cells7 hc5
 obtain ⟨x,hx⟩ : ∃ x,cols[i]=x:=⟨_,rfl⟩
 rw [hx] at hr z1 z2 z3 z4 hio c0 c1 c2 c3 c4 c5 c6
 obtain ⟨tg,htg⟩ : ∃ tg,findT ts x.refs (n:Int)=tg:=⟨_,rfl⟩
 have hnn:=hpre.noname (Nat.le_of_lt hn)
 have hrf : 0≤tg→x.refs.toList.isEmpty=false:=fun h0=>by
  by_cases hr:x.refs=⟨#[]⟩
  ·rw [hr,hnn] at htg
   omega
  ·exact empF hr
 have hcols : ∀ j (h:j<ts.length),j<n → 0<ts[j].cols.length:=fun j h hj=>hpre.cols h hj
 obtain ⟨v1,hv1⟩ : ∃ b,cE1 x=b:=⟨_,rfl⟩
 obtain ⟨v2,hv2⟩ : ∃ b,qE2 cols i x=b:=⟨_,rfl⟩
 obtain ⟨v3,hv3⟩ : ∃ b,cE3 x tg=b:=⟨_,rfl⟩
 obtain ⟨v4,hv4⟩ : ∃ b,cE4 ts x tg=b:=⟨_,rfl⟩
 obtain ⟨v5,hv5⟩ : ∃ b,qE5 cols rt x=b:=⟨_,rfl⟩
 obtain ⟨v6,hv6⟩ : ∃ b,qE6 er i x=b:=⟨_,rfl⟩
 obtain ⟨v7,hv7⟩ : ∃ b,qE7 ts i x tg=b:=⟨_,rfl⟩
 unfold qErr at hr
 rw [htg,hv1,hv2,hv3,hv4,hv5,hv6,hv7] at hr
 unfold qE2 at hv2
 have HB1:=qh hv1
 have HB2:=qh hv2
 have HB3:=qh hv3
 have HB4:=qh hv4
 have HB5:=qh hv5
 have HB6:=qh hv6
 have HB7:=qh hv7
 have HRES:=qh hr
 have HRF:=qh hrf
 have hlen:=hs.len
 have HI:=qh hI
 have HT:=qh ht
 have HCS:=qh hcs.1
 have HT1:=qh ht.1
 have HIO:=qh hio
 have HTG:=qh htg
 have HP:=qh hcols
 clear hI ht hcs hio htg hcols hst hnt hpre hs hc5 hx hr hnn hrf hv1 hv2 hv3 hv4 hv5 hv6 hv7
 go_enter Tryz.func151,Tryz.ntmps151
 go_upto_region 2 with (fail)
 refine abs_world (P:=fun u=>Code.wp _ _ _ _ u) (R:=fun u=>Blk u w.heap.size 71 #[.string tn, .slice (some ⟨b5,o5,none⟩) cols.length tc, .int .i64 er, .int .i64 rt]∧Blk u (w.heap.size + 1) 73 #[.string x.name, .int .i64 x.ty, .string x.ns, .string x.refs, .slice x.A x.own.length x.cap, .int .i64 x.joint, .int .i64 x.duty]∧Below w.heap.size w u) ⟨?_,?_,?_⟩ ?_
 ·exact (Blk.new _ _ _).alloc _
 ·exact Blk.new' spA
 ·exact belA
 clear c0 c1 c2 c3 c4 c5 c6
 rintro W ⟨hBT,hBX,hbW⟩
 have hz2:=hBT.lt
 have hz3:=hBX.lt
 have HBT:=qh hBT
 have HBX:=qh hBX
 have HIW:=qh (HI.out.next hbW)
 obtain ⟨q0,q1,q2,q3⟩:=Tab.blk hBT
 obtain ⟨r0,r1,r2,r3,r4,r5,r6⟩:=Col.blk hBX
 clear hBT hBX
 go_cut [29] (fun v wc=>v = .bool v1∧W=wc)
 case first =>
  obtain ⟨n1,hn1⟩ : ∃ b,nameB x.name=b:=⟨_,rfl⟩
  obtain ⟨n2,hn2⟩ : ∃ b,nameB x.ns=b:=⟨_,rfl⟩
  have HN1:=qh hn1
  have HN2:=qh hn2
  clear hn1 hn2
  cases n1
  ·go_wp2_with (go_at_call 178;(first|(with_reducible refine (lexer_IsNameB x.name _ z1 HN1.out).mono ?_)|(with_reducible refine (lexer_IsNameB x.ns _ z2 HN2.out).mono ?_));rintro e w1 ⟨rfl,rfl⟩)
   go_meet
   exact ⟨by rw [← HB1.out];simp [cE1,HN1.out,HN2.out, *],rfl⟩
  ·by_cases hns:x.ns=⟨#[]⟩
   ·have hns':=empT hns
    clear hns
    go_wp2_with (go_at_call 178;(first|(with_reducible refine (lexer_IsNameB x.name _ z1 HN1.out).mono ?_)|(with_reducible refine (lexer_IsNameB x.ns _ z2 HN2.out).mono ?_));rintro e w1 ⟨rfl,rfl⟩)
    go_meet
    exact ⟨by rw [← HB1.out];simp [cE1,HN1.out,HN2.out, *],rfl⟩
   ·have hns':=empF hns
    clear hns
    cases n2
    ·go_wp2_with (go_at_call 178;(first|(with_reducible refine (lexer_IsNameB x.name _ z1 HN1.out).mono ?_)|(with_reducible refine (lexer_IsNameB x.ns _ z2 HN2.out).mono ?_));rintro e w1 ⟨rfl,rfl⟩)
     go_meet
     exact ⟨by rw [← HB1.out];simp [cE1,HN1.out,HN2.out, *],rfl⟩
    ·go_wp2_with (go_at_call 178;(first|(with_reducible refine (lexer_IsNameB x.name _ z1 HN1.out).mono ?_)|(with_reducible refine (lexer_IsNameB x.ns _ z2 HN2.out).mono ?_));rintro e w1 ⟨rfl,rfl⟩)
     go_meet
     exact ⟨by rw [← HB1.out];simp [cE1,HN1.out,HN2.out, *],rfl⟩
 case rest =>
  obtain ⟨rfl,rfl⟩:=hcut
  cases v1
  rotate_left
  ·have HR:Hid (r = 3):=qh (by rw [← HRES.out];rfl)
   go_wp2_with fail
   go_ret
   exact ⟨ret_int HR.out.symm,hbW⟩
  go_upto_region 4 with (fail)
  go_cut [35] (fun v wc=>v = .bool v2∧Below W.heap.size W wc)
  case first =>
   go_wp2_with (go_at_call 179;(with_reducible refine (contains_colX (w.heap.size + 1) x _ _ i (cols.take i) _ HBX.out (SliceIs.take (HCS.out.next hbW) i) smA omA HB2.out).mono ?_);rintro e w1 ⟨rfl,hb1⟩)
   go_meet
   exact ⟨rfl,hb1⟩
  case rest =>
   obtain ⟨rfl,hb1⟩:=hcut
   obtain ⟨W1,rfl⟩ : ∃ W1:World,W1=wc:=⟨_,rfl⟩
   have hx1:Below w.heap.size w W1:=below_nextN hbW hb1 hbW.size
   clear q0 q1 q2 q3 r0 r1 r2 r3 r4 r5 r6
   obtain ⟨q0,q1,q2,q3⟩:=Tab.blk (HBT.out.below hb1 hz2)
   obtain ⟨r0,r1,r2,r3,r4,r5,r6⟩:=Col.blk (HBX.out.below hb1 hz3)
   cases v2
   rotate_left
   ·have HR:Hid (r = 4):=qh (by rw [← HRES.out];rfl)
    go_wp2_with fail
    go_ret
    exact ⟨ret_int HR.out.symm,hx1⟩
   go_upto_region 6 with (fail)
   go_cut [8] (fun v wc=>v = .int .i64 tg∧Below W.heap.size W wc)
   case first =>
    go_wp2_with (go_at_call 157;(with_reducible refine (chk_findO A c dm nm g k (.slice SA n sc) ts o n x.refs _ (HIW.out.next hb1).blk (HIW.out.next hb1).nums z3 HTG.out).mono ?_);rintro e w1 ⟨rfl,hb2⟩)
    go_meet
    exact ⟨rfl,below_nextN hb1 hb2 hb1.size⟩
   case rest =>
    obtain ⟨rfl,hb2⟩:=hcut
    obtain ⟨W2,rfl⟩ : ∃ W2:World,W2=wc:=⟨_,rfl⟩
    have hx2:Below w.heap.size w W2:=below_nextN hbW hb2 hbW.size
    clear q0 q1 q2 q3 r0 r1 r2 r3 r4 r5 r6 hb1 hx1
    obtain ⟨q0,q1,q2,q3⟩:=Tab.blk (HBT.out.below hb2 hz2)
    obtain ⟨r0,r1,r2,r3,r4,r5,r6⟩:=Col.blk (HBX.out.below hb2 hz3)
    have HI2:=qh (HIW.out.next hb2)
    obtain ⟨p0,p8,p9,p10⟩:=Chk.blk HI2.out.blk
    have hgz:=HI2.out.blk.lt
    go_upto_region 7 with (fail)
    go_cut [46] (fun v wc=>v = .bool v3∧W2=wc)
    case first =>
     by_cases hr:x.refs=⟨#[]⟩
     ·have hr':=empT hr
      clear hr
      go_wp2_with fail
      go_meet
      exact ⟨by rw [← HB3.out];simp [cE3, *],rfl⟩
     ·have hr':=empF hr
      clear hr
      cases d0:decide (tg < 0)
      ·go_wp2_with fail
       go_meet
       exact ⟨by rw [← HB3.out];simp only [cE3,hr',d0];rfl,rfl⟩
      ·go_wp2_with fail
       go_meet
       exact ⟨by rw [← HB3.out];simp only [cE3,hr',d0];rfl,rfl⟩
    case rest =>
     obtain ⟨rfl,rfl⟩:=hcut
     cases v3
     rotate_left
     ·have HR:Hid (r = 7):=qh (by rw [← HRES.out];rfl)
      go_wp2_with fail
      go_ret
      exact ⟨ret_int HR.out.symm,hx2⟩
     go_upto_region 9 with (fail)
     go_cut [69] (fun v wc=>v = .bool v4∧Below W2.heap.size W2 wc)
     case first =>
      have hk0:=keepQ (w:=W2) g hgz
      have hk1:=keepQ (w:=W2) (w.heap.size + 1) (by have:=hb2.size;omega)
      obtain ⟨t1,ht1⟩ : ∃ b,(x.ty == 1||x.ty == 2)=b:=⟨_,rfl⟩
      have HTY:=qh ht1
      have HT2:Hid ((x.ty != 1&&x.ty != 2) = !t1):=qh (by rw [← ht1];simp [bne])
      clear ht1
      cases t1
      ·refine wp_region_bel krA krA ?_;(repeat (go_big_quiet_step ((go_at_call 181;with_reducible exact bel_of_same (cat_isType _ _ HTY.out)))));refine wpQuiet_nil ?_;intro wq hq
       go_wp2_with fail
       go_meet
       exact ⟨by rw [← HB4.out];simp only [cE4,HT2.out];rfl,hq⟩
      by_cases h0 : 0≤tg
      ·have d0:decide (0≤tg)=true:=by simpa using h0
       have hrn:=HRF.out h0
       obtain ⟨m,hm⟩ : ∃ m:Nat,tg=(m:Int):=⟨tg.toNat,by omega⟩
       have hmn:m<n:=by
        have h1:=HTG.out
        rw [hm] at h1
        unfold findT at h1
        obtain ⟨q,hq,e1,e2,_⟩:=findI_get (l:=ts.map Tab.name) (s:=x.refs) (n:=min (n:Int) ts.length) omA
        omega
       have hml:m<st.length:=by rw [HI2.out.len];exact hmn
       have hmt:m<ts.length:=by omega
       obtain ⟨b6,o6,hbe,hb6,hc6⟩:=HI2.out.sto.get hml
       have hty:=HI2.out.at_ m hml hmt
       have htl : 0<st[m].ty.length:=by rw [hty,List.length_map];exact HP.out m hmt hmn
       obtain ⟨b7,o7,hbe7,hb7,hc7⟩:=(HI2.out.ty m hml).get htl
       have x0:=hc7 0 _ rfl
       have y0:=hc6 0 _ rfl
       have y1:=hc6 1 _ rfl
       obtain ⟨hy,hhy⟩ : ∃ hy,headTy ts tg=hy:=⟨_,rfl⟩
       have hv:st[m].ty[0]=hy:=by
        rw [← hhy,hm,headTy_at hmt (HP.out m hmt hmn)]
        simp only [hty,List.getElem_map]
       have HHY:=qh hhy
       have HD0:=qh d0
       have HRN:=qh hrn
       simp only [Nat.mul_one,Nat.add_zero,hv] at x0
       rw [hbe7] at y1
       have HTM:=qh hm
       subst hbe
       rw [hm] at d0
       have hk2:=keepQ (w:=W2) b6 hb6
       have hk3:=keepQ (w:=W2) b7 hb7
       have hnn:=HI2.out.len
       obtain ⟨tq,htq⟩ : ∃ tq:Int,tq=tg:=⟨_,rfl⟩
       clear hc6 hc7 hty hv hbe7 h0 y0 hhy hrn
       subst hm
       cases hne:(x.ty != hy)
       ·refine wp_region_bel krA krA ?_;(repeat (go_big_quiet_step ((go_at_call 181;with_reducible exact bel_of_same (cat_isType _ _ HTY.out)))));refine wpQuiet_nil ?_;intro wq hq
        go_wp2_with fail
        go_meet
        exact ⟨by rw [← HB4.out];simp only [cE4,HT2.out,HD0.out,HRN.out,HHY.out,bne_comm (a:=hy),hne];rfl,hq⟩
       ·refine wp_region_bel krA krA ?_;(repeat (go_big_quiet_step ((go_at_call 181;with_reducible exact bel_of_same (cat_isType _ _ HTY.out)))));refine wpQuiet_nil ?_;intro wq hq
        go_wp2_with fail
        go_meet
        exact ⟨by rw [← HB4.out];simp only [cE4,HT2.out,HD0.out,HRN.out,HHY.out,bne_comm (a:=hy),hne];rfl,hq⟩
      ·have d0:decide (0≤tg)=false:=by simpa using h0
       have HD0:=qh d0
       clear h0
       refine wp_region_bel krA krA ?_;(repeat (go_big_quiet_step ((go_at_call 181;with_reducible exact bel_of_same (cat_isType _ _ HTY.out)))));refine wpQuiet_nil ?_;intro wq hq
       go_wp2_with fail
       go_meet
       exact ⟨by rw [← HB4.out];simp only [cE4,HT2.out,HD0.out];rfl,hq⟩
     case rest =>
      obtain ⟨rfl,hb3⟩:=hcut
      obtain ⟨W3,rfl⟩ : ∃ W3:World,W3=wc:=⟨_,rfl⟩
      have hy3:Below W.heap.size W W3:=below_nextN hb2 hb3 hb2.size
      have hx3:Below w.heap.size w W3:=below_nextN hbW hy3 hbW.size
      clear q0 q1 q2 q3 r0 r1 r2 r3 r4 r5 r6 p0 p8 p9 p10
      obtain ⟨q0,q1,q2,q3⟩:=Tab.blk (HBT.out.below hy3 hz2)
      obtain ⟨r0,r1,r2,r3,r4,r5,r6⟩:=Col.blk (HBX.out.below hy3 hz3)
      cases v4
      rotate_left
      ·have HR:Hid (r = 5):=qh (by rw [← HRES.out];rfl)
       go_wp2_with fail
       go_ret
       exact ⟨ret_int HR.out.symm,hx3⟩
      go_upto_region 11 with (fail)
      go_cut [90] (fun v wc=>v = .bool v5∧Below W.heap.size W wc)
      case first =>
       obtain ⟨ow,how⟩ : ∃ b,pb (OwnersOk cols x.own)=b:=⟨_,rfl⟩
       obtain ⟨ru,hru⟩ : ∃ b,rulesB rt x=b:=⟨_,rfl⟩
       have HOW:=qh how
       have HRU:=qh hru
       clear how hru
       by_cases hns:x.ns=⟨#[]⟩
       ·have hns':=empT hns
        clear hns
        cases ow
        ·go_wp2_with (first
         | (go_at_call 182;(with_reducible refine (cat_validOwnersX tn _ tc cols.length cols er rt x.A x.cap x.own.length x.own _ (HCS.out.next hx3) rfl (HIO.out.next hx3) rfl z4 hcl HOW.out).mono ?_);rintro e w1 ⟨rfl,hb1⟩;have hy4:Below W.heap.size W w1:=below_nextN hy3 hb1 hy3.size;clear q0 q1 q2 q3 r0 r1 r2 r3 r4 r5 r6;obtain ⟨q0,q1,q2,q3⟩:=Tab.blk (HBT.out.below hy4 hz2);obtain ⟨r0,r1,r2,r3,r4,r5,r6⟩:=Col.blk (HBX.out.below hy4 hz3);have HY4:=qh hy4)
         | (go_at_call 183;(with_reducible refine (cat_validRulesX tn _ tc cols.length er rt x _ HRU.out).mono ?_);rintro e w2 ⟨rfl,hb2⟩;have HY5:=qh (below_nextN HY4.out hb2 HY4.out.size)))
         go_meet
         exact ⟨by rw [← HB5.out];simp [qE5,HOW.out,HRU.out, *],by first|exact HY5.out|exact HY4.out|exact hy3⟩
        ·cases ru
         ·go_wp2_with (first
          | (go_at_call 182;(with_reducible refine (cat_validOwnersX tn _ tc cols.length cols er rt x.A x.cap x.own.length x.own _ (HCS.out.next hx3) rfl (HIO.out.next hx3) rfl z4 hcl HOW.out).mono ?_);rintro e w1 ⟨rfl,hb1⟩;have hy4:Below W.heap.size W w1:=below_nextN hy3 hb1 hy3.size;clear q0 q1 q2 q3 r0 r1 r2 r3 r4 r5 r6;obtain ⟨q0,q1,q2,q3⟩:=Tab.blk (HBT.out.below hy4 hz2);obtain ⟨r0,r1,r2,r3,r4,r5,r6⟩:=Col.blk (HBX.out.below hy4 hz3);have HY4:=qh hy4)
          | (go_at_call 183;(with_reducible refine (cat_validRulesX tn _ tc cols.length er rt x _ HRU.out).mono ?_);rintro e w2 ⟨rfl,hb2⟩;have HY5:=qh (below_nextN HY4.out hb2 HY4.out.size)))
          go_meet
          exact ⟨by rw [← HB5.out];simp [qE5,HOW.out,HRU.out, *],by first|exact HY5.out|exact HY4.out|exact hy3⟩
         ·go_wp2_with (first
          | (go_at_call 182;(with_reducible refine (cat_validOwnersX tn _ tc cols.length cols er rt x.A x.cap x.own.length x.own _ (HCS.out.next hx3) rfl (HIO.out.next hx3) rfl z4 hcl HOW.out).mono ?_);rintro e w1 ⟨rfl,hb1⟩;have hy4:Below W.heap.size W w1:=below_nextN hy3 hb1 hy3.size;clear q0 q1 q2 q3 r0 r1 r2 r3 r4 r5 r6;obtain ⟨q0,q1,q2,q3⟩:=Tab.blk (HBT.out.below hy4 hz2);obtain ⟨r0,r1,r2,r3,r4,r5,r6⟩:=Col.blk (HBX.out.below hy4 hz3);have HY4:=qh hy4)
          | (go_at_call 183;(with_reducible refine (cat_validRulesX tn _ tc cols.length er rt x _ HRU.out).mono ?_);rintro e w2 ⟨rfl,hb2⟩;have HY5:=qh (below_nextN HY4.out hb2 HY4.out.size)))
          go_meet
          exact ⟨by rw [← HB5.out];simp [qE5,HOW.out,HRU.out, *],by first|exact HY5.out|exact HY4.out|exact hy3⟩
       ·have hns':=empF hns
        clear hns
        by_cases hr:x.refs=⟨#[]⟩
        ·have hr':=empT hr
         clear hr
         cases ow
         ·go_wp2_with (first
          | (go_at_call 182;(with_reducible refine (cat_validOwnersX tn _ tc cols.length cols er rt x.A x.cap x.own.length x.own _ (HCS.out.next hx3) rfl (HIO.out.next hx3) rfl z4 hcl HOW.out).mono ?_);rintro e w1 ⟨rfl,hb1⟩;have hy4:Below W.heap.size W w1:=below_nextN hy3 hb1 hy3.size;clear q0 q1 q2 q3 r0 r1 r2 r3 r4 r5 r6;obtain ⟨q0,q1,q2,q3⟩:=Tab.blk (HBT.out.below hy4 hz2);obtain ⟨r0,r1,r2,r3,r4,r5,r6⟩:=Col.blk (HBX.out.below hy4 hz3);have HY4:=qh hy4)
          | (go_at_call 183;(with_reducible refine (cat_validRulesX tn _ tc cols.length er rt x _ HRU.out).mono ?_);rintro e w2 ⟨rfl,hb2⟩;have HY5:=qh (below_nextN HY4.out hb2 HY4.out.size)))
          go_meet
          exact ⟨by rw [← HB5.out];simp [qE5,HOW.out,HRU.out, *],by first|exact HY5.out|exact HY4.out|exact hy3⟩
         ·cases ru
          ·go_wp2_with (first
           | (go_at_call 182;(with_reducible refine (cat_validOwnersX tn _ tc cols.length cols er rt x.A x.cap x.own.length x.own _ (HCS.out.next hx3) rfl (HIO.out.next hx3) rfl z4 hcl HOW.out).mono ?_);rintro e w1 ⟨rfl,hb1⟩;have hy4:Below W.heap.size W w1:=below_nextN hy3 hb1 hy3.size;clear q0 q1 q2 q3 r0 r1 r2 r3 r4 r5 r6;obtain ⟨q0,q1,q2,q3⟩:=Tab.blk (HBT.out.below hy4 hz2);obtain ⟨r0,r1,r2,r3,r4,r5,r6⟩:=Col.blk (HBX.out.below hy4 hz3);have HY4:=qh hy4)
           | (go_at_call 183;(with_reducible refine (cat_validRulesX tn _ tc cols.length er rt x _ HRU.out).mono ?_);rintro e w2 ⟨rfl,hb2⟩;have HY5:=qh (below_nextN HY4.out hb2 HY4.out.size)))
           go_meet
           exact ⟨by rw [← HB5.out];simp [qE5,HOW.out,HRU.out, *],by first|exact HY5.out|exact HY4.out|exact hy3⟩
          ·go_wp2_with (first
           | (go_at_call 182;(with_reducible refine (cat_validOwnersX tn _ tc cols.length cols er rt x.A x.cap x.own.length x.own _ (HCS.out.next hx3) rfl (HIO.out.next hx3) rfl z4 hcl HOW.out).mono ?_);rintro e w1 ⟨rfl,hb1⟩;have hy4:Below W.heap.size W w1:=below_nextN hy3 hb1 hy3.size;clear q0 q1 q2 q3 r0 r1 r2 r3 r4 r5 r6;obtain ⟨q0,q1,q2,q3⟩:=Tab.blk (HBT.out.below hy4 hz2);obtain ⟨r0,r1,r2,r3,r4,r5,r6⟩:=Col.blk (HBX.out.below hy4 hz3);have HY4:=qh hy4)
           | (go_at_call 183;(with_reducible refine (cat_validRulesX tn _ tc cols.length er rt x _ HRU.out).mono ?_);rintro e w2 ⟨rfl,hb2⟩;have HY5:=qh (below_nextN HY4.out hb2 HY4.out.size)))
           go_meet
           exact ⟨by rw [← HB5.out];simp [qE5,HOW.out,HRU.out, *],by first|exact HY5.out|exact HY4.out|exact hy3⟩
        ·have hr':=empF hr
         clear hr
         go_wp2_with fail
         go_meet
         exact ⟨by rw [← HB5.out];simp [qE5, *],hy3⟩
      case rest =>
       obtain ⟨rfl,hy4⟩:=hcut
       obtain ⟨W4,rfl⟩ : ∃ W4:World,W4=wc:=⟨_,rfl⟩
       have hx4:Below w.heap.size w W4:=below_nextN hbW hy4 hbW.size
       clear q0 q1 q2 q3 r0 r1 r2 r3 r4 r5 r6
       obtain ⟨q0,q1,q2,q3⟩:=Tab.blk (HBT.out.below hy4 hz2)
       obtain ⟨r0,r1,r2,r3,r4,r5,r6⟩:=Col.blk (HBX.out.below hy4 hz3)
       have HI4:=qh (HIW.out.next hy4)
       obtain ⟨p0,p8,p9,p10⟩:=Chk.blk HI4.out.blk
       cases v5
       rotate_left
       ·have HR:Hid (r = 1):=qh (by rw [← HRES.out];rfl)
        go_wp2_with fail
        go_ret
        exact ⟨ret_int HR.out.symm,hx4⟩
       go_upto_region 14 with (fail)
       go_cut [104] (fun v wc=>v = .bool v6∧W4=wc)
       case first =>
        by_cases h0:i = 0
        ·have e0:((i:Int) == 0)=true:=by rw [h0];rfl
         clear h0
         by_cases h1 : 0<x.own.length
         ·have e1:decide (0<x.own.length)=true:=by simpa using h1
          clear h1
          by_cases h2:er = 1
          ·have e2:(er != 1)=false:=by simpa using h2
           clear h2
           go_wp2_with fail
           go_meet
           exact ⟨by rw [← HB6.out];simp only [qE6,e0,e1,e2];rfl,rfl⟩
          ·have e2:(er != 1)=true:=by simpa using h2
           clear h2
           go_wp2_with fail
           go_meet
           exact ⟨by rw [← HB6.out];simp only [qE6,e0,e1,e2];rfl,rfl⟩
         ·have e1:decide (0<x.own.length)=false:=by simpa using h1
          clear h1
          go_wp2_with fail
          go_meet
          exact ⟨by rw [← HB6.out];simp only [qE6,e0,e1];rfl,rfl⟩
        ·have e0:((i:Int) == 0)=false:=by simpa using h0
         clear h0
         go_wp2_with fail
         go_meet
         exact ⟨by rw [← HB6.out];simp only [qE6,e0];rfl,rfl⟩
       case rest =>
        obtain ⟨rfl,rfl⟩:=hcut
        cases v6
        rotate_left
        ·have HR:Hid (r = 1):=qh (by rw [← HRES.out];rfl)
         go_wp2_with fail
         go_ret
         exact ⟨ret_int HR.out.symm,hx4⟩
        by_cases h0 : 0≤tg
        ·have d0:decide (0≤tg)=true:=by simpa using h0
         have HD0:=qh d0
         obtain ⟨m,hm⟩ : ∃ m:Nat,tg=(m:Int):=⟨tg.toNat,by omega⟩
         have hmn:m<n:=by
          have h1:=HTG.out
          rw [hm] at h1
          unfold findT at h1
          obtain ⟨q,hq,e1,e2,_⟩:=findI_get (l:=ts.map Tab.name) (s:=x.refs) (n:=min (n:Int) ts.length) omA
          omega
         have hmt:m<ts.length:=by omega
         have hpm:=HP.out m hmt hmn
         obtain ⟨b6,o6,hbe,hb6,hc6⟩:=(HT1.out.next hx4).get hmt
         obtain ⟨s0,s1,s2,s3⟩:=Tab.cells4 hc6
         obtain ⟨b7,o7,hbe7,hb7,hc7⟩:=((HT.out.2 ts[m] (lgm hmt)).1.next hx4).get hpm
         obtain ⟨u0,u1,u2,u3,u4,u5,u6⟩:=Col.cells7 hc7
         have HHO:Hid (headOwn ts tg=ts[m].cols[0].own):=qh (by rw [hm,headOwn_at hmt hpm])
         rw [hbe7] at s1
         simp only [Nat.zero_mul,Nat.add_zero] at u4
         subst hbe hm
         clear hc6 hc7 h0 hbe7 s0 s2 s3 u0 u1 u2 u3 u5 u6
         obtain ⟨bm,hbm⟩ : ∃ b,decide ((i:Int)∈x.own)=b:=⟨_,rfl⟩
         have HM:=qh hbm
         clear hbm
         cases e1:decide (0<ts[m].cols[0].own.length)
         ·have HR:Hid (r = 0):=qh (by rw [← HRES.out,← HB7.out];simp only [qE7,HD0.out,HHO.out,e1];rfl)
          go_wp2_with fail
          go_ret
          exact ⟨ret_int HR.out.symm,hx4⟩
         ·have HR:Hid (r=if bm then 0 else 1):=qh (by rw [← HRES.out,← HB7.out];simp only [qE7,HD0.out,HHO.out,e1,HM.out];cases bm <;> rfl)
          cases bm
          ·go_wp2_with (go_at_call 166;(with_reducible refine (contains_int x.A x.cap x.own.length x.own i _ (HIO.out.next hx4) rfl z4 HM.out).mono ?_);rintro e w1 ⟨rfl,rfl⟩)
           go_ret
           exact ⟨ret_int HR.out.symm,hx4⟩
          ·go_wp2_with (go_at_call 166;(with_reducible refine (contains_int x.A x.cap x.own.length x.own i _ (HIO.out.next hx4) rfl z4 HM.out).mono ?_);rintro e w1 ⟨rfl,rfl⟩)
           go_ret
           exact ⟨ret_int HR.out.symm,hx4⟩
        ·have d0:decide (0≤tg)=false:=by simpa using h0
         have HR:Hid (r = 0):=qh (by rw [← HRES.out,← HB7.out];simp only [qE7,d0];rfl)
         clear h0
         go_wp2_with fail
         go_ret
         exact ⟨ret_int HR.out.symm,hx4⟩
open Go.RowKit Go
structure ChkInO (w:World) (B g dm nm:Nat) (A:Option Addr) (c:Nat) (ts:List Tab) (o:Oth) (L:List ByteArray) (n:Nat) (v:Value) (st:List Sto):Prop where
 blk:Blk w g 163 #[.slice A ts.length c, .slice o.vA 0 o.vc, .slice o.iA o.idx.length o.ic, .slice o.sA o.skt.length o.sc, .slice o.cA o.cch.length o.cc, .slice o.rA o.rel.length o.rc, .slice o.tA o.str.length o.tc, .slice o.bA o.bak.length o.bc, .map (some dm), .map (some nm),v]
 decl:MapV Tryz.prog 9 4 w dm L.length (declL L)
 nums:MapV Tryz.prog 9 3 w nm n (numF ts n)
 own:Owns w B 217 Sto.cells 2 v st
 ty : ∀ x∈st,Owns w B 3 intCells 1 (.slice x.TA x.ty.length x.tc) x.ty
 len:st.length=n
 at_ : ∀ j (h:j<st.length) (h':j<ts.length),st[j].ty=ts[j].cols.map Col.ty
 hg:B≤g
 hd:B≤dm
 hn:B≤nm
 ne:dm≠nm
section
variable {w w':World} {B g dm nm:Nat} {A:Option Addr} {c:Nat} {ts:List Tab} {o:Oth} {L:List ByteArray} {n:Nat} {v:Value} {st:List Sto}
theorem ChkInO.next (h:ChkInO w B g dm nm A c ts o L n v st) (hb:Below w.heap.size w w'):ChkInO w' B g dm nm A c ts o L n v st :=
 ⟨h.blk.below hb h.blk.lt,h.decl.below hb h.decl.lt,h.nums.below hb h.nums.lt,h.own.below hb nlr,fun x hx=>(h.ty x hx).below hb nlr,h.len,h.at_,h.hg,h.hd,h.hn,h.ne⟩
theorem ChkInO.declared (h:ChkInO w B g dm nm A c ts o L n v st) {L':List ByteArray} (hM:MapV Tryz.prog 9 4 w' dm L'.length (declL L')) (hg:w.grownBy w' (some dm)):ChkInO w' B g dm nm A c ts o L' n v st :=
 ⟨h.blk.grown hg (fun e=>h.decl.neBlk h.blk (Option.some.inj e).symm),hM,h.nums.kept hg (fun e=>h.ne (Option.some.inj e).symm),
  h.own.kept hg (fun q hq e=>h.decl.neOwn h.own q hq (Option.some.inj e)),fun x hx=>(h.ty x hx).kept hg (fun q hq e=>h.decl.neOwn (h.ty x hx) q hq (Option.some.inj e)),h.len,h.at_,h.hg,h.hd,h.hn,h.ne⟩
theorem ChkInO.rd (h:ChkInO w B g dm nm A c ts o L n v st) : ∃ SA sc,v = .slice SA n sc∧ChkRdO w g dm nm n A c ts o n SA sc st:=by
 obtain ⟨SA,sc,hv,hc,hs,ha⟩:=h.own.slice sto_len
 rw [h.len] at hv
 refine ⟨SA,sc,hv,?_,h.nums,hs,h.len,fun j hj => ?_,h.at_⟩
 ·rw [← hv];exact h.blk
 ·obtain ⟨A',c',e,_,hs',_⟩:=(h.ty st[j] (lgm hj)).slice int_len
  injection e with e _ _
  rw [e]
  exact hs'
theorem ChkInO.added {w2 M w3:World} {x:Sto} {v3:Value} (h:ChkInO w B g dm nm A c ts o L n v st) (hgW:w.grownBy w2 (some nm)) (hM2:MapV Tryz.prog 9 3 w2 nm (n + 1) (numF ts (n + 1))) (hMb:Below w2.heap.size w2 M) (hg3:M.grownBy w3 v.ownBlock) (ho3:Owns w3 B 217 Sto.cells 2 v3 (st ++ [x])) (hx:Owns w B 3 intCells 1 (.slice x.TA x.ty.length x.tc) x.ty) (hn:n<ts.length) (hxt:x.ty=ts[n].cols.map Col.ty) :
 ChkInO (w3.setCell ⟨g,10,none⟩ v3) B g dm nm A c ts o L (n + 1) v3 (st ++ [x]):=by
 have n1 : ∀ q,v.ownBlock=some q→some q≠some nm:=fun q hq e=>h.nums.neOwn h.own q hq (Option.some.inj e)
 have k1:Blk M g 163 _:=(h.blk.grown hgW (fun e=>h.nums.neBlk h.blk (Option.some.inj e).symm)).below hMb (Nat.lt_of_lt_of_le h.blk.lt hgW.size)
 have k2:Owns M B 217 Sto.cells 2 v st:=(h.own.kept hgW n1).below hMb nlr
 have k3:Blk w3 g 163 _:=k1.grown hg3 (fun e=>k2.neBlk k1 (by decide) g e.symm rfl)
 have d1:MapV Tryz.prog 9 4 w3 dm L.length (declL L):=by
  have m:MapV Tryz.prog 9 4 M dm L.length (declL L):=(h.decl.kept hgW (fun e=>h.ne (Option.some.inj e))).below hMb (Nat.lt_of_lt_of_le h.decl.lt hgW.size)
  exact m.kept hg3 (fun e=>m.neOwn k2 dm e.symm rfl)
 have d2:MapV Tryz.prog 9 3 w3 nm (n + 1) (numF ts (n + 1)):=by
  have m:=hM2.below hMb hM2.lt
  exact m.kept hg3 (fun e=>m.neOwn k2 nm e.symm rfl)
 have d3 : ∀ y∈st ++ [x],Owns w3 B 3 intCells 1 (.slice y.TA y.ty.length y.tc) y.ty:=by
  intro y hy
  have h0:Owns w B 3 intCells 1 (.slice y.TA y.ty.length y.tc) y.ty:=by
   rcases List.mem_append.1 hy with hy|hy
   ·exact h.ty y hy
   ·rw [List.mem_singleton.1 hy];exact hx
  have m:=(h0.kept hgW (fun q hq e=>h.nums.neOwn h0 q hq (Option.some.inj e))).below hMb nlr
  exact m.kept hg3 (m.neType k2 (by decide))
 refine ⟨?_,d1.setCell (d1.neBlk k3) v3,d2.setCell (d2.neBlk k3) v3,ho3.far (ho3.neBlk k3 (by decide)) v3,fun y hy=>(d3 y hy).far ((d3 y hy).neBlk k3 (by decide)) v3,by rw [List.length_append,h.len];rfl,fun j hj hj' => ?_,h.hg,h.hd,h.hn,h.ne⟩
 ·exact (k3.set_ 10 v3).eq spA
 ·rcases Nat.lt_or_ge j st.length with hl|hl
  ·rw [List.getElem_append_left hl]
   exact h.at_ j hl hj'
  ·have e:j=n:=by have:=h.len;simp at hj;omega
   subst e
   rw [List.getElem_append_right hl]
   simpa [h.len] using hxt
theorem ChkInO.others {w2 M w3:World} {v3:Value} (h:ChkInO w B g dm nm A c ts o L n v st) (hgW:w.grownBy w2 (some nm)) (hMb:Below w2.heap.size w2 M) (hg3:M.grownBy w3 v.ownBlock) {q:Nat} {t:TypeId} {cs:Array Value} (ht : 217≠t) (ht':t ≠ 163) (hq:Blk w q t cs):Blk (w3.setCell ⟨g,10,none⟩ v3) q t cs:=by
 have n1 : ∀ q,v.ownBlock=some q→some q≠some nm:=fun q hq e=>h.nums.neOwn h.own q hq (Option.some.inj e)
 have k1:=(h.blk.grown hgW (fun e=>h.nums.neBlk h.blk (Option.some.inj e).symm)).below hMb (Nat.lt_of_lt_of_le h.blk.lt hgW.size)
 have k2:Owns M B 217 Sto.cells 2 v st:=(h.own.kept hgW n1).below hMb nlr
 have k3:=k1.grown hg3 (fun e=>k2.neBlk k1 (by decide) g e.symm rfl)
 have q1:Blk M q t cs:=(hq.grown hgW (fun e=>h.nums.neBlk hq (Option.some.inj e).symm)).below hMb (Nat.lt_of_lt_of_le hq.lt hgW.size)
 have q2:Blk w3 q t cs:=q1.grown hg3 (fun e=>k2.neBlk q1 ht q e.symm rfl)
 exact q2.far (q2.apart k3 ht') v3
end
theorem chk_addO (B g dm nm:Nat) (A:Option Addr) (c:Nat) (ts:List Tab) (o:Oth) (L:List ByteArray) (n:Nat) (v:Value) (st:List Sto) (x:Sto) (w:World) (hI:ChkInO w B g dm nm A c ts o L n v st) (hn:n<ts.length) (h8:ts.length ≤ 8) (hs:ts[n].name.size ≤ 1000000) (hfr:findT ts ts[n].name (n:Int) < 0) (hx:Owns w B 3 intCells 1 (.slice x.TA x.ty.length x.tc) x.ty) (hxt:x.ty=ts[n].cols.map Col.ty) (hB:B≤w.heap.size) :
 Calls Tryz.prog 152 #[.pointer (some ⟨g,0,none⟩), .string ts[n].name, .agg #[.slice x.NA x.nl x.nc, .slice x.TA x.ty.length x.tc]] w fun e w' =>
  (e = .returned (.tuple #[]) ∧ ∃ v',ChkInO w' B g dm nm A c ts o L (n + 1) v' (st ++ [x]))∧Below B w w' ∧ ∀ q t cs,217≠t→t ≠ 163→Blk w q t cs→Blk w' q t cs:=by
 obtain ⟨i0,hi0,hz0,hz1,hz2⟩:=info_parts infoSto
 obtain ⟨SA,sc,rfl,_⟩:=hI.rd
 have HI:=qh hI
 have HX:=qh hx
 have HF:=qh hfr
 have HXT:=qh hxt
 clear hI hx hfr hxt
 go_enter Tryz.func152,Tryz.ntmps152
 go_upto_region 1 with (fail)
 refine abs_world (P:=fun u=>Code.wp _ _ _ _ u) (R:=fun u=>ChkInO u B g dm nm A c ts o L n (.slice SA n sc) st∧Blk u w.heap.size 217 x.cells.toArray∧Owns u B 3 intCells 1 (.slice x.TA x.ty.length x.tc) x.ty∧Below w.heap.size w u) ⟨?_,?_,?_,?_⟩ ?_
 ·exact HI.out.next belA
 ·exact Blk.new _ _ _
 ·exact HX.out.alloc _
 ·exact belA
 rintro W ⟨hi,hbx,hox,hbW⟩
 have hxz:=hbx.lt
 have hgz:=hi.blk.lt
 obtain ⟨p0,p8,p9,p10⟩:=Chk.blk hi.blk
 have HI1:=qh hi
 have HBX:=qh hbx
 have HOX:=qh hox
 have hxg:w.heap.size≠nm:=fun e=>hi.nums.neBlk hbx e.symm
 have hgg:g≠nm:=fun e=>hi.nums.neBlk hi.blk e.symm
 have hmx:n<maxLen:=by unfold maxLen;omega
 have hwf:(Lit.int .i64 (n:Int)).wf=true:=by (have h1:IntKind.i64.min≤(n:Int):=Int.le_trans (by decide) (Int.natCast_nonneg n);simp [Lit.wf,h1];omega)
 clear hi hbx hox
 obtain ⟨w2,hrun,hst,hg2⟩:=(MapV.drew HI1.out.nums).store str_keyed Tryz.underlying139 hmx (str_key hs) (pe_int hwf)
 have HM2:=qh (hst (numF ts (n + 1)) (numF_new hn HF.out) fun u hu=>numF_old hn hu)
 have hgW:W.grownBy w2 (some nm):=⟨hg2.os,hg2.tape,hg2.output,hg2.size,hg2.block⟩
 have s9:=(World.cell?_of_block (a:=⟨g,9,none⟩) (hgW.block g hgz (fun e=>hgg (Option.some.inj e)))).trans p9
 have s10:=(World.cell?_of_block (a:=⟨g,10,none⟩) (hgW.block g hgz (fun e=>hgg (Option.some.inj e)))).trans p10
 clear hst
 refine wp_region_held_drew (S:=fun u=>u.cell? ⟨g,9,none⟩=some (.map (some nm))∧u.cell? ⟨g,10,none⟩=some (.slice SA n sc)) krA ⟨p9,p10⟩ (fun hHeld => ?_)
 refine tkH 0 hHeld ?_
 refine tkH 1 hHeld ?_
 refine tkH 2 hHeld ?_
 refine tkH 3 hHeld ?_
 refine tkH 4 hHeld ?_
 refine tkH 5 hHeld ?_
 refine tkH 6 hHeld ?_
 refine tkH 7 hHeld ?_
 refine tkH 8 hHeld ?_
 refine tkH 9 hHeld ?_
 refine wpAnyH_ready (rs := [10]) krA spA ?_
 refine AllReadyH.cons rfl (fun K hK => ?_) AllReadyH.nil
 go_simp
 refine hK.out _ _ ⟨s9,s10⟩ (fun hHeld => ?_)
 clear hK K
 refine wpAnyH_done krA ?_ _
 have hgz2:g<w2.heap.size:=Nat.lt_of_lt_of_le hgz hgW.size
 have hb2:Blk w2 g 163 #[.slice A ts.length c, .slice o.vA 0 o.vc, .slice o.iA o.idx.length o.ic, .slice o.sA o.skt.length o.sc, .slice o.cA o.cch.length o.cc, .slice o.rA o.rel.length o.rc, .slice o.tA o.str.length o.tc, .slice o.bA o.bak.length o.bc, .map (some dm), .map (some nm), .slice SA n sc]:=HI1.out.blk.grown hgW (fun e=>hgg (Option.some.inj e))
 have hbx2:Blk w2 w.heap.size 217 x.cells.toArray:=HBX.out.grown hgW (fun e=>hxg (Option.some.inj e))
 have hown2:Owns w2 B 217 Sto.cells 2 (.slice SA n sc) st:=HI1.out.own.kept hgW (fun q hq e=>HI1.out.nums.neOwn HI1.out.own q hq (Option.some.inj e))
 have hbz2:w.heap.size<w2.heap.size:=hbx2.lt
 have x0:w2.cell? ⟨w.heap.size,0,none⟩=some (.slice x.NA x.nl x.nc):=hbx2.cell 0
 have x1:w2.cell? ⟨w.heap.size,1,none⟩=some (.slice x.TA x.ty.length x.tc):=hbx2.cell 1
 have hlen3:(st ++ [x]).length=n + 1:=by rw [List.length_append,HI1.out.len];rfl
 obtain ⟨M,hM⟩ : ∃ M,(w2.alloc (.cells #[.slice x.NA x.nl x.nc, .slice x.TA x.ty.length x.tc] 217)).drew=M:=⟨_,rfl⟩
 have hbM:Blk M g 163 #[.slice A ts.length c, .slice o.vA 0 o.vc, .slice o.iA o.idx.length o.ic, .slice o.sA o.skt.length o.sc, .slice o.cA o.cch.length o.cc, .slice o.rA o.rel.length o.rc, .slice o.tA o.str.length o.tc, .slice o.bA o.bak.length o.bc, .map (some dm), .map (some nm), .slice SA n sc]:=by rw [← hM];exact (hb2.alloc _).drew
 have hxM:Blk M w.heap.size 217 x.cells.toArray:=by rw [← hM];exact (hbx2.alloc _).drew
 have hownM:Owns M B 217 Sto.cells 2 (.slice SA n sc) st:=by rw [← hM];exact Owns.drew (Owns.alloc hown2 _)
 have hMz:M.heap.size=w2.heap.size + 1:=by rw [← hM];show (w2.alloc _).heap.size=_;simp
 have hsM:SliceIs M M.heap.size Sto.cells 2 (some ⟨w2.heap.size,0,none⟩) [x]:=Blk.one (enc:=Sto.cells) (x:=x) (by rw [← hM];exact Blk.drew (Blk.new' rfl)) omA
 have hng : ∀ q,(Value.slice SA n sc).ownBlock=some q→q≠g:=hownM.neBlk hbM (by decide)
 have m10:M.cell? ⟨g,10,none⟩=some (.slice SA n sc):=hbM.cell 10
 have m0:M.cell? ⟨w.heap.size,0,none⟩=some (.slice x.NA x.nl x.nc):=hxM.cell 0
 have m1:M.cell? ⟨w.heap.size,1,none⟩=some (.slice x.TA x.ty.length x.tc):=hxM.cell 1
 have HBM:=qh hbM
 have HOM:=qh hownM
 have HXM:=qh hxM
 have hnx : ∀ q,(Value.slice SA n sc).ownBlock=some q→q≠w.heap.size:=fun q hq e=>by have:=HI.out.own.lt q hq;omega
 have HB2:=qh hb2
 clear hbM hownM hb2
 go_upto_region 2 with (fail)
 refine wp_region_T (S:=fun u=>u.cell? ⟨g,10,none⟩=some (.slice SA n sc)∧u.cell? ⟨w.heap.size,0,none⟩=some (.slice x.NA x.nl x.nc)∧u.cell? ⟨w.heap.size,1,none⟩=some (.slice x.TA x.ty.length x.tc)) [10] krA ⟨s10,x0,x1⟩ (fun hHeld => ?_)
 refine tkT 0 hHeld ?_
 refine tkT 1 hHeld ?_
 refine tkT 2 hHeld ?_
 refine tkT 3 hHeld ?_
 refine tkT 4 hHeld ?_
 refine tkT 5 hHeld ?_
 refine r1T 6 (fun K hK => ?_)
 go_simp
 refine hK.out _ _ _ ⟨m10,m0,m1⟩ (fun hHeld => ?_)
 clear hK K
 refine r1T 7 (fun K hK => ?_)
 refine step_append_list M rfl (.tmp 20) (.tmp 22) 161 rfl 217 i0 _ Sto.cells 2 48 Tryz.underlying161 hi0 hz0 hz1 hz2 rfl omA sto_len sto_one B (.slice SA n sc) st rfl HOM.out (some ⟨w2.heap.size,0,none⟩) 1 1 [x] rfl rfl hsM (by have:=HI1.out.len;simp;omega) (by have:=HI1.out.len;simp [maxLen];omega) (by have:=hbW.size;have:=hgW.size;omega) ?_
 intro v3 w3 hown3 hg3 hat3
 obtain ⟨A3,c3,rfl,_,_⟩:=hown3.form
 rw [hlen3] at hown3 hat3
 have hb3:Blk w3 g 163 #[.slice A ts.length c, .slice o.vA 0 o.vc, .slice o.iA o.idx.length o.ic, .slice o.sA o.skt.length o.sc, .slice o.cA o.cch.length o.cc, .slice o.rA o.rel.length o.rc, .slice o.tA o.str.length o.tc, .slice o.bA o.bak.length o.bc, .map (some dm), .map (some nm), .slice SA n sc]:=HBM.out.grown hg3 (fun e=>hng g e.symm rfl)
 have n10:w3.cell? ⟨g,10,none⟩=some (.slice SA n sc):=hb3.cell 10
 have nf:w3.frozen? ⟨g,10,none⟩=false:=hb3.frozen 10
 have HB3:=qh hb3
 have HG3:=qh hg3
 have HO3:=qh hown3
 have hx3:Blk w3 w.heap.size 217 x.cells.toArray:=HXM.out.grown hg3 (fun e=>hnx _ e.symm rfl)
 have y0:w3.cell? ⟨w.heap.size,0,none⟩=some (.slice x.NA x.nl x.nc):=hx3.cell 0
 have y1:w3.cell? ⟨w.heap.size,1,none⟩=some (.slice x.TA x.ty.length x.tc):=hx3.cell 1
 rw [hlen3]
 refine hK.out _ _ _ ⟨n10,y0,y1⟩ (fun hHeld => ?_)
 clear hK K hb3 hown3 hg3 hx3
 (try simp only [Act.put,gP6])
 refine r1T 8 (fun K hK => ?_)
 go_simp
 refine hK.out _ _ _ ⟨n10,y0,y1⟩ (fun hHeld => ?_)
 clear hK K
 refine tkT 9 hHeld ?_
 refine rzT 10 (fun K hK => ?_)
 go_simp
 refine hK.out _ _ _ ?_
 clear hK K
 refine wpT_done krA ?_ _
 go_end0
 have hMb:Below w2.heap.size w2 M:=by rw [← hM];exact (brf.alloc nlr _).drew
 have hbl:Below B w (w3.setCell ⟨g,10,none⟩ (.slice A3 (n + 1) c3)):=by
  refine Below.setCell (p:=⟨g,10,none⟩) (Below.grown ((Below.grown (hbW.mono hB) hgW (by have:=hbW.size;omega) (fun q e => ?_)).trans (hMb.mono ?_)) HG3.out ?_ (fun q hq=>HI.out.own.row q hq)) HI.out.hg _
  ·injection e with e
   rw [← e]
   exact HI.out.hn
  ·have:=hbW.size
   have:=hgW.size
   omega
  ·have:=hbW.size
   have:=hgW.size
   omega
 exact ⟨⟨rfl,_,ChkInO.added HI1.out hgW HM2.out hMb HG3.out HO3.out HOX.out hn HXT.out⟩,hbl,fun q t cs ht ht' hq=>HI1.out.others hgW hMb HG3.out ht ht' (hq.below hbW hq.lt)⟩
end Go.Proofs.YtjhnpnhpmdkpcaaGreat
